/- A part of the proof; no conditions. -/
import Derived.Test.YtlacbjnmkhndiaaGreatDoorPart21
import Derived.Lib.LaidTab
import Derived.Lib.LaidU8
import Derived.OpenShut
import Derived.Laws.IdiomArrays
import Derived.Test.YtlacbjnmkhndiaaGreatDoorTie
import Derived.Test.YtlacbjnmkhndiaaGreatDoorCards
set_option linter.unusedSimpArgs false
set_option linter.unusedVariables false
set_option linter.defProp false
set_option linter.unusedSectionVars false
open List renaming length -> z
open Option renaming some -> S, none -> N
open Bool renaming true -> T, false -> F
set_option maxHeartbeats 64000000
set_option maxRecDepth 100000
namespace Go.Mn
section
open Go.Emit (MI ax aD jH je jR close cM gy dO iD cw)
open Go.Src (Prog Fn Ex Stm ab dK bm coreS bP au ct kH)
open Go.Lower (Ins Code cE cEs kh cS cSs iJ ifC ri leave codeOf)
section
section
variable{okI:Nat->Nat->Nat->Nat->Bool}{p:Prog}{C:List MI}{env:Int×Int->Int}{D:Nat}{Y:Lay okI p C env D}{inp:Asm.Str}{W fu:Nat}
variable(Y inp W fu)in
def GS(n:Nat):Prop:=∀(f:Nat)(fn:Src.Fn),p.f[f]?=S fn->∀(L:List Nat)(G:Sg)(s:Stm)(k:Nat)(c:Cf),Sub Y f fn k (cS fn.word k (coreS (au p).1 (iP fn (Y.ft f)) s))->Ste Y f fn k 0 L G c->SR Y inp W f fn k (k+z (cS fn.word k (coreS (au p).1 (iP fn (Y.ft f)) s))) G c (evS p (aA p) inp fu n f L G s)
variable(Y inp W fu)in
def GSs(n:Nat):Prop:=∀(f:Nat)(fn:Src.Fn),p.f[f]?=S fn->∀(L:List Nat)(G:Sg)(l:List Stm)(k:Nat)(c:Cf),Sub Y f fn k (cSs fn.word k (bP (au p).1 (iP fn (Y.ft f)) l))->Ste Y f fn k 0 L G c->SR Y inp W f fn k (k+z (cSs fn.word k (bP (au p).1 (iP fn (Y.ft f)) l))) G c (de p (aA p) inp fu n f L G l)
def wcd(Y:Lay okI p C env D)(f:Nat)(fn:Src.Fn)(k:Nat)(a:Ex)(l:List Stm):Lower.Code:=iJ k (cE k 0 (dK (au p).1 (iP fn (Y.ft f)) a)) (λr=>cSs fn.word r (bP (au p).1 (iP fn (Y.ft f)) l))
variable(Y inp W fu)in
def GW(n:Nat):Prop:=∀(f:Nat)(fn:Src.Fn),p.f[f]?=S fn->∀(L:List Nat)(G:Sg)(a:Ex)(l:List Stm)(k:Nat)(c:Cf),Sub Y f fn k (wcd Y f fn k a l)->Ste Y f fn k 0 L G c->SR Y inp W f fn k (k+z (wcd Y f fn k a l)) G c (evW p (aA p) inp fu n f L G a l)
section
variable{f:Nat}{fn:Src.Fn}{k x k1 u:Nat}{d w:Int}{L:List Nat}{G ad H:Sg}{c t c':Cf}(hf:p.f[f]?=S fn)
include hf
theorem SR.bind{r:Rs (List Nat×Option Nat)}{q:List Nat->Sg->Rs (List Nat×Option Nat)}(h:SR Y inp W f fn k k1 G c r)(g:k1<=u)(i:∀bd H t,Ste Y f fn k1 0 bd H t->SR Y inp W f fn k1 u H t (q bd H)):
  SR Y inp W f fn k u G c (r.bind λr H=>match r.2 with|some v=>.ok (r.1,S v) H|none=>q r.1 H):=by
 match r with
 |.no=>trivial
 |.en e a=>exact EO.mono hf h g
 |.ok (L,N) a=>
   obtain⟨j,c',r,e,s,b⟩:=h;exact(i L a c' s).after hf r e b
 |.ok (L,S v) a=>exact SR.mono (r:=.ok (L,S v) a) hf h g λ_ _ e=>by cases e
theorem SR.cast{r:Rs (List Nat×Option Nat)}(h:SR Y inp W f fn k k1 G c r)(e:k1=u):SR Y inp W f fn k u G c r:=e▸h
theorem QP{r:Nat}(ar:Ste Y f fn k 0 L G c)(b:(Y.cd f fn)[k]?=S (⟨8,(r:Nat),0,0⟩,w))(V:k+1<=r):SO Y inp W f fn k r G c L G:=by
 obtain⟨c',e,i,Q,g⟩:=CK hf ar b;have:=jG (Y:=Y) hf V;exact⟨1,c',e,a7,Q,λa _=>by rw[g]⟩
theorem Em(ar:Ste Y f fn k 0 L G c)(a:Sub Y f fn k (leave fn.word)):RO Y inp W f fn k (k+z (leave fn.word)) G c 0 G:=by
 unfold leave at a|-;cases hw:fn.word with
 |false=>
   rw[hw]at a;exact Ig hf ar (λh=>absurd h (by rw[hw];decide)) (λh=>absurd h (by rw[hw];decide)) a.hd
 |true=>
   rw[hw]at a;obtain⟨j,t,b,e,Q,g,i⟩:=CJ (inp:=inp) (W:=W) hf ar a.hd b9;have l:=Ig (inp:=inp) (W:=W) hf Q (λ_=>g) (λ_=>rfl) a.tl.hd;exact SR.after (r:=.ok (L,S _) G) hf b e (i.ks hf (C7 0)) l
theorem UP(hW:z C+4*D+8<=W)(h:Rch Y f fn k d):Y.pl f k<=W:=by
 have:=h.lt hf;have U:=jG (Y:=Y) hf (P9 this);have a:=(Y.at_ f fn hf).le;unfold Lay.cd at U;omega
end
theorem Ih{n:Nat}(b:GS Y inp W fu n)(e:GSs Y inp W fu n):GSs Y inp W fu (n+1):=by
 intro f fn hf L G l k c a ar;cases l with
 |nil=>
   rw[bP,cSs,de];exact⟨0,c,.refl,a8,ar,λ_ _=>rfl⟩
 |cons s l=>
   rw[bP,cSs]at a;rw[bP,cSs,de,j8,<-C2];obtain⟨g,bz⟩:=a.app;exact SR.bind hf (b f fn hf L G s k c g ar) a7 λi H t Q=>e f fn hf i H l _ t bz Q
theorem Mt(hW:z C+4*D+8<=W){n:Nat}(V:GE Y inp W fu n)(Z:GSs Y inp W fu n)(hG:GW Y inp W fu n):GW Y inp W fu (n+1):=by
 intro f fn hf L G a l k c s ar;have g:=s;unfold wcd iJ at g|-;obtain⟨A,w⟩:∃A,cE k 0 (dK (au p).1 (iP fn (Y.ft f)) a)=A:=⟨_,rfl⟩
 have m:=λs=>V f fn hf L G a k 0 c s ar;rw[w]at g m|-;obtain⟨B,hB⟩:∃B,cSs fn.word (k+z A+1) (bP (au p).1 (iP fn (Y.ft f)) l)=B:=⟨_,rfl⟩
 have i:=λL G c s ar=>Z f fn hf L G l (k+z A+1) c s ar;rw[hB]at i;simp only[hB]at g|-;obtain⟨b5,x⟩:=g.app;obtain⟨bz,ch⟩:=x.tl.app;rw[evW];refine XR.bindS (k1:=k+z A) hf (C7 0) (m b5) YD λv H t Q m1 K1=>?_;obtain⟨E,I,e3,X,K⟩:=yR (inp:=inp) hf Q x.hd (C7 0) m1;by_cases O:v=0
 .rw[l9 O]at X|-
  have e1:=jG (Y:=Y) hf (show k+z A+1<=k+z A+1+z B+1 by omega);have:SO Y inp W f fn (k+z A) (k+z A+1+z B+1) H t L H:=⟨2,E,I,a7,X,λa _=>by rw[K]⟩
  exact SR.cast (r:=.ok (L,N) H) hf this (by simp only[j8,l4,l5];omega)
 .rw[j9 O]at X|-
  refine SR.after (H:=H) (k1:=k+z A+1) hf I a7 (λa _=>by rw[K]) ?_;refine SR.bind (q:=λu j=>tick fu j λo=>evW p (aA p) inp fu n f u o a l) hf (i L H E bz X) YD λu j c4 J=>?_;unfold tick;split
  .obtain⟨c5,r5,e5,e,m5⟩:=CK (inp:=inp) hf J ch.hd
   have y:=UP (Y:=Y) hf hW J.rch;have b:=hG f fn hf u ⟨j.v,j.arrs,j.out,j.rd,j.tk+1⟩ a l k c5 s ⟨e.pc,e.rch,⟨e.gl.v,e.gl.a,e.gl.vl,e.gl.al⟩,e.fr,e.wl,e.rd,e.out⟩;unfold wcd iJ at b;rw[w]at b;simp only[hB]at b;refine SR.after hf r5 ?_ (λa _=>by rw[m5]) b;have U:=(ar.rch.lt hf)
   have h2:=jG (Y:=Y) hf (show k<=k+z A+1+z B by omega);simp only[F1,Q6]
   -- c8 jump back is d for by c8 tick
   have h3:=UP (Y:=Y) hf hW J.rch;have h4:=(Y.at_ f fn hf).le;have h5:Y.pl f (k+z A+1+z B+1)<=z C:=D0 (jG (Y:=Y) hf (show _<=z (Y.cd f fn)from J.rch.lt hf)) h4;omega
  .exact .inl rfl
end
end
section
section
variable{okI:Nat->Nat->Nat->Nat->Bool}{p:Prog}{C:List MI}{env:Int×Int->Int}{D:Nat}{Y:Lay okI p C env D}{inp:Asm.Str}{W fu:Nat}
theorem FY{A β:Type}{G:Sg}{k:Sg->Rs A}{q:A->Sg->Rs β}:tick fu G (λa6=>(k a6).bind q)=(tick fu G k).bind q:=by unfold tick;split<;>rfl
theorem CH{o i:Src.Pl}:∀{l:List Stm},(bP o i l).isEmpty=l.isEmpty
 |[]=>by rw[bP];rfl
 |_::_=>by rw[bP];rfl
theorem Md{n:Nat}(hE:GE Y inp W fu n)(hL:GL Y inp W fu n)(hB:GB Y inp W fu n)(O:GSs Y inp W fu n)(hG:GW Y inp W fu n):GS Y inp W fu (n+1):=by
 intro f fn hf L G s k c hs ar;obtain⟨kind,name,e,th,el⟩:=s;rw[coreS,cS]at hs;rw[coreS,cS,evS];by_cases U:kind=1
 .subst U
  simp only[show ¬(1:Int)=5 by decide,show ¬(1:Int)=4 by decide,B1,B5]at hs|-
  match e with
  |[]=>trivial
  |_::_::_=>trivial
  |[a]=>
    simp only[bm,cEs,s9]at hs|-;obtain⟨a1,bz⟩:=hs.app;rw[j8,<-C2];exact XR.bindS hf (C7 0) (hE f fn hf L G a k 0 c a1 ar) (L9 _ _) λv H c1 Q m1 K1=>Ic hf Q m1 bz.hd
 by_cases h2:kind=2
 .subst h2
  simp only[show ¬(2:Int)=5 by decide,show ¬(2:Int)=4 by decide,show ¬(2:Int)=1 by decide,B1,B5]at hs|-
  match e with
  |[]=>trivial
  |[_]=>trivial
  |_::_::_::_=>trivial
  |[a,b]=>
    simp only[bm,cEs,s9]at hs|-;obtain⟨a1,bz⟩:=hs.app;obtain⟨b5,a1⟩:=a1.app;simp only[j8,<-C2]at bz|-;refine XR.bindS hf (C7 0) (hE f fn hf L G a k 0 c b5 ar) a7 λx H c1 Q m1 K1=>?_;refine XR.bindS (d:=0+1) hf b9 (hE f fn hf L H b _ (0+1) c1 a1 Q) a7 λy a6 c2 S2 m2 K2=>?_;have hd:=Q.rch.dp hf;exact yS hf S2 ((K2 _ a7).trans m1) m2 bz.hd
 by_cases h3:kind=3
 .subst h3
  simp only[show ¬(3:Int)=5 by decide,show ¬(3:Int)=4 by decide,show ¬(3:Int)=1 by decide,show ¬(3:Int)=2 by decide,B1,B5]at hs|-
  match e with
  |[]=>trivial
  |_::_::_=>trivial
  |[a]=>
    simp only[bm,cEs,s9]at hs|-;obtain⟨a1,bz⟩:=hs.app;rw[j8,<-C2];exact XR.bindS hf (C7 0) (hE f fn hf L G a k 0 c a1 ar) (L9 _ _) λv H c1 Q m1 K1=>Ie hf Q m1 bz.hd
 by_cases h4:kind=4
 .subst h4
  simp only[show ¬(4:Int)=5 by decide,show ¬(4:Int)=1 by decide,show ¬(4:Int)=2 by decide,show ¬(4:Int)=3 by decide,B1,B5]at hs|-
  match e with
  |[]=>trivial
  |_::_::_=>trivial
  |[a]=>
    simp only[bm,cEs,s9,CH]at hs|-;obtain⟨A,hA⟩:∃A,cE k 0 (dK (au p).1 (iP fn (Y.ft f)) a)=A:=⟨_,rfl⟩
    have m:=λhs=>hE f fn hf L G a k 0 c hs ar;rw[hA]at hs m|-;obtain⟨b5,a1⟩:=hs.app;obtain⟨B,t⟩:∃B,cSs fn.word (k+z A+1) (bP (au p).1 (iP fn (Y.ft f)) th)=B:=⟨_,rfl⟩
    have i:=λL G c hs ar=>O f fn hf L G th (k+z A+1) c hs ar;rw[t]at i;refine XR.bindS (k1:=k+z A) hf (C7 0) (m b5) (by simp only[j8];omega) λv H c1 Q m1 K1=>?_;unfold ifC at a1|-;cases el with
    |nil=>
      simp only[List.isEmpty_nil,P1,B1,t,E0]at a1|-;obtain⟨c3,r3,e3,X,m3⟩:=yR (inp:=inp) hf Q a1.hd (C7 0) m1;by_cases hv:v=0
      .rw[l9 hv]at X|-
       have e1:=jG (Y:=Y) hf (show k+z A+1<=k+z A+1+z B by omega);have hq:SO Y inp W f fn (k+z A) (k+z A+1+z B) H c1 L H:=⟨2,c3,r3,a7,X,λa _=>by rw[m3]⟩
       cases n with
       |zero=>rw[de];trivial
       |succ n=>
         rw[de];exact SR.cast (r:=.ok (L,N) H) hf hq YD
      .rw[j9 hv]at X|-
       refine SR.after (H:=H) (k1:=k+z A+1) hf r3 a7 (λa _=>by rw[m3]) ?_;exact SR.cast hf (i L H c3 a1.tl X) YD
    |cons s0 el=>
      obtain⟨E,u⟩:∃E,s0::el=E:=⟨_,rfl⟩
      have af:E.isEmpty=F:=by rw[<-u];rfl
      rw[u]at a1|-;simp only[af,K7,B5,t]at a1|-;obtain⟨b6,I⟩:∃b6,cSs fn.word (k+z A+1+z B+1) (bP (au p).1 (iP fn (Y.ft f)) E)=b6:=⟨_,rfl⟩
      have K:=λL G c hs ar=>O f fn hf L G E (k+z A+1+z B+1) c hs ar;rw[I]at K a1;simp only[I];obtain⟨bz,ch⟩:=a1.tl.app;obtain⟨c3,r3,e3,X,m3⟩:=yR (inp:=inp) hf Q a1.hd (C7 0) m1;by_cases hv:v=0
      .rw[l9 hv]at X|-
       have e1:=jG (Y:=Y) hf (show k+z A+1<=k+z A+1+z B+1 by omega);refine SR.after (H:=H) (k1:=k+z A+1+z B+1) hf r3 a7 (λa _=>by rw[m3]) ?_;exact SR.cast hf (K L H c3 ch.tl X) YD
      .rw[j9 hv]at X|-
       refine SR.after (H:=H) (k1:=k+z A+1) hf r3 a7 (λa _=>by rw[m3]) ?_;have U:=i L H c3 bz X;refine SR.cast (k1:=k+z A+1+z B+1+z b6) hf (SR.mono hf U a7 λbd ad e h=>?_) YD;obtain⟨j,c4,r4,e4,J,K4⟩:=h;obtain⟨j5,c5,r5,e5,S5,K5⟩:=QP (inp:=inp) (W:=W) hf J ch.hd a7;exact⟨j+j5,c5,r4.trans r5,a7,S5,K4.trans hf K5⟩
 by_cases h5:kind=5
 .subst h5
  simp only[show ¬(5:Int)=1 by decide,show ¬(5:Int)=2 by decide,show ¬(5:Int)=3 by decide,show ¬(5:Int)=4 by decide,B1,B5]at hs|-
  match e with
  |[]=>trivial
  |_::_::_=>trivial
  |[a]=>
    simp only[bm,kh]at hs|-;show SR Y inp W f fn k _ G c (tick fu G λH=>evW p (aA p) inp fu n f L H a th);unfold tick;split
    .refine SR.after (H:=⟨G.v,G.arrs,G.out,G.rd,G.tk+1⟩) hf .refl ?_ (λ_ _=>rfl) (hG f fn hf L ⟨G.v,G.arrs,G.out,G.rd,G.tk+1⟩ a th k c hs ⟨ar.pc,ar.rch,⟨ar.gl.v,ar.gl.a,ar.gl.vl,ar.gl.al⟩,ar.fr,ar.wl,ar.rd,ar.out⟩)
     simp only[F1,Q6];omega
    .exact .inl rfl
 by_cases h6:kind=6
 .subst h6
  simp only[show ¬(6:Int)=1 by decide,show ¬(6:Int)=2 by decide,show ¬(6:Int)=3 by decide,show ¬(6:Int)=4 by decide,show ¬(6:Int)=5 by decide,B1,B5]at hs|-;cases Z:ea p f (aA p f name) (z e) F with
  |none=>trivial
  |some g=>
    obtain⟨ht,bf,gn,hg,q,P⟩:=tY Z;obtain⟨a1,bz⟩:=hs.app;rw[j8,<-C2];have i:=hL f fn hf L G e k 0 c a1 ar;show SR Y inp W f fn k _ G c ((dq p (aA p) inp fu n f L G e).bind λvs H=>tick fu H λa6=>(evB p (aA p) inp fu n g vs a6).bind λ_ o=>.ok (L,N) o);cases V:dq p (aA p) inp fu n f L G e with
    |no=>trivial
    |en e H=>rw[V]at i;exact EO.mono hf i a7
    |ok vs H=>
      rw[V]at i;obtain⟨⟨j,c1,r1,e1,Q,m1,K1⟩,b'⟩:=i;have hk:=bz.hd;rw[pX Y hf,ht]at hk;have l:=Ia (inp:=inp) (W:=W) (fu:=fu) (r:=λ_ _=>.no) (w:=T) hf hB Q (C7 0) hk hg bf a7 m1;show SR Y inp W f fn k _ G c (tick fu H λa6=>(evB p (aA p) inp fu n g vs a6).bind λ_ o=>.ok (L,N) o);rw[FY];cases hq:tick fu H λa6=>evB p (aA p) inp fu n g vs a6 with
      |no=>trivial
      |en e a6=>rw[hq]at l;exact EO.after r1 e1 l
      |ok v a6=>
        rw[hq]at l;obtain⟨j2,c2,r2,e2,S2,m2,K2⟩:=l;rw[j9 (by rw[q];decide)]at S2;refine SR.after (r:=.ok (L,N) a6) hf r1 e1 (K1.ks hf (C7 0)) ?_;exact⟨j2,c2,r2,e2,S2,K2.ks hf (C7 0)⟩
 by_cases h7:kind=7
 .subst h7
  simp only[show ¬(7:Int)=1 by decide,show ¬(7:Int)=2 by decide,show ¬(7:Int)=3 by decide,show ¬(7:Int)=4 by decide,show ¬(7:Int)=5 by decide,show ¬(7:Int)=6 by decide,B1,B5]at hs|-
  match e with
  |_::_::_=>trivial
  |[]=>
    rw[bm,cEs,A7]at hs;rw[bm,cEs,A7];exact Em hf ar hs
  |[a]=>
    simp only[bm,cEs,s9]at hs|-;obtain⟨a1,bz⟩:=hs.app;rw[j8,<-C2];show SR Y inp W f fn k _ G c (if (p.f[f]?).any (·.word)=T then(evE p (aA p) inp fu n f L G a).bind λv H=>.ok (L,S v) H else .no);split
    .exact XR.bindS hf (C7 0) (hE f fn hf L G a k 0 c a1 ar) (L9 _ _) λv H c1 Q m1 K1=>Ig hf Q (λ_=>m1) (λ_=>rfl) bz.hd
    .trivial
 simp only[U,h2,h3,h4,h5,h6,h7,B1];trivial
include Y in
theorem Aj{a:Int}{n:Nat}{c:Cf}(f:0<=a):∀k:Nat,a+k<=D->At C c.pc (close env (jH a k) n)->∃c',Rn okI C inp D k c c'/\c'.pc=c.pc+k/\z (close env (jH a k) n)=k/\c'.l=c.l/\c'.rd=c.rd/\c'.out=c.out/\∀X,c'.mem X=if a<=X/\X<a+k then 0 else c.mem X
 |0,_,_=>⟨c,.refl,rfl,rfl,rfl,rfl,rfl,λX=>by rw[j9 a7]⟩
 |k+1,h,b=>by
   have hD:=Y.hD;have g:∀k,iD (jH a k):=λk=>(Emit.vK (Q:=λ_=>True) k).inner
   have Z:close env (jH a (k+1)) n=close env (jH a k) n++[(17,0,0,a+k)]:=by
    rw[jH,cM (g k) dO];rfl
   rw[Z]at b;obtain⟨u,o⟩:=b.app;obtain⟨t,i,j,l1,m,q,r,s⟩:=Aj f k a7 u;rw[l1,<-j]at o;refine⟨_,i.trans (Yc Y.dec o.hd a7 a7),by simp only;omega,by rw[Z,j8,l1];rfl,m,q,r,λX=>?_⟩;simp only;by_cases d:X=a+k
   .rw[d,qv,l9 a7]
   .rw[gg d,s]
    by_cases e:a<=X/\X<a+k
    .rw[l9 e,l9 a7]
    .rw[j9 e,j9 a7]
include Y in
theorem Ef{b:Nat}{q:Nat}(i:b<=D)(d:At C q [(17,0,1,0),(4,1,1,15),(14,3,1,2),(20,3,0,(q:Int))]):∀(m:Nat)(c:Cf),c.pc=q->c.b=b->c.a+(m+1)=b->∃c',Rn okI C inp D (4*(m+1)) c c'/\c'.pc=q+4/\c'.l=c.l/\c'.rd=c.rd/\c'.out=c.out/\∀X,c'.mem X=if (c.a:Int)<=X/\X<b then 0 else c.mem X
 |m,c,j,o,hm=>by
   have hD:=Y.hD;subst j;have r:=(Yf (inp:=inp) (D:=D) Y.dec d.hd a7 a7).trans ((QK Y.dec (c:=⟨c.pc+1,_,_,_,_,_,_,_⟩) d.tl.hd XS).trans ((Yj Y.dec (c:=⟨c.pc+1+1,_,_,_,_,_,_,_⟩) d.tl.tl.hd).trans (UI Y.dec (c:=⟨c.pc+1+1+1,_,_,_,_,_,_,_⟩) d.tl.tl.tl.hd)));cases m with
   |zero=>
     refine⟨_,r,?_,rfl,rfl,rfl,λX=>?_⟩
     .simp only
      rw[j9 (show ¬c.a+1<c.b by omega),l9 rfl]
     .simp only
      by_cases f:X=c.a
      .rw[f,qv,l9 a7]
      .rw[gg f,j9 a7]
   |succ m=>
     have e:(if (if c.a+1<c.b then 1 else 0)=0 then c.pc+1+1+1+1 else((c.pc:Nat):Int).toNat)=c.pc:=by
      rw[l9 (show c.a+1<c.b by omega),j9 b9,B6]
     simp only[e]at r;obtain⟨k,n,s,l2,t,u,v⟩:=Ef i d m ⟨c.pc,c.a+1,c.b,if c.a+1<c.b then 1 else 0,c.l,up c.mem c.a 0,c.rd,c.out⟩ rfl o XS;have:=r.trans n;rw[show 1+(1+(1+1))+4*(m+1)=4*(m+1+1) by omega]at this;refine⟨k,this,s,l2,t,u,λX=>?_⟩;rw[v];simp only;by_cases f:X=c.a
     .rw[j9 a7,f,qv,l9 a7]
     .rw[gg f]
      by_cases g:(c.a:Int)<=X/\X<b
      .rw[l9 a7,l9 g]
      .rw[j9 a7,j9 g]
include Y in
theorem HR{a b:Int}{c:Cf}(k:0<=a)(d:a<=b)(I:b<=D)(f:At C c.pc (close env (je a b) c.pc)):∃j c',Rn okI C inp D j c c'/\j<=4*D+6/\c'.pc=c.pc+z (close env (je a b) c.pc)/\c'.l=c.l/\c'.rd=c.rd/\c'.out=c.out/\∀X,c'.mem X=if a<=X/\X<b then 0 else c.mem X:=by
 by_cases g:b-a<=6
 .have e:je a b=jH a (b-a).toNat:=l9 g
  rw[e]at f|-;obtain⟨m,r,s,l1,u,v,w,x⟩:=Aj (Y:=Y) (inp:=inp) k (b-a).toNat a7 f;exact⟨_,m,r,a7,by rw[l1];exact s,u,v,w,λX=>by rw[x,show a+((b-a).toNat:Int)=b by omega]⟩
 .have e:je a b=λn=>⟨[(1,1,0,a),(1,2,0,b),(17,0,1,0),(4,1,1,15),(14,3,1,2),(20,3,0,(n:Int)+2)],[]⟩:=j9 g
  rw[e]at f|-;have f:At C c.pc [(1,1,0,a),(1,2,0,b),(17,0,1,0),(4,1,1,15),(14,3,1,2),(20,3,0,(c.pc:Int)+2)]:=f;have o:=f.tl.tl;obtain⟨y,A,B,l2,E,G,H⟩:=Ef (Y:=Y) (inp:=inp) (b:=b.toNat) (q:=c.pc+1+1) a7 (by rw[show ((c.pc+1+1:Nat):Int)=(c.pc:Int)+2 by omega];exact o) ((b-a).toNat-1) ⟨c.pc+1+1,a.toNat,b.toNat,c.t,c.l,c.mem,c.rd,c.out⟩ rfl rfl XS;refine⟨_,y,(QJ Y.dec f.hd).trans ((Yg Y.dec (c:=⟨c.pc+1,_,_,_,_,_,_,_⟩) f.tl.hd).trans A),a7,by rw[B];rfl,l2,E,G,λX=>?_⟩;rw[H];simp only;by_cases i:a<=X/\X<b
  .rw[l9 a7,l9 i]
  .rw[j9 a7,j9 i]
end
end
end
section
open Go.Emit (MI ax aD eC je jR close cM gy dO iD cw)
open Go.Src (Prog Fn ab bP au)
open Go.Lower (Ins Code cSs leave codeOf)
section
section
variable{okI:Nat->Nat->Nat->Nat->Bool}{p:Prog}{C:List MI}{env:Int×Int->Int}{D:Nat}{Y:Lay okI p C env D}{inp:Asm.Str}{W fu:Nat}
section
variable{f:Nat}{fn:Src.Fn}(hf:p.f[f]?=S fn)
include hf
theorem Eg{n:Nat}{L:List Nat}{G:Sg}{c:Cf}(g:GSs Y inp W fu n)(ar:Ste Y f fn 0 0 L G c):
  match (de p (aA p) inp fu n f L G fn.body).bind λr H=>.ok (r.2.getD 0) H with
  |.ok v ad=>RO Y inp W f fn 0 (z (Y.cd f fn)) G c v ad
  |.en e ad=>EO Y inp W f 0 (z (Y.cd f fn)) G c e ad
  |.no=>True:=by
 have b:Y.cd f fn=cSs fn.word 0 (bP (au p).1 (iP fn (Y.ft f)) fn.body)++leave fn.word:=rfl;have d:Sub Y f fn 0 (Y.cd f fn):=λj x h=>by rw[C5];exact h
 rw[b]at d;obtain⟨i,bz⟩:=d.app;have U:=g f fn hf L G fn.body 0 c i ar;rw[C5]at U bz;rw[b,j8]
 match V:de p (aA p) inp fu n f L G fn.body with
 |.no=>trivial
 |.en e ad=>rw[V]at U;exact EO.mono hf U a7
 |.ok (a,S v) ad=>
   rw[V]at U;exact SR.mono (k1:=z (cSs fn.word 0 (bP (au p).1 (iP fn (Y.ft f)) fn.body))) (r:=.ok (a,S v) ad) hf U a7 λ_ _ e=>by cases e
 |.ok (a,N) ad=>
   rw[V]at U;obtain⟨j,o,k,l,Q,m⟩:=U;exact SR.after (r:=.ok (a,S 0) ad) hf k l m (Em hf Q bz)
end
theorem Me(hW:z C+4*D+8<=W){n:Nat}(hL:GSs Y inp W fu n):GB Y inp W fu (n+1):=by
 intro g gn o E vs G c hp hv y b7 ho;rw[evB,o];show BR Y inp W g gn G c (if z vs=z gn.p then(de p (aA p) inp fu n g (vs++List.replicate (z gn.l) 0) G gn.body).bind λr H=>.ok (r.2.getD 0) H else .no);by_cases I:z vs=z gn.p
 case neg=>rw[j9 I];trivial
 rw[l9 I];have d:=(l6.1 o).1;have Z:=Y.at_ g gn o;have bd:z (ab p).f=z p.f:=by unfold ab;exact Src.lR _ _ _
 have K:=Y.base g gn o;have hR:Rch Y g gn 0 0:=⟨C7 0,(mid Y o).2.1⟩
 have hd:=hR.dp o;have hD:=Y.hD;have af:=Y.fts g gn o;have J:=Y.ftm (i:=0) (j:=g) a7 a7;have bs:=Y.globs;have m:=K.2.2.1;rw[j9 a7]at m
 have b5:∀k,close env (jR (ab p).f Y.P g) k=(17,14,0,Y.bk g)::close env (je (Y.ft g+z gn.p) (Y.ft g+(z gn.p+z gn.l))) (k+1):=λk=>by
  have e:jR (ab p).f Y.P g=ax (aD 17 14 0 (Y.bk g)) (je (Y.ft g+z gn.p) (Y.ft g+(z gn.p+z gn.l))):=by
   unfold jR;rw[j9 a7,Y.fs g gn o,K.2.1];rfl
  rw[e,cM dO (Emit.CN (Q:=λ_=>True)).inner,gy];rfl
 obtain⟨O,c8⟩:=Z.head;rw[b5,<-hp]at O c8;obtain⟨j2,w,r2,l2,p2,e2,d2,o2,u⟩:=HR (Y:=Y) (inp:=inp) (c:=⟨c.pc+1,c.a,c.b,c.t,c.l,up c.mem (Y.bk g) c.l,c.rd,c.out⟩) (a:=Y.ft g+z gn.p) (b:=Y.ft g+(z gn.p+z gn.l)) a7 a7 a7 O.tl;have r:=(Yd (inp:=inp) Y.dec O.hd a7 a7).trans r2;simp only at u p2 e2 d2 o2;have hm:∀X:Int,X<Y.ft g+z gn.p->w.mem X=c.mem X:=λX hz=>by rw[u,j9 a7,gg a7]
 have S2:Ste Y g gn 0 0 (vs++List.replicate (z gn.l) 0) G w:=by
  refine⟨by rw[p2,c8,l4];omega,hR,y.keep (Y:=Y) o λa A K=>hm a a7,λi x s=>?_,by simp[I],d2.trans b7,o2.trans ho⟩;by_cases b3:i<z vs
  .rw[E8 b3]at s
   rw[hm _ a7];exact hv i x s
  .rw[D1 a7,I2]at s
   split at s
   .cases s
    rw[u,l9 a7]
   .cases s
 have hB:=Eg (W:=W) (fu:=fu) o hL S2;have a1:Y.pl g (z (Y.cd g gn))<=z C:=Z.le
 have q:∀a:Int,(Y.ft (g+1)<=a/\a<Y.bk 0)\/Y.bk (g+1)<=a->w.mem a=c.mem a:=λa A=>by
  have:=(Y.bks d).2;rw[u,j9 a7,gg a7]
 cases V:(de p (aA p) inp fu n g (vs++List.replicate (z gn.l) 0) G gn.body).bind λr H=>.ok (r.2.getD 0) H with
 |no=>trivial
 |en e ad=>
   rw[V]at hB;rcases hB with h|⟨j,U,h2⟩
   .exact .inl h
   .exact .inr ⟨_,r.re U,a7⟩
 |ok v ad=>
   rw[V]at hB;have hB:RO Y inp W g gn 0 (z (Y.cd g gn)) G w v ad:=hB;unfold RO at hB;rw[j9 a7]at hB;obtain⟨j,c3,r3,h3,p3,w3,g3,d3,B,L⟩:=hB;refine⟨_,c3,r.trans r3,a7,?_,w3,g3,d3,B,λa A=>(L a A).trans (q a A)⟩;rw[p3,u,j9 a7,qv]
theorem Ak(hW:z C+4*D+8<=W):∀n:Nat,GE Y inp W fu n/\GL Y inp W fu n/\GB Y inp W fu n/\GS Y inp W fu n/\GSs Y inp W fu n/\GW Y inp W fu n
 |0=>by
   refine⟨λf fn hf L G e k d c b ar=>?_,λf fn hf L G l k d c b ar=>?_,λg gn q E vs G c _ _ _ _ _=>?_,λf fn hf L G s k c b ar=>?_,λf fn hf L G l k c b ar=>?_,λf fn hf L G a l k c b ar=>?_⟩
   .rw[evE];trivial
   .rw[dq];trivial
   .rw[evB];trivial
   .rw[evS];trivial
   .rw[de];trivial
   .rw[evW];trivial
 |n+1=>by
   obtain⟨U,i,j,o,h,m⟩:=Ak hW n;exact⟨Mr U i j,Mq U i,Me hW h,Md U i j h m,Ih o h,Mt hW U h m⟩
theorem Pr(c0:C[0]?=S (1,15,0,1))(A:Y.en (z p.f-1)=1)(n:Nat):
  match runN p inp fu n with
  |.ok _ G=>∀al,8*(G.tk+1)*(z C+D+1)<=al->(Mach.BI okI (C.map ey) D inp al).1=1/\(Mach.BI okI (C.map ey) D inp al).2.1=G.out
  |.en e G=>e≠5->∀al,8*(G.tk+1)*(z C+D+1)<=al->(Mach.BI okI (C.map ey) D inp al).1=e/\(Mach.BI okI (C.map ey) D inp al).2.1=G.out
  |.no=>True:=by
 have V:=(Src.uq Y.snd).1;have hn:1<=z p.f:=by unfold Src.dP at V;simp at V;exact V.1.1.1
 obtain⟨L,B⟩:∃L,z p.f-1=L:=⟨_,rfl⟩
 obtain⟨fn,hf⟩:∃fn,p.f[L]?=S fn:=⟨_,v8 a7⟩
 rw[B]at A;unfold runN;rw[B];cases n with
 |zero=>rw[evB];trivial
 |succ n=>
 rw[evB,hf];have E:=Y.at_ L fn hf;have hD:=Y.hD;have bd:z (ab p).f=z p.f:=by unfold ab;exact Src.lR _ _ _
 have K:Y.pl L 0=1:=by
  rw[E.head.2,A];have e:jR (ab p).f Y.P L=eC:=by unfold jR;rw[l9 a7]
  rw[e,Emit.Gf];rfl
 let u:Cf:=⟨1,0,0,0,0,λ_=>0,0,[]⟩
 have O:∃m,Ms D u m/\∀al,Mach.runM okI (C.map ey) inp (1+al) (Mach.start D)=Mach.runM okI (C.map ey) inp al m:=by
  refine⟨_,?_,λal=>step1 Y.dec rfl c0 al⟩;refine⟨rfl,rfl,rfl,rfl,rfl,rfl,rfl,rfl,rfl,G4 ..,λk X=>?_,rfl,rfl⟩;show (List.replicate D 0)[k]?=S 0;rw[I2,l9 X]
 obtain⟨c,bl,bz⟩:=O
 show match (if z ([]:List Nat)=z fn.p then(de p (aA p) inp fu n L ([]++List.replicate (z fn.l) 0) (start p) fn.body).bind λr H=>.ok (r.2.getD 0) H else .no:Rs Nat)with
  |.ok _ G=>∀al,8*(G.tk+1)*(z C+D+1)<=al->(Mach.BI okI (C.map ey) D inp al).1=1/\(Mach.BI okI (C.map ey) D inp al).2.1=G.out
  |.en e G=>e≠5->∀al,8*(G.tk+1)*(z C+D+1)<=al->(Mach.BI okI (C.map ey) D inp al).1=e/\(Mach.BI okI (C.map ey) D inp al).2.1=G.out
  |.no=>True
 by_cases w:z ([]:List Nat)=z fn.p
 case neg=>rw[j9 w];trivial
 rw[l9 w]
 have ar:Ste Y L fn 0 0 ([]++List.replicate (z fn.l) 0) (start p) u:=by
  refine⟨K.symm,⟨C7 0,(mid Y hf).2.1⟩,⟨λi x d=>?_,λi l hl j x o=>?_,by simp[start],λi l hl=>?_⟩,λi x d=>?_,by simp[<-w],rfl,rfl⟩
  .simp only[start,I2]at d
   split at d
   .cases d;rfl
   .cases d
  .simp only[start,w9]at hl
   obtain⟨a,y,rfl⟩:=G5.1 hl;rw[I2]at o;split at o
   .cases o;rfl
   .cases o
  .simp only[start,w9]at hl
   obtain⟨a,y,rfl⟩:=G5.1 hl;refine⟨a,y,?_⟩
   have:1<=a.2:=by
    unfold Src.dP at V;simp only[s5,x9]at V;have:=V.2.1 a (l7 y);exact u6
   rw[G4];omega
  .rw[A7,I2]at d
   split at d
   .cases d;rfl
   .cases d
 have hB:=Eg (W:=z C+4*D+8) (inp:=inp) (fu:=fu) hf (Ak (l8 _) n).2.2.2.2.1 ar;have a1:Y.pl L (z (Y.cd L fn))<=z C:=E.le
 have b:∀(t j:Nat),j+1+0*(z C+4*D+8)<=z C+t*(z C+4*D+8)->1+j<=8*(t+1)*(z C+D+1):=λt j h=>by
  have U:t*(z C+4*D+8)<=t*(8*(z C+D+1)):=Nat.mul_le_mul_left _ a7
  have g:8*(t+1)*(z C+D+1)=t*(8*(z C+D+1))+8*(z C+D+1):=by
   rw[U5 8 (t+1),Nat.mul_assoc,F1,Q6]
  omega
 have I:∀(e:Nat)(G:Sg)(j:Nat),RE okI C inp D j u e G.out->1+j<=8*(G.tk+1)*(z C+D+1)->∀al,8*(G.tk+1)*(z C+D+1)<=al->(Mach.BI okI (C.map ey) D inp al).1=e/\(Mach.BI okI (C.map ey) D inp al).2.1=G.out:=λe G j J o al hN=>by
  obtain⟨q,rfl⟩:∃q,al=1+q:=⟨al-1,a7⟩
  obtain⟨U,g⟩:=J.2 c bl q a7;unfold Mach.BI;simp only[bz,U,g,j9 J.1,and_self]
 cases Q:(de p (aA p) inp fu n L ([]++List.replicate (z fn.l) 0) (start p) fn.body).bind λr H=>.ok (r.2.getD 0) H with
 |no=>trivial
 |en e s=>
   rw[Q]at hB;intro Z;rcases hB with h|⟨j,U,g⟩
   .exact absurd h Z
   .refine I e s j U (b _ _ ?_)
    have:(start p).tk=0:=rfl;rw[this]at g;omega
 |ok v s=>
   rw[Q]at hB;have hB:RO Y inp _ L fn 0 (z (Y.cd L fn)) (start p) u v s:=hB;unfold RO at hB;rw[l9 a7]at hB;obtain⟨j,U,g⟩:=hB;refine I 1 s j U (b _ _ ?_);have:(start p).tk=0:=rfl;rw[this]at g;omega
end
end
end
section
open Go.Emit (MI whole filled fC df rL PE rM toC cw bG)
open Go.Src (Prog Fn CFn ab aZ au)
section
def Uz{fs:List CFn}{P:Emit.Plan}{ar:Nat}(H:rL fs P ar):(filled (whole fs P))[0]?=S (1,15,0,1):=by
 rw[Emit.Gh H]
 have a:∀k,∃r,toC (fC (whole fs P)) fs P k=[(1,15,0,1)]++r:=by
  intro k
  induction k with
  |zero=>exact⟨_,rfl⟩
  |succ k b=>obtain⟨r,V⟩:=b;rw[toC,V];exact⟨_,v7 _ _ _⟩
 obtain⟨r,V⟩:=a (z fs-1);rw[V];rfl
variable{okI:Nat->Nat->Nat->Nat->Bool}
def XZ{x:MI}(h:rM x)(e:okI x.1.toNat x.2.1.toNat x.2.2.1.toNat x.2.2.2.toNat=T):Dec okI x:=by
 obtain⟨⟨o1,f⟩,c,d,Z⟩:=h;have a:∀{v:Int}{b:Bool},Emit.inP v 15 b->v.toNat<=15:=λ{v b}h=>by unfold Emit.inP at h;split at h<;>omega
 have c:=a c;have d:=a d
 have Z:x.2.2.2.toNat<=65535:=by
  unfold Emit.inP at Z;split at Z
  .split at Z<;>omega
  .omega
 unfold Dec ey Asm.word;refine⟨?_,?_,?_,?_,e⟩<;>omega
def Ya{p:Prog}{ar:Nat}(h:aZ p=0)(H:rL (ab p).f (df (ab p).words (ab p).f) ar)(hd:0<=(df (ab p).words (ab p).f).data/\(df (ab p).words (ab p).f).data<=32768)
 (hC:z (filled (whole (ab p).f (df (ab p).words (ab p).f)))<=16384)(b:∀x∈filled (whole (ab p).f (df (ab p).words (ab p).f)),Dec okI x):
  ∃Y:Lay okI p (filled (whole (ab p).f (df (ab p).words (ab p).f))) (fC (whole (ab p).f (df (ab p).words (ab p).f))) (df (ab p).words (ab p).f).data.toNat,Y.en (z p.f-1)=1:=by
 have d:z (ab p).f=z p.f:=by unfold ab;exact Src.lR _ _ _
 obtain⟨ft,f0,e,fts⟩:=Aq (au p).1 p.f (au p).2;obtain⟨bk,l,a,bks⟩:=Ej (z (ab p).f) (df (ab p).words (ab p).f).depths 0 (ab p).words;have i:(df (ab p).words (ab p).f).depths=(ab p).f.map λx=>bG (cw x):=rfl;have L:∀(f:Nat)(x:CFn),(ab p).f[f]?=S x->(df (ab p).words (ab p).f).depths[f]?=S (bG (cw x)):=λf x I=>by rw[i,w9,I];rfl
 have A:∀(f:Nat)(fn:Src.Fn),p.f[f]?=S fn->(ab p).f[f]?=S (xP p fn (ft f)):=λf fn c=>(fts f fn c).1
 have bs:∀f:Nat,∃q:Nat×(Nat->Nat),∀fn,p.f[f]?=S fn->QN (filled (whole (ab p).f (df (ab p).words (ab p).f))) (fC (whole (ab p).f (df (ab p).words (ab p).f))) (ab p).f (df (ab p).words (ab p).f) f (xP p fn (ft f)) q.1 q.2/\(f=z (ab p).f-1->q.1=1):=λf=>by
  cases c:p.f[f]? with
  |none=>exact⟨(0,id),λ_ h=>by cases h⟩
  |some fn=>
    obtain⟨en,pl,g⟩:=UL H L (A f fn c);exact⟨(en,pl),λe h=>by cases h;exact g⟩
 obtain⟨q,g⟩:=Classical.skolem.1 bs;have m:(df (ab p).words (ab p).f).back=(Emit.dN (z (ab p).f) 0 (df (ab p).words (ab p).f).depths (ab p).words).1:=rfl;have o:(df (ab p).words (ab p).f).base=(Emit.dN (z (ab p).f) 0 (df (ab p).words (ab p).f).depths (ab p).words).2.1:=rfl;have hD:(df (ab p).words (ab p).f).data=(Emit.dN (z (ab p).f) 0 (df (ab p).words (ab p).f).depths (ab p).words).2.2:=rfl;refine⟨⟨ft,bk,λf=>if f+1=z p.f then bk f else bk f+1,λf=>(q f).1,λf=>(q f).2,df (ab p).words (ab p).f,h,b,a7,hC,f0,?_,?_,A,λf fn c=>(g f fn c).1,λf fn c=>(fts f fn c).2,λf fn c=>?_⟩,?_⟩
 .rw[e,l];rfl
 .rw[i,j7,d]at a
  rw[a];rw[<-i,<-d,<-hD];omega
 .obtain⟨r,j,k⟩:=bks f _ (L f _ (A f fn c))
  rw[C5,d]at j k;rw[m,o,d]at *;rw[r,j];exact⟨rfl,rfl,rfl,k⟩
 .have s:=H.n
  obtain⟨fn,c⟩:∃fn,p.f[z p.f-1]?=S fn:=⟨_,v8 a7⟩
  exact(g _ fn c).2 a7
end
end
section
open Go.Asm (Str)
open Go.Src (Ex Stm Fn Prog)
section
def Tk{A:Type}(fu:Nat)(r:Rs A):Prop:=match r with|.ok _ G=>G.tk<=fu|.en _ G=>G.tk<=fu|.no=>True
section
variable{A β:Type}{fu:Nat}
def lZ{r:Rs A}{k:A->Sg->Rs β}(h:Tk fu r)(a:∀v G,G.tk<=fu->Tk fu (k v G)):Tk fu (r.bind k):=by
 cases r with
 |ok v G=>exact a v G h
 |en e G=>exact h
 |no=>trivial
def yO{o:Option A}{k:A->Rs β}(a:∀x,Tk fu (k x)):Tk fu (need o k):=by cases o;trivial;exact a _
def yP{G:Sg}{k:Sg->Rs β}(h:G.tk<=fu)(a:∀G,G.tk<=fu->Tk fu (k G)):Tk fu (tick fu G k):=by
 unfold tick;split
 .exact a _ XS
 .exact h
def HX{c:Prop}[Decidable c]{a b:Rs A}(d:Tk fu a)(e:Tk fu b):Tk fu (if c then a else b):=by split;exact d;exact e
def UB{l:List A}{r:Rs β}(h:Tk fu r):Tk fu (l0 l r):=by unfold l0;split;exact h;trivial
def Pt{l:List A}{k:A->Rs β}(h:∀a,Tk fu (k a)):Tk fu (l1 l k):=by unfold l1;split;exact h _;trivial
def Pu{l:List A}{k:A->A->Rs β}(h:∀a b,Tk fu (k a b)):Tk fu (l2 l k):=by unfold l2;split;exact h _ _;trivial
def QH{l:List A}{r:Rs β}{k:A->Rs β}(b:Tk fu r)(h:∀a,Tk fu (k a)):Tk fu (l01 l r k):=by unfold l01;split;exact b;exact h _;trivial
end
section
variable{p:Prog}{fd:Nat->Str->Option (Nat×Nat)}{inp:Str}{fu:Nat}
def QI:∀n:Nat,(∀f L G e,G.tk<=fu->Tk fu (evE p fd inp fu n f L G e))/\(∀f L G e,G.tk<=fu->Tk fu (dq p fd inp fu n f L G e))/\(∀f L G s,G.tk<=fu->Tk fu (evS p fd inp fu n f L G s))/\
  (∀f L G l,G.tk<=fu->Tk fu (de p fd inp fu n f L G l))/\(∀f L G a l,G.tk<=fu->Tk fu (evW p fd inp fu n f L G a l))/\∀g vs G,G.tk<=fu->Tk fu (evB p fd inp fu n g vs G)
 |0=>by
   refine⟨λf L G e h=>?_,λf L G e h=>?_,λf L G e h=>?_,λf L G e h=>?_,λf L G a e h=>?_,λf L G h=>?_⟩
   .rw[evE];trivial
   .rw[dq];trivial
   .rw[evS];trivial
   .rw[de];trivial
   .rw[evW];trivial
   .rw[evB];trivial
 |n+1=>by
   obtain⟨U,c,k,b,d,i⟩:=QI n;refine⟨λf L G e h=>?_,λf L G e h=>?_,λf L G e h=>?_,λf L G e h=>?_,λf L G a e h=>?_,λf L G h=>?_⟩
   .obtain⟨kind,op,num,name,j⟩:=e
    rw[evE]
    repeat' first
     |exact y8|assumption|exact U _ _ _ _ ‹_› | exact c _ _ _ _ ‹_› | exact i _ _ _ ‹_›
     |refine lZ ?_ λ_ _ _=>?_|refine yO λ_=>?_|refine yP ?_ λ_ _=>?_|refine UB ?_|refine Pt λ_=>?_|refine Pu λ_ _=>?_
     |refine HX ?_ ?_|split|unfold CE|unfold CF|unfold opV|unfold lD
   .cases e<;>rw[dq]
    .exact h
    .exact lZ (U _ _ _ _ h) λ_ _ h=>lZ (c _ _ _ _ h) λ_ _ h=>h
   .obtain⟨kind,name,e,m,el⟩:=e
    rw[evS]
    repeat' first
     |exact y8|assumption|exact U _ _ _ _ ‹_› | exact c _ _ _ _ ‹_› | exact b _ _ _ _ ‹_› | exact d _ _ _ _ _ ‹_› | exact i _ _ _ ‹_›
     |refine lZ ?_ λ_ _ _=>?_|refine yO λ_=>?_|refine yP ?_ λ_ _=>?_|refine Pt λ_=>?_|refine Pu λ_ _=>?_|refine QH ?_ λ_=>?_
     |refine HX ?_ ?_|split|unfold CG|unfold qK|unfold HQ
   .cases e<;>rw[de]
    .exact h
    .refine lZ (k _ _ _ _ h) λ_ _ h=>?_
     split
     .exact h
     .exact b _ _ _ _ h
   .rw[evW]
    refine lZ (U _ _ _ _ h) λ_ _ h=>?_;split
    .exact h
    refine lZ (b _ _ _ _ h) λ_ _ h=>?_;split
    .exact h
    .exact yP h λ_ h=>d _ _ _ _ _ h
   .rw[evB]
    refine yO λ_=>?_;split
    .exact lZ (b _ _ _ _ h) λ_ _ h=>h
    .trivial
end
end
end
end Go.Mn
namespace Go.Proofs.YtlacbjnmkhndiaaGreatDoor.Low
section
open Go Go.Am Go.Asm Go.Mach
open Go.Src (aZ ab jB aN vO pE)
attribute[local congr]ite_cc
section
def wR{x:iR}(h:Emit.rM x):pA x=T:=by
 obtain⟨⟨U,d⟩,a,b,c⟩:=h;unfold Emit.inP at a b c;unfold pA fp ke inW qx;simp only[s5,B4];refine⟨⟨a7,a7⟩,?_,?_,?_⟩
 .split at a<;>split<;>simp_all
 .split at b<;>split<;>simp_all
 .split at c<;>split<;>simp_all
def DS{v m:Int}{b:Bool}(h:Emit.inP v m b):0<=v:=by unfold Emit.inP at h;split at h<;>omega
def Ld{x:iR}(h:Emit.rM x):Mn.Dec okI x:=by
 refine Mn.XZ h ?_;have V:=wR h;obtain⟨⟨U,d⟩,a,b,c⟩:=h;unfold pA at V;unfold okI;rw[I5 a7,I5 (DS a),I5 (DS b),I5 (DS c)];exact V
variable{p:Src.Prog}
def Ca(h:aZ p=0):jB p=if 32768<(ab p).words then(⟨0,[]⟩,2)else(ab p,0):=by unfold Src.jB;exact j9 (by simp[h])
def DT(h:aZ p=0)(o:vO p)(Q:szP p<=150)(hl:pE p=T):∃(code:List Nat)(d:Nat),iH p=((code,d),0)/\(∀x∈code,x<4294967296)/\
  ∀(inp:Str)(fu n:Nat),Mn.runN p inp fu n≠.no->(lN (Mn.runN p inp fu n)).1≠5->∀al,iw (lN (Mn.runN p inp fu n)).2.2 code d<=al->(BI okI code d inp al).1=(lN (Mn.runN p inp fu n)).1/\(BI okI code d inp al).2.1=(lN (Mn.runN p inp fu n)).2.1:=by
 unfold pE at hl;simp only[s5,B4]at hl
 have q:∀l:List Src.Fn,(l.map λf=>z f.p+z f.l+aN f.body).sum=(l.map λf=>z f.p+z f.l).sum+(l.map λf=>aN f.body).sum:=by
  intro l
  induction l with
  |nil=>rfl
  |cons a l r=>simp only[s6,D8,r];omega
 rw[jl,q]at Q;obtain⟨U,s,t,w,j⟩:=Emit.US h o a7 hl.2.1
 have c:∀f∈p.f,z f.p<=6:=λf hf=>by
  have V:=(Src.uq h).1;unfold Src.dP at V;simp only[s5,B4,x9]at V;exact Xu
 have H:=Emit.PE h c;have b:=λx I=>Ld (j x I);obtain⟨Y,i⟩:=Mn.Ya h H ⟨s,t⟩ w b;have g:=Mn.Uz H;refine⟨(Emit.filled (Emit.whole (ab p).f (fe p))).map mf,(fe p).data.toNat,?_,?_,?_⟩
 .unfold iH
  rw[Ca h,j9 (show ¬32768<(ab p).words by omega),j9 a8];unfold rQ fe;rw[j9 a7];simp only;rw[j9 a7,l9 (x9.2 λx I=>wR (j x I))]
 .intro x I
  obtain⟨y,m,rfl⟩:=D6.1 I;have hd:=(b y m).1;have:=(j y m).1;show Mn.ey y<_;omega
 intro inp fu n u j al k;have A:=Mn.Pr (Y:=Y) (inp:=inp) (fu:=fu) g i n;unfold iw at k;rw[j7]at k;cases V:Mn.runN p inp fu n with
 |ok v G=>
   rw[V]at A k;exact A al k
 |en e G=>
   rw[V]at A k j;exact A j al k
 |no=>exact absurd V u
def OM(a s t:Nat)(x:Str):aJ Tryz.prog 24 [.agg [ag (a:Nat),bF x,ag (s:Nat)],.agg [ag (a:Nat),bF x,ag (t:Nat)]] (·=bv T):=by
 refine hdP Tryz.func24 rfl [4] λg=>?_;exact gW
def Le(code:List Nat)(d:Nat)(U:z code<=16384)(a:d<=32768):aJ Tryz.prog 8 [fO (code,d)] (·=bv T):=by
 refine hdP Tryz.func8 rfl [2] λg=>?_;unfold fO fD;have U:(z code:Int)<=16384:=a7;have a:(d:Int)<=32768:=a7;have b:(0:Int)<=(d:Int):=a7;simp only[go_sem,j7,U,a,b]
def yq(h:aZ p=0):∀a∈p.a,0<=a.2/\a.2<=4096:=λa c=>by
 have b:=(Src.uq h).1;unfold Src.dP at b;simp only[s5,x9]at b;have:=b.2.1 a c;exact u6
def ON:∀l:List (Str×Int),(∀a∈l,0<=a.2/\a.2<=4096)->(l.map (·.2)).sum<=4096*(z l:Int):=by
 intro l
 induction l with
 |nil=>intro _;simp
 |cons a l b=>
   intro h;have:=b λx I=>h x YN;have:=h a a8;simp only[s6,D8,l4];omega
def WU(az:szP p<=150):Sm p:=by
 rw[jl]at az;refine⟨a7,a7,a7,λf a=>?_⟩;have:=kq a;rw[jl]at this;exact⟨⟨a7,a7⟩,a7⟩
def OO{o:cT}(p:Src.Prog)(I:Src.InP p)(m:Nat)(hm:m<=150):ck Tryz.prog 1 o 6 [cl p,ae (m:Nat)] (λr=>∃b,r=bv b/\(b=T->aZ p=0/\szP p<=m/\pE p=T)):=by
 refine hdG Tryz.func6 rfl [.tmp 4] λO bn s0 w0 g=>?_;have X:=Wt p I m a7;have bl:∀f∈p.f,Src.qY f.body:=λf hf=>(I.fs f hf).2.2;have H:=λh=>NH (o:=o) p h bl;have l:=λU h2 h3=>NI p U h2 h3;have j:=I.a;rw[bO]at X H l|-;simp only[go_sem];refine dv (λk K=>∃c:Int,K.f 2=aj 2 (K.gen 2) 0/\K.obj 2=S [aq (p.v.map λs=>[.str s]),aq (p.a.map arD),aq (p.f.map fnD)]/\K.f 1=ae (m:Nat)/\K.f 5=ae c/\K.f 6=ae k) (z p.a) ⟨0,?_⟩ ?_
 .exact gW
 rintro k f g1 av hk ⟨c,t,u,x,y,G⟩;simp only at t u x y G;have hw:=ah (k:=k) a7;by_cases Y:k<z p.a
 .have Q:(k:Int)<(z p.a:Int):=a7
  obtain⟨a,E⟩:=getq Y;have L:=getD_at (f:=arD) E;have A:arD a=[.str a.1,.int .i64 a.2]:=rfl;rw[A]at L;by_cases hn:200<a.2
  .simp only[go_sem,t,u,G,Q,j7,L,hn]
   exact⟨F,rfl,a8⟩
  .simp only[go_sem,t,u,y,G,Q,j7,L,hn,hw]
   refine bN Y ⟨IntKind.i64.wrap (c+a.2),?_⟩;simp only[go_sem,t,u,x]
 have Q:¬(k:Int)<(z p.a:Int):=a7;simp only[go_sem,t,u,x,G,Q,j7];refine jb aL rfl (by simp only[go_sem,t,u,x];exact X) (by simp only[go_sem,t,u,x];rfl) ?_;rintro _ rfl;cases i:Src.Ws p m
 .simp only[go_sem,y]
  exact⟨F,rfl,a8⟩
 have az:szP p<=m:=by have:=Src.XT (d:=m) i;rw[jl];omega
 by_cases Z:c<=200
 case neg=>
  simp only[go_sem,y,Z];exact⟨F,rfl,a8⟩
 simp only[go_sem,t,u,y,Z];refine kc aL (λs β ds w h=>h.1.2) rfl (by simp only[go_sem,t,u];exact H (WU a7)) (by simp only[go_sem,t,u];rfl) ?_;rintro _ rfl;by_cases E:aZ p=0
 case neg=>
  have e:¬(aZ p:Int)=0:=a7;simp only[go_sem,e];exact⟨F,rfl,a8⟩
 have q:=yq E;have bd:=ON p.a q;have cu:z p.a<=150:=by rw[jl]at az;omega
 have l:=l a7 (λa ha=>(q a ha).1) a7;simp only[go_sem,t,u,E];refine jb aL rfl (by simp only[go_sem,t,u];exact l) (by simp only[go_sem,t,u];rfl) ?_;rintro _ rfl;simp only[go_sem];exact⟨_,rfl,λh=>⟨E,az,h⟩⟩
end
end
end Go.Proofs.YtlacbjnmkhndiaaGreatDoor.Low
namespace Go.Am
section
section
section
variable{P:Program}{t:TypeId}{ds:List D}
def fZ.inv_bool(h:fZ P t ds)(L:P.underlying t=S .bool):∃b,ds=[.bool b]:=by
 cases h with
 |bool _ b=>exact⟨b,rfl⟩
 |int p=>rw[L]at p;cases p
 |str p=>rw[L]at p;cases p
 |sl p=>rw[L]at p;cases p
 |struct p=>rw[L]at p;cases p
 |array p=>rw[L]at p;cases p
def fZ.inv_int{k:IntKind}(h:fZ P t ds)(L:P.underlying t=S (.int k)):∃m,ds=[.int k m]/\(Lit.int k m).wf=T:=by
 cases h with
 |int p m hw=>rw[L]at p;cases p;exact⟨m,rfl,hw⟩
 |bool p=>rw[L]at p;cases p
 |str p=>rw[L]at p;cases p
 |sl p=>rw[L]at p;cases p
 |struct p=>rw[L]at p;cases p
 |array p=>rw[L]at p;cases p
def fZ.inv_str(h:fZ P t ds)(L:P.underlying t=S .string):∃s,ds=[.str s]/\z s<=reachBytes:=by
 cases h with
 |str _ s hl=>exact⟨s,rfl,hl⟩
 |bool p=>rw[L]at p;cases p
 |int p=>rw[L]at p;cases p
 |sl p=>rw[L]at p;cases p
 |struct p=>rw[L]at p;cases p
 |array p=>rw[L]at p;cases p
def fZ.inv_sl{e:TypeId}(h:fZ P t ds)(L:P.underlying t=S (.slice e)):∃es,ds=[.sl es]/\z es*P.bytesOf e<=reachBytes/\∀x∈es,fZ P e x:=by
 cases h with
 |sl p es hl a=>rw[L]at p;cases p;exact⟨es,rfl,hl,a⟩
 |bool p=>rw[L]at p;cases p
 |int p=>rw[L]at p;cases p
 |str p=>rw[L]at p;cases p
 |struct p=>rw[L]at p;cases p
 |array p=>rw[L]at p;cases p
def fZ.inv_struct{fs:Array Field}(h:fZ P t ds)(L:P.underlying t=S (.struct fs)):∃o:List (List D),ds=o.flatten/\z o=z fs.toList/\∀(i:Nat)(f:Field)(x:List D),fs.toList[i]?=S f->o[i]?=S x->fZ P f.type x:=by
 cases h with
 |struct p o hl a=>rw[L]at p;cases p;exact⟨o,rfl,hl,a⟩
 |bool p=>rw[L]at p;cases p
 |int p=>rw[L]at p;cases p
 |str p=>rw[L]at p;cases p
 |sl p=>rw[L]at p;cases p
 |array p=>rw[L]at p;cases p
def pR{A β:Type}{f:β->A}{Q:β->Prop}:∀{l:List A},(∀x∈l,∃y,x=f y/\Q y)->∃m:List β,l=m.map f/\∀y∈m,Q y
 |[],_=>⟨[],rfl,λ_ h=>by cases h⟩
 |x::l,h=>by
   obtain⟨y,rfl,b⟩:=h x a8;obtain⟨m,rfl,c⟩:=pR (l:=l) λx I=>h x YN
   exact⟨y::m,rfl,λX a=>by
    rcases A0.1 a with rfl|a
    .exact b
    .exact c X a⟩
end
end
end
end Go.Am
namespace Go.Proofs.YtlacbjnmkhndiaaGreatDoor
section
open Go Go.Am Go.ChangeShapes Go.WideShapes Go.ChangeAt Go.RowKit Go.Lib
def own:ownKnob Tryz.prog.godebug=N:=j0
def laidOut:laidOutB Tryz.prog=T:=j0
def yr:List (String×DataW Unit):=[("seedcorn/token.words",Rows.laid_seedcorn_token_words),("seedcorn/token.signs",Rows.laid_seedcorn_token_signs)]
def Lf:reachBytes=140737488351232:=j0
def u9:Tryz.prog.underlying 9=S .string:=j0
def u4:Tryz.prog.underlying 4=S .bool:=j0
def u3:Tryz.prog.underlying 3=S (.int .i64):=j0
def u39:Tryz.prog.underlying 39=S (.int .u32):=j0
def u5:Tryz.prog.underlying 5=S (.int .u8):=j0
def tys:List TypeId:=[3,4,5,9,22,23,24,26,39,40,42,43,45,47,57]
def nO:uJ Tryz.prog tys=T:=j0
def qC{H:Type}{enc:TypeId×Value->H}{P:Program}{w:World}{base:Nat}{sp:Nat->Bool}{A:Bool}{q:Nat}{t e:TypeId}{n:Nat}{cs:List Value}{f:List (List UInt8)}{p:List MemPlace}
 (l:P.underlying t=S (.array n e))(m:P.underlying e=S .string)(c:P.cellsOf e=1)(a:P.cellsOf t=n)
 (h:DataW.trod enc P w base sp A q t cs=S (DataW.agg (f.map λX=>.lit (.string X)),p)):∀(i:Nat)X,f[i]?=S X->cs[i]?=S (.string ⟨X.toArray⟩):=by
 cases q with
 |zero=>simp[DataW.trod]at h
 |succ q=>
   simp only[DataW.trod,l,c,a,L8]at h;split at h
   .obtain⟨d,g,I⟩:=G5.1 h
    have r:d.map (·.1)=f.map λX=>(DataW.lit (.string X):DataW H):=by
     have:=congrArg Prod.fst I;exact Vt
    have x:z d=n:=by simpa using mapM_length g
    have bl:z f=n:=by
     have:=congrArg z r;simp at this;omega
    intro i X j
    have o:i<n:=by
     have:=(l6.1 j).1;omega
    obtain⟨b,u,v⟩:=mapM_at g i i (by simp[o]);obtain⟨s,Z,rfl,_⟩:=DataW.trod_string m v
    have U:cs[i]?=S (.string s):=by
     have:=congrArg (·[0]?) Z;simpa[I4,H5]using this
    have k:(d.map (·.1))[i]?=S (DataW.lit (.string s.data.toList):DataW H):=by simp[u]
    rw[r,w9,j]at k;have y:X=s.data.toList:=by simpa using k
    rw[U,y]
   .cases h
def Hf{W:World}(h:laidMetH Tryz.prog yr W):∃o,uB 1 o W/\kN o:=by
 rw[MakeChecks.laidMetH_plain _ _ _ j0]at h
 have a:∀(i:Nat)X,Src.jm[i]?=S X->W.cell? ⟨1,i,N⟩=S (.string ⟨X.toArray⟩):=by
  obtain⟨g,t,r,q,p,e,bl,l,hd⟩:=laidMet.reads h (n:= "seedcorn/token.words") (d:=Rows.laid_seedcorn_token_words) (by simp[yr]);obtain rfl:=H0 ((show Tryz.prog.globalNamed "seedcorn/token.words" = S 1 by kernel_rfl).symm.trans e);obtain rfl:=H0 ((show (Tryz.prog.globals[1]?).map (·.type)=S 283 by kernel_rfl).symm.trans bl);intro i X j;have Z:=qC (H:=Unit) (f:=Src.jm) (show Tryz.prog.underlying 283=S (.array 10 9) by kernel_rfl) u9 j0 j0 hd i X j;rw[World.var?_cell e l i,<-I8];exact Z
 have c:∀(i:Nat)X,Src.Ss[i]?=S X->W.cell? ⟨0,i,N⟩=S (.string ⟨X.toArray⟩):=by
  obtain⟨g,t,r,q,p,e,bl,l,hd⟩:=laidMet.reads h (n:= "seedcorn/token.signs") (d:=Rows.laid_seedcorn_token_signs) (by simp[yr]);obtain rfl:=H0 ((show Tryz.prog.globalNamed "seedcorn/token.signs" = S 0 by kernel_rfl).symm.trans e);obtain rfl:=H0 ((show (Tryz.prog.globals[0]?).map (·.type)=S 275 by kernel_rfl).symm.trans bl);intro i X j;have Z:=qC (H:=Unit) (f:=Src.Ss) (show Tryz.prog.underlying 275=S (.array 24 9) by kernel_rfl) u9 j0 j0 hd i X j;rw[World.var?_cell e l i,<-I8];exact Z
 have s:=a 0 _ rfl
 have u:1<W.heap.size:=by
  refine Nat.lt_of_not_le λv=>?_;simp[World.cell?,LQ v]at s
 refine⟨λb=>W.heap[b]?,⟨u,λ_ _=>rfl⟩,λw m=>⟨λi t k=>?_,λi t k=>?_⟩⟩
 .rw[<-a i t k]
  unfold World.cell?;rw[show w.heap[1]?=W.heap[1]? from m.2 1 b9]
 .rw[<-c i t k]
  unfold World.cell?;rw[show w.heap[0]?=W.heap[0]? from m.2 0 b9]
end
section
open Go Go.Am Go.Asm
open Go.Src (Ex Stm inE rV inS qY)
section
def SG{v:Value}{cs:List Value}{n:Nat}(h:v.cells.toList=cs)(hl:z cs=n+2):v=.agg cs.toArray:=by
 subst h;cases v with
 |agg vs=>simp[Value.cells]
 |_=>simp[Value.cells]at hl
def u49:Tryz.prog.underlying 40=S (.slice 42):=j0
def u51:Tryz.prog.underlying 42=S (Tt 42).desc:=j0
def u52:Tryz.prog.underlying 43=S (.slice 45):=j0
def u54:Tryz.prog.underlying 45=S (Tt 45).desc:=j0
def u22:Tryz.prog.underlying 22=S (.slice 9):=j0
def u23:Tryz.prog.underlying 23=S (.slice 57):=j0
def u65:Tryz.prog.underlying 57=S (Tt 57).desc:=j0
def u24:Tryz.prog.underlying 24=S (.slice 47):=j0
def u56:Tryz.prog.underlying 47=S (Tt 47).desc:=j0
def u26:Tryz.prog.underlying 26=S (Tt 26).desc:=j0
def wS{n b:Nat}(h:n*b<=reachBytes)(a:Nat.ble 1 b=T):n<=1000000000000000000:=by
 have U:=J9 a;have c:n<=n*b:=U1 _ U;rw[Lf]at h;omega
def Fs:∀{l:List Ex},(∀e∈l,inE e/\Src.Gj e)->rV l/\Src.vN l
 |[],_=>⟨trivial,trivial⟩
 |e::l,h=>by
   have U:=h e a8;have a:=Fs (l:=l) λx I=>h x YN;exact⟨⟨U.1,a.1⟩,U.2,a.2⟩
def Ft:∀{l:List Stm},(∀e∈l,inS e/\Src.Gk e)->qY l/\Src.ua l
 |[],_=>⟨trivial,trivial⟩
 |e::l,h=>by
   have U:=h e a8;have a:=Ft (l:=l) λx I=>h x YN;exact⟨⟨U.1,a.1⟩,U.2,a.2⟩
def SH{m:Int}(h:(Lit.int .u32 m).wf=T):0<=m/\m<4294967296:=by
 simp only[Lit.wf,s5,B4]at h;have a:IntKind.u32.min=0:=rfl;have b:IntKind.u32.max=4294967295:=rfl;omega
def five{A:Type}{l:List A}(h:z l=5):∃a b c d e,l=[a,b,c,d,e]:=by
 match l,h with
 |[a,b,c,d,e],_=>exact⟨a,b,c,d,e,rfl⟩
variable{ds:List D}
def SI{t:TypeId}(h:fZ Tryz.prog t ds):(t=42->∃e,ds=exD e/\inE e/\Src.Gj e)/\(t=40->∃l:List Ex,ds=[.sl (l.map exD)]/\z l<=1000000000000000000/\rV l/\Src.vN l):=by
 induction h with
 |bool hu=>exact⟨λe=>YP,λe=>YQ⟩
 |int hu=>exact⟨λe=>YP,λe=>YQ⟩
 |str hu=>exact⟨λe=>YP,λe=>YQ⟩
 |array hu=>exact⟨λe=>YP,λe=>YQ⟩
 |sl hu es hl h g=>
   refine⟨λe=>YP,λe=>?_⟩;subst e;rw[u49]at hu;cases hu;obtain⟨l,rfl,i⟩:=pR (f:=exD) (Q:=λe=>inE e/\Src.Gj e) λx I=>(g x I).1 rfl;rw[j7]at hl;obtain⟨a,b⟩:=Fs i;exact⟨l,rfl,wS hl j0,a,b⟩
 |struct hu parts hl h g=>
   refine⟨λe=>?_,λe=>YQ⟩;subst e;rw[u51]at hu;cases hu;obtain⟨a,b,c,d,e,rfl⟩:=five hl;obtain⟨j,rfl,_⟩:=(h 0 _ a rfl rfl).inv_int u3;obtain⟨k,rfl,_⟩:=(h 1 _ b rfl rfl).inv_int u3;obtain⟨m,rfl,n⟩:=(h 2 _ c rfl rfl).inv_int u39;obtain⟨o,rfl,_⟩:=(h 3 _ d rfl rfl).inv_str u9;obtain⟨l,rfl,U,p,q⟩:=(g 4 _ e rfl rfl).2 rfl;exact⟨.mk j k m o l,by simp[exD,aV],⟨U,p⟩,SH n,q⟩
def SJ{t:TypeId}(h:fZ Tryz.prog t ds):(t=45->∃e,ds=smD e/\inS e/\Src.Gk e)/\(t=43->∃l:List Stm,ds=[.sl (l.map smD)]/\z l<=1000000000000000000/\qY l/\Src.ua l):=by
 induction h with
 |bool hu=>exact⟨λe=>YR,λe=>YS⟩
 |int hu=>exact⟨λe=>YR,λe=>YS⟩
 |str hu=>exact⟨λe=>YR,λe=>YS⟩
 |array hu=>exact⟨λe=>YR,λe=>YS⟩
 |sl hu es hl h g=>
   refine⟨λe=>YR,λe=>?_⟩;subst e;rw[u52]at hu;cases hu;obtain⟨l,rfl,i⟩:=pR (f:=smD) (Q:=λe=>inS e/\Src.Gk e) λx I=>(g x I).1 rfl;rw[j7]at hl;obtain⟨a,b⟩:=Ft i;exact⟨l,rfl,wS hl j0,a,b⟩
 |struct hu parts hl h g=>
   refine⟨λe=>?_,λe=>YS⟩;subst e;rw[u54]at hu;cases hu;obtain⟨a,b,c,d,e,rfl⟩:=five hl;obtain⟨j,rfl,_⟩:=(h 0 _ a rfl rfl).inv_int u3;obtain⟨k,rfl,_⟩:=(h 1 _ b rfl rfl).inv_str u9;obtain⟨l,rfl,U,m,n⟩:=(SI (h 2 _ c rfl rfl)).2 rfl;obtain⟨l1,rfl,o,p,q⟩:=(g 3 _ d rfl rfl).2 rfl;obtain⟨l2,rfl,r,s,u⟩:=(g 4 _ e rfl rfl).2 rfl;exact⟨.mk j k l l1 l2,by simp[smD,aV,ez],⟨⟨U,m⟩,⟨o,p⟩,r,s⟩,n,q,u⟩
def wT(h:fZ Tryz.prog 22 ds):∃l:List Str,ds=[.sl (l.map λs=>[.str s])]/\z l<=1000000000000000000:=by
 obtain⟨b,rfl,hl,a⟩:=h.inv_sl u22
 obtain⟨l,rfl,_⟩:=pR (f:=λs:Str=>[D.str s]) (Q:=λ_=>True) λx I=>by
  obtain⟨s,rfl,_⟩:=(a x I).inv_str u9;exact⟨s,rfl,trivial⟩
 rw[j7]at hl;exact⟨l,rfl,wS hl j0⟩
def Zy(f:Src.Fn):Prop:=((z f.p<=1000000000000000000/\z f.l<=1000000000000000000)/\z f.body<=1000000000000000000/\qY f.body)/\Src.ua f.body
def SK(h:fZ Tryz.prog 47 ds):∃f,ds=fnD f/\Zy f:=by
 obtain⟨o,rfl,hl,g⟩:=h.inv_struct u56;obtain⟨a,b,c,d,e,rfl⟩:=five hl;obtain⟨i,rfl,_⟩:=(g 0 _ a rfl rfl).inv_str u9;obtain⟨l1,rfl,U⟩:=wT (g 1 _ b rfl rfl);obtain⟨l2,rfl,j⟩:=wT (g 2 _ c rfl rfl);obtain⟨w,rfl⟩:=(g 3 _ d rfl rfl).inv_bool u4;obtain⟨y,rfl,k,l,m⟩:=(SJ (g 4 _ e rfl rfl)).2 rfl;exact⟨⟨i,l1,l2,w,y⟩,rfl,⟨⟨U,j⟩,k,l⟩,m⟩
def SL(h:fZ Tryz.prog 57 ds):∃a,ds=arD a/\True:=by
 obtain⟨o,rfl,hl,c⟩:=h.inv_struct u65
 obtain⟨a,b,rfl⟩:∃a b,o=[a,b]:=by
  match o,hl with
  |[a,b],_=>exact⟨a,b,rfl⟩
 obtain⟨d,rfl,_⟩:=(c 0 _ a rfl rfl).inv_str u9;obtain⟨e,rfl,_⟩:=(c 1 _ b rfl rfl).inv_int u3;exact⟨(d,e),rfl,trivial⟩
def Lg(h:fZ Tryz.prog 26 ds):∃p,ds=jt p/\Src.InP p/\Src.vO p:=by
 obtain⟨o,rfl,hl,g⟩:=h.inv_struct u26
 obtain⟨a,b,c,rfl⟩:∃a b c,o=[a,b,c]:=by
  match o,hl with
  |[a,b,c],_=>exact⟨a,b,c,rfl⟩
 obtain⟨l1,rfl,U⟩:=wT (g 0 _ a rfl rfl);obtain⟨m,rfl,j,d⟩:=(show fZ Tryz.prog 23 b from g 1 _ b rfl rfl).inv_sl u23;obtain⟨n,rfl,k,e⟩:=(show fZ Tryz.prog 24 c from g 2 _ c rfl rfl).inv_sl u24;obtain⟨l2,rfl,_⟩:=pR λx I=>SL (d x I);obtain⟨y,rfl,l⟩:=pR λx I=>SK (e x I);rw[j7]at j k;exact⟨⟨l1,l2,y⟩,rfl,⟨U,wS j j0,wS k j0,λf i=>(l f i).1⟩,λf i=>(l f i).2⟩
end
end
section
open Go Go.Am
def Zz:List FuncId:=[4,5,11,30,53,54,83,146,84,85,147,82,86,87,148,188,201,202,210,212,211,213,203,204,52,80,142,181,143,144,145,182,183,184,185,187,186,189,81,55,88,89,149,90,150,190,151,191,31,7,18,43,68,103,163,104,164,106,107,105,165,166,69,108,167,168,173,197,169,170,171,109,172,110,44,45,70,71,19,20,22,49,77,139,175,176,198,140,177,199,78,21,46,72,111,112,113,114,174,115,47,73,116,117,74,118,119,120,121,122,123,124,125,126,127,128,129,130,131,132,133,134,75,135,48,76,136,137,138,32,33,56,57,12,34,14,13,36,35,58,91,152,192,205,206,207,92,153,154,155,156,193,208,209,194,195,6,15,37,38,59,16,39,60,61,93,94,157,159,158,160,62,95,161,196,40,63,25,96,29,26,27,51,97,64,41,65,98,99,66,100,162,101,17,42,67,102,10,28,8,9,23,50,79,141,178,180,179,200,24]
def clo:Tryz.prog.closure 4=Zz:=j0
def Lh:Tryz.prog.unfollowed 4=T:=by
 unfold Program.unfollowed;rw[clo]
 kernel_rfl
def WV:Tryz.prog.recurses 4=T:=by
 unfold Program.recurses;rw[Lh];rfl
def WW:(Rows.stackcIdleRow.inPlace==Tryz.prog.inPlace 4)=T:=by
 unfold Program.inPlace;rw[clo]
 kernel_rfl
def WX:(Rows.stackcIdleRow.named==Tryz.prog.varsNamed 4)=T:=by
 unfold Program.varsNamed;rw[clo]
 kernel_rfl
def SM:Tryz.prog.goes 4=F:=by
 unfold Program.goes;rw[clo,Lh]
 kernel_rfl
def OP:joinedFacts Tryz.prog 4 Tryz.f4 Rows.stackcIdleSpec Rows.stackcIdleRow=T:=by
 unfold joinedFacts;rw[WW,WX,Lh,WV]
 kernel_rfl
def Li:F=Rows.stackcIdleRow.goesBy Tryz.prog:=by
 unfold OpenClaim.goesBy Program.goesAt Program.goesFrom;rw[show Tryz.prog.funcNamed Rows.stackcIdleRow.func=S 4 by kernel_rfl];simp only[U8,SM,T6];rfl
end
section
open Go Go.Am Go.Asm
attribute[local congr]ite_cc
section
abbrev dec(n:Nat):Str:=Lib.decDigits n
variable{n:Nat}
def sg(h:¬n<10):dec n=dec (n/10)++[UInt8.ofNat (48+n%10)]:=by
 show Lib.decDigits n=_;rw[Lib.decDigits,dif_neg h]
def lQ(h:n<10):dec n=[UInt8.ofNat (48+n)]:=by
 show Lib.decDigits n=_;rw[Lib.decDigits,dif_pos h]
def Fh(h:n<18446744073709551616):z (dec n)<=20:=by
 show z (Lib.decDigits n)<=20;rw[Lib.decDigits_length];by_cases a:n=0
 .subst a;rw[Lib.nDigits_small a7];omega
 .have:=Lib.numDigits_eq n a7 h
  split at this<;>omega
def Oe(n:Nat)(hn:n<4294967296):aJ Tryz.prog 28 [iv .u32 n] (·=sv (dec n)):=by
 refine hdP Tryz.func28 rfl [2] λg=>?_;simp only[go_sem];refine eM (λk K=>∃(t:Str),k<4294967296/\dec n=dec k++t/\K.f 0=iv .u32 k/\K.f 3=sv t) n ?_ ?_
 .refine⟨[],hn,?_⟩
  simp only[go_sem,s9]
 rintro k f p q ⟨t,r,b,d,e⟩;simp only at d e
 have s:z t<=20:=by
  have U:=congrArg z b;rw[j8]at U;have u:=Fh (n:=n) a7;omega
 have a:∀x:Nat,x<10->IntKind.u32.wrap (48+(x:Int))=((48+x:Nat):Int):=λx I=>by rw[IntKind.wrap_u32];omega
 have j:∀x:Nat,x<10->IntKind.u8.wrap ((48+x:Nat):Int)=((48+x:Nat):Int):=λx I=>by rw[IntKind.wrap_u8];omega
 by_cases hb:9<k
 .have i:(9:Int)<(k:Int):=a7
  have l:((k:Nat):Int).tmod 10=((k%10:Nat):Int):=rfl;have hd:((k:Nat):Int).tdiv 10=((k/10:Nat):Int):=rfl;have o:=Se (n:=k%10) a7;have w:=Se (n:=k/10) a7;simp only[go_sem,d,e,i,l,hd,o,w,a (k%10) a7,j (k%10) a7];refine⟨a7,cQ (k/10) a7 ⟨UInt8.ofNat (48+k%10)::t,a7,?_⟩⟩;simp only[go_sem];rw[b,sg a7,v7];rfl
 .have i:¬(9:Int)<(k:Int):=a7
  simp only[go_sem,d,e,i,a k a7,j k a7];refine⟨a7,?_⟩;rw[b,lQ a7];rfl
end
end
end Go.Proofs.YtlacbjnmkhndiaaGreatDoor
namespace Go.Src
section
open Go.Asm (Str)
section
def fh(s:Str)(w:Bool):Src.Fn:=⟨s,[[97]],[],w,[.mk 3 [] [.mk 2 0 0 [97] []] [] []]⟩
def cr(s:Str)(w:Bool)(p:Prog):Prog:=⟨p.v,p.a,fh s w::p.f⟩
def sh(x:Nat×Nat):Nat×Nat:=if x.1=4 then(4,x.2+1)else x
def upF(t:Option (Nat×Nat)):Option (Nat×Nat):=t.map sh
mutual
theorem KV{u v:Nat->Str->Nat->Bool}(h:∀k n a,u k n a=T->v k n a=T):∀e:Ex,okE u e=T->okE v e=T
 |.mk kind _ _ name kids,he=>by
   simp only[okE,s5]at he|-;refine⟨?_,tK h kids he.2⟩;have U:=he.1;split
   .rename_i b;rw[l9 b]at U;exact h _ _ _ U
   rename_i b;rw[j9 b]at U;split
   .rename_i b;rw[l9 b]at U;exact h _ _ _ U
   rename_i b;rw[j9 b]at U;split
   .rename_i b;rw[l9 b]at U;exact h _ _ _ U
   rfl
theorem tK{u v:Nat->Str->Nat->Bool}(h:∀k n a,u k n a=T->v k n a=T):∀l:List Ex,cL u l=T->cL v l=T
 |[],_=>by rw[cL]
 |e::l,he=>by
   simp only[cL,s5]at he|-;exact⟨KV h e he.1,tK h l he.2⟩
end
mutual
theorem KW{u v:Nat->Str->Nat->Bool}(h:∀k n a,u k n a=T->v k n a=T):∀s:Stm,okS u s=T->okS v s=T
 |.mk kind name e d el,c=>by
   simp only[okS,s5]at c|-;refine⟨⟨⟨?_,tK h e c.1.1.2⟩,lx h d c.1.2⟩,lx h el c.2⟩;have U:=c.1.1.1;split
   .rename_i b;rw[l9 b]at U;exact h _ _ _ U
   rename_i b;rw[j9 b]at U;split
   .rename_i b;rw[l9 b]at U;exact h _ _ _ U
   rename_i b;rw[j9 b]at U;split
   .rename_i b;rw[l9 b]at U;exact h _ _ _ U
   rfl
theorem lx{u v:Nat->Str->Nat->Bool}(h:∀k n a,u k n a=T->v k n a=T):∀l:List Stm,cW u l=T->cW v l=T
 |[],_=>by rw[cW]
 |s::l,b=>by
   simp only[cW,s5]at b|-;exact⟨KW h s b.1,lx h l b.2⟩
end
mutual
theorem OB{u v:Nat->Str->Nat->Bool}:∀e:Ex,okE u e=T->okE v e=T->okE (λk n a=>u k n a&&v k n a) e=T
 |.mk kind _ _ name kids,U,b=>by
   simp only[okE,s5]at U b|-;refine⟨?_,wO kids U.2 b.2⟩;split<;>simp_all;split<;>simp_all;by_cases c:kind=4<;>simp_all
theorem wO{u v:Nat->Str->Nat->Bool}:∀l:List Ex,cL u l=T->cL v l=T->cL (λk n a=>u k n a&&v k n a) l=T
 |[],_,_=>by rw[cL]
 |e::l,U,b=>by
   simp only[cL,s5]at U b|-;exact⟨OB e U.1 b.1,wO l U.2 b.2⟩
end
mutual
theorem OC{u v:Nat->Str->Nat->Bool}:∀s:Stm,okS u s=T->okS v s=T->okS (λk n a=>u k n a&&v k n a) s=T
 |.mk kind name e c el,U,b=>by
   simp only[okS,s5]at U b|-;refine⟨⟨⟨?_,wO e U.1.1.2 b.1.1.2⟩,sq c U.1.2 b.1.2⟩,sq el U.2 b.2⟩;split<;>simp_all;split<;>simp_all;by_cases d:kind=6<;>simp_all
theorem sq{u v:Nat->Str->Nat->Bool}:∀l:List Stm,cW u l=T->cW v l=T->cW (λk n a=>u k n a&&v k n a) l=T
 |[],_,_=>by rw[cW]
 |s::l,U,b=>by
   simp only[cW,s5]at U b|-;exact⟨OC s U.1 b.1,sq l U.2 b.2⟩
end
theorem ur(a:Nat×Nat->Nat×Nat)(s:Str):∀l:List Th,aH (l.map λt=>(t.1,a t.2)) s=(aH l s).map a
 |[]=>rfl
 |t::l=>by
   simp only[s6,aH,ur a s l];split<;>rfl
theorem ku{s:Str}:∀{l:List Th},aH l s=N↔s∉l.map (·.1)
 |[]=>by simp[aH]
 |t::l=>by
   simp only[aH,s6,A0];split
   .rename_i h;simp[h]
   .rename_i h;rw[ku];simp[B7 h]
theorem mj{A β b:Type}(f:Nat->A->β)(g:β->b)(l:List A):(l.mapIdx f).map g=l.mapIdx λi a=>g (f i a):=
 L0 λi=>by rw[w9,J3,J3];cases l[i]?<;>rfl
theorem KX(g:Src.Fn)(fs:List Src.Fn):thF (g::fs)=(g.name,4,0)::(thF fs).map λt=>(t.1,sh t.2):=by
 unfold thF;rw[M0,mj];rfl
theorem SB(vs:List Str):(thV vs).map (λt=>(t.1,sh t.2))=thV vs:=by
 unfold thV;rw[mj];rfl
theorem SC(vs:List (Str×Int)):(thA vs).map (λt=>(t.1,sh t.2))=thA vs:=by
 unfold thA;rw[mj];rfl
variable{s:Str}{f:Src.Fn}{fs:List Src.Fn}
section
variable{p:Prog}{d:Str}{w:Bool}
theorem uu(p:Prog)(d:Str)(w:Bool):aI (cr d w p)=(thV p.v++thA p.a)++(d,4,0)::(thF p.f).map λt=>(t.1,sh t.2):=by
 unfold aI;rw[show (cr d w p).f=fh d w::p.f from rfl,KX];rfl
theorem DK(b:s≠d):aH (aI (cr d w p)) s=upF (aH (aI p) s):=by
 rw[uu,jA,aH,j9 (B7 b)];unfold upF;rw[<-ur];unfold aI;rw[A8,A8,SB,SC,jA (thV p.v++thA p.a)]
theorem KY(f:Src.Fn)(s:Str):upF (aH (aM f) s)=aH (aM f) s:=by
 cases h:aH (aM f) s with
 |none=>rfl
 |some x=>
   have:=dF h;unfold aM at this;have a:x.1=1:=by rcases C1.1 this with h|h<;>exact(BP h).1
   unfold upF sh;simp[a]
theorem tL(a:s≠d):aR (aI (cr d w p)) (aM f) s=upF (aR (aI p) (aM f) s):=by
 unfold aR;rw[DK a];have:=KY f s;cases h:aH (aM f) s with
 |none=>rfl
 |some x=>rw[h]at this;exact this.symm
theorem ss:∀(l b:List Th),bD b l=T↔(∀t∈l,t.1∉b.map (·.1))/\(l.map (·.1)).Nodup
 |[],b=>by simp[bD]
 |t::l,b=>by
   simp only[bD,s5,Pa,ku,ss l (b++[t]),s6,L5,A8,C1,A0,x7,B3,F2,forall_eq_or_imp,Q2];constructor
   .rintro⟨U,d,g⟩
    refine⟨⟨U,λa c=>(d a c).1⟩,λh=>?_,g⟩;obtain⟨a,c,e⟩:=D6.1 h;exact(d a c).2 e
   .rintro⟨⟨U,d⟩,g,i⟩
    exact⟨U,λa c=>⟨d a c,λe=>g (D6.2 ⟨a,c,e⟩)⟩,i⟩
theorem BV(h:bD [] (aI p)=T)(j:aH (aI p) d=N):bD [] (aI (cr d w p))=T:=by
 rw[ss]at h|-;refine⟨λt _=>by simp,?_⟩;rw[ku]at j;have h:=h.2;have e:((thF p.f).map λt=>(t.1,sh t.2)).map (·.1)=(thF p.f).map (·.1):=by rw[Qf];rfl
 rw[uu,A8,s6,e];unfold aI at h j;rw[A8]at h j;rw[List.nodup_append]at h|-;simp only[C1,Q2]at j;refine⟨h.1,L5.2 ⟨j.2,h.2.1⟩,λa g b c=>?_⟩;rcases A0.1 c with rfl|c
 .intro e;subst e;exact j.1 g
 .exact h.2.2 a g b c
theorem lU{A:Type}{c:Nat->A->Bool}:∀{l:List A}{i:Nat},bt c i l=T↔∀k a,l[k]?=S a->c (i+k) a=T
 |[],i=>by simp[bt]
 |x::l,i=>by
   simp only[bt,s5,lU (l:=l)];constructor
   .rintro⟨U,d⟩ k a b
    cases k with
    |zero=>simp at b;subst b;exact U
    |succ k=>have:=d k a (by simpa using b);rwa [show i+1+k=i+(k+1) by omega]at this
   .intro h
    exact⟨h 0 x rfl,λk a b=>by have:=h (k+1) a (by simpa using b);rwa [show i+(k+1)=i+1+k by omega]at this⟩
theorem KZ{i k:Nat}(h:bb (aR (aI p) (aM f)) i k s=T)(g:s≠d):bb (aR (aI (cr d w p)) (aM f)) (i+1) k s=T:=by
 unfold bb at h|-;rw[tL g];cases c:aR (aI p) (aM f) s with
 |none=>rw[c]at h;cases h
 |some x=>
   rw[c]at h;obtain⟨a,b⟩:=x;unfold upF sh;simp only[A3]at h|-;by_cases e:a=4
   .subst e
    simp only[↓reduceIte]at h|-;split<;>simp_all
   .rw[j9 e]
    simp only at h|-;split<;>simp_all
theorem BW{i k:Nat}(h:bb (aR (aI p) (aM f)) i k s=T)(j:aR (aI p) (aM f) d=N):s≠d:=by
 rintro rfl;unfold bb at h;rw[j]at h;cases h
theorem SD{i k a:Nat}(h:eV (aR (aI p) (aM f)) p.f i k s a=T)(e:s≠d):eV (aR (aI (cr d w p)) (aM f)) (cr d w p).f (i+1) k s a=T:=by
 unfold eV at h|-;rw[tL e];cases g:aR (aI p) (aM f) s with
 |none=>rfl
 |some x=>
   rw[g]at h;obtain⟨b,c⟩:=x;unfold upF sh;simp only[A3]at h|-;by_cases hb:b=4
   .subst hb
    simp only[↓reduceIte]at h|-;by_cases Z:k=4/\c<i
    .rw[l9 ⟨Z.1,trivial,a7⟩,show (cr d w p).f[c+1]?=p.f[c]? from rfl]
     rwa [l9 ⟨Z.1,trivial,Z.2⟩]at h
    .rw[j9 a7]
   .rw[j9 hb]
    simp only;rw[j9 ZU]
def tM(p:Prog)(d:Str):Prop:=aH (aI p) d=N/\∀f∈p.f,aH (aM f) d=N
theorem rn(h:tM p d)(hf:f∈p.f):aR (aI p) (aM f) d=N:=by
 unfold aR;rw[h.2 f hf];exact h.1
theorem su(h:eZ p=0):bD [] (aI p)=T/\(∀k f,p.f[k]?=S f->fA p k f=T)/\∀f,p.f.getLast?=S f->(∀k f,p.f[k]?=S f->tG p k f=T)/\f.name=KS/\f.p=[]/\f.word=F:=by
 unfold eZ at h;split at h
 .cases h
 rename_i U;simp only[Qm,s5,lU]at U;refine⟨U.1,λk f a=>by simpa using U.2 k f a,λf c=>?_⟩;rw[c]at h;simp only at h;split at h
 .rename_i b
  refine⟨λk f a=>by simpa using(lU.1 b.1) k f a,b.2⟩
 .cases h
theorem DL(h:eZ p=0)(hf:tM p d)(hl:p.f≠[]):eZ (cr d w p)=0:=by
 obtain⟨U,g,i⟩:=su h
 have j:∀k f,p.f[k]?=S f->fA (cr d w p) (k+1) f=T:=λk f c=>by
  have:=g k f c;have e:=l7 c;unfold fA at this|-;simp only[s5]at this|-;exact⟨this.1,lx (λk n a I=>KZ I (BW I (rn hf e))) _ this.2⟩
 have m:fA (cr d w p) 0 (fh d w)=T:=by
  simp[fA,fh,aM,thL,bD,aH,cW,okS,cL,okE,bb,aR]
 have o:(bD [] (aI (cr d w p))&&bt (fA (cr d w p)) 0 (cr d w p).f)=T:=by
  rw[s5];refine⟨BV U hf.1,lU.2 λk f c=>?_⟩;cases k with
  |zero=>cases c;exact m
  |succ k=>rw[C5];exact j k f c
 unfold eZ;rw[j9 (by rw[o];simp)]
 have q:(cr d w p).f.getLast?=p.f.getLast?:=by
  show (fh d w::p.f).getLast?=_;cases r:p.f with
  |nil=>exact absurd r hl
  |cons a l=>rfl
 rw[q];cases t:p.f.getLast? with
 |none=>rfl
 |some f=>
   obtain⟨u,v⟩:=i f t
   have bs:bt (tG (cr d w p)) 0 (cr d w p).f=T:=by
    refine lU.2 λk f c=>?_;rw[C5];cases k with
    |zero=>
      cases c;simp[tG,fh,cW,okS,cL,okE,eV,aR,aM,thL,aH]
    |succ k=>
      have a:=g k f c;have b:=u k f c;have e:=l7 (show p.f[k]?=S f from c);unfold fA at a;unfold tG at b|-;simp only[s5]at a
      exact lx (λk n a I=>by
       simp only[s5]at I;exact SD I.2 (BW I.1 (rn hf e))) _ (sq _ a.2 b)
   exact l9 ⟨bs,v⟩
theorem uw(a:s≠d):bW (fh d w::fs) s=bW fs s:=by
 rw[bW];exact j9 (B7 a)
theorem sw(h:(bW fs s).isSome=T):s∈fs.map (·.name):=by
 induction fs with
 |nil=>cases h
 |cons f l a=>
   unfold bW at h;split at h
   .rename_i e;simp[e]
   .simp[a h]
section
variable{fs:List Src.Fn}(j:d∉fs.map (·.name))
include j
theorem wP(h:(bW fs s).isSome=T):fM (fh d w::fs) s=fM fs s:=by
 unfold fM;rw[uw];rintro rfl;exact j (sw h)
theorem ym(h:(bW fs s).isSome=T):(bW (fh d w::fs) s).isSome=T:=by
 rw[uw]
 .exact h
 rintro rfl;exact j (sw h)
mutual
theorem DM:∀e:Ex,fb fs e=T->dm (fh d w::fs) e=dm fs e/\fb (fh d w::fs) e=T
 |.mk kind op num name kids,h=>by
   simp only[fb,s5]at h;have b:=tN kids h.2;have U:=h.1;constructor
   .simp only[dm,b.1]
    split
    .rfl
    split
    .rfl
    split
    .rfl
    split
    .rename_i a;rw[l9 a]at U;rw[wP j U]
    .rfl
   .simp only[fb,s5]
    refine⟨?_,b.2⟩;split
    .rename_i a;rw[l9 a]at U;exact ym j U
    .rfl
theorem tN:∀l:List Ex,cj fs l=T->(∀t,cI (fh d w::fs) t l=cI fs t l)/\cj (fh d w::fs) l=T
 |[],_=>⟨λ_=>by rw[cI,cI],by rw[cj]⟩
 |e::l,h=>by
   simp only[cj,s5]at h;have a:=DM e h.1;have b:=tN l h.2;exact⟨λt=>by rw[cI,cI,a.1,b.1 t],by rw[cj,a.2,b.2];rfl⟩
end
mutual
theorem BX(v:Bool):∀s:Stm,jn fs s=T->gQ (fh d w::fs) v s=gQ fs v s/\jn (fh d w::fs) s=T
 |.mk kind name e i el,h=>by
   simp only[jn,s5]at h;have c:=tN (w:=w) j e h.1.2;have a:=jM v i h.2.1;have b:=jM v el h.2.2;have U:=h.1.1;constructor
   .simp only[gQ,c.1,a.1,b.1]
    by_cases g:kind=6
    .rw[l9 g]at U;rw[wP j U]
    .rw[beq_eq_false_iff_ne.2 g];rfl
   .simp only[jn,s5]
    refine⟨⟨?_,c.2⟩,a.2,b.2⟩;split
    .rename_i k;rw[l9 k]at U;exact ym j U
    .rfl
theorem jM(v:Bool):∀l:List Stm,bK fs l=T->aX (fh d w::fs) v l=aX fs v l/\bK (fh d w::fs) l=T
 |[],_=>⟨by rw[aX,aX],by rw[bK]⟩
 |s::l,h=>by
   simp only[bK,s5]at h;have a:=BX v s h.1;have b:=jM v l h.2;exact⟨by rw[aX,aX,a.1,b.1],by rw[bK,a.2,b.2];rfl⟩
end
end
theorem DN(h:mu p=0)(j:d∉p.f.map (·.name)):mu (cr d w p)=0:=by
 unfold mu at h|-;split at h
 .cases h
 rename_i U;split at h
 .cases h
 rename_i b;simp only[Qm,x9]at U b;have c:(cr d w p).f=fh d w::p.f:=rfl;rw[j9,j9]
 .simp only[Qm,x9,c,A0]
  rintro f (rfl|a)
  .simp[fh,aX,gQ,cI,dm]
  .rw[(jM j f.word f.body (U f a)).1];exact b f a
 .simp only[Qm,x9,c,A0]
  rintro f (rfl|a)
  .simp[fh,bK,jn,cj,fb]
  .exact(jM j f.word f.body (U f a)).2
theorem SE(h:aZ p=0)(hf:tM p d)(a:bg d=T)(hl:z p.f<=63):aZ (cr d w p)=0:=by
 obtain⟨U,b,c⟩:=uq h
 have g:p.f≠[]:=by
  unfold dP at U;simp only[s5,B4]at U;intro e;rw[e]at U;exact absurd U.1.1.1 a8
 have V:dP (cr d w p)=T:=by
  unfold dP at U|-;simp only[s5,B4,cr,l4,E9]at U|-;refine⟨⟨?_,U.1.2⟩,U.2.1,?_,U.2.2⟩
  .have:=U.1.1;simp;omega
  unfold fF fh;rw[a];rfl
 have k:=DL (w:=w) b hf g
 have j:d∉p.f.map (·.name):=by
  have:=ku.1 hf.1;unfold aI at this;rw[A8,C1,Q2]at this;have e:(thF p.f).map (·.1)=p.f.map (·.name):=by unfold thF;rw[mj];exact L0 λi=>by rw[w9,J3]
  rw[<-e];exact this.2
 unfold aZ;rw[j9 (by rw[V];simp),j9 (by rw[k];simp)];exact DN c j
end
end
end
end Go.Src
namespace Go.Mn
section
open Go.Asm (Str)
open Go.Src
section
section
variable{A β:Type}
def eF{r q:Rs A}{k a:A->Sg->Rs β}(h:r=q)(b:∀v G,k v G=a v G):r.bind k=q.bind a:=by
 subst h;cases r<;>simp[Rs.bind,b]
def OD{o:Option A}{k a:A->Rs β}(b:∀v,o=S v->k v=a v):need o k=need o a:=by
 cases o<;>simp[need];exact b _ rfl
def uV{fu:Nat}{G:Sg}{k a:Sg->Rs β}(b:∀G,k G=a G):tick fu G k=tick fu G a:=by unfold tick;simp only[b]
def yn{l:List A}{k b:A->Rs β}(c:∀a,l=[a]->k a=b a):l1 l k=l1 l b:=by
 match l with
 |[]=>rfl
 |[a]=>exact c a rfl
 |_::_::_=>rfl
def Fp{l:List A}{k c:A->A->Rs β}(d:∀a b,l=[a,b]->k a b=c a b):l2 l k=l2 l c:=by
 match l with
 |[]=>rfl
 |[_]=>rfl
 |[a,b]=>exact d a b rfl
 |_::_::_::_=>rfl
def SF{l:List A}{r:Rs β}{k b:A->Rs β}(c:∀a,l=[a]->k a=b a):l01 l r k=l01 l r b:=by
 match l with
 |[]=>rfl
 |[a]=>exact c a rfl
 |_::_::_=>rfl
end
def OE(t:Option (Nat×Nat))(L:List Nat)(G:Sg):CE (upF t) L G=CE t L G:=by
 cases t with
 |none=>rfl
 |some x=>
   exact x2
def OF(t:Option (Nat×Nat))(G:Sg)(j:Nat):CF (upF t) G j=CF t G j:=by
 cases t with
 |none=>rfl
 |some x=>
   exact x2
def OG(t:Option (Nat×Nat))(L:List Nat)(G:Sg)(v:Nat):CG (upF t) L G v=CG t L G v:=by
 cases t with
 |none=>rfl
 |some x=>
   exact x2
def Hc(t:Option (Nat×Nat))(L:List Nat)(G:Sg)(j v:Nat):qK (upF t) L G j v=qK t L G j v:=by
 cases t with
 |none=>rfl
 |some x=>
   exact x2
section
variable{p:Prog}{y:Str}{w:Bool}{inp:Str}{fu:Nat}
def Hd(f:Nat)(t:Option (Nat×Nat))(n:Nat)(b:Bool):ea (cr y w p) (f+1) (upF t) n b=(ea p f t n b).map (· + 1):=by
 cases t with
 |none=>rfl
 |some x=>
   obtain⟨a,g⟩:=x;by_cases h:a=4
   .subst h
    simp only[upF,sh,A3,↓reduceIte,ea];rw[show (cr y w p).f[g+1]?=p.f[g]? from rfl];by_cases Z:g<f/\(p.f[g]?).any (λfn=>fn.word==b&&z fn.p==n)=T
    .rw[l9 ⟨trivial,a7,Z.2⟩,l9 ⟨trivial,Z⟩];rfl
    .rw[j9 (λx=>Z ⟨a7,x.2.2⟩),j9 (λx=>Z x.2)];rfl
   .simp[upF,sh,h,ea]
def ux{β:Type}(f:Nat)(t:Option (Nat×Nat))(n:Nat)(a:Bool){k b:Nat->Rs β}(c:∀g,k (g+1)=b g):need (ea (cr y w p) (f+1) (upF t) n a) k=need (ea p f t n a) b:=by
 rw[Hd];cases ea p f t n a with
 |none=>rfl
 |some g=>exact c g
abbrev sx(p:Prog)(f:Nat):Nat->Str->Nat->Bool:=λ_ n _=>(aA p f n).isSome
def Fq(hf:tM p y)(f:Nat){s:Str}(h:(aA p f s).isSome=T):aA (cr y w p) (f+1) s=upF (aA p f s):=by
 unfold aA at h|-;rw[show (cr y w p).f[f+1]?=p.f[f]? from rfl];cases a:p.f[f]? with
 |none=>rfl
 |some fn=>
   rw[a]at h;simp only at h|-;refine tL ?_;rintro rfl;rw[rn hf (l7 a)]at h;cases h
def La(h:eZ p=0){f:Nat}{fn:Src.Fn}(b:p.f[f]?=S fn):cW (sx p f) fn.body=T:=by
 have:=(su h).2.1 f fn b;unfold fA at this;simp only[s5]at this;refine lx (λk n a I=>?_) _ this.2;unfold sx aA;rw[b];unfold bb at I;simp only;split at I
 .cases I
 .rename_i e;rw[e];rfl
def OH(hs:eZ p=0)(hf:tM p y):∀n:Nat,
  (∀f L G e,okE (sx p f) e=T->evE (cr y w p) (aA (cr y w p)) inp fu n (f+1) L G e=evE p (aA p) inp fu n f L G e)/\
  (∀f L G l,cL (sx p f) l=T->dq (cr y w p) (aA (cr y w p)) inp fu n (f+1) L G l=dq p (aA p) inp fu n f L G l)/\
  (∀f L G s,okS (sx p f) s=T->evS (cr y w p) (aA (cr y w p)) inp fu n (f+1) L G s=evS p (aA p) inp fu n f L G s)/\
  (∀f L G l,cW (sx p f) l=T->de (cr y w p) (aA (cr y w p)) inp fu n (f+1) L G l=de p (aA p) inp fu n f L G l)/\
  (∀f L G a l,okE (sx p f) a=T->cW (sx p f) l=T->evW (cr y w p) (aA (cr y w p)) inp fu n (f+1) L G a l=evW p (aA p) inp fu n f L G a l)/\
  (∀g vs G,evB (cr y w p) (aA (cr y w p)) inp fu n (g+1) vs G=evB p (aA p) inp fu n g vs G):=by
 intro n
 induction n with
 |zero=>exact⟨λ_ _ _ _ _=>by rw[evE,evE],λ_ _ _ _ _=>by rw[dq,dq],λ_ _ _ _ _=>by rw[evS,evS],λ_ _ _ _ _=>by rw[de,de],λ_ _ _ _ _ _ _=>by rw[evW,evW],λ_ _ _=>by rw[evB,evB]⟩
 |succ n ih=>
   obtain⟨c,m,u,k,q,t⟩:=ih;refine⟨?_,?_,?_,?_,?_,?_⟩
   .rintro f L G ⟨kind,op,num,name,O⟩ h
    simp only[okE,s5]at h;obtain⟨U,B⟩:=h;have b0:=λI=>Fq (w:=w) hf f (s:=name) I;have one:∀{a:Ex},O=[a]->okE (sx p f) a=T:=λe=>by rw[e]at B;simp only[cL,s5]at B;exact B.1
    have j:∀{a b:Ex},O=[a,b]->okE (sx p f) a=T/\okE (sx p f) b=T:=λe=>by rw[e]at B;simp only[cL,s5]at B;exact⟨B.1,B.2.1⟩
    rw[evE,evE];by_cases Q:kind=1
    .rw[l9 Q,l9 Q]
    rw[j9 Q,j9 Q];by_cases K:kind=2
    .rw[l9 K,l9 K,b0 (by rwa [l9 K]at U),OE]
    rw[j9 K]at U;rw[j9 K,j9 K];by_cases W:kind=3
    .rw[l9 W]at U
     rw[l9 W,l9 W,b0 U];exact yn λa J=>eF (c f L G a (one J)) λi H=>OF _ _ _
    rw[j9 W]at U;rw[j9 W,j9 W];by_cases X:kind=4
    .rw[l9 X]at U
     rw[l9 X,l9 X,b0 U];exact ux _ _ _ _ λg=>eF (m f L G O B) λvs H=>uV λa6=>t g vs a6
    rw[j9 X,j9 X];by_cases Z:kind=5
    .rw[l9 Z,l9 Z]
    rw[j9 Z,j9 Z];by_cases P:kind=6
    .rw[l9 P,l9 P]
     exact Fp λa b d=>eF (c f L G a (j d).1) λx H=>eF (c f L H b (j d).2) λ_ _=>rfl
    rw[j9 P,j9 P];by_cases Y:kind=7
    .rw[l9 Y,l9 Y]
     exact yn λa J=>eF (c f L G a (one J)) λ_ _=>rfl
    rw[j9 Y,j9 Y];by_cases k8:kind=8
    .rw[l9 k8,l9 k8]
     exact Xz
    rw[j9 k8,j9 k8];by_cases V:kind=9
    .rw[l9 V,l9 V]
     exact Xz
    rw[j9 V,j9 V]
   .intro f L G l h
    cases l with
    |nil=>rw[dq,dq]
    |cons a l=>
      simp only[cL,s5]at h;rw[dq,dq];exact eF (c f L G a h.1) λv H=>eF (m f L H l h.2) λ_ _=>rfl
   .rintro f L G ⟨kind,name,e,th,el⟩ h
    simp only[okS,s5]at h;obtain⟨⟨⟨U,B⟩,h3⟩,h4⟩:=h;have b0:=λI=>Fq (w:=w) hf f (s:=name) I;have one:∀{a:Ex},e=[a]->okE (sx p f) a=T:=λe'=>by rw[e']at B;simp only[cL,s5]at B;exact B.1
    have j:∀{a b:Ex},e=[a,b]->okE (sx p f) a=T/\okE (sx p f) b=T:=λe'=>by rw[e']at B;simp only[cL,s5]at B;exact⟨B.1,B.2.1⟩
    rw[evS,evS];by_cases Q:kind=1
    .rw[l9 Q]at U
     rw[l9 Q,l9 Q,b0 U];exact yn λa J=>eF (c f L G a (one J)) λv H=>OG _ _ _ _
    rw[j9 Q]at U;rw[j9 Q,j9 Q];by_cases K:kind=2
    .rw[l9 K]at U
     rw[l9 K,l9 K,b0 U];exact Fp λa b d=>eF (c f L G a (j d).1) λi H=>eF (c f L H b (j d).2) λv a6=>Hc _ _ _ _ _
    rw[j9 K]at U;rw[j9 K,j9 K];by_cases W:kind=3
    .rw[l9 W,l9 W]
     exact yn λa J=>eF (c f L G a (one J)) λ_ _=>rfl
    rw[j9 W,j9 W];by_cases X:kind=4
    .rw[l9 X,l9 X]
     refine yn λa J=>eF (c f L G a (one J)) λv H=>?_;rw[k f L H el h4,k f L H th h3]
    rw[j9 X,j9 X];by_cases Z:kind=5
    .rw[l9 Z,l9 Z]
     exact yn λa J=>uV λH=>q f L H a th (one J) h3
    rw[j9 Z,j9 Z];by_cases P:kind=6
    .rw[l9 P]at U
     rw[l9 P,l9 P,b0 U];exact ux _ _ _ _ λg=>eF (m f L G e B) λvs H=>uV λa6=>eF (t g vs a6) λ_ _=>rfl
    rw[j9 P,j9 P];by_cases Y:kind=7
    .rw[l9 Y,l9 Y]
     refine SF λa J=>?_;rw[show (cr y w p).f[f+1]?=p.f[f]? from rfl,c f L G a (one J)]
    rw[j9 Y,j9 Y]
   .intro f L G l h
    cases l with
    |nil=>rw[de,de]
    |cons s l=>
      simp only[cW,s5]at h;rw[de,de];refine eF (u f L G s h.1) λr H=>?_;cases r.2 with
      |some v=>rfl
      |none=>exact k f r.1 H l h.2
   .intro f L G a l J hl
    rw[evW,evW];refine eF (c f L G a J) λv H=>?_;split
    .rfl
    refine eF (k f L H l hl) λr a6=>?_;cases r.2 with
    |some v=>rfl
    |none=>exact uV λo=>q f r.1 o a l J hl
   .intro g vs G
    rw[evB,evB,show (cr y w p).f[g+1]?=p.f[g]? from rfl];refine OD λfn E=>?_;rw[k g _ G fn.body (La hs E)]
def WT(a:eZ p=0)(hf:tM p y)(hl:p.f≠[])(n:Nat):runN (cr y w p) inp fu n=runN p inp fu n:=by
 unfold runN;have h:=(OH (w:=w) (inp:=inp) (fu:=fu) a hf n).2.2.2.2.2 (z p.f-1) [] (start p)
 rw[<-h,show z (cr y w p).f-1=z p.f-1+1 from by
  have:0<z p.f:=N1.2 hl;show (z p.f+1)-1=_;omega]
 rfl
end
end
end
end Go.Mn
namespace Go.Proofs.YtlacbjnmkhndiaaGreatDoor
section
open Go Go.Am Go.Asm
open Go.Src (fP da aN gp aQ)
attribute[local congr]ite_cc
def yo:∀(k n:Nat),n<10^(k+1)->z (dec n)<=k+1
 |0,n,h=>by rw[lQ a7];simp
 |k+1,n,h=>by
   by_cases o:n<10
   .rw[lQ o];simp
   rw[sg o,j8,Q0];have:=yo k (n/10) (by rw[N5]at h;omega);omega
def qp{d:Nat}(h:d<10):digit (UInt8.ofNat (48+d))=T/\(UInt8.ofNat (48+d)).toNat=48+d:=by
 have:(UInt8.ofNat (48+d)).toNat=48+d:=by rw[M3];omega
 refine⟨?_,this⟩;unfold digit;rw[this];simp;omega
def OI(s:Str):Nat:=s.foldl (λa c=>10*a+(c.toNat-48)) 0
def BY(n:Nat):OI (dec n)=n:=by
 induction n using Nat.strongRecOn with
 |ind n a=>
   by_cases h:n<10
   .rw[lQ h]
    simp only[OI,G7,O8,(qp h).2];omega
   .rw[sg h]
    have:=a (n/10) a7;unfold OI at this|-;rw[OY,this];simp only[G7,O8,(qp (N3 n (by decide:0<10))).2];omega
def DO(n:Nat):(dec n).all digit=T:=by
 induction n using Nat.strongRecOn with
 |ind n a=>
   by_cases h:n<10
   .rw[lQ h];simp only[E9,Vn,(qp h).1,K8]
   .rw[sg h,G6,a (n/10) a7];simp only[E9,Vn,(qp (N3 n (by decide:0<10))).1,K8]
def Lb{n:Nat}(h:n<1000000000):Src.bg (113::dec n)=T:=by
 have hl:=yo 8 n h;have hd:=DO n
 have hC:∀l:Str,l.all digit=T->l.takeWhile eG=l:=by
  intro l
  induction l with
  |nil=>intro _;rfl
  |cons a l b=>
    intro hl;simp only[E9,s5]at hl;rw[I6,l9 (by unfold eG;simp[hl.1]),b hl.2]
 unfold Src.bg;refine C8 ⟨a8,by simp;omega,rfl,?_,?_⟩
 .rw[I6,l9 b9,hC _ hd]
 .unfold Src.jm
  simp
def yp{A:Type}[DecidableEq A]:∀(l G:List A),l.Nodup->(∀x∈l,x∈G)->z l<=z G
 |[],G,_,_=>L1 _
 |a::l,G,b,h=>by
   rw[L5]at b;have:=yp l (G.erase a) b.2 λx I=>(List.mem_erase_of_ne (λe=>by subst e;exact b.1 I)).2 (h x (O6 _ I));have c:=h a J2;rw[List.length_erase_of_mem c]at this;have:=List.length_pos_of_mem c;rw[l4];omega
def BZ{G:List Str}{k:Nat}(h:∀j,j<k->(113::dec j:Str)∈G):k<=z G:=by
 have:=yp ((List.range k).map λj=>(113::dec j:Str)) G (by
  refine List.Pairwise.map _ (λa b d e=>d ?_) List.nodup_range;have:=congrArg OI (List.cons.inj e).2
  rwa [BY,BY]at this) λx I=>by
   obtain⟨j,c,rfl⟩:=D6.1 I;exact h j (D4.1 c)
 exact Vt
def rp:∀(l:List Str)(k:Nat)(s:Str),aQ k l s<0↔s∉l
 |[],k,s=>by simp[aQ]
 |x::l,k,s=>by
   rw[aQ];split
   .rename_i e;simp[e]
   .rename_i e;rw[rp l (k+1) s];simp[B7 e]
def He(p:Src.Prog)(hv:z p.v<=1000000)(Z:z p.a<=1000000)(hf:z p.f<=1000000)(g:Nat->Nat)(ob:Obs):gY Tryz.prog 25 [cl p] g ob (λr g' Y=>r=dL 1006 (g' 1006) 1 0 (z (da p))/\Y 1006=S ((da p).map λw=>bF w)/\∀i,i<1000->g' i=g i/\Y i=ob i):=by
 refine hdF 1000 Tryz.func25 rfl [2] ?_;rw[bO];simp only[go_sem,kf,j7];refine⟨lM _,⟨b9,a7⟩,?_⟩;refine dv (λk K=>∃G:List Str,G++(p.a.drop k).map (·.1)++p.f.map (·.name)=da p/\z G=z p.v+k/\(∀i,i<1000->K.gen i=g i/\K.obj i=ob i)/\K.f 1=aj 1001 (K.gen 1001) 0/\K.obj 1001=S [aq (p.v.map λs=>[.str s]),aq (p.a.map arD),aq (p.f.map fnD)]/\K.f 3=dL 1006 (K.gen 1006) 1 0 (z G)/\K.obj 1006=S (G.map λw=>bF w)/\K.f 4=ae k) (z p.a) ⟨p.v,rfl,rfl,(λi e=>⟨by (try simp only[upd]);(repeat rw[j9 (by omega)]);first|done|rfl|exact(c i e).1,by (try simp only[upd]);(repeat rw[j9 (by omega)]);first|done|rfl|exact(c i e).2⟩),?_⟩ ?_
 .exact gW
 rintro k f O U L ⟨G,t,d,c,q1,o1,o,W,E⟩;simp only at c q1 o1 o W E;have H:=ah (k:=k) a7;by_cases u:k<z p.a
 .have Q:(k:Int)<(z p.a:Int):=a7
  obtain⟨a,x⟩:=getq u;have y:=getD_at (f:=arD) x;have A:arD a=[.str a.1,.int .i64 a.2]:=rfl;rw[A]at y;simp only[go_sem,q1,o1,o,W,E,Q,j7,y,H];refine⟨l8 _,⟨b9,a7⟩,bN u ⟨G++[a.1],?_,by simp;omega,(λi e=>⟨by (try simp only[upd]);(repeat rw[j9 (by omega)]);first|done|rfl|exact(c i e).1,by (try simp only[upd]);(repeat rw[j9 (by omega)]);first|done|rfl|exact(c i e).2⟩),?_⟩⟩
  .rw[<-t,dk x];simp
  .exact V7
 have Q:¬(k:Int)<(z p.a:Int):=a7;rw[y9 a7]at t;simp only[go_sem,q1,o1,o,E,Q,j7];refine dv (λk K=>∃G:List Str,G++(p.f.drop k).map (·.name)=da p/\z G<=2000000+k/\(∀i,i<1000->K.gen i=g i/\K.obj i=ob i)/\K.f 1=aj 1001 (K.gen 1001) 0/\K.obj 1001=S [aq (p.v.map λs=>[.str s]),aq (p.a.map arD),aq (p.f.map fnD)]/\K.f 3=dL 1006 (K.gen 1006) 1 0 (z G)/\K.obj 1006=S (G.map λw=>bF w)/\K.f 5=ae k) (z p.f) ⟨G,by rw[<-t];simp,a7,(λi e=>⟨by (try simp only[upd]);(repeat rw[j9 (by omega)]);first|done|rfl|exact(c i e).1,by (try simp only[upd]);(repeat rw[j9 (by omega)]);first|done|rfl|exact(c i e).2⟩),?_⟩ ?_
 .simp only[go_sem,q1,o1,o,W]
 clear q1 o1 o W E Q H u t d L c G;rintro k f O U L ⟨G,t,d,c,q1,o1,o,W,I⟩;simp only at c q1 o1 o W I;have H:=ah (k:=k) a7;by_cases u:k<z p.f
 .have Q:(k:Int)<(z p.f:Int):=a7
  obtain⟨fn,x⟩:=getq u;have y:=getD_at (f:=fnD) x;have X:fnD fn=[.str fn.name,.sl (fn.p.map λs=>[.str s]),.sl (fn.l.map λs=>[.str s]),.bool fn.word,.sl (fn.body.map smD)]:=rfl;rw[X]at y;simp only[go_sem,q1,o1,o,W,I,Q,j7,y,H];refine⟨l8 _,⟨b9,a7⟩,bN u ⟨G++[fn.name],?_,by simp;omega,(λi e=>⟨by (try simp only[upd]);(repeat rw[j9 (by omega)]);first|done|rfl|exact(c i e).1,by (try simp only[upd]);(repeat rw[j9 (by omega)]);first|done|rfl|exact(c i e).2⟩),?_⟩⟩
  .rw[<-t,dk x];simp
  .exact V7
 have Q:¬(k:Int)<(z p.f:Int):=a7;rw[y9 a7,x7,s9]at t;simp only[go_sem,q1,o1,o,I,Q,j7];exact⟨_,ai.refl _,by rw[<-t];exact⟨rfl,W,c⟩⟩
def OJ{o:cT}(p:Src.Prog)(hz:szP p<=150):ck Tryz.prog 1 o 10 [cl p] (λr=>∃n,n<1000000000/\r=sv (113::dec n)/\(113::dec n)∉da p/\∀f∈p.f,(113::dec n)∉fP f):=by
 have q:=hz;rw[jl]at q;have E:z (da p)<=150:=by unfold da;simp only[j8,j7];omega
 have A:∀f∈p.f,z (fP f)<=300/\(z f.p<=150/\z f.l<=150)/\aN f.body<=150:=λf hf=>by
  have:=kq hf;unfold fP;rw[j8];omega
 refine hdG Tryz.func10 rfl [.tmp 2] λO bn s0 w0 g=>?_;have V:=He p a7 a7 a7;rw[bO]at V|-;simp only[go_sem];refine dA aL rfl (by simp only[go_sem];exact V _ _) ?_;rintro _ g1 av ⟨rfl,W,c⟩;have e1:=c 1 b9;simp only[go_sem]at e1;obtain⟨eg,eo⟩:=e1;simp only[go_sem];refine dv (λk K=>∃G:List Str,(∀x∈da p,x∈G)/\(∀j fn,j<k->p.f[j]?=S fn->∀x∈fP fn,x∈G)/\z G<=150+450*k/\K.f 1=aj 1 (K.gen 1) 0/\K.obj 1=S [aq (p.v.map λs=>[.str s]),aq (p.a.map arD),aq (p.f.map fnD)]/\K.f 3=dL 1006 (K.gen 1006) 1 0 (z G)/\K.obj 1006=S (G.map λw=>bF w)/\K.f 4=ae k) (z p.f) ⟨da p,λ_ h=>h,λj fn h=>absurd h (Nat.not_lt_zero _),a7,?_⟩ ?_
 .simp only[go_sem,W,eo,eg]
 clear W eo eg c g1 av;rintro k f g1 av hk ⟨G,X,J,d,q1,o1,q3,W,q4⟩;simp only at q1 o1 q3 W q4;have hw:=ah (k:=k) a7;by_cases af:k<z p.f
 .have Q:(k:Int)<(z p.f:Int):=a7
  obtain⟨fn,hs⟩:=getq af;have hm:=A fn (l7 hs);have hg:=getD_at (f:=fnD) hs;have a6:fnD fn=[.str fn.name,.sl (fn.p.map λs=>[.str s]),.sl (fn.l.map λs=>[.str s]),.bool fn.word,.sl (fn.body.map smD)]:=rfl;have hN:=zu (o:=o) fn a7 a7;rw[tA]at hN;rw[a6]at hg;have hU:=Dp (o:=o) 150 fn.body a7 a7;have Y:=Src.wo fn.body;simp only[go_sem,q1,o1,q3,W,q4,Q,j7,hg];refine kc aL (λs β ds w h=>h.1.2) rfl (by simp only[go_sem,q1,o1,q4,hg];exact hN) (by simp only[go_sem,q1,o1,q4,hg];rfl) ?_;rintro _ rfl;unfold jy;simp only[go_sem,q1,o1,q3,W,q4,hg,j7,kf];refine⟨a7,lM _,⟨b9,a7⟩,?_⟩;refine kc aL (λs β ds w h=>h.1.2) rfl (by simp only[go_sem,q1,o1,q4,hg];exact hU) (by simp only[go_sem,q1,o1,q4,hg];rfl) ?_;rintro _ rfl;unfold qA;simp only[go_sem,q1,o1,q4];refine dv (λi K=>∃B:List Str,(∀x∈da p,x∈B)/\(∀j fn,j<k->p.f[j]?=S fn->∀x∈fP fn,x∈B)/\(∀x∈fP fn,x∈B)/\z B<=450+450*k+i/\K.f 1=aj 1 (K.gen 1) 0/\K.obj 1=S [aq (p.v.map λs=>[.str s]),aq (p.a.map arD),aq (p.f.map fnD)]/\K.f 3=dL 1006 (K.gen 1006) 1 0 (z B)/\K.obj 1006=S (B.map λw=>bF w)/\K.f 4=ae k/\K.f 5=.one (aq ((gp fn.body).map usD))/\K.f 6=ae i) (z (gp fn.body)) ⟨G++fP fn,λx I=>M8 _ (X x I),λj e hj b x I=>M8 _ (J j e hj b x I),λx I=>List.mem_append_right _ I,by rw[j8];omega,?_⟩ ?_
  .simp only[go_sem,q1,o1,q4,j8,A8]
   rw[s7 a8]
  clear q1 o1 q3 W q4 g1 av f;rintro i f g1 av hi ⟨B,U,h2,h3,h4,q1,o1,q3,W,q4,q5,q6⟩;simp only at q1 o1 q3 W q4 q5 q6;have P:=ah (k:=i) a7;by_cases H:i<z (gp fn.body)
  .have y:(i:Int)<(z (gp fn.body):Int):=a7
   obtain⟨u,L⟩:=getq H;have ad:=getD_at (f:=usD) L;have al:usD u=[.str u.1,.int .i64 u.2.1,.int .i64 u.2.2]:=rfl;rw[al]at ad;simp only[go_sem,q3,W,q5,q6,y,j7,ad,P];refine⟨l8 _,⟨b9,a7⟩,bN H ⟨B++[u.1],λx I=>M8 _ (U x I),λj e hj b x I=>M8 _ (h2 j e hj b x I),λx I=>M8 _ (h3 x I),by simp;omega,?_⟩⟩;simp only[go_sem,q1,o1,q4,q5,j8,A8];rw[s7 a8]
  have y:¬(i:Int)<(z (gp fn.body):Int):=a7;simp only[go_sem,q3,W,q4,q5,q6,y,j7,hw];refine bN af ⟨B,U,λj e hj b=>?_,a7,?_⟩
  .by_cases t:j<k
   .exact h2 j e t b
   .obtain rfl:j=k:=a7
    rw[hs]at b;cases b;exact h3
  .simp only[go_sem,q1,o1,q3,W]
 have Q:¬(k:Int)<(z p.f:Int):=a7;simp only[go_sem,q1,o1,q4,Q,j7];have ar:z G<=100000:=a7
 have bs:∀f∈p.f,∀x∈fP f,x∈G:=λf hf=>by
  obtain⟨j,hj⟩:=List.mem_iff_getElem?.1 hf;exact J j f (by have:=(l6.1 hj).1;omega) hj
 clear J d Q af hw q4 q1 o1;refine dv (λn K=>(∀j,j<n->(113::dec j:Str)∈G)/\K.f 3=dL 1006 (K.gen 1006) 1 0 (z G)/\K.obj 1006=S (G.map λw=>bF w)/\K.f 7=iv .u32 n) (z G) ⟨λj hj=>absurd hj (Nat.not_lt_zero _),?_⟩ ?_
 .simp only[go_sem,q3,W]
 clear q3 W g1 av f;rintro n f g1 av hn ⟨Z,q3,W,q7⟩;simp only at q3 W q7;have hT:=Oe n a7;have hP:=qe G (113::dec n) a7;have c7:=Fh (n:=n) a7;have hw:=Se (n:=n+1) a7;simp only[go_sem,q7];refine jb aL rfl (by simp only[go_sem,q7];exact hT) (by simp only[go_sem,q7];rfl) ?_;rintro _ rfl;simp only[go_sem,q3];refine⟨a7,?_⟩;refine Cq aL rfl (xs:=[jy G,sv (113::dec n)]) ?_ hP (by rintro _ rfl;rfl) ?_
 .simp only[go_sem,q3]
  exact⟨_,_,rfl,⟨_,pn rfl W rfl,rfl⟩,_,_,rfl,kM _,rfl⟩
 rintro _ rfl;by_cases hm:(113::dec n:Str)∈G
 .have hp:¬aQ 0 G (113::dec n)<0:=λh=>(rp G 0 _).1 h hm
  have m:∀j,j<n+1->(113::dec j:Str)∈G:=λj hj=>by
   by_cases an:j<n
   .exact Z j an
   .obtain rfl:j=n:=a7
    exact hm
  have a1:=BZ m;simp only[go_sem,q7,hp,hw];refine bN a7 ⟨m,?_⟩;simp only[go_sem,q3,W];exact hw
 .have hp:aQ 0 G (113::dec n)<0:=(rp G 0 _).2 hm
  simp only[go_sem,q7,hp];exact⟨n,a7,rfl,λh=>hm (X _ h),λf hf h=>hm (bs f hf _ h)⟩
end
end Go.Proofs.YtlacbjnmkhndiaaGreatDoor
namespace Go.Am
section
def Cz(p:Nat->Bool){s:St}{t:Nat}{cs:List C}{ds:List D}(H:s.f t=.agg cs)(hl:z ds=z cs)(hd:∀(j:Nat)(c:C)(x:D),cs[j]?=S c->ds[j]?=S x->iz (λi=>p i=T) s c x):
  ai s ⟨upd s.f t (.agg (ds.map .d)),s.gen,λi=>if p i=T then N else s.obj i⟩:=by
 intro O al o a w V
 have n:∀id,((if p id=T then N else s.obj id).isSome=T)->(s.obj id).isSome=T/\¬p id=T:=λid h=>by
  by_cases e:p id=T
  .rw[l9 e]at h;cases h
  .rw[j9 e]at h;exact⟨h,e⟩
 have q:fE O o s.gen s.obj w o s.gen (λi=>if p i=T then N else s.obj i) w:=
  ⟨λb v=>⟨⟨v.1,v.2.1,λid A U y=>v.2.2 id A (n id U).1 y⟩,rfl⟩,λ_=>l8 _,
   λid _ h=>⟨(n id h).1,rfl,λA _ arr el fr U=>⟨arr,el,fr,U,l8 _⟩⟩⟩
 refine⟨o,⟨V.defers,V.size,λi=>?_,λid l m=>?_,λB E J K U y=>V.inj B E J K (n B U).1 (n E y).1,V.base⟩,l8 _,λ_ _=>rfl,q,rfl,rfl⟩
 .simp only[upd]
  by_cases r:i=t
  .rw[l9 r]
   have U:=V.f i;rw[r,H]at U;rw[r];obtain⟨vs,P,az,Z⟩:=U;refine⟨vs,P,by rw[az,j7,hl],λj c g=>?_⟩;rw[w9]at g;cases I:ds[j]? with
   |none=>rw[I]at g;cases g
   |some x=>
     rw[I]at g;cases g;have c0:j<z cs:=by rw[<-hl];exact(l6.1 I).1
     obtain⟨u,L,k⟩:=Z j cs[j] (v8 c0);exact⟨u,L,iz.rep n V (hd j cs[j] x (v8 c0) I) k⟩
  .rw[j9 r]
   exact ak.keep q _ (V.f i)
 .simp only at m
  by_cases e:p id=T
  .rw[l9 e]at m;cases m
  .rw[j9 e]at m
   have:=V.obj id l m;cases G:o id with
   |none=>rw[G]at this;exact this
   |some Q=>
     rw[G]at this;exact dt.keep q this (λ_ _=>rfl)
def Ac{P:Nat->Prop}{s:St}{id g n:Nat}{cells:List C}{e:List D}(f:P id)(hg:s.gen id=g)(ho:s.obj id=S cells)(hl:z cells=n)(a:z e=n)(hf:∀(j:Nat)(c:C)(x:D),cells[j]?=S c->e[j]?=S x->iz P s c x):iz P s (.osl id g n 0 1) (.sl [e]):=by
 have b:[e].flatten=e:=a8
 have Z:∀(j:Nat)(x:D),[e].flatten[j]?=S x->cells[0+j]?=S ((cells[j]?).getD (.d .nsl)):=λj x I=>by
  rw[b]at I;have i:j<z cells:=by rw[hl,<-a];exact(l6.1 I).1
  rw[C5,v8 i];rfl
 refine .osl f hg ho a7 rfl (λl k=>by rw[E3.1 k];exact a) (λj=>(cells[j]?).getD (.d .nsl)) Z λj x I=>?_;have h:=Z j x I;rw[b]at I;rw[C5]at h;exact hf j _ x h I
end
end Go.Am
namespace Go.Proofs.YtlacbjnmkhndiaaGreatDoor.Low
section
open Go Go.Am Go.Asm Go.Mach
open Go.Src (aZ aN vO pE fh cr)
attribute[local congr]ite_cc
section
variable{p:Src.Prog}{s0:Str}
def OK{o:cT}{inp:Str}{fu:Nat}(H:z inp<=1000)(b3:fu<=1000)(h:aZ p=0)(hn:vO p)(az:szP p<=150){code:List Nat}{d:Nat}(hR:z code<=16384/\d<=32768)(ca:∀x∈code,x<4294967296)
 (bz:∀n,Mn.runN p inp fu n≠.no->(lN (Mn.runN p inp fu n)).1≠5->∀al,iw (lN (Mn.runN p inp fu n)).2.2 code d<=al->(BI okI code d inp al).1=(lN (Mn.runN p inp fu n)).1/\(BI okI code d inp al).2.1=(lN (Mn.runN p inp fu n)).2.1):
  ck Tryz.prog 1 o 9 [fO (code,d),cl p,sv inp,ae (fu:Nat)] (·=bv T):=by
 refine hdG Tryz.func9 rfl [.tmp 8] λO bn s0 w0 g=>?_;obtain⟨n,u⟩:=Mn.UA (inp:=inp) (fu:=fu) h hn;have q:=yq h
 have t:SmM p inp fu:=by
  have hz:=az;rw[jl]at hz;refine⟨a7,a7,a7,λf hf=>?_,a7,a7,λk=>?_⟩
  .have:=kq hf
   rw[jl]at this;exact⟨a7,a7,a7⟩
  .unfold alM
   cases hk:p.a[k]? with
   |none=>simp
   |some a=>
     have:=q a (l7 hk);simp only[A3,A6];omega
 have V:=Wu (o:=o) t (Src.uq h).1 u;have Y:=bz n u
 have an:(lN (Mn.runN p inp fu n)).2.2<=fu:=by
  have:=(Mn.QI (p:=p) (fd:=Mn.aA p) (inp:=inp) (fu:=fu) n).2.2.2.2.2 (z p.f-1) [] (Mn.start p) (L1 _);unfold Mn.runN at u|-;revert this u;cases Mn.evB p (Mn.aA p) inp fu n (z p.f-1) [] (Mn.start p)with
  |ok v G=>exact λ_ h=>h
  |en e G=>exact λ_ h=>h
  |no=>exact λh _=>absurd rfl h
 generalize lN (Mn.runN p inp fu n)=r at V Y an;obtain⟨e,out,tk⟩:=r;simp only at V Y an;unfold PX at V;have l:=F_A tk code d a7 a7 hR.2;have hE:=λhb=>Fi code d inp (iw tk code d) a7 ca hR.2 hb;rw[bO]at V|-;unfold fO fD at l hE|-;simp only[go_sem];refine cU rfl (by simp only[go_sem];exact V) ?_;rintro _ rfl;by_cases he:e=5
 .subst he
  exact gW
 have cc:¬(e:Int)=5:=a7;simp only[go_sem,cc];refine jd rfl (by simp only[go_sem];exact l) ?_;rintro _ rfl;simp only[go_sem];by_cases hb:iw tk code d<=2000000
 .have Z:¬(2000000:Int)<((iw tk code d:Nat):Int):=a7
  have hE:=hE a7;have bl:=λK=>OM e K tk out;obtain⟨b1,Q⟩:=Y he (iw tk code d) (l8 _);obtain⟨⟨e1,m,K⟩,w⟩:∃r,BI okI code d inp (iw tk code d)=r:=⟨_,rfl⟩
  rw[w]at b1 Q hE;simp only at b1 Q;subst b1 Q;refine cB aO mixed aL [] [([10],[],[],F),([22],[],[],F),([23],[],[],F),([4,24],[],[],F),([2,24],[],[],F),([10,24],[],[],F),([25,26,27,24],[],[],F),([9,24],[],[],F),([28,29,24],[],[],F),([24,30],[],[],F),([31],[],[],T)] 0 rfl c9 rfl b9 ?_;simp only[go_sem]
  iterate 6 (apply aw;(case hg=>first|exact y8|exact⟨_,rfl,by decide,rfl⟩);(case U=>intro W ga X I J;simp only[go_sem,Z]at J|-;exact J))
  unfold Oa at hE;refine aw (v:=.agg [ag (e1:Nat),bF m,ag (K:Nat)]) ⟨_,rfl,b9,rfl⟩ (λW ga X I J=>?_) ?_
  .simp only[go_sem]at J|-
   refine jd rfl Zf ?_;exact S3
  (apply aw;(case hg=>first|exact y8|exact⟨_,rfl,by decide,rfl⟩);(case U=>intro W ga X I J;simp only[go_sem]at J|-;exact J))
  refine aw (v:=bv T) ⟨_,rfl,b9,rfl⟩ (λW ga X I J=>?_) ?_
  .simp only[go_sem]at J|-
   refine jd rfl (by simp only[go_sem];exact bl K) ?_;exact S3
  (apply aw;(case hg=>first|exact y8|exact⟨_,rfl,by decide,rfl⟩);(case U=>intro W ga X I J;simp only[go_sem]at J|-;exact J))
  refine cC y8 ?_;intro I a';simp only[go_sem];refine a' _ ?_;clear a' I;exact gW
 have Z:(2000000:Int)<((iw tk code d:Nat):Int):=a7;refine sK aO mixed aL c9 c9 (λL s=>s.f 10=ae (iw tk code d:Nat)/\(L 0=T->s.f 22=ae (iw tk code d:Nat))/\(L 1=T->s.f 23=bv T)/\(L 2=T->s.f 24=bv T)/\(L 9=T->s.f 31=bv T)/\(L 10=T->s.f 8=bv T)) ?_ ?_ ?_
 .exact gW
 .rintro L ⟨fs,gs,y⟩ i o ⟨b,z0,z1,A,B,E⟩ ho hL c b8
  simp only at b z0 z1 A B E
  match i,ho with
  |0,ho=>
    simp only[y7,w8,u7,w7]at ho;subst ho;refine .inl ⟨trivial,?_⟩;simp only[go_sem,b];exact V1
  |1,ho=>
    simp only[y7,w8,u7,w7]at ho;subst ho;refine .inl ⟨trivial,?_⟩;simp only[go_sem,b,z0 (c ⟨0,.data⟩ a8 rfl),Z];exact V1
  |2,ho=>
    simp only[y7,w8,u7,w7]at ho;subst ho;refine .inl ⟨trivial,?_⟩;simp only[go_sem,b,z1 (c ⟨1,.data⟩ a8 rfl)];exact V1
  |3,ho=>
    exact hM
  |4,ho=>
    exact hM
  |5,ho=>
    exact hM
  |6,ho=>
    exact hM
  |7,ho=>
    exact hM
  |8,ho=>
    exact hM
  |9,ho=>
    simp only[y7,w8,u7,w7]at ho;subst ho;refine .inl ⟨trivial,?_⟩;simp only[go_sem,b,A (c ⟨2,.data⟩ a8 rfl)];exact V1
  |10,ho=>
    simp only[y7,w8,u7,w7]at ho;subst ho;refine .inl ⟨trivial,?_⟩;simp only[go_sem,b,B (c ⟨9,.data⟩ a8 rfl)];exact V1
  |j+11,ho=>exact absurd ho a8
 .rintro L ⟨fs,gs,y⟩ ⟨b,z0,z1,A,B,E⟩ bs
  have:=E (bs 10 b9);simp only at this;simp only[go_sem,this]
def wQ(s0:Str)(w:Bool)(p:Src.Prog):szP (cr s0 w p)=szP p+4:=by
 rw[jl,jl];unfold cr;simp only[l4,s6,D8];have:aN (fh s0 w).body=2:=by simp[fh,aN,Src.szS,Src.bw,Src.szE]
 rw[this];simp only[fh,l4,l5];omega
def DP{w:Bool}(h:pE p=T)(c:szP p<=150):pE (cr s0 w p)=T:=by
 have b:=wQ s0 w p;rw[jl]at b;unfold pE at h|-;simp only[s5,B4,x9]at h|-;have d:∀l:List Src.Fn,(l.map λf=>z f.p+z f.l+aN f.body).sum=(l.map λf=>z f.p+z f.l+aN f.body).sum:=λ_=>rfl;refine⟨λf a=>?_,h.2.1,h.2.2.1,a7⟩;rcases A0.1 (show f∈fh s0 w::p.f from a)with rfl|a
 .simp[fh]
 .exact h.1 f a
def Lc{w:Bool}(h:vO p):vO (cr s0 w p):=λf hf=>by
 rcases A0.1 (show f∈fh s0 w::p.f from hf)with rfl|hf
 .simp[fh,Src.ua,Src.Gk,Src.vN,Src.Gj]
 .exact h f hf
def DQ(hg:s0∉Src.da p)(ho:∀f∈p.f,s0∉Src.fP f):Src.tM p s0:=by
 have b:∀{A:Type}(l:List A)(f:Nat->A->Src.Th)(g:A->Str),(∀i a,(f i a).1=g a)->(l.mapIdx f).map (·.1)=l.map g:=λl f g h=>by
  rw[Src.mj];exact L0 λi=>by rw[w9,J3];cases l[i]?<;>simp[h]
 constructor
 .rw[Src.ku]
  unfold Src.aI Src.thV Src.thA Src.thF;rw[A8,A8,b _ _ id (λ_ _=>rfl),b _ _ (·.1) (λ_ _=>rfl),b _ _ (·.name) (λ_ _=>rfl),T0];exact hg
 .intro f c
  rw[Src.ku];unfold Src.aM Src.thL;rw[A8,b _ _ id (λ_ _=>rfl),b _ _ id (λ_ _=>rfl),T0,T0];exact ho f c
def DR{P:Nat->Prop}{s:St}{id g n:Nat}{e:List D}{r:List C}{es:List (List D)}(m:P id)(hg:s.gen id=g)(ho:s.obj id=S (r++es.flatten.map .d))(V:z r=5)(f:z e=5)(u:∀x∈es,z x=5)(o:1+z es=n)
 (hf:∀(j:Nat)(c:C)(x:D),r[j]?=S c->e[j]?=S x->iz P s c x):iz P s (.osl id g 5 0 n) (.sl (e::es)):=by
 have i:z es.flatten=z es*5:=by
  clear ho o hf
  induction es with
  |nil=>simp
  |cons a l q=>simp only[E7,j8,l4,u a a8,q (λb hb=>u b ZU),F1];omega
 have t:z (r++es.flatten.map C.d)=5+z es*5:=by rw[j8,j7,V,i]
 have Z:∀(j:Nat)(x:D),(e::es).flatten[j]?=S x->(r++es.flatten.map C.d)[0+j]?=S (((r++es.flatten.map C.d)[j]?).getD (.d .nsl)):=λj x I=>by
  have k:=(l6.1 I).1;rw[E7,j8,f,i]at k;rw[C5,v8 a7];rfl
 refine .osl m hg ho a7 (by rw[l4];omega) (λx I=>?_) _ Z λj x I=>?_
 .rcases A0.1 I with rfl|I
  .exact f
  .exact u x I
 have h:=Z j x I;rw[C5]at h;rw[E7]at I;by_cases k:j<5
 .rw[E8 a7]at I
  rw[E8 a7]at h|-;exact hf j _ x h I
 .rw[D1 a7,f]at I
  rw[D1 a7,V,w9,I];exact .d x
def OL{o:cT}(ht:kN o)(p:Src.Prog)(hp:Src.InP p)(hn:vO p)(inp:Str)(w:Bool):ck Tryz.prog 1 o 4 [cl p,sv inp,bv w] (·=bv T):=by
 refine hdG Tryz.func4 rfl [.tmp 6] λO bn s0 w0 g=>?_;have hL:=OO (o:=o) p hp 40 b9;have hF:=λh=>OJ (o:=o) p h;rw[bO]at hL hF|-;simp only[go_sem];refine cU rfl (by simp only[go_sem];exact OT ht) ?_;rintro _ rfl;simp only[go_sem];refine cU rfl Yt ?_;rintro _ ⟨b,rfl,hb⟩;cases b
 .exact gW
 obtain⟨Q,az,hl⟩:=hb rfl;have l:=az;rw[jl]at l;have u:¬(60:Int)<(z p.f:Int):=a7;by_cases bl:(30:Int)<(z inp:Int)
 .simp only[go_sem,bl]
 simp only[go_sem,bl,j7,u];refine cU rfl (by simp only[go_sem];exact hF a7) ?_;rintro _ ⟨m,y,rfl,B,q⟩;simp only[go_sem];refine⟨λe Y=>by obtain⟨f,_,rfl⟩:=D6.1 Y;rfl,⟨b9,a7⟩,?_⟩;have ar:=DQ B q;have an:=Lb y;generalize (113::dec m:Str)=H at ar an|-;have J:=zg ht (p:=cr H w p) (by rw[wQ];omega);obtain⟨code,d,V,ca,bz⟩:=DT (p:=cr H w p) (Src.SE Q ar an a7) (Lc hn) (by rw[wQ];omega) (DP hl a7);have L:=zf (cr H w p);rw[V]at J L;simp only at L
 have b4:p.f≠[]:=λe=>by
  have:=(Src.uq Q).1;unfold Src.dP at this;rw[e]at this;simp at this
 have A:=OK (o:=o) (p:=p) (inp:=inp) (fu:=60) a7 b9 Q hn a7 L ca λn U W=>by
  have:=bz inp 60 n;rw[Mn.WT (Src.uq Q).2.1 ar b4]at this;exact this U W
 have k:=Le code d L.1 L.2;unfold rR fO fD at J;unfold fO fD at k A;rw[bO]at J A;obtain⟨X0,h0⟩:∃X,(cr H w p).v.map (λs=>[D.str s])=X:=⟨_,rfl⟩
 obtain⟨E,U⟩:∃X,(cr H w p).a.map arD=X:=⟨_,rfl⟩
 obtain⟨G,W⟩:∃X,(cr H w p).f.map fnD=X:=⟨_,rfl⟩
 rw[h0,U,W]at J;have e3:((3:Nat)==29||(3:Nat)==32||(3:Nat)==34||(3:Nat)==38)=F:=rfl;refine Bf aL _ (Cz (λi=>i==29||i==32||i==34||i==38) (t:=44) (ds:=[.sl X0,.sl E,.sl G]) XK rfl λj c x Z I=>?_) ?_
 .match j,Z,I with
  |0,Z,I=>cases Z;cases I;rw[<-h0];exact .d _
  |1,Z,I=>cases Z;cases I;rw[<-U];exact .d _
  |2,Z,I=>
    cases Z;cases I;rw[<-W];refine DR (P:=λi=>(i==29||i==32||i==34||i==38)=T) rfl XD (r:=[.d (.str H),.osl 29 (nxC (ba Tt 22+1) (g 29)) 1 0 1,.d .nsl,.d (.bool w),.osl 34 (nxC (ba Tt 43+1) (g 34)) 5 0 1]) (es:=p.f.map fnD) XD rfl rfl (λe Y=>by obtain⟨f,_,rfl⟩:=D6.1 Y;rfl) a8 λj c x Z I=>?_
    match j,Z,I with
    |0,Z,I=>cases Z;cases I;exact .d _
    |1,Z,I=>cases Z;cases I;exact jc (P:=λi=>(i==29||i==32||i==34||i==38)=T) rfl XD [[97]] (λs=>[D.str s]) (cells:=[bF [97]]) XD rfl (λ_ _=>rfl) rfl
    |2,Z,I=>cases Z;cases I;exact .nil
    |3,Z,I=>cases Z;cases I;exact .d _
    |4,Z,I=>
      cases Z;cases I;refine Ac (P:=λi=>(i==29||i==32||i==34||i==38)=T) rfl XD (cells:=[.d (.int .i64 3),.d (.str []),.osl 32 (nxC (ba Tt 40+1) (g 32)) 5 0 1,.d .nsl,.d .nsl]) XD rfl rfl λj c x Z I=>?_
      match j,Z,I with
      |0,Z,I=>cases Z;cases I;exact .d _
      |1,Z,I=>cases Z;cases I;exact .d _
      |2,Z,I=>
        cases Z;cases I;refine Ac (P:=λi=>(i==29||i==32||i==34||i==38)=T) rfl XD (cells:=[.d (.int .i64 2),.d (.int .i64 0),.d (.int .u32 0),.d (.str [97]),.d .nsl]) XD rfl rfl λj c x Z I=>?_
        match j,Z,I with
        |0,Z,I=>cases Z;cases I;exact .d _
        |1,Z,I=>cases Z;cases I;exact .d _
        |2,Z,I=>cases Z;cases I;exact .d _
        |3,Z,I=>cases Z;cases I;exact .d _
        |4,Z,I=>cases Z;cases I;exact .nil
      |3,Z,I=>cases Z;cases I;exact .nil
      |4,Z,I=>cases Z;cases I;exact .nil
 refine cU rfl (by simp only[go_sem];exact J) ?_;rintro _ rfl;simp only[go_sem];refine jd rfl (by simp only[go_sem];exact k) ?_;rintro _ rfl;simp only[go_sem,e3];refine cU rfl (by simp only[go_sem];exact A) ?_;rintro _ rfl;exact gW
end
end
end Go.Proofs.YtlacbjnmkhndiaaGreatDoor.Low
