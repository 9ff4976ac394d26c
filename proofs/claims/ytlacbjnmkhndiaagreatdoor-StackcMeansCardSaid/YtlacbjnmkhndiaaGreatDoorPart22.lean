/- A part of the proof; no conditions. -/
import Derived.Test.YtlacbjnmkhndiaaGreatDoorPart21
import Derived.Lib.LaidTab
import Derived.Lib.LaidU8
import Derived.OpenShut
import Derived.Laws.IdiomArrays
import Derived.Test.YtlacbjnmkhndiaaGreatDoorTie
import Derived.Test.YtlacbjnmkhndiaaGreatDoorCards
set_option linter.unusedSimpArgs false
set_option linter.unusedVariables false
set_option linter.defProp false
set_option linter.unusedSectionVars false
open List renaming length -> z
open Option renaming some -> S, none -> N
open Bool renaming true -> T, false -> F
set_option maxHeartbeats 64000000
set_option maxRecDepth 100000
namespace Go.Mn
section
open Go.Emit (MI ak ao iU iq jg close co fE dm gf bW)
open Go.Src (Prog Fn Ex Stm ab di aU coreS bA ai bV jN)
open Go.Lower (Ins Code cE cEs jv cS cSs gu ifC pY leave codeOf)
section
section
variable{okI:Nat->Nat->Nat->Nat->Bool}{p:Prog}{C:List MI}{env:Int×Int->Int}{D:Nat}{Y:Lay okI p C env D}{inp:Asm.Str}{W fu:Nat}
variable(Y inp W fu)in
def GS(n:Nat):Prop:=∀(f:Nat)(fn:Src.Fn),p.funcs[f]?=S fn->∀(L:List Nat)(G:Sg)(s:Stm)(k:Nat)(c:Cf),Sub Y f fn k (cS fn.word k (coreS (ai p).1 (iP fn (Y.ft f)) s))->Ste Y f fn k 0 L G c->SR Y inp W f fn k (k+z (cS fn.word k (coreS (ai p).1 (iP fn (Y.ft f)) s))) G c (evS p (ap p) inp fu n f L G s)
variable(Y inp W fu)in
def GSs(n:Nat):Prop:=∀(f:Nat)(fn:Src.Fn),p.funcs[f]?=S fn->∀(L:List Nat)(G:Sg)(l:List Stm)(k:Nat)(c:Cf),Sub Y f fn k (cSs fn.word k (bA (ai p).1 (iP fn (Y.ft f)) l))->Ste Y f fn k 0 L G c->SR Y inp W f fn k (k+z (cSs fn.word k (bA (ai p).1 (iP fn (Y.ft f)) l))) G c (da p (ap p) inp fu n f L G l)
def wcd(Y:Lay okI p C env D)(f:Nat)(fn:Src.Fn)(k:Nat)(a:Ex)(l:List Stm):Lower.Code:=gu k (cE k 0 (di (ai p).1 (iP fn (Y.ft f)) a)) (λr=>cSs fn.word r (bA (ai p).1 (iP fn (Y.ft f)) l))
variable(Y inp W fu)in
def GW(n:Nat):Prop:=∀(f:Nat)(fn:Src.Fn),p.funcs[f]?=S fn->∀(L:List Nat)(G:Sg)(a:Ex)(l:List Stm)(k:Nat)(c:Cf),Sub Y f fn k (wcd Y f fn k a l)->Ste Y f fn k 0 L G c->SR Y inp W f fn k (k+z (wcd Y f fn k a l)) G c (evW p (ap p) inp fu n f L G a l)
section
variable{f:Nat}{fn:Src.Fn}{k u k1 o:Nat}{d t:Int}{L:List Nat}{G ad H:Sg}{c c1 c':Cf}(hf:p.funcs[f]?=S fn)
include hf
theorem SR.bind{r:Rs (List Nat×Option Nat)}{q:List Nat->Sg->Rs (List Nat×Option Nat)}(h:SR Y inp W f fn k k1 G c r)(g:k1<=o)(i:∀bd H c1,Ste Y f fn k1 0 bd H c1->SR Y inp W f fn k1 o H c1 (q bd H)):
  SR Y inp W f fn k o G c (r.bind λr H=>match r.2 with|some v=>.ok (r.1,S v) H|none=>q r.1 H):=by
 match r with
 |.no=>trivial
 |.en e a=>exact EO.mono hf h g
 |.ok (L,N) a=>
   obtain⟨j,c',r,e,s,b⟩:=h;exact(i L a c' s).after hf r e b
 |.ok (L,S v) a=>exact SR.mono (r:=.ok (L,S v) a) hf h g λ_ _ e=>by cases e
theorem SR.cast{r:Rs (List Nat×Option Nat)}(h:SR Y inp W f fn k k1 G c r)(e:k1=o):SR Y inp W f fn k o G c r:=e▸h
theorem Oc{r:Nat}(ar:Ste Y f fn k 0 L G c)(b:(Y.cd f fn)[k]?=S (⟨8,(r:Nat),0,0⟩,t))(V:k+1<=r):SO Y inp W f fn k r G c L G:=by
 obtain⟨c',e,i,Q,g⟩:=AN hf ar b;have:=iT (Y:=Y) hf V;exact⟨1,c',e,a7,Q,λa _=>by rw[g]⟩
theorem Ci(ar:Ste Y f fn k 0 L G c)(a:Sub Y f fn k (leave fn.word)):RO Y inp W f fn k (k+z (leave fn.word)) G c 0 G:=by
 unfold leave at a|-;cases hw:fn.word with
 |false=>
   rw[hw]at a;exact FM hf ar (λh=>absurd h (by rw[hw];decide)) (λh=>absurd h (by rw[hw];decide)) a.hd
 |true=>
   rw[hw]at a;obtain⟨j,c1,b,e,Q,g,i⟩:=AM (inp:=inp) (W:=W) hf ar a.hd b9;have l:=FM (inp:=inp) (W:=W) hf Q (λ_=>g) (λ_=>rfl) a.tl.hd;exact SR.after (r:=.ok (L,S _) G) hf b e (i.ks hf (C5 0)) l
theorem RI(hW:z C+4*D+8<=W)(h:Rch Y f fn k d):Y.pl f k<=W:=by
 have:=h.lt hf;have U:=iT (Y:=Y) hf (O8 this);have a:=(Y.at_ f fn hf).le;unfold Lay.cd at U;omega
end
theorem FN{n:Nat}(b:GS Y inp W fu n)(e:GSs Y inp W fu n):GSs Y inp W fu (n+1):=by
 intro f fn hf L G l k c a ar;cases l with
 |nil=>
   rw[bA,cSs,da];exact⟨0,c,.refl,a8,ar,λ_ _=>rfl⟩
 |cons s l=>
   rw[bA,cSs]at a;rw[bA,cSs,da,j7,<-C0];obtain⟨g,bl⟩:=a.app;exact SR.bind hf (b f fn hf L G s k c g ar) a7 λi H c1 Q=>e f fn hf i H l _ c1 bl Q
theorem JR(hW:z C+4*D+8<=W){n:Nat}(K:GE Y inp W fu n)(O:GSs Y inp W fu n)(V:GW Y inp W fu n):GW Y inp W fu (n+1):=by
 intro f fn hf L G a l k c o ar;have g:=o;unfold wcd gu at g|-;obtain⟨A,t⟩:∃A,cE k 0 (di (ai p).1 (iP fn (Y.ft f)) a)=A:=⟨_,rfl⟩
 have m:=λo=>K f fn hf L G a k 0 c o ar;rw[t]at g m|-;obtain⟨B,hB⟩:∃B,cSs fn.word (k+z A+1) (bA (ai p).1 (iP fn (Y.ft f)) l)=B:=⟨_,rfl⟩
 have i:=λL G c o ar=>O f fn hf L G l (k+z A+1) c o ar;rw[hB]at i;simp only[hB]at g|-;obtain⟨Z,u⟩:=g.app;obtain⟨bl,ch⟩:=u.tl.app;rw[evW];refine XR.bindS (k1:=k+z A) hf (C5 0) (m Z) V4 λv H c1 Q m1 K1=>?_;obtain⟨w,x,e3,X,E⟩:=xh (inp:=inp) hf Q u.hd (C5 0) m1;by_cases I:v=0
 .rw[l8 I]at X|-
  have e1:=iT (Y:=Y) hf (show k+z A+1<=k+z A+1+z B+1 by omega);have:SO Y inp W f fn (k+z A) (k+z A+1+z B+1) H c1 L H:=⟨2,w,x,a7,X,λa _=>by rw[E]⟩
  exact SR.cast (r:=.ok (L,N) H) hf this (by simp only[j7,j9,l4];omega)
 .rw[j8 I]at X|-
  refine SR.after (H:=H) (k1:=k+z A+1) hf x a7 (λa _=>by rw[E]) ?_;refine SR.bind (q:=λs j=>tick fu j λaf=>evW p (ap p) inp fu n f s af a l) hf (i L H w bl X) V4 λs j c4 J=>?_;unfold tick;split
  .obtain⟨c5,r5,e5,e,m5⟩:=AN (inp:=inp) hf J ch.hd
   have y:=RI (Y:=Y) hf hW J.rch;have b:=V f fn hf s ⟨j.vars,j.arrs,j.out,j.rd,j.tk+1⟩ a l k c5 o ⟨e.pc,e.rch,⟨e.gl.v,e.gl.a,e.gl.vl,e.gl.al⟩,e.fr,e.wl,e.rd,e.out⟩;unfold wcd gu at b;rw[t]at b;simp only[hB]at b;refine SR.after hf r5 ?_ (λa _=>by rw[m5]) b;have U:=(ar.rch.lt hf)
   have h2:=iT (Y:=Y) hf (show k<=k+z A+1+z B by omega);simp only[E7,P6]
   -- c' jump back is d for by c' tick
   have h3:=RI (Y:=Y) hf hW J.rch;have h4:=(Y.at_ f fn hf).le;have h5:Y.pl f (k+z A+1+z B+1)<=z C:=C8 (iT (Y:=Y) hf (show _<=z (Y.cd f fn)from J.rch.lt hf)) h4;omega
  .exact .inl rfl
end
end
section
section
variable{okI:Nat->Nat->Nat->Nat->Bool}{p:Prog}{C:List MI}{env:Int×Int->Int}{D:Nat}{Y:Lay okI p C env D}{inp:Asm.Str}{W fu:Nat}
theorem DL{A β:Type}{G:Sg}{k:Sg->Rs A}{q:A->Sg->Rs β}:tick fu G (λa6=>(k a6).bind q)=(tick fu G k).bind q:=by unfold tick;split<;>rfl
theorem AK{o i:Src.Pl}:∀{l:List Stm},(bA o i l).isEmpty=l.isEmpty
 |[]=>by rw[bA];rfl
 |_::_=>by rw[bA];rfl
theorem JG{n:Nat}(hE:GE Y inp W fu n)(hL:GL Y inp W fu n)(hB:GB Y inp W fu n)(o:GSs Y inp W fu n)(hG:GW Y inp W fu n):GS Y inp W fu (n+1):=by
 intro f fn hf L G s k c hs ar;obtain⟨kind,name,e,th,el⟩:=s;rw[coreS,cS]at hs;rw[coreS,cS,evS];by_cases U:kind=1
 .subst U
  simp only[show ¬(1:Int)=5 by decide,show ¬(1:Int)=4 by decide,A8,B1]at hs|-
  match e with
  |[]=>trivial
  |_::_::_=>trivial
  |[a]=>
    simp only[aU,cEs,s7]at hs|-;obtain⟨a1,bl⟩:=hs.app;rw[j7,<-C0];exact XR.bindS hf (C5 0) (hE f fn hf L G a k 0 c a1 ar) (L4 _ _) λv H c1 Q m1 K1=>FK hf Q m1 bl.hd
 by_cases h2:kind=2
 .subst h2
  simp only[show ¬(2:Int)=5 by decide,show ¬(2:Int)=4 by decide,show ¬(2:Int)=1 by decide,A8,B1]at hs|-
  match e with
  |[]=>trivial
  |[_]=>trivial
  |_::_::_::_=>trivial
  |[a,b]=>
    simp only[aU,cEs,s7]at hs|-;obtain⟨a1,bl⟩:=hs.app;obtain⟨b0,a1⟩:=a1.app;simp only[j7,<-C0]at bl|-;refine XR.bindS hf (C5 0) (hE f fn hf L G a k 0 c b0 ar) a7 λx H c1 Q m1 K1=>?_;refine XR.bindS (d:=0+1) hf b9 (hE f fn hf L H b _ (0+1) c1 a1 Q) a7 λy a6 c2 S2 m2 K2=>?_;have hd:=Q.rch.dp hf;exact xi hf S2 ((K2 _ a7).trans m1) m2 bl.hd
 by_cases h3:kind=3
 .subst h3
  simp only[show ¬(3:Int)=5 by decide,show ¬(3:Int)=4 by decide,show ¬(3:Int)=1 by decide,show ¬(3:Int)=2 by decide,A8,B1]at hs|-
  match e with
  |[]=>trivial
  |_::_::_=>trivial
  |[a]=>
    simp only[aU,cEs,s7]at hs|-;obtain⟨a1,bl⟩:=hs.app;rw[j7,<-C0];exact XR.bindS hf (C5 0) (hE f fn hf L G a k 0 c a1 ar) (L4 _ _) λv H c1 Q m1 K1=>FL hf Q m1 bl.hd
 by_cases h4:kind=4
 .subst h4
  simp only[show ¬(4:Int)=5 by decide,show ¬(4:Int)=1 by decide,show ¬(4:Int)=2 by decide,show ¬(4:Int)=3 by decide,A8,B1]at hs|-
  match e with
  |[]=>trivial
  |_::_::_=>trivial
  |[a]=>
    simp only[aU,cEs,s7,AK]at hs|-;obtain⟨A,hA⟩:∃A,cE k 0 (di (ai p).1 (iP fn (Y.ft f)) a)=A:=⟨_,rfl⟩
    have m:=λhs=>hE f fn hf L G a k 0 c hs ar;rw[hA]at hs m|-;obtain⟨b0,a1⟩:=hs.app;obtain⟨B,t⟩:∃B,cSs fn.word (k+z A+1) (bA (ai p).1 (iP fn (Y.ft f)) th)=B:=⟨_,rfl⟩
    have i:=λL G c hs ar=>o f fn hf L G th (k+z A+1) c hs ar;rw[t]at i;refine XR.bindS (k1:=k+z A) hf (C5 0) (m b0) (by simp only[j7];omega) λv H c1 Q m1 K1=>?_;unfold ifC at a1|-;cases el with
    |nil=>
      simp only[List.isEmpty_nil,N4,A8,t,D7]at a1|-;obtain⟨c3,r3,e3,X,m3⟩:=xh (inp:=inp) hf Q a1.hd (C5 0) m1;by_cases hv:v=0
      .rw[l8 hv]at X|-
       have e1:=iT (Y:=Y) hf (show k+z A+1<=k+z A+1+z B by omega);have hq:SO Y inp W f fn (k+z A) (k+z A+1+z B) H c1 L H:=⟨2,c3,r3,a7,X,λa _=>by rw[m3]⟩
       cases n with
       |zero=>rw[da];trivial
       |succ n=>
         rw[da];exact SR.cast (r:=.ok (L,N) H) hf hq V4
      .rw[j8 hv]at X|-
       refine SR.after (H:=H) (k1:=k+z A+1) hf r3 a7 (λa _=>by rw[m3]) ?_;exact SR.cast hf (i L H c3 a1.tl X) V4
    |cons s0 el=>
      obtain⟨E,u⟩:∃E,s0::el=E:=⟨_,rfl⟩
      have P:E.isEmpty=F:=by rw[<-u];rfl
      rw[u]at a1|-;simp only[P,J0,B1,t]at a1|-;obtain⟨b2,I⟩:∃b2,cSs fn.word (k+z A+1+z B+1) (bA (ai p).1 (iP fn (Y.ft f)) E)=b2:=⟨_,rfl⟩
      have K:=λL G c hs ar=>o f fn hf L G E (k+z A+1+z B+1) c hs ar;rw[I]at K a1;simp only[I];obtain⟨bl,ch⟩:=a1.tl.app;obtain⟨c3,r3,e3,X,m3⟩:=xh (inp:=inp) hf Q a1.hd (C5 0) m1;by_cases hv:v=0
      .rw[l8 hv]at X|-
       have e1:=iT (Y:=Y) hf (show k+z A+1<=k+z A+1+z B+1 by omega);refine SR.after (H:=H) (k1:=k+z A+1+z B+1) hf r3 a7 (λa _=>by rw[m3]) ?_;exact SR.cast hf (K L H c3 ch.tl X) V4
      .rw[j8 hv]at X|-
       refine SR.after (H:=H) (k1:=k+z A+1) hf r3 a7 (λa _=>by rw[m3]) ?_;have U:=i L H c3 bl X;refine SR.cast (k1:=k+z A+1+z B+1+z b2) hf (SR.mono hf U a7 λbd ad e h=>?_) V4;obtain⟨j,c4,r4,e4,J,K4⟩:=h;obtain⟨j5,c5,r5,e5,S5,K5⟩:=Oc (inp:=inp) (W:=W) hf J ch.hd a7;exact⟨j+j5,c5,r4.trans r5,a7,S5,K4.trans hf K5⟩
 by_cases h5:kind=5
 .subst h5
  simp only[show ¬(5:Int)=1 by decide,show ¬(5:Int)=2 by decide,show ¬(5:Int)=3 by decide,show ¬(5:Int)=4 by decide,A8,B1]at hs|-
  match e with
  |[]=>trivial
  |_::_::_=>trivial
  |[a]=>
    simp only[aU,jv]at hs|-;show SR Y inp W f fn k _ G c (tick fu G λH=>evW p (ap p) inp fu n f L H a th);unfold tick;split
    .refine SR.after (H:=⟨G.vars,G.arrs,G.out,G.rd,G.tk+1⟩) hf .refl ?_ (λ_ _=>rfl) (hG f fn hf L ⟨G.vars,G.arrs,G.out,G.rd,G.tk+1⟩ a th k c hs ⟨ar.pc,ar.rch,⟨ar.gl.v,ar.gl.a,ar.gl.vl,ar.gl.al⟩,ar.fr,ar.wl,ar.rd,ar.out⟩)
     simp only[E7,P6];omega
    .exact .inl rfl
 by_cases h6:kind=6
 .subst h6
  simp only[show ¬(6:Int)=1 by decide,show ¬(6:Int)=2 by decide,show ¬(6:Int)=3 by decide,show ¬(6:Int)=4 by decide,show ¬(6:Int)=5 by decide,A8,B1]at hs|-;cases Z:fY p f (ap p f name) (z e) F with
  |none=>trivial
  |some g=>
    obtain⟨ht,cb,gn,hg,q,O⟩:=sk Z;obtain⟨a1,bl⟩:=hs.app;rw[j7,<-C0];have i:=hL f fn hf L G e k 0 c a1 ar;show SR Y inp W f fn k _ G c ((dr p (ap p) inp fu n f L G e).bind λvs H=>tick fu H λa6=>(evB p (ap p) inp fu n g vs a6).bind λ_ af=>.ok (L,N) af);cases V:dr p (ap p) inp fu n f L G e with
    |no=>trivial
    |en e H=>rw[V]at i;exact EO.mono hf i a7
    |ok vs H=>
      rw[V]at i;obtain⟨⟨j,c1,r1,e1,Q,m1,K1⟩,b8⟩:=i;have hk:=bl.hd;rw[oI Y hf,ht]at hk;have l:=FI (inp:=inp) (W:=W) (fu:=fu) (r:=λ_ _=>.no) (w:=T) hf hB Q (C5 0) hk hg cb a7 m1;show SR Y inp W f fn k _ G c (tick fu H λa6=>(evB p (ap p) inp fu n g vs a6).bind λ_ af=>.ok (L,N) af);rw[DL];cases hq:tick fu H λa6=>evB p (ap p) inp fu n g vs a6 with
      |no=>trivial
      |en e a6=>rw[hq]at l;exact EO.after r1 e1 l
      |ok v a6=>
        rw[hq]at l;obtain⟨j2,c2,r2,e2,S2,m2,K2⟩:=l;rw[j8 (by rw[q];decide)]at S2;refine SR.after (r:=.ok (L,N) a6) hf r1 e1 (K1.ks hf (C5 0)) ?_;exact⟨j2,c2,r2,e2,S2,K2.ks hf (C5 0)⟩
 by_cases h7:kind=7
 .subst h7
  simp only[show ¬(7:Int)=1 by decide,show ¬(7:Int)=2 by decide,show ¬(7:Int)=3 by decide,show ¬(7:Int)=4 by decide,show ¬(7:Int)=5 by decide,show ¬(7:Int)=6 by decide,A8,B1]at hs|-
  match e with
  |_::_::_=>trivial
  |[]=>
    rw[aU,cEs,A6]at hs;rw[aU,cEs,A6];exact Ci hf ar hs
  |[a]=>
    simp only[aU,cEs,s7]at hs|-;obtain⟨a1,bl⟩:=hs.app;rw[j7,<-C0];show SR Y inp W f fn k _ G c (if (p.funcs[f]?).any (·.word)=T then(evE p (ap p) inp fu n f L G a).bind λv H=>.ok (L,S v) H else .no);split
    .exact XR.bindS hf (C5 0) (hE f fn hf L G a k 0 c a1 ar) (L4 _ _) λv H c1 Q m1 K1=>FM hf Q (λ_=>m1) (λ_=>rfl) bl.hd
    .trivial
 simp only[U,h2,h3,h4,h5,h6,h7,A8];trivial
include Y in
theorem yA{a:Int}{n:Nat}{c:Cf}(f:0<=a):∀k:Nat,a+k<=D->At C c.pc (close env (iU a k) n)->∃c',Rn okI C inp D k c c'/\c'.pc=c.pc+k/\z (close env (iU a k) n)=k/\c'.l=c.l/\c'.rd=c.rd/\c'.out=c.out/\∀X,c'.mem X=if a<=X/\X<a+k then 0 else c.mem X
 |0,_,_=>⟨c,.refl,rfl,rfl,rfl,rfl,rfl,λX=>by rw[j8 a7]⟩
 |k+1,h,b=>by
   have hD:=Y.hD;have g:∀k,gf (iU a k):=λk=>(Emit.uh (Q:=λ_=>True) k).inner
   have Z:close env (iU a (k+1)) n=close env (iU a k) n++[(17,0,0,a+k)]:=by
    rw[iU,co (g k) dm];rfl
   rw[Z]at b;obtain⟨u,o⟩:=b.app;obtain⟨t,i,j,l1,m,q,r,s⟩:=yA f k a7 u;rw[l1,<-j]at o;refine⟨_,i.trans (Vc Y.dec o.hd a7 a7),by simp only;omega,by rw[Z,j7,l1];rfl,m,q,r,λX=>?_⟩;simp only;by_cases d:X=a+k
   .rw[d,pj,l8 a7]
   .rw[fA d,s]
    by_cases e:a<=X/\X<a+k
    .rw[l8 e,l8 a7]
    .rw[j8 e,j8 a7]
include Y in
theorem Ca{b:Nat}{q:Nat}(i:b<=D)(d:At C q [(17,0,1,0),(4,1,1,15),(14,3,1,2),(20,3,0,(q:Int))]):∀(m:Nat)(c:Cf),c.pc=q->c.b=b->c.a+(m+1)=b->∃c',Rn okI C inp D (4*(m+1)) c c'/\c'.pc=q+4/\c'.l=c.l/\c'.rd=c.rd/\c'.out=c.out/\∀X,c'.mem X=if (c.a:Int)<=X/\X<b then 0 else c.mem X
 |m,c,j,o,hm=>by
   have hD:=Y.hD;subst j;have r:=(Vf (inp:=inp) (D:=D) Y.dec d.hd a7 a7).trans ((NX Y.dec (c:=⟨c.pc+1,_,_,_,_,_,_,_⟩) d.tl.hd VL).trans ((Vj Y.dec (c:=⟨c.pc+1+1,_,_,_,_,_,_,_⟩) d.tl.tl.hd).trans (RA Y.dec (c:=⟨c.pc+1+1+1,_,_,_,_,_,_,_⟩) d.tl.tl.tl.hd)));cases m with
   |zero=>
     refine⟨_,r,?_,rfl,rfl,rfl,λX=>?_⟩
     .simp only
      rw[j8 (show ¬c.a+1<c.b by omega),l8 rfl]
     .simp only
      by_cases f:X=c.a
      .rw[f,pj,l8 a7]
      .rw[fA f,j8 a7]
   |succ m=>
     have e:(if (if c.a+1<c.b then 1 else 0)=0 then c.pc+1+1+1+1 else((c.pc:Nat):Int).toNat)=c.pc:=by
      rw[l8 (show c.a+1<c.b by omega),j8 b9,B3]
     simp only[e]at r;obtain⟨k,n,s,l2,t,u,v⟩:=Ca i d m ⟨c.pc,c.a+1,c.b,if c.a+1<c.b then 1 else 0,c.l,up c.mem c.a 0,c.rd,c.out⟩ rfl o VL;have:=r.trans n;rw[show 1+(1+(1+1))+4*(m+1)=4*(m+1+1) by omega]at this;refine⟨k,this,s,l2,t,u,λX=>?_⟩;rw[v];simp only;by_cases f:X=c.a
     .rw[j8 a7,f,pj,l8 a7]
     .rw[fA f]
      by_cases g:(c.a:Int)<=X/\X<b
      .rw[l8 a7,l8 g]
      .rw[j8 a7,j8 g]
include Y in
theorem FA{a b:Int}{c:Cf}(k:0<=a)(i:a<=b)(I:b<=D)(d:At C c.pc (close env (iq a b) c.pc)):∃j c',Rn okI C inp D j c c'/\j<=4*D+6/\c'.pc=c.pc+z (close env (iq a b) c.pc)/\c'.l=c.l/\c'.rd=c.rd/\c'.out=c.out/\∀X,c'.mem X=if a<=X/\X<b then 0 else c.mem X:=by
 by_cases f:b-a<=6
 .have e:iq a b=iU a (b-a).toNat:=l8 f
  rw[e]at d|-;obtain⟨m,r,s,l1,u,v,w,x⟩:=yA (Y:=Y) (inp:=inp) k (b-a).toNat a7 d;exact⟨_,m,r,a7,by rw[l1];exact s,u,v,w,λX=>by rw[x,show a+((b-a).toNat:Int)=b by omega]⟩
 .have e:iq a b=λn=>⟨[(1,1,0,a),(1,2,0,b),(17,0,1,0),(4,1,1,15),(14,3,1,2),(20,3,0,(n:Int)+2)],[]⟩:=j8 f
  rw[e]at d|-;have d:At C c.pc [(1,1,0,a),(1,2,0,b),(17,0,1,0),(4,1,1,15),(14,3,1,2),(20,3,0,(c.pc:Int)+2)]:=d;have o:=d.tl.tl;obtain⟨y,A,B,l2,E,G,H⟩:=Ca (Y:=Y) (inp:=inp) (b:=b.toNat) (q:=c.pc+1+1) a7 (by rw[show ((c.pc+1+1:Nat):Int)=(c.pc:Int)+2 by omega];exact o) ((b-a).toNat-1) ⟨c.pc+1+1,a.toNat,b.toNat,c.t,c.l,c.mem,c.rd,c.out⟩ rfl rfl VL;refine⟨_,y,(NW Y.dec d.hd).trans ((Vg Y.dec (c:=⟨c.pc+1,_,_,_,_,_,_,_⟩) d.tl.hd).trans A),a7,by rw[B];rfl,l2,E,G,λX=>?_⟩;rw[H];simp only;by_cases g:a<=X/\X<b
  .rw[l8 a7,l8 g]
  .rw[j8 a7,j8 g]
end
end
end
section
open Go.Emit (MI ak ao dS iq jg close co fE dm gf bW)
open Go.Src (Prog Fn ab bA ai)
open Go.Lower (Ins Code cSs leave codeOf)
section
section
variable{okI:Nat->Nat->Nat->Nat->Bool}{p:Prog}{C:List MI}{env:Int×Int->Int}{D:Nat}{Y:Lay okI p C env D}{inp:Asm.Str}{W fu:Nat}
section
variable{f:Nat}{fn:Src.Fn}(hf:p.funcs[f]?=S fn)
include hf
theorem Cb{n:Nat}{L:List Nat}{G:Sg}{c:Cf}(g:GSs Y inp W fu n)(ar:Ste Y f fn 0 0 L G c):
  match (da p (ap p) inp fu n f L G fn.body).bind λr H=>.ok (r.2.getD 0) H with
  |.ok v ad=>RO Y inp W f fn 0 (z (Y.cd f fn)) G c v ad
  |.en e ad=>EO Y inp W f 0 (z (Y.cd f fn)) G c e ad
  |.no=>True:=by
 have b:Y.cd f fn=cSs fn.word 0 (bA (ai p).1 (iP fn (Y.ft f)) fn.body)++leave fn.word:=rfl;have d:Sub Y f fn 0 (Y.cd f fn):=λj x h=>by rw[C7];exact h
 rw[b]at d;obtain⟨i,bl⟩:=d.app;have U:=g f fn hf L G fn.body 0 c i ar;rw[C7]at U bl;rw[b,j7]
 match V:da p (ap p) inp fu n f L G fn.body with
 |.no=>trivial
 |.en e ad=>rw[V]at U;exact EO.mono hf U a7
 |.ok (a,S v) ad=>
   rw[V]at U;exact SR.mono (k1:=z (cSs fn.word 0 (bA (ai p).1 (iP fn (Y.ft f)) fn.body))) (r:=.ok (a,S v) ad) hf U a7 λ_ _ e=>by cases e
 |.ok (a,N) ad=>
   rw[V]at U;obtain⟨j,o,k,l,Q,m⟩:=U;exact SR.after (r:=.ok (a,S 0) ad) hf k l m (Ci hf Q bl)
end
theorem JH(hW:z C+4*D+8<=W){n:Nat}(hL:GSs Y inp W fu n):GB Y inp W fu (n+1):=by
 intro g gn m az vs G c hp hv y b7 ho;rw[evB,m];show BR Y inp W g gn G c (if z vs=z gn.params then(da p (ap p) inp fu n g (vs++List.replicate (z gn.locals) 0) G gn.body).bind λr H=>.ok (r.2.getD 0) H else .no);by_cases A:z vs=z gn.params
 case neg=>rw[j8 A];trivial
 rw[l8 A];have d:=(l5.1 m).1;have K:=Y.at_ g gn m;have bd:z (ab p).funcs=z p.funcs:=by unfold ab;exact Src.kN _ _ _
 have E:=Y.base g gn m;have O:Rch Y g gn 0 0:=⟨C5 0,(mid Y m).2.1⟩
 have hd:=O.dp m;have hD:=Y.hD;have af:=Y.fts g gn m;have J:=Y.ftm (i:=0) (j:=g) a7 a7;have b2:=Y.globs;have f:=E.2.2.1;rw[j8 a7]at f
 have b0:∀k,close env (jg (ab p).funcs Y.P g) k=(17,14,0,Y.bk g)::close env (iq (Y.ft g+z gn.params) (Y.ft g+(z gn.params+z gn.locals))) (k+1):=λk=>by
  have e:jg (ab p).funcs Y.P g=ak (ao 17 14 0 (Y.bk g)) (iq (Y.ft g+z gn.params) (Y.ft g+(z gn.params+z gn.locals))):=by
   unfold jg;rw[j8 a7,Y.fs g gn m,E.2.1];rfl
  rw[e,co dm (Emit.AQ (Q:=λ_=>True)).inner,fE];rfl
 obtain⟨I,Z⟩:=K.head;rw[b0,<-hp]at I Z;obtain⟨j2,u,r2,l2,p2,e2,d2,o2,s⟩:=FA (Y:=Y) (inp:=inp) (c:=⟨c.pc+1,c.a,c.b,c.t,c.l,up c.mem (Y.bk g) c.l,c.rd,c.out⟩) (a:=Y.ft g+z gn.params) (b:=Y.ft g+(z gn.params+z gn.locals)) a7 a7 a7 I.tl;have r:=(Vd (inp:=inp) Y.dec I.hd a7 a7).trans r2;simp only at s p2 e2 d2 o2;have hm:∀X:Int,X<Y.ft g+z gn.params->u.mem X=c.mem X:=λX hz=>by rw[s,j8 a7,fA a7]
 have S2:Ste Y g gn 0 0 (vs++List.replicate (z gn.locals) 0) G u:=by
  refine⟨by rw[p2,Z,j9];omega,O,y.keep (Y:=Y) m λa w E=>hm a a7,λi x o=>?_,by simp[A],d2.trans b7,o2.trans ho⟩;by_cases b6:i<z vs
  .rw[F0 b6]at o
   rw[hm _ a7];exact hv i x o
  .rw[D4 a7,H9]at o
   split at o
   .cases o
    rw[s,l8 a7]
   .cases o
 have hB:=Cb (W:=W) (fu:=fu) m hL S2;have a1:Y.pl g (z (Y.cd g gn))<=z C:=K.le
 have q:∀a:Int,(Y.ft (g+1)<=a/\a<Y.bk 0)\/Y.bk (g+1)<=a->u.mem a=c.mem a:=λa w=>by
  have:=(Y.bks d).2;rw[s,j8 a7,fA a7]
 cases V:(da p (ap p) inp fu n g (vs++List.replicate (z gn.locals) 0) G gn.body).bind λr H=>.ok (r.2.getD 0) H with
 |no=>trivial
 |en e ad=>
   rw[V]at hB;rcases hB with h|⟨j,U,h2⟩
   .exact .inl h
   .exact .inr ⟨_,r.re U,a7⟩
 |ok v ad=>
   rw[V]at hB;have hB:RO Y inp W g gn 0 (z (Y.cd g gn)) G u v ad:=hB;unfold RO at hB;rw[j8 a7]at hB;obtain⟨j,c3,r3,h3,p3,w3,g3,d3,B,L⟩:=hB;refine⟨_,c3,r.trans r3,a7,?_,w3,g3,d3,B,λa w=>(L a w).trans (q a w)⟩;rw[p3,s,j8 a7,pj]
theorem yB(hW:z C+4*D+8<=W):∀n:Nat,GE Y inp W fu n/\GL Y inp W fu n/\GB Y inp W fu n/\GS Y inp W fu n/\GSs Y inp W fu n/\GW Y inp W fu n
 |0=>by
   refine⟨λf fn hf L G e k d c b ar=>?_,λf fn hf L G l k d c b ar=>?_,λg gn q az vs G c _ _ _ _ _=>?_,λf fn hf L G s k c b ar=>?_,λf fn hf L G l k c b ar=>?_,λf fn hf L G a l k c b ar=>?_⟩
   .rw[evE];trivial
   .rw[dr];trivial
   .rw[evB];trivial
   .rw[evS];trivial
   .rw[da];trivial
   .rw[evW];trivial
 |n+1=>by
   obtain⟨U,i,j,o,h,m⟩:=yB hW n;exact⟨JQ U i j,JP U i,JH hW h,JG U i j h m,FN o h,JR hW U h m⟩
theorem MF(c0:C[0]?=S (1,15,0,1))(bs:Y.en (z p.funcs-1)=1)(n:Nat):
  match runN p inp fu n with
  |.ok _ G=>∀al,8*(G.tk+1)*(z C+D+1)<=al->(Mach.EI okI (C.map dP) D inp al).1=1/\(Mach.EI okI (C.map dP) D inp al).2.1=G.out
  |.en e G=>e≠5->∀al,8*(G.tk+1)*(z C+D+1)<=al->(Mach.EI okI (C.map dP) D inp al).1=e/\(Mach.EI okI (C.map dP) D inp al).2.1=G.out
  |.no=>True:=by
 have V:=(Src.zU Y.snd).1;have hn:1<=z p.funcs:=by unfold Src.dX at V;simp at V;exact V.1.1.1
 obtain⟨L,A⟩:∃L,z p.funcs-1=L:=⟨_,rfl⟩
 obtain⟨fn,hf⟩:∃fn,p.funcs[L]?=S fn:=⟨_,v8 a7⟩
 rw[A]at bs;unfold runN;rw[A];cases n with
 |zero=>rw[evB];trivial
 |succ n=>
 rw[evB,hf];have B:=Y.at_ L fn hf;have hD:=Y.hD;have bd:z (ab p).funcs=z p.funcs:=by unfold ab;exact Src.kN _ _ _
 have J:Y.pl L 0=1:=by
  rw[B.head.2,bs];have e:jg (ab p).funcs Y.P L=dS:=by unfold jg;rw[l8 a7]
  rw[e,Emit.DS];rfl
 let u:Cf:=⟨1,0,0,0,0,λ_=>0,0,[]⟩
 have K:∃m,Ms D u m/\∀al,Mach.runM okI (C.map dP) inp (1+al) (Mach.start D)=Mach.runM okI (C.map dP) inp al m:=by
  refine⟨_,?_,λal=>step1 Y.dec rfl c0 al⟩;refine⟨rfl,rfl,rfl,rfl,rfl,rfl,rfl,rfl,rfl,G0 ..,λk O=>?_,rfl,rfl⟩;show (List.replicate D 0)[k]?=S 0;rw[H9,l8 O]
 obtain⟨c,E,X⟩:=K
 show match (if z ([]:List Nat)=z fn.params then(da p (ap p) inp fu n L ([]++List.replicate (z fn.locals) 0) (start p) fn.body).bind λr H=>.ok (r.2.getD 0) H else .no:Rs Nat)with
  |.ok _ G=>∀al,8*(G.tk+1)*(z C+D+1)<=al->(Mach.EI okI (C.map dP) D inp al).1=1/\(Mach.EI okI (C.map dP) D inp al).2.1=G.out
  |.en e G=>e≠5->∀al,8*(G.tk+1)*(z C+D+1)<=al->(Mach.EI okI (C.map dP) D inp al).1=e/\(Mach.EI okI (C.map dP) D inp al).2.1=G.out
  |.no=>True
 by_cases w:z ([]:List Nat)=z fn.params
 case neg=>rw[j8 w];trivial
 rw[l8 w]
 have ar:Ste Y L fn 0 0 ([]++List.replicate (z fn.locals) 0) (start p) u:=by
  refine⟨J.symm,⟨C5 0,(mid Y hf).2.1⟩,⟨λi x d=>?_,λi l hl j x o=>?_,by simp[start],λi l hl=>?_⟩,λi x d=>?_,by simp[<-w],rfl,rfl⟩
  .simp only[start,H9]at d
   split at d
   .cases d;rfl
   .cases d
  .simp only[start,x8]at hl
   obtain⟨a,y,rfl⟩:=G1.1 hl;rw[H9]at o;split at o
   .cases o;rfl
   .cases o
  .simp only[start,x8]at hl
   obtain⟨a,y,rfl⟩:=G1.1 hl;refine⟨a,y,?_⟩
   have:1<=a.2:=by
    unfold Src.dX at V;simp only[s5,y8]at V;have:=V.2.1 a (l6 y);exact xc
   rw[G0];omega
  .rw[A6,H9]at d
   split at d
   .cases d;rfl
   .cases d
 have hB:=Cb (W:=z C+4*D+8) (inp:=inp) (fu:=fu) hf (yB (l7 _) n).2.2.2.2.1 ar;have a1:Y.pl L (z (Y.cd L fn))<=z C:=B.le
 have b:∀(t j:Nat),j+1+0*(z C+4*D+8)<=z C+t*(z C+4*D+8)->1+j<=8*(t+1)*(z C+D+1):=λt j h=>by
  have U:t*(z C+4*D+8)<=t*(8*(z C+D+1)):=Nat.mul_le_mul_left _ a7
  have g:8*(t+1)*(z C+D+1)=t*(8*(z C+D+1))+8*(z C+D+1):=by
   rw[Sh 8 (t+1),Nat.mul_assoc,E7,P6]
  omega
 have bl:∀(e:Nat)(G:Sg)(j:Nat),RE okI C inp D j u e G.out->1+j<=8*(G.tk+1)*(z C+D+1)->∀al,8*(G.tk+1)*(z C+D+1)<=al->(Mach.EI okI (C.map dP) D inp al).1=e/\(Mach.EI okI (C.map dP) D inp al).2.1=G.out:=λe G j I o al hN=>by
  obtain⟨q,rfl⟩:∃q,al=1+q:=⟨al-1,a7⟩
  obtain⟨U,g⟩:=I.2 c E q a7;unfold Mach.EI;simp only[X,U,g,j8 I.1,and_self]
 cases Q:(da p (ap p) inp fu n L ([]++List.replicate (z fn.locals) 0) (start p) fn.body).bind λr H=>.ok (r.2.getD 0) H with
 |no=>trivial
 |en e s=>
   rw[Q]at hB;intro Z;rcases hB with h|⟨j,U,g⟩
   .exact absurd h Z
   .refine bl e s j U (b _ _ ?_)
    have:(start p).tk=0:=rfl;rw[this]at g;omega
 |ok v s=>
   rw[Q]at hB;have hB:RO Y inp _ L fn 0 (z (Y.cd L fn)) (start p) u v s:=hB;unfold RO at hB;rw[l8 a7]at hB;obtain⟨j,U,g⟩:=hB;refine bl 1 s j U (b _ _ ?_);have:(start p).tk=0:=rfl;rw[this]at g;omega
end
end
end
section
open Go.Emit (MI whole filled eN cK qy MS qz toC bW bq)
open Go.Src (Prog Fn CFn ab aX ai)
section
def Rq{fs:List CFn}{P:Emit.Plan}{ar:Nat}(H:qy fs P ar):(filled (whole fs P))[0]?=S (1,15,0,1):=by
 rw[Emit.DU H]
 have a:∀k,∃r,toC (eN (whole fs P)) fs P k=[(1,15,0,1)]++r:=by
  intro k
  induction k with
  |zero=>exact⟨_,rfl⟩
  |succ k b=>obtain⟨r,V⟩:=b;rw[toC,V];exact⟨_,u7 _ _ _⟩
 obtain⟨r,V⟩:=a (z fs-1);rw[V];rfl
variable{okI:Nat->Nat->Nat->Nat->Bool}
def UZ{x:MI}(h:qz x)(e:okI x.1.toNat x.2.1.toNat x.2.2.1.toNat x.2.2.2.toNat=T):Dec okI x:=by
 obtain⟨⟨o1,f⟩,c,d,Z⟩:=h;have a:∀{v:Int}{b:Bool},Emit.inP v 15 b->v.toNat<=15:=λ{v b}h=>by unfold Emit.inP at h;split at h<;>omega
 have c:=a c;have d:=a d
 have Z:x.2.2.2.toNat<=65535:=by
  unfold Emit.inP at Z;split at Z
  .split at Z<;>omega
  .omega
 unfold Dec dP Asm.word;refine⟨?_,?_,?_,?_,e⟩<;>omega
def Va{p:Prog}{ar:Nat}(h:aX p=0)(H:qy (ab p).funcs (cK (ab p).words (ab p).funcs) ar)(hd:0<=(cK (ab p).words (ab p).funcs).data/\(cK (ab p).words (ab p).funcs).data<=32768)
 (hC:z (filled (whole (ab p).funcs (cK (ab p).words (ab p).funcs)))<=16384)(c:∀x∈filled (whole (ab p).funcs (cK (ab p).words (ab p).funcs)),Dec okI x):
  ∃Y:Lay okI p (filled (whole (ab p).funcs (cK (ab p).words (ab p).funcs))) (eN (whole (ab p).funcs (cK (ab p).words (ab p).funcs))) (cK (ab p).words (ab p).funcs).data.toNat,Y.en (z p.funcs-1)=1:=by
 have g:z (ab p).funcs=z p.funcs:=by unfold ab;exact Src.kN _ _ _
 obtain⟨ft,f0,a,fts⟩:=yF (ai p).1 p.funcs (ai p).2;obtain⟨bk,l,d,bks⟩:=Ce (z (ab p).funcs) (cK (ab p).words (ab p).funcs).depths 0 (ab p).words;have j:(cK (ab p).words (ab p).funcs).depths=(ab p).funcs.map λx=>bq (bW x):=rfl;have B:∀(f:Nat)(x:CFn),(ab p).funcs[f]?=S x->(cK (ab p).words (ab p).funcs).depths[f]?=S (bq (bW x)):=λf x I=>by rw[j,x8,I];rfl
 have b:∀(f:Nat)(fn:Src.Fn),p.funcs[f]?=S fn->(ab p).funcs[f]?=S (xP p fn (ft f)):=λf fn e=>(fts f fn e).1
 have bs:∀f:Nat,∃q:Nat×(Nat->Nat),∀fn,p.funcs[f]?=S fn->Oa (filled (whole (ab p).funcs (cK (ab p).words (ab p).funcs))) (eN (whole (ab p).funcs (cK (ab p).words (ab p).funcs))) (ab p).funcs (cK (ab p).words (ab p).funcs) f (xP p fn (ft f)) q.1 q.2/\(f=z (ab p).funcs-1->q.1=1):=λf=>by
  cases e:p.funcs[f]? with
  |none=>exact⟨(0,id),λ_ h=>by cases h⟩
  |some fn=>
    obtain⟨en,pl,i⟩:=RD H B (b f fn e);exact⟨(en,pl),λa h=>by cases h;exact i⟩
 obtain⟨q,i⟩:=Classical.skolem.1 bs;have m:(cK (ab p).words (ab p).funcs).back=(Emit.dk (z (ab p).funcs) 0 (cK (ab p).words (ab p).funcs).depths (ab p).words).1:=rfl;have o:(cK (ab p).words (ab p).funcs).base=(Emit.dk (z (ab p).funcs) 0 (cK (ab p).words (ab p).funcs).depths (ab p).words).2.1:=rfl;have hD:(cK (ab p).words (ab p).funcs).data=(Emit.dk (z (ab p).funcs) 0 (cK (ab p).words (ab p).funcs).depths (ab p).words).2.2:=rfl;refine⟨⟨ft,bk,λf=>if f+1=z p.funcs then bk f else bk f+1,λf=>(q f).1,λf=>(q f).2,cK (ab p).words (ab p).funcs,h,c,a7,hC,f0,?_,?_,b,λf fn e=>(i f fn e).1,λf fn e=>(fts f fn e).2,λf fn e=>?_⟩,?_⟩
 .rw[a,l];rfl
 .rw[j,j6,g]at d
  rw[d];rw[<-j,<-g,<-hD];omega
 .obtain⟨r,k,E⟩:=bks f _ (B f _ (b f fn e))
  rw[C7,g]at k E;rw[m,o,g]at *;rw[r,k];exact⟨rfl,rfl,rfl,E⟩
 .have s:=H.n
  obtain⟨fn,e⟩:∃fn,p.funcs[z p.funcs-1]?=S fn:=⟨_,v8 a7⟩
  exact(i _ fn e).2 a7
end
end
section
open Go.Asm (Str)
open Go.Src (Ex Stm Fn Prog)
section
def Tk{A:Type}(fu:Nat)(r:Rs A):Prop:=match r with|.ok _ G=>G.tk<=fu|.en _ G=>G.tk<=fu|.no=>True
section
variable{A β:Type}{fu:Nat}
def kU{r:Rs A}{k:A->Sg->Rs β}(h:Tk fu r)(a:∀v G,G.tk<=fu->Tk fu (k v G)):Tk fu (r.bind k):=by
 cases r with
 |ok v G=>exact a v G h
 |en e G=>exact h
 |no=>trivial
def xe{o:Option A}{k:A->Rs β}(a:∀x,Tk fu (k x)):Tk fu (need o k):=by cases o;trivial;exact a _
def xf{G:Sg}{k:Sg->Rs β}(h:G.tk<=fu)(a:∀G,G.tk<=fu->Tk fu (k G)):Tk fu (tick fu G k):=by
 unfold tick;split
 .exact a _ VL
 .exact h
def FF{c:Prop}[Decidable c]{a b:Rs A}(d:Tk fu a)(e:Tk fu b):Tk fu (if c then a else b):=by split;exact d;exact e
def Rt{l:List A}{r:Rs β}(h:Tk fu r):Tk fu (l0 l r):=by unfold l0;split;exact h;trivial
def MH{l:List A}{k:A->Rs β}(h:∀a,Tk fu (k a)):Tk fu (l1 l k):=by unfold l1;split;exact h _;trivial
def MJ{l:List A}{k:A->A->Rs β}(h:∀a b,Tk fu (k a b)):Tk fu (l2 l k):=by unfold l2;split;exact h _ _;trivial
def NU{l:List A}{r:Rs β}{k:A->Rs β}(b:Tk fu r)(h:∀a,Tk fu (k a)):Tk fu (l01 l r k):=by unfold l01;split;exact b;exact h _;trivial
end
section
variable{p:Prog}{fd:Nat->Str->Option (Nat×Nat)}{inp:Str}{fu:Nat}
def NV:∀n:Nat,(∀f L G e,G.tk<=fu->Tk fu (evE p fd inp fu n f L G e))/\(∀f L G e,G.tk<=fu->Tk fu (dr p fd inp fu n f L G e))/\(∀f L G s,G.tk<=fu->Tk fu (evS p fd inp fu n f L G s))/\
  (∀f L G l,G.tk<=fu->Tk fu (da p fd inp fu n f L G l))/\(∀f L G a l,G.tk<=fu->Tk fu (evW p fd inp fu n f L G a l))/\∀g vs G,G.tk<=fu->Tk fu (evB p fd inp fu n g vs G)
 |0=>by
   refine⟨λf L G e h=>?_,λf L G e h=>?_,λf L G e h=>?_,λf L G e h=>?_,λf L G a e h=>?_,λf L G h=>?_⟩
   .rw[evE];trivial
   .rw[dr];trivial
   .rw[evS];trivial
   .rw[da];trivial
   .rw[evW];trivial
   .rw[evB];trivial
 |n+1=>by
   obtain⟨U,c,k,b,d,i⟩:=NV n;refine⟨λf L G e h=>?_,λf L G e h=>?_,λf L G e h=>?_,λf L G e h=>?_,λf L G a e h=>?_,λf L G h=>?_⟩
   .obtain⟨kind,op,num,name,j⟩:=e
    rw[evE]
    repeat' first
     |exact x9|assumption|exact U _ _ _ _ ‹_› | exact c _ _ _ _ ‹_› | exact i _ _ _ ‹_›
     |refine kU ?_ λ_ _ _=>?_|refine xe λ_=>?_|refine xf ?_ λ_ _=>?_|refine Rt ?_|refine MH λ_=>?_|refine MJ λ_ _=>?_
     |refine FF ?_ ?_|split|unfold Fw|unfold Fx|unfold opV|unfold kD
   .cases e<;>rw[dr]
    .exact h
    .exact kU (U _ _ _ _ h) λ_ _ h=>kU (c _ _ _ _ h) λ_ _ h=>h
   .obtain⟨kind,name,e,m,el⟩:=e
    rw[evS]
    repeat' first
     |exact x9|assumption|exact U _ _ _ _ ‹_› | exact c _ _ _ _ ‹_› | exact b _ _ _ _ ‹_› | exact d _ _ _ _ _ ‹_› | exact i _ _ _ ‹_›
     |refine kU ?_ λ_ _ _=>?_|refine xe λ_=>?_|refine xf ?_ λ_ _=>?_|refine MH λ_=>?_|refine MJ λ_ _=>?_|refine NU ?_ λ_=>?_
     |refine FF ?_ ?_|split|unfold Fy|unfold tW|unfold Fz
   .cases e<;>rw[da]
    .exact h
    .refine kU (k _ _ _ _ h) λ_ _ h=>?_
     split
     .exact h
     .exact b _ _ _ _ h
   .rw[evW]
    refine kU (U _ _ _ _ h) λ_ _ h=>?_;split
    .exact h
    refine kU (b _ _ _ _ h) λ_ _ h=>?_;split
    .exact h
    .exact xf h λ_ h=>d _ _ _ _ _ h
   .rw[evB]
    refine xe λ_=>?_;split
    .exact kU (b _ _ _ _ h) λ_ _ h=>h
    .trivial
end
end
end
end Go.Mn
namespace Go.Proofs.YtlacbjnmkhndiaaGreatDoor.Low
section
open Go Go.Am Go.Asm Go.Mach
open Go.Src (aX ab iN aD yO uF)
attribute[local congr]ite_cc
section
def vd{x:gS}(h:Emit.qz x):nO x=T:=by
 obtain⟨⟨U,d⟩,a,b,c⟩:=h;unfold Emit.inP at a b c;unfold nO eI jt inW pn;simp only[s5,B4];refine⟨⟨a7,a7⟩,?_,?_,?_⟩
 .split at a<;>split<;>simp_all
 .split at b<;>split<;>simp_all
 .split at c<;>split<;>simp_all
def BO{v m:Int}{b:Bool}(h:Emit.inP v m b):0<=v:=by unfold Emit.inP at h;split at h<;>omega
def IJ{x:gS}(h:Emit.qz x):Mn.Dec okI x:=by
 refine Mn.UZ h ?_;have V:=vd h;obtain⟨⟨U,d⟩,a,b,c⟩:=h;unfold nO at V;unfold okI;rw[I2 a7,I2 (BO a),I2 (BO b),I2 (BO c)];exact V
variable{p:Src.Prog}{o:cF}
def Af(h:aX p=0):iN p=if 32768<(ab p).words then(⟨0,[]⟩,2)else(ab p,0):=by unfold Src.iN;exact j8 (by simp[h])
def ve(h:aX p=0)(r:yO p)(E:szP p<=150)(hl:uF p=T):∃(code:List Nat)(d:Nat),fR p=((code,d),0)/\(∀x∈code,x<4294967296)/\
  ∀(inp:Str)(fu n:Nat),Mn.runN p inp fu n≠.no->(nV (Mn.runN p inp fu n)).1≠5->∀al,gq (nV (Mn.runN p inp fu n)).2.2 code d<=al->(EI okI code d inp al).1=(nV (Mn.runN p inp fu n)).1/\(EI okI code d inp al).2.1=(nV (Mn.runN p inp fu n)).2.1:=by
 unfold uF at hl;simp only[s5,B4]at hl
 have s:∀l:List Src.Fn,(l.map λf=>z f.params+z f.locals+aD f.body).sum=(l.map λf=>z f.params+z f.locals).sum+(l.map λf=>aD f.body).sum:=by
  intro l
  induction l with
  |nil=>rfl
  |cons a l t=>simp only[l9,D9,t];omega
 rw[lk,s]at E;obtain⟨U,w,A,B,k⟩:=Emit.RL h r a7 hl.2.1
 have b:∀f∈p.funcs,z f.params<=6:=λf hf=>by
  have V:=(Src.zU h).1;unfold Src.dX at V;simp only[s5,B4,y8]at V;exact U8
 have H:=Emit.MS h b;have c:=λx I=>IJ (k x I);obtain⟨Y,i⟩:=Mn.Va h H ⟨w,A⟩ B c;have g:=Mn.Rq H;refine⟨(Emit.filled (Emit.whole (ab p).funcs (eC p))).map kY,(eC p).data.toNat,?_,?_,?_⟩
 .unfold fR
  rw[Af h,j8 (show ¬32768<(ab p).words by omega),j8 a8];unfold qE eC;rw[j8 a7];simp only;rw[j8 a7,l8 (y8.2 λx I=>vd (k x I))]
 .intro x I
  obtain⟨y,q,rfl⟩:=E3.1 I;have hd:=(c y q).1;have:=(k y q).1;show Mn.dP y<_;omega
 intro inp fu n u k al m;have j:=Mn.MF (Y:=Y) (inp:=inp) (fu:=fu) g i n;unfold gq at m;rw[j6]at m;cases V:Mn.runN p inp fu n with
 |ok v G=>
   rw[V]at j m;exact j al m
 |en e G=>
   rw[V]at j m k;exact j k al m
 |no=>exact absurd V u
def LW(a s t:Nat)(x:Str):ax Tryz.prog 24 [.agg [.d (.int .i64 (a:Nat)),.d (.str x),.d (.int .i64 (s:Nat))],.agg [.d (.int .i64 (a:Nat)),.d (.str x),.d (.int .i64 (t:Nat))]] (·=bv T):=by
 refine hdP Tryz.func24 rfl [4] λg=>?_;exact hx
def IK(code:List Nat)(d:Nat)(U:z code<=16384)(a:d<=32768):ax Tryz.prog 8 [eZ (code,d)] (·=bv T):=by
 refine hdP Tryz.func8 rfl [2] λg=>?_;unfold eZ eO;have U:(z code:Int)<=16384:=a7;have a:(d:Int)<=32768:=a7;have b:(0:Int)<=(d:Int):=a7;simp only[go_sem,j6,U,a,b]
def wG(h:aX p=0):∀a∈p.arrays,0<=a.2/\a.2<=4096:=λa c=>by
 have b:=(Src.zU h).1;unfold Src.dX at b;simp only[s5,y8]at b;have:=b.2.1 a c;exact xc
def LX:∀l:List (Str×Int),(∀a∈l,0<=a.2/\a.2<=4096)->(l.map (·.2)).sum<=4096*(z l:Int):=by
 intro l
 induction l with
 |nil=>intro _;simp
 |cons a l b=>
   intro h;have:=b λx I=>h x We;have:=h a a8;simp only[l9,D9,j9];omega
def TX(az:szP p<=150):Sm p:=by
 rw[lk]at az;refine⟨a7,a7,a7,λf a=>?_⟩;have:=kf a;rw[lk]at this;exact⟨⟨a7,a7⟩,a7⟩
def LY(p:Src.Prog)(H:Src.InP p)(m:Nat)(hm:m<=150):bP Tryz.prog 1 o 6 [bS p,iv .i64 (m:Nat)] (λr=>∃b,r=bv b/\(b=T->aX p=0/\szP p<=m/\uF p=T)):=by
 refine hdG Tryz.func6 rfl [.tmp 4] λO bn s0 w0 g=>?_;have L:=Tw p H m a7;have Y:∀f∈p.funcs,Src.pR f.body:=λf hf=>(H.fs f hf).2.2;have v:=λh=>Ld (o:=o) p h Y;have l:=λU h2 h3=>Le p U h2 h3;have n:=H.a;rw[bK]at L v l|-;simp only[go_sem];refine dD (λk K=>∃c:Int,K.f 2=.one (.ptr 2 (K.gen 2) 0)/\K.obj 2=S [.d (.sl (p.vars.map λs=>[.str s])),.d (.sl (p.arrays.map arD)),.d (.sl (p.funcs.map fnD))]/\K.f 1=iv .i64 (m:Nat)/\K.f 5=iv .i64 c/\K.f 6=iv .i64 k) (z p.arrays) ⟨0,?_⟩ ?_
 .exact hx
 rintro k f g1 av hk ⟨c,t,u,x,y,G⟩;simp only at t u x y G;have hw:=ac (k:=k) a7;by_cases X:k<z p.arrays
 .have Q:(k:Int)<(z p.arrays:Int):=a7
  obtain⟨a,E⟩:=getq X;have I:=getD_at (f:=arD) E;have A:arD a=[.str a.1,.int .i64 a.2]:=rfl;rw[A]at I;by_cases hn:200<a.2
  .simp only[go_sem,t,u,G,Q,j6,I,hn]
   exact⟨F,rfl,a8⟩
  .simp only[go_sem,t,u,y,G,Q,j6,I,hn,hw]
   refine bN X ⟨IntKind.i64.wrap (c+a.2),?_⟩;simp only[go_sem,t,u,x]
 have Q:¬(k:Int)<(z p.arrays:Int):=a7;simp only[go_sem,t,u,x,G,Q,j6];refine jr aE rfl (by simp only[go_sem,t,u,x];exact L) (by simp only[go_sem,t,u,x];rfl) ?_;rintro _ rfl;cases j:Src.Tv p m
 .simp only[go_sem,y]
  exact⟨F,rfl,a8⟩
 have az:szP p<=m:=by have:=Src.UT (i:=m) j;rw[lk];omega
 by_cases Z:c<=200
 case neg=>
  simp only[go_sem,y,Z];exact⟨F,rfl,a8⟩
 simp only[go_sem,t,u,y,Z];refine mf aE (λs β ds w h=>h.1.2) rfl (by simp only[go_sem,t,u];exact v (TX a7)) (by simp only[go_sem,t,u];rfl) ?_;rintro _ rfl;by_cases E:aX p=0
 case neg=>
  have e:¬(aX p:Int)=0:=a7;simp only[go_sem,e];exact⟨F,rfl,a8⟩
 have q:=wG E;have bd:=LX p.arrays q;have cf:z p.arrays<=150:=by rw[lk]at az;omega
 have l:=l a7 (λa ha=>(q a ha).1) a7;simp only[go_sem,t,u,E];refine jr aE rfl (by simp only[go_sem,t,u];exact l) (by simp only[go_sem,t,u];rfl) ?_;rintro _ rfl;simp only[go_sem];exact⟨_,rfl,λh=>⟨E,az,h⟩⟩
def LZ{inp:Str}{fu:Nat}(I:z inp<=1000)(Y:fu<=1000)(h:aX p=0)(hn:yO p)(az:szP p<=150)(hl:uF p=T){code:List Nat}{d:Nat}(hi:fR p=((code,d),0)):
  bP Tryz.prog 1 o 9 [eZ (code,d),bS p,sv inp,iv .i64 (fu:Nat)] (·=bv T):=by
 refine hdG Tryz.func9 rfl [.tmp 8] λO bn s0 w0 g=>?_;obtain⟨l,d',bo,H,bf⟩:=ve h hn az hl;obtain⟨⟨rfl,rfl⟩,_⟩:(code=l/\d=d')/\True:=by rw[hi]at bo;simpa using bo
 obtain⟨n,u⟩:=Mn.Rr (inp:=inp) (fu:=fu) h hn;have q:=wG h;have X:=qG p;rw[hi]at X;simp only at X
 have w:SmM p inp fu:=by
  have hz:=az;rw[lk]at hz;refine⟨a7,a7,a7,λf hf=>?_,a7,a7,λk=>?_⟩
  .have:=kf hf
   rw[lk]at this;exact⟨a7,a7,a7⟩
  .unfold alM
   cases hk:p.arrays[k]? with
   |none=>simp
   |some a=>
     have:=q a (l6 hk);simp only[z7,A5];omega
 have W:=Tx (o:=o) w (Src.zU h).1 u;have b':=bf inp fu n u
 have an:(nV (Mn.runN p inp fu n)).2.2<=fu:=by
  have:=(Mn.NV (p:=p) (fd:=Mn.ap p) (inp:=inp) (fu:=fu) n).2.2.2.2.2 (z p.funcs-1) [] (Mn.start p) (L0 _);unfold Mn.runN at u|-;revert this u;cases Mn.evB p (Mn.ap p) inp fu n (z p.funcs-1) [] (Mn.start p)with
  |ok v G=>exact λ_ h=>h
  |en e G=>exact λ_ h=>h
  |no=>exact λh _=>absurd rfl h
 generalize nV (Mn.runN p inp fu n)=r at W b' an;obtain⟨e,out,tk⟩:=r;simp only at W b' an;unfold Nk at W;have m:=F_A tk code d a7 a7 X.2;have hE:=λhb=>CZ code d inp (gq tk code d) a7 H X.2 hb;rw[bK]at W|-;unfold eZ eO at m hE|-;simp only[go_sem];refine cG rfl (by simp only[go_sem];exact W) ?_;rintro _ rfl;by_cases he:e=5
 .subst he
  exact hx
 have ca:¬(e:Int)=5:=a7;simp only[go_sem,ca];refine ip rfl (by simp only[go_sem];exact m) ?_;rintro _ rfl;simp only[go_sem];by_cases hb:gq tk code d<=2000000
 .have b5:¬(2000000:Int)<((gq tk code d:Nat):Int):=a7
  have hE:=hE a7;have b2:=λK=>LW e K tk out;obtain⟨b1,Q⟩:=b' he (gq tk code d) (l7 _);obtain⟨⟨e1,t,K⟩,y⟩:∃r,EI okI code d inp (gq tk code d)=r:=⟨_,rfl⟩
  rw[y]at b1 Q hE;simp only at b1 Q;subst b1 Q;refine bY aA mixed aE [] [([10],[],[],F),([22],[],[],F),([23],[],[],F),([4,24],[],[],F),([2,24],[],[],F),([10,24],[],[],F),([25,26,27,24],[],[],F),([9,24],[],[],F),([28,29,24],[],[],F),([24,30],[],[],F),([31],[],[],T)] 0 rfl c8 rfl b9 ?_;simp only[go_sem]
  iterate 6 (apply aj;(case hg=>first|exact x9|exact⟨_,rfl,by decide,rfl⟩);(case U=>intro Z ga oa V J;simp only[go_sem,b5]at J|-;exact J))
  unfold Ly at hE;refine aj (v:=.agg [.d (.int .i64 (e1:Nat)),.d (.str t),.d (.int .i64 (K:Nat))]) ⟨_,rfl,b9,rfl⟩ (λZ ga oa V J=>?_) ?_
  .simp only[go_sem]at J|-
   refine ip rfl W1 ?_;exact SF
  (apply aj;(case hg=>first|exact x9|exact⟨_,rfl,by decide,rfl⟩);(case U=>intro Z ga oa V J;simp only[go_sem]at J|-;exact J))
  refine aj (v:=bv T) ⟨_,rfl,b9,rfl⟩ (λZ ga oa V J=>?_) ?_
  .simp only[go_sem]at J|-
   refine ip rfl (by simp only[go_sem];exact b2 K) ?_;exact SF
  (apply aj;(case hg=>first|exact x9|exact⟨_,rfl,by decide,rfl⟩);(case U=>intro Z ga oa V J;simp only[go_sem]at J|-;exact J))
  refine bZ x9 ?_;intro V a';simp only[go_sem];refine a' _ ?_;clear a' V;exact hx
 have b5:(2000000:Int)<((gq tk code d:Nat):Int):=a7;refine rn aA mixed aE c8 c8 (λL s=>s.f 10=iv .i64 (gq tk code d:Nat)/\(L 0=T->s.f 22=iv .i64 (gq tk code d:Nat))/\(L 1=T->s.f 23=bv T)/\(L 2=T->s.f 24=bv T)/\(L 9=T->s.f 31=bv T)/\(L 10=T->s.f 8=bv T)) ?_ ?_ ?_
 .exact hx
 .rintro L ⟨fs,gs,A⟩ i o ⟨b,z0,z1,x,B,E⟩ ho hL c b8
  simp only at b z0 z1 x B E
  match i,ho with
  |0,ho=>
    simp only[x7,w7,s9,v7]at ho;subst ho;refine .inl ⟨trivial,?_⟩;simp only[go_sem,b];exact Uz
  |1,ho=>
    simp only[x7,w7,s9,v7]at ho;subst ho;refine .inl ⟨trivial,?_⟩;simp only[go_sem,b,z0 (c ⟨0,.data⟩ a8 rfl),b5];exact Uz
  |2,ho=>
    simp only[x7,w7,s9,v7]at ho;subst ho;refine .inl ⟨trivial,?_⟩;simp only[go_sem,b,z1 (c ⟨1,.data⟩ a8 rfl)];exact Uz
  |3,ho=>
    exact hO
  |4,ho=>
    exact hO
  |5,ho=>
    exact hO
  |6,ho=>
    exact hO
  |7,ho=>
    exact hO
  |8,ho=>
    exact hO
  |9,ho=>
    simp only[x7,w7,s9,v7]at ho;subst ho;refine .inl ⟨trivial,?_⟩;simp only[go_sem,b,x (c ⟨2,.data⟩ a8 rfl)];exact Uz
  |10,ho=>
    simp only[x7,w7,s9,v7]at ho;subst ho;refine .inl ⟨trivial,?_⟩;simp only[go_sem,b,B (c ⟨9,.data⟩ a8 rfl)];exact Uz
  |j+11,ho=>exact absurd ho a8
 .rintro L ⟨fs,gs,A⟩ ⟨b,z0,z1,x,B,E⟩ bs
  have:=E (bs 10 b9);simp only at this;simp only[go_sem,this]
def IZ(l:jS o)(p:Src.Prog)(hp:Src.InP p)(hn:yO p)(inp:Str):bP Tryz.prog 1 o 3 [bS p,sv inp] (·=bv T):=by
 refine hdG Tryz.func3 rfl [.tmp 4] λO bn s0 w0 g=>?_;have hL:=LY (o:=o) p hp 60 b9;have e:=λh=>xw l (p:=p) h;have j:=λU u v w code d x=>LZ (o:=o) (p:=p) (inp:=inp) (fu:=60) U b9 u hn v w (code:=code) (d:=d) x;rw[bK]at hL e j|-;simp only[go_sem];refine cG rfl (by simp only[go_sem];exact Me l) ?_;rintro _ rfl;simp only[go_sem];refine cG rfl VU ?_;rintro _ ⟨b,rfl,hb⟩;cases b
 .exact hx
 obtain⟨n,az,hl⟩:=hb rfl;by_cases t:(30:Int)<(z inp:Int)
 .simp only[go_sem,t]
 simp only[go_sem,t];obtain⟨code,d,V,_⟩:=ve n hn a7 hl;have e:=e a7;have i:=qG p;rw[V]at e i;simp only at i;have a:=IK code d i.1 i.2;have j:=j a7 n a7 hl code d V;unfold qF eZ eO at e;unfold eZ eO at a j;refine cG rfl (by simp only[go_sem];exact e) ?_;rintro _ rfl;simp only[go_sem];refine ip rfl (by simp only[go_sem];exact a) ?_;rintro _ rfl;simp only[go_sem];refine cG rfl (by simp only[go_sem];exact j) ?_;rintro _ rfl;exact hx
end
end
end Go.Proofs.YtlacbjnmkhndiaaGreatDoor.Low
namespace Go.Am
section
section
section
variable{P:Program}{t:TypeId}{ds:List D}
def fv.inv_bool(h:fv P t ds)(L:P.underlying t=S .bool):∃b,ds=[.bool b]:=by
 cases h with
 |bool _ b=>exact⟨b,rfl⟩
 |int r=>rw[L]at r;cases r
 |str r=>rw[L]at r;cases r
 |sl r=>rw[L]at r;cases r
 |struct r=>rw[L]at r;cases r
 |array r=>rw[L]at r;cases r
def fv.inv_int{k:IntKind}(h:fv P t ds)(L:P.underlying t=S (.int k)):∃m,ds=[.int k m]/\(Lit.int k m).wf=T:=by
 cases h with
 |int r m hw=>rw[L]at r;cases r;exact⟨m,rfl,hw⟩
 |bool r=>rw[L]at r;cases r
 |str r=>rw[L]at r;cases r
 |sl r=>rw[L]at r;cases r
 |struct r=>rw[L]at r;cases r
 |array r=>rw[L]at r;cases r
def fv.inv_str(h:fv P t ds)(L:P.underlying t=S .string):∃s,ds=[.str s]/\z s<=reachBytes:=by
 cases h with
 |str _ s hl=>exact⟨s,rfl,hl⟩
 |bool r=>rw[L]at r;cases r
 |int r=>rw[L]at r;cases r
 |sl r=>rw[L]at r;cases r
 |struct r=>rw[L]at r;cases r
 |array r=>rw[L]at r;cases r
def fv.inv_sl{e:TypeId}(h:fv P t ds)(L:P.underlying t=S (.slice e)):∃es,ds=[.sl es]/\z es*P.bytesOf e<=reachBytes/\∀x∈es,fv P e x:=by
 cases h with
 |sl r es hl a=>rw[L]at r;cases r;exact⟨es,rfl,hl,a⟩
 |bool r=>rw[L]at r;cases r
 |int r=>rw[L]at r;cases r
 |str r=>rw[L]at r;cases r
 |struct r=>rw[L]at r;cases r
 |array r=>rw[L]at r;cases r
def fv.inv_struct{fs:Array Field}(h:fv P t ds)(L:P.underlying t=S (.struct fs)):∃o:List (List D),ds=o.flatten/\z o=z fs.toList/\∀(i:Nat)(f:Field)(x:List D),fs.toList[i]?=S f->o[i]?=S x->fv P f.type x:=by
 cases h with
 |struct r o hl a=>rw[L]at r;cases r;exact⟨o,rfl,hl,a⟩
 |bool r=>rw[L]at r;cases r
 |int r=>rw[L]at r;cases r
 |str r=>rw[L]at r;cases r
 |sl r=>rw[L]at r;cases r
 |array r=>rw[L]at r;cases r
def ow{A β:Type}{f:β->A}{Q:β->Prop}:∀{l:List A},(∀x∈l,∃y,x=f y/\Q y)->∃m:List β,l=m.map f/\∀y∈m,Q y
 |[],_=>⟨[],rfl,λ_ h=>by cases h⟩
 |x::l,h=>by
   obtain⟨y,rfl,b⟩:=h x a8;obtain⟨m,rfl,c⟩:=ow (l:=l) λx I=>h x We
   exact⟨y::m,rfl,λX a=>by
    rcases A3.1 a with rfl|a
    .exact b
    .exact c X a⟩
end
end
end
end Go.Am
namespace Go.Proofs.YtlacbjnmkhndiaaGreatDoor
section
open Go Go.Am Go.ChangeShapes Go.WideShapes Go.ChangeAt Go.RowKit Go.Lib
def own:ownKnob Tryz.prog.godebug=N:=c9
def laidOut:laidOutB Tryz.prog=T:=c9
def wH:List (String×DataW Unit):=[("seedcorn/token.words",Rows.laid_seedcorn_token_words),("seedcorn/token.signs",Rows.laid_seedcorn_token_signs)]
def IL:reachBytes=140737488351232:=c9
def u9:Tryz.prog.underlying 9=S .string:=c9
def u4:Tryz.prog.underlying 4=S .bool:=c9
def u3:Tryz.prog.underlying 3=S (.int .i64):=c9
def u39:Tryz.prog.underlying 39=S (.int .u32):=c9
def u5:Tryz.prog.underlying 5=S (.int .u8):=c9
def tys:List TypeId:=[3,4,5,9,22,23,24,26,39,40,42,43,45,47,57]
def qe:sS Tryz.prog tys=T:=c9
def pr{H:Type}{enc:TypeId×Value->H}{P:Program}{w:World}{base:Nat}{sp:Nat->Bool}{A:Bool}{q:Nat}{t e:TypeId}{n:Nat}{cs:List Value}{f:List (List UInt8)}{p:List MemPlace}
 (k:P.underlying t=S (.array n e))(l:P.underlying e=S .string)(r:P.cellsOf e=1)(a:P.cellsOf t=n)
 (h:DataW.trod enc P w base sp A q t cs=S (DataW.agg (f.map λX=>.lit (.string X)),p)):∀(i:Nat)X,f[i]?=S X->cs[i]?=S (.string ⟨X.toArray⟩):=by
 cases q with
 |zero=>simp[DataW.trod]at h
 |succ q=>
   simp only[DataW.trod,k,r,a,L3]at h;split at h
   .obtain⟨c,d,I⟩:=G1.1 h
    have u:c.map (·.1)=f.map λX=>(DataW.lit (.string X):DataW H):=by
     have:=congrArg Prod.fst I;exact SV
    have x:z c=n:=by simpa using mapM_length d
    have bl:z f=n:=by
     have:=congrArg z u;simp at this;omega
    intro i X g
    have m:i<n:=by
     have:=(l5.1 g).1;omega
    obtain⟨b,o,v⟩:=mapM_at d i i (by simp[m]);obtain⟨s,Z,rfl,_⟩:=DataW.trod_string l v
    have U:cs[i]?=S (.string s):=by
     have:=congrArg (·[0]?) Z;simpa[I1,H0]using this
    have j:(c.map (·.1))[i]?=S (DataW.lit (.string s.data.toList):DataW H):=by simp[o]
    rw[u,x8,g]at j;have y:X=s.data.toList:=by simpa using j
    rw[U,y]
   .cases h
def EL{W:World}(h:laidMetH Tryz.prog wH W):∃o,sJ 1 o W/\jS o:=by
 rw[MakeChecks.laidMetH_plain _ _ _ c9]at h
 have a:∀(i:Nat)X,Src.iC[i]?=S X->W.cell? ⟨1,i,N⟩=S (.string ⟨X.toArray⟩):=by
  obtain⟨g,t,s,q,p,e,j,m,hd⟩:=laidMet.reads h (n:= "seedcorn/token.words") (d:=Rows.laid_seedcorn_token_words) (by simp[wH]);obtain rfl:=G6 ((show Tryz.prog.globalNamed "seedcorn/token.words" = S 1 by kernel_rfl).symm.trans e);obtain rfl:=G6 ((show (Tryz.prog.globals[1]?).map (·.type)=S 283 by kernel_rfl).symm.trans j);intro i X k;have Z:=pr (H:=Unit) (f:=Src.iC) (show Tryz.prog.underlying 283=S (.array 10 9) by kernel_rfl) u9 c9 c9 hd i X k;rw[World.var?_cell e m i,<-I4];exact Z
 have c:∀(i:Nat)X,Src.Py[i]?=S X->W.cell? ⟨0,i,N⟩=S (.string ⟨X.toArray⟩):=by
  obtain⟨g,t,s,q,p,e,j,m,hd⟩:=laidMet.reads h (n:= "seedcorn/token.signs") (d:=Rows.laid_seedcorn_token_signs) (by simp[wH]);obtain rfl:=G6 ((show Tryz.prog.globalNamed "seedcorn/token.signs" = S 0 by kernel_rfl).symm.trans e);obtain rfl:=G6 ((show (Tryz.prog.globals[0]?).map (·.type)=S 275 by kernel_rfl).symm.trans j);intro i X k;have Z:=pr (H:=Unit) (f:=Src.Py) (show Tryz.prog.underlying 275=S (.array 24 9) by kernel_rfl) u9 c9 c9 hd i X k;rw[World.var?_cell e m i,<-I4];exact Z
 have u:=a 0 _ rfl
 have v:1<W.heap.size:=by
  refine Nat.lt_of_not_le λx=>?_;simp[World.cell?,J7 x]at u
 refine⟨λb=>W.heap[b]?,⟨v,λ_ _=>rfl⟩,λw r=>⟨λi t l=>?_,λi t l=>?_⟩⟩
 .rw[<-a i t l]
  unfold World.cell?;rw[show w.heap[1]?=W.heap[1]? from r.2 1 b9]
 .rw[<-c i t l]
  unfold World.cell?;rw[show w.heap[0]?=W.heap[0]? from r.2 0 b9]
end
section
open Go Go.Am Go.Asm
open Go.Src (Ex Stm inE qI inS pR)
section
def PH{v:Value}{cs:List Value}{n:Nat}(h:v.cells.toList=cs)(hl:z cs=n+2):v=.agg cs.toArray:=by
 subst h;cases v with
 |agg vs=>simp[Value.cells]
 |_=>simp[Value.cells]at hl
def u49:Tryz.prog.underlying 40=S (.slice 42):=c9
def u51:Tryz.prog.underlying 42=S (Tt 42).desc:=c9
def u52:Tryz.prog.underlying 43=S (.slice 45):=c9
def u54:Tryz.prog.underlying 45=S (Tt 45).desc:=c9
def u22:Tryz.prog.underlying 22=S (.slice 9):=c9
def u23:Tryz.prog.underlying 23=S (.slice 57):=c9
def u65:Tryz.prog.underlying 57=S (Tt 57).desc:=c9
def u24:Tryz.prog.underlying 24=S (.slice 47):=c9
def u56:Tryz.prog.underlying 47=S (Tt 47).desc:=c9
def u26:Tryz.prog.underlying 26=S (Tt 26).desc:=c9
def vf{n b:Nat}(h:n*b<=reachBytes)(a:Nat.ble 1 b=T):n<=1000000000000000000:=by
 have U:=Ju a;have c:n<=n*b:=Sc _ U;rw[IL]at h;omega
def Dg:∀{l:List Ex},(∀e∈l,inE e/\Src.DW e)->qI l/\Src.uk l
 |[],_=>⟨trivial,trivial⟩
 |e::l,h=>by
   have U:=h e a8;have a:=Dg (l:=l) λx I=>h x We;exact⟨⟨U.1,a.1⟩,U.2,a.2⟩
def Dh:∀{l:List Stm},(∀e∈l,inS e/\Src.DX e)->pR l/\Src.ss l
 |[],_=>⟨trivial,trivial⟩
 |e::l,h=>by
   have U:=h e a8;have a:=Dh (l:=l) λx I=>h x We;exact⟨⟨U.1,a.1⟩,U.2,a.2⟩
def PI{m:Int}(h:(Lit.int .u32 m).wf=T):0<=m/\m<4294967296:=by
 simp only[Lit.wf,s5,B4]at h;have a:IntKind.u32.min=0:=rfl;have b:IntKind.u32.max=4294967295:=rfl;omega
def five{A:Type}{l:List A}(h:z l=5):∃a b c d e,l=[a,b,c,d,e]:=by
 match l,h with
 |[a,b,c,d,e],_=>exact⟨a,b,c,d,e,rfl⟩
variable{ds:List D}
def PJ{t:TypeId}(h:fv Tryz.prog t ds):(t=42->∃e,ds=exD e/\inE e/\Src.DW e)/\(t=40->∃l:List Ex,ds=[.sl (l.map exD)]/\z l<=1000000000000000000/\qI l/\Src.uk l):=by
 induction h with
 |bool hu=>exact⟨λe=>Wg,λe=>Wh⟩
 |int hu=>exact⟨λe=>Wg,λe=>Wh⟩
 |str hu=>exact⟨λe=>Wg,λe=>Wh⟩
 |array hu=>exact⟨λe=>Wg,λe=>Wh⟩
 |sl hu es hl h g=>
   refine⟨λe=>Wg,λe=>?_⟩;subst e;rw[u49]at hu;cases hu;obtain⟨l,rfl,i⟩:=ow (f:=exD) (Q:=λe=>inE e/\Src.DW e) λx I=>(g x I).1 rfl;rw[j6]at hl;obtain⟨a,b⟩:=Dg i;exact⟨l,rfl,vf hl c9,a,b⟩
 |struct hu parts hl h g=>
   refine⟨λe=>?_,λe=>Wh⟩;subst e;rw[u51]at hu;cases hu;obtain⟨a,b,c,d,e,rfl⟩:=five hl;obtain⟨j,rfl,_⟩:=(h 0 _ a rfl rfl).inv_int u3;obtain⟨k,rfl,_⟩:=(h 1 _ b rfl rfl).inv_int u3;obtain⟨m,rfl,n⟩:=(h 2 _ c rfl rfl).inv_int u39;obtain⟨o,rfl,_⟩:=(h 3 _ d rfl rfl).inv_str u9;obtain⟨l,rfl,U,p,q⟩:=(g 4 _ e rfl rfl).2 rfl;exact⟨.mk j k m o l,by simp[exD,aK],⟨U,p⟩,PI n,q⟩
def PK{t:TypeId}(h:fv Tryz.prog t ds):(t=45->∃e,ds=smD e/\inS e/\Src.DX e)/\(t=43->∃l:List Stm,ds=[.sl (l.map smD)]/\z l<=1000000000000000000/\pR l/\Src.ss l):=by
 induction h with
 |bool hu=>exact⟨λe=>Wi,λe=>Wj⟩
 |int hu=>exact⟨λe=>Wi,λe=>Wj⟩
 |str hu=>exact⟨λe=>Wi,λe=>Wj⟩
 |array hu=>exact⟨λe=>Wi,λe=>Wj⟩
 |sl hu es hl h g=>
   refine⟨λe=>Wi,λe=>?_⟩;subst e;rw[u52]at hu;cases hu;obtain⟨l,rfl,i⟩:=ow (f:=smD) (Q:=λe=>inS e/\Src.DX e) λx I=>(g x I).1 rfl;rw[j6]at hl;obtain⟨a,b⟩:=Dh i;exact⟨l,rfl,vf hl c9,a,b⟩
 |struct hu parts hl h g=>
   refine⟨λe=>?_,λe=>Wj⟩;subst e;rw[u54]at hu;cases hu;obtain⟨a,b,c,d,e,rfl⟩:=five hl;obtain⟨j,rfl,_⟩:=(h 0 _ a rfl rfl).inv_int u3;obtain⟨k,rfl,_⟩:=(h 1 _ b rfl rfl).inv_str u9;obtain⟨l,rfl,U,m,n⟩:=(PJ (h 2 _ c rfl rfl)).2 rfl;obtain⟨l1,rfl,o,p,q⟩:=(g 3 _ d rfl rfl).2 rfl;obtain⟨l2,rfl,r,s,u⟩:=(g 4 _ e rfl rfl).2 rfl;exact⟨.mk j k l l1 l2,by simp[smD,aK,dQ],⟨⟨U,m⟩,⟨o,p⟩,r,s⟩,n,q,u⟩
def vg(h:fv Tryz.prog 22 ds):∃l:List Str,ds=[.sl (l.map λs=>[.str s])]/\z l<=1000000000000000000:=by
 obtain⟨b,rfl,hl,a⟩:=h.inv_sl u22
 obtain⟨l,rfl,_⟩:=ow (f:=λs:Str=>[D.str s]) (Q:=λ_=>True) λx I=>by
  obtain⟨s,rfl,_⟩:=(a x I).inv_str u9;exact⟨s,rfl,trivial⟩
 rw[j6]at hl;exact⟨l,rfl,vf hl c9⟩
def WA(f:Src.Fn):Prop:=((z f.params<=1000000000000000000/\z f.locals<=1000000000000000000)/\z f.body<=1000000000000000000/\pR f.body)/\Src.ss f.body
def PL(h:fv Tryz.prog 47 ds):∃f,ds=fnD f/\WA f:=by
 obtain⟨o,rfl,hl,g⟩:=h.inv_struct u56;obtain⟨a,b,c,d,e,rfl⟩:=five hl;obtain⟨i,rfl,_⟩:=(g 0 _ a rfl rfl).inv_str u9;obtain⟨l1,rfl,U⟩:=vg (g 1 _ b rfl rfl);obtain⟨l2,rfl,j⟩:=vg (g 2 _ c rfl rfl);obtain⟨w,rfl⟩:=(g 3 _ d rfl rfl).inv_bool u4;obtain⟨y,rfl,k,l,m⟩:=(PK (g 4 _ e rfl rfl)).2 rfl;exact⟨⟨i,l1,l2,w,y⟩,rfl,⟨⟨U,j⟩,k,l⟩,m⟩
def PM(h:fv Tryz.prog 57 ds):∃a,ds=arD a/\True:=by
 obtain⟨o,rfl,hl,c⟩:=h.inv_struct u65
 obtain⟨a,b,rfl⟩:∃a b,o=[a,b]:=by
  match o,hl with
  |[a,b],_=>exact⟨a,b,rfl⟩
 obtain⟨d,rfl,_⟩:=(c 0 _ a rfl rfl).inv_str u9;obtain⟨e,rfl,_⟩:=(c 1 _ b rfl rfl).inv_int u3;exact⟨(d,e),rfl,trivial⟩
def IM(h:fv Tryz.prog 26 ds):∃p,ds=iH p/\Src.InP p/\Src.yO p:=by
 obtain⟨o,rfl,hl,g⟩:=h.inv_struct u26
 obtain⟨a,b,c,rfl⟩:∃a b c,o=[a,b,c]:=by
  match o,hl with
  |[a,b,c],_=>exact⟨a,b,c,rfl⟩
 obtain⟨l1,rfl,U⟩:=vg (g 0 _ a rfl rfl);obtain⟨m,rfl,j,d⟩:=(show fv Tryz.prog 23 b from g 1 _ b rfl rfl).inv_sl u23;obtain⟨n,rfl,k,e⟩:=(show fv Tryz.prog 24 c from g 2 _ c rfl rfl).inv_sl u24;obtain⟨l2,rfl,_⟩:=ow λx I=>PM (d x I);obtain⟨y,rfl,l⟩:=ow λx I=>PL (e x I);rw[j6]at j k;exact⟨⟨l1,l2,y⟩,rfl,⟨U,vf j c9,vf k c9,λf i=>(l f i).1⟩,λf i=>(l f i).2⟩
end
end
section
open Go Go.Am
def WB:List FuncId:=[3,5,11,30,53,54,83,146,84,85,147,82,86,87,148,188,201,202,210,212,211,213,203,204,52,80,142,181,143,144,145,182,183,184,185,187,186,189,81,55,88,89,149,90,150,190,151,191,31,7,18,43,68,103,163,104,164,106,107,105,165,166,69,108,167,168,173,197,169,170,171,109,172,110,44,45,70,71,19,20,22,49,77,139,175,176,198,140,177,199,78,21,46,72,111,112,113,114,174,115,47,73,116,117,74,118,119,120,121,122,123,124,125,126,127,128,129,130,131,132,133,134,75,135,48,76,136,137,138,32,33,56,57,12,34,14,13,36,35,58,91,152,192,205,206,207,92,153,154,155,156,193,208,209,194,195,6,15,37,38,59,16,39,60,61,93,94,157,159,158,160,62,95,161,196,40,63,25,96,29,26,27,51,97,64,41,65,98,99,66,100,162,101,17,42,67,102,8,9,23,50,79,141,178,180,179,200,24]
def clo:Tryz.prog.closure 3=WB:=c9
def IN:Tryz.prog.unfollowed 3=T:=by
 unfold Program.unfollowed;rw[clo]
 kernel_rfl
def TY:Tryz.prog.recurses 3=T:=by
 unfold Program.recurses;rw[IN];rfl
def TZ:(Rows.stackcMeansRow.inPlace==Tryz.prog.inPlace 3)=T:=by
 unfold Program.inPlace;rw[clo]
 kernel_rfl
def Ua:(Rows.stackcMeansRow.named==Tryz.prog.varsNamed 3)=T:=by
 unfold Program.varsNamed;rw[clo]
 kernel_rfl
def PN:Tryz.prog.goes 3=F:=by
 unfold Program.goes;rw[clo,IN]
 kernel_rfl
def Ma:joinedFacts Tryz.prog 3 Tryz.f3 Rows.stackcMeansSpec Rows.stackcMeansRow=T:=by
 unfold joinedFacts;rw[TZ,Ua,IN,TY]
 kernel_rfl
def IP:F=Rows.stackcMeansRow.goesBy Tryz.prog:=by
 unfold OpenClaim.goesBy Program.goesAt Program.goesFrom;rw[show Tryz.prog.funcNamed Rows.stackcMeansRow.func=S 3 by kernel_rfl];simp only[Sk,PN,R6];rfl
end
end Go.Proofs.YtlacbjnmkhndiaaGreatDoor
