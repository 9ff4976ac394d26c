/- A part; no conditions. -/
import Derived.Test.YtfdbpgoicedpcaaGreatDoorPart18
import Derived.Lib.Join
import Derived.Lib.LaidTab
import Derived.Lib.LaidU8
import Derived.OpenShut
import Derived.Laws.IdiomArrays
import Derived.Test.YtfdbpgoicedpcaaGreatDoorTie
import Derived.Test.YtfdbpgoicedpcaaGreatDoorCards
set_option linter.all false
open List renaming length -> z
open Option renaming some -> S, none -> N
open Bool renaming true -> T, false -> F
set_option maxHeartbeats 64000000
set_option maxRecDepth 100000
namespace Go.Mn
section
open Go.Emit (MI aD aE kU ku lz close dr jb eT jJ cT)
open Go.Src (Prog Fn Ex Stm ab eR bR coreS cF ay cR mD)
open Go.Lower (Ins Code cE cEs lU cS cSs jS ifC uc leave codeOf)
section
variable{okI:Nat->Nat->Nat->Nat->Bool}{p:Prog}{C:List MI}{env:Int×Int->Int}{D:Nat}{Y:Lay okI p C env D}{inp:Asm.Str}{W fu:Nat}
variable(Y inp W fu)in
def GS(n:Nat):Prop:=∀(f:Nat)(fn:Src.Fn),p.f[f]?=S fn->∀(L:List Nat)(G:Sg)(s:Stm)(k:Nat)(c:Cf),Sub Y f fn k (cS fn.word k (coreS (ay p).1 (iP fn (Y.ft f)) s))->Ste Y f fn k 0 L G c->SR Y inp W f fn k (k+z (cS fn.word k (coreS (ay p).1 (iP fn (Y.ft f)) s))) G c (evS p (aG p) inp fu n f L G s)
variable(Y inp W fu)in
def GSs(n:Nat):Prop:=∀(f:Nat)(fn:Src.Fn),p.f[f]?=S fn->∀(L:List Nat)(G:Sg)(l:List Stm)(k:Nat)(c:Cf),Sub Y f fn k (cSs fn.word k (cF (ay p).1 (iP fn (Y.ft f)) l))->Ste Y f fn k 0 L G c->SR Y inp W f fn k (k+z (cSs fn.word k (cF (ay p).1 (iP fn (Y.ft f)) l))) G c (eM p (aG p) inp fu n f L G l)
def wcd(Y:Lay okI p C env D)(f:Nat)(fn:Src.Fn)(k:Nat)(a:Ex)(l:List Stm):Lower.Code:=jS k (cE k 0 (eR (ay p).1 (iP fn (Y.ft f)) a)) (λr=>cSs fn.word r (cF (ay p).1 (iP fn (Y.ft f)) l))
variable(Y inp W fu)in
def GW(n:Nat):Prop:=∀(f:Nat)(fn:Src.Fn),p.f[f]?=S fn->∀(L:List Nat)(G:Sg)(a:Ex)(l:List Stm)(k:Nat)(c:Cf),Sub Y f fn k (wcd Y f fn k a l)->Ste Y f fn k 0 L G c->SR Y inp W f fn k (k+z (wcd Y f fn k a l)) G c (evW p (aG p) inp fu n f L G a l)
section
variable{f:Nat}{fn:Src.Fn}{k E k1 m:Nat}{d w:Int}{L:List Nat}{G ad H:Sg}{c c1 c':Cf}(g:p.f[f]?=S fn)
include g
theorem SR.bind{r}{q:List Nat->Sg->Rs (List Nat×Option Nat)}(h:SR Y inp W f fn k k1 G c r)(i:k1<=m)(l:∀bd H c1,Ste Y f fn k1 0 bd H c1->SR Y inp W f fn k1 m H c1 (q bd H)):SR Y inp W f fn k m G c (r.bind λr H=>match r.2 with|some v=>.ok (r.1,S v) H|none=>q r.1 H):=by match r with|.no=>trivial;|.en e a=>exact EO.mono g h i;|.ok (L,N) a=>obtain⟨j,c',r,e,s,b⟩:=h;exact(l L a c' s).after g r e b;|.ok (L,S v) a=>exact SR.mono g h i λ_ _ e=>by cases e
theorem SR.cast{r}(h:SR Y inp W f fn k k1 G c r)(e:k1=m):SR Y inp W f fn k m G c r:=e▸h
theorem WR{r}(ar:Ste Y f fn k 0 L G c)(b:(Y.cd f fn)[k]?=S (⟨8,(r:Nat),0,0⟩,w))(V:k+1<=r):SO Y inp W f fn k r G c L G:=by obtain⟨c',e,j,o,i⟩:=GQ g ar b;have:=kT (Y:=Y) g V;exact⟨1,c',e,a7,o,λa _=>by rw[i]⟩
theorem IC(ar:Ste Y f fn k 0 L G c)(a:Sub Y f fn k (leave fn.word)):RO Y inp W f fn k (k+z (leave fn.word)) G c 0 G:=by unfold leave at a|-;cases hw:fn.word with|false=>rw[hw]at a;exact MN g ar (λh=>absurd h ZN) (λh=>absurd h ZN) a.hd;|true=>rw[hw]at a;obtain⟨j,c1,b,e,o,i,l⟩:=GP (inp:=inp) (W:=W) g ar a.hd a8;exact SR.after (r:=.ok (L,S _) G) g b e (l.ks g (C7 0)) (MN (inp:=inp) (W:=W) g o (λ_=>i) (λ_=>rfl) a.tl.hd)
theorem aaJ(hW:z C+4*D+8<=W)(h:Rch Y f fn k d):Y.pl f k<=W:=by have:=h.lt g;have U:=kT (Y:=Y) g (M1 this);have Z:=(Y.at_ f fn g).le;grind[Lay.cd]
end
theorem MO{n}(b:GS Y inp W fu n)(e:GSs Y inp W fu n):GSs Y inp W fu (n+1):=by intro f fn g L G l k c a ar;cases l with|nil=>rw[cF,cSs,eM];exact⟨0,c,.refl,b9,ar,λ_ _=>rfl⟩;|cons s l=>rw[cF,cSs]at a;rw[cF,cSs,eM,j7,<-D4];obtain⟨i,j⟩:=a.app;exact SR.bind g (b f fn g L G s k c i ar) a7 λm H c1 o=>e f fn g m H l _ c1 j o
theorem RH(hW:z C+4*D+8<=W){n}(O:GE Y inp W fu n)(V:GSs Y inp W fu n)(X:GW Y inp W fu n):GW Y inp W fu (n+1):=by
 intro f fn g L G a l k c m ar;have d:=m;unfold wcd jS at d|-;obtain⟨A,x⟩:∃A,cE k 0 (eR (ay p).1 (iP fn (Y.ft f)) a)=A:=⟨_,rfl⟩
 have u:=λm=>O f fn g L G a k 0 c m ar;rw[x]at d u|-;obtain⟨B,hB⟩:∃B,cSs fn.word (k+z A+1) (cF (ay p).1 (iP fn (Y.ft f)) l)=B:=⟨_,rfl⟩
 have i:=λL G c m ar=>V f fn g L G l (k+z A+1) c m ar;rw[hB]at i;simp only[hB]at d|-;obtain⟨t,y⟩:=d.app;obtain⟨bf,an⟩:=y.tl.app;rw[evW];refine XR.bindS g (C7 0) (u t) b9 λv H c1 o m1 K1=>?_;obtain⟨c3,I,e3,s,m3⟩:=Ck (inp:=inp) g o y.hd (C7 0) m1;by_cases K:v=0
 .rw[s5 K]at s|-
  have e1:=kT (Y:=Y) g (show k+z A+1<=k+z A+1+z B+1 by omega);have:SO Y inp W f fn (k+z A) (k+z A+1+z B+1) H c1 L H:=⟨2,c3,I,a7,s,λa _=>by rw[m3]⟩
  exact SR.cast g this ZN
 .rw[l4 K]at s|-
  refine SR.after (H:=H) (k1:=k+z A+1) g I a7 adC ?_;refine SR.bind (q:=λw j=>tick fu j λaf=>evW p (aG p) inp fu n f w af a l) g (i L H c3 bf s) ZN λw j c4 J=>?_;unfold tick;split
  .obtain⟨c5,P,e5,Q,m5⟩:=GQ (inp:=inp) g J an.hd
   have ad:=aaJ g hW J.rch;have b:=X f fn g w ⟨j.v,j.arrs,j.out,j.rd,j.tk+1⟩ a l k c5 m ⟨Q.pc,Q.rch,⟨Q.gl.v,Q.gl.a,Q.gl.vl,Q.gl.al⟩,Q.fr,Q.wl,Q.rd,Q.out⟩;unfold wcd jS at b;rw[x]at b;simp only[hB]at b;refine SR.after g P ?_ (λa _=>by rw[m5]) b;have U:=(ar.rch.lt g)
   simp only[J6,Nat.one_mul]
   -- cu jump back is e for by cu tick
   have h5:Y.pl f (k+z A+1+z B+1)<=z C:=C4 (kT g (show _<=z (Y.cd f fn)from J.rch.lt g)) ((Y.at_ f fn g).le);omega
  .exact .inl rfl
end
variable{okI:Nat->Nat->Nat->Nat->Bool}{p:Prog}{C:List MI}{env:Int×Int->Int}{D:Nat}{Y:Lay okI p C env D}{inp:Asm.Str}{W fu:Nat}
theorem Kw{H β}{G}{k}{q:H->Sg->Rs β}:tick fu G (λa6=>(k a6).bind q)=(tick fu G k).bind q:=by unfold tick;split<;>rfl
theorem GN{o i}:∀{l},(cF o i l).isEmpty=l.isEmpty|[]=>by rfl;|_::_=>by rfl
theorem Rv{n}(hE:GE Y inp W fu n)(hL:GL Y inp W fu n)(hB:GB Y inp W fu n)(O:GSs Y inp W fu n)(hG:GW Y inp W fu n):GS Y inp W fu (n+1):=by
 intro f fn hf L G s k c hs ar;obtain⟨kind,name,e,th,el⟩:=s;rw[coreS,cS]at hs;rw[coreS,cS,evS];by_cases U:kind=1;.subst U;simp only[show¬(1:Int)=5 by decide,show¬(1:Int)=4 by decide,B1,B3]at hs|-;match e with|[]=>trivial;|_::_::_=>trivial;|[a]=>simp only[bR,cEs,u7]at hs|-;obtain⟨a1,bf⟩:=hs.app;rw[j7,<-D4];exact XR.bindS hf (C7 0) (hE f fn hf L G a k 0 c a1 ar) (L0 _ _) λv H c1 o m1 K1=>ML hf o m1 bf.hd
 by_cases Z:kind=2;.subst Z;simp only[show¬(2:Int)=5 by decide,show¬(2:Int)=4 by decide,show¬(2:Int)=1 by decide,B1,B3]at hs|-;match e with|[]=>trivial;|[_]=>trivial;|_::_::_::_=>trivial;|[a,b]=>simp only[bR,cEs,u7]at hs|-;obtain⟨a1,bf⟩:=hs.app;obtain⟨t,a1⟩:=a1.app;simp only[j7,<-D4]at bf|-;refine XR.bindS hf (C7 0) (hE f fn hf L G a k 0 c t ar) a7 λx H c1 o m1 K1=>?_;refine XR.bindS hf a8 (hE f fn hf L H b _ (0+1) c1 a1 o) a7 λy a6 c2 S2 m2 K2=>?_;have hd:=o.rch.dp hf;exact Cl hf S2 ((K2 _ a7).trans m1) m2 bf.hd
 by_cases h3:kind=3;.subst h3;simp only[show¬(3:Int)=5 by decide,show¬(3:Int)=4 by decide,show¬(3:Int)=1 by decide,show¬(3:Int)=2 by decide,B1,B3]at hs|-;match e with|[]=>trivial;|_::_::_=>trivial;|[a]=>simp only[bR,cEs,u7]at hs|-;obtain⟨a1,bf⟩:=hs.app;rw[j7,<-D4];exact XR.bindS hf (C7 0) (hE f fn hf L G a k 0 c a1 ar) (L0 _ _) λv H c1 o m1 K1=>MM hf o m1 bf.hd
 by_cases h4:kind=4;.subst h4;simp only[show¬(4:Int)=5 by decide,show¬(4:Int)=1 by decide,show¬(4:Int)=2 by decide,show¬(4:Int)=3 by decide,B1,B3]at hs|-;match e with|[]=>trivial;|_::_::_=>trivial;|[a]=>simp only[bR,cEs,u7,GN]at hs|-;obtain⟨A,hA⟩:∃A,cE k 0 (eR (ay p).1 (iP fn (Y.ft f)) a)=A:=⟨_,rfl⟩;have u:=λhs=>hE f fn hf L G a k 0 c hs ar;rw[hA]at hs u|-;obtain⟨t,a1⟩:=hs.app;obtain⟨B,m⟩:∃B,cSs fn.word (k+z A+1) (cF (ay p).1 (iP fn (Y.ft f)) th)=B:=⟨_,rfl⟩;have i:=λL G c hs ar=>O f fn hf L G th (k+z A+1) c hs ar;rw[m]at i;refine XR.bindS hf (C7 0) (u t) b9 λv H c1 o m1 K1=>?_;unfold ifC at a1|-;cases el with
 |nil=>
  simp only[T6,T4,B1,m,B4]at a1|-;obtain⟨c3,r3,e3,S3,m3⟩:=Ck (inp:=inp) hf o a1.hd (C7 0) m1;by_cases hv:v=0;.rw[s5 hv]at S3|-;have e1:=kT (Y:=Y) hf (show k+z A+1<=k+z A+1+z B by omega);cases n with|zero=>rw[eM];trivial;|succ n=>rw[eM];exact SR.cast hf ⟨2,c3,r3,a7,S3,λa _=>by rw[m3]⟩ ZN
  .rw[l4 hv]at S3|-;refine SR.after (H:=H) (k1:=k+z A+1) hf r3 a7 adC ?_;exact SR.cast hf (i L H c3 a1.tl S3) ZN;|cons s0 el=>
  obtain⟨E,I⟩:∃E,s0::el=E:=⟨_,rfl⟩;have K:E.isEmpty=F:=by rw[<-I];rfl
  rw[I]at a1|-;simp only[K,I4,B3,m]at a1|-;obtain⟨b2,av⟩:∃b2,cSs fn.word (k+z A+1+z B+1) (cF (ay p).1 (iP fn (Y.ft f)) E)=b2:=⟨_,rfl⟩;have az:=λL G c hs ar=>O f fn hf L G E (k+z A+1+z B+1) c hs ar;rw[av]at az a1;simp only[av];obtain⟨bf,an⟩:=a1.tl.app;obtain⟨c3,r3,e3,S3,m3⟩:=Ck (inp:=inp) hf o a1.hd (C7 0) m1;by_cases hv:v=0;.rw[s5 hv]at S3|-;have e1:=kT (Y:=Y) hf (show k+z A+1<=k+z A+1+z B+1 by omega);refine SR.after (H:=H) (k1:=k+z A+1+z B+1) hf r3 a7 adC ?_;exact SR.cast hf (az L H c3 an.tl S3) ZN
  .rw[l4 hv]at S3|-;refine SR.after (H:=H) (k1:=k+z A+1) hf r3 a7 adC ?_;refine SR.cast (k1:=k+z A+1+z B+1+z b2) hf (SR.mono hf (i L H c3 bf S3) a7 λbd ad e h=>?_) ZN;obtain⟨j,c4,r4,e4,J,X⟩:=h;obtain⟨j5,c5,P,e5,Q,K5⟩:=WR (inp:=inp) (W:=W) hf J an.hd a7;exact⟨j+j5,c5,r4.trans P,a7,Q,X.trans hf K5⟩
 by_cases h5:kind=5;.subst h5;simp at hs|-;match e with
 |[]=>trivial;|_::_::_=>trivial;|[a]=>
  simp[bR,lU]at hs|-;show SR Y inp W f fn k _ G c (tick fu G λH=>evW p (aG p) inp fu n f L H a th);unfold tick;split;.refine SR.after hf .refl ?_ (λ_ _=>rfl) (hG f fn hf L ⟨G.v,G.arrs,G.out,G.rd,G.tk+1⟩ a th k c hs ⟨ar.pc,ar.rch,⟨ar.gl.v,ar.gl.a,ar.gl.vl,ar.gl.al⟩,ar.fr,ar.wl,ar.rd,ar.out⟩);grind
  .exact .inl rfl
 by_cases h6:kind=6;.subst h6;simp only[show¬(6:Int)=1 by decide,show¬(6:Int)=2 by decide,show¬(6:Int)=3 by decide,show¬(6:Int)=4 by decide,show¬(6:Int)=5 by decide,B1,B3]at hs|-;cases hc:jC p f (aG p f name) (z e) F with|none=>trivial;|some g=>obtain⟨ht,b6,gn,hg,q,a'⟩:=xk hc;obtain⟨a1,bf⟩:=hs.app;rw[j7,<-D4];have i:=hL f fn hf L G e k 0 c a1 ar;show SR Y inp W f fn k _ G c ((fc p (aG p) inp fu n f L G e).bind λvs H=>tick fu H λa6=>(evB p (aG p) inp fu n g vs a6).bind λ_ af=>.ok (L,N) af);cases V:fc p (aG p) inp fu n f L G e with|no=>trivial;|en e H=>rw[V]at i;exact EO.mono hf i a7;|ok vs H=>rw[V]at i;obtain⟨⟨j,c1,r1,e1,o,m1,K1⟩,cm⟩:=i;have hk:=bf.hd;rw[sw Y hf,ht]at hk;have l:=MJ (r:=λ_ _=>.no) (w:=T) hf hB o (C7 0) hk hg b6 a7 m1;show SR Y inp W f fn k _ G c (tick fu H λa6=>(evB p (aG p) inp fu n g vs a6).bind λ_ af=>.ok (L,N) af);rw[Kw];cases hq:tick fu H λa6=>evB p (aG p) inp fu n g vs a6 with|no=>trivial;|en e a6=>rw[hq]at l;exact EO.after r1 e1 l;|ok v a6=>rw[hq]at l;obtain⟨j2,c2,r2,e2,S2,m2,K2⟩:=l;rw[l4 ZN]at S2;refine SR.after (r:=.ok (L,N) a6) hf r1 e1 (K1.ks hf (C7 0)) ?_;exact⟨j2,c2,r2,e2,S2,K2.ks hf (C7 0)⟩
 by_cases h7:kind=7;.subst h7;simp only[show¬(7:Int)=1 by decide,show¬(7:Int)=2 by decide,show¬(7:Int)=3 by decide,show¬(7:Int)=4 by decide,show¬(7:Int)=5 by decide,show¬(7:Int)=6 by decide,B1,B3]at hs|-;match e with
 |_::_::_=>trivial;|[]=>rw[bR,cEs,A3]at hs;rw[bR,cEs,A3];exact IC hf ar hs;|[a]=>
  simp only[bR,cEs,u7]at hs|-;obtain⟨a1,bf⟩:=hs.app;rw[j7,<-D4];show SR Y inp W f fn k _ G c (if (p.f[f]?).any (·.word)=T then(evE p (aG p) inp fu n f L G a).bind λv H=>.ok (L,S v) H else .no);split;.exact XR.bindS hf (C7 0) (hE f fn hf L G a k 0 c a1 ar) (L0 _ _) λv H c1 o m1 K1=>MN hf o (λ_=>m1) (λ_=>rfl) bf.hd
  .trivial
 simp only[U,Z,h3,h4,h5,h6,h7,B1];trivial
include Y in
theorem DP{a:Int}{n:Nat}{c:Cf}(e:0<=a):∀k:Nat,a+k<=D->At C c.pc (close env (kU a k) n)->∃c',Rn okI C inp D k c c'/\c'.pc=c.pc+k/\z (close env (kU a k) n)=k/\c'.l=c.l/\c'.rd=c.rd/\c'.out=c.out/\∀X,c'.mem X=if a<=X/\X<a+k then 0 else c.mem X
 |0,_,_=>⟨c,.refl,rfl,rfl,rfl,rfl,rfl,λX=>by grind⟩
 |k+1,h,b=>by
   have hD:=Y.hD;have f:∀k,jJ (kU a k):=λk=>(Emit.yT (Q:=λ_=>True) k).inner
   have g:close env (kU a (k+1)) n=close env (kU a k) n++[(17,0,0,a+k)]:=by
    rw[kU,dr (f k) eT];rfl
   rw[g]at b;obtain⟨s,o⟩:=b.app;obtain⟨c1,i,j,l1,m,q,r,t⟩:=DP e k a7 s;rw[l1,<-j]at o;refine⟨_,i.trans (adX Y.dec o.hd a7 a7),by grind,by grind,m,q,r,λX=>?_⟩;simp only;by_cases d:X=a+k
   .rw[d,ta,s5 a7]
   .rw[iW d,t]
    grind
include Y in
theorem Iw{b:Nat}{q:Nat}(g:b<=D)(d:At C q [(17,0,1,0),(4,1,1,15),(14,3,1,2),(20,3,0,(q:Int))]):∀(m:Nat)(c:Cf),c.pc=q->c.b=b->c.a+(m+1)=b->∃c',Rn okI C inp D (4*(m+1)) c c'/\c'.pc=q+4/\c'.l=c.l/\c'.rd=c.rd/\c'.out=c.out/\∀X,c'.mem X=if (c.a:Int)<=X/\X<b then 0 else c.mem X
 |m,c,i,o,hm=>by
   have hD:=Y.hD;subst i;have r:=(aea (inp:=inp) (D:=D) Y.dec d.hd a7 a7).trans ((WL Y.dec (c:=⟨c.pc+1,_,_,_,_,_,_,_⟩) d.tl.hd ZN).trans ((aee Y.dec (c:=⟨c.pc+1+1,_,_,_,_,_,_,_⟩) d.tl.tl.hd).trans (aaC Y.dec (c:=⟨c.pc+1+1+1,_,_,_,_,_,_,_⟩) d.tl.tl.tl.hd)));cases m with
   |zero=>
     refine⟨_,r,?_,rfl,rfl,rfl,λX=>?_⟩
     .grind
     .simp only
      by_cases f:X=c.a
      .rw[f,ta,s5 a7]
      .rw[iW f,l4 a7]
   |succ m=>
     have e:(if (if c.a+1<c.b then 1 else 0)=0 then c.pc+1+1+1+1 else((c.pc:Nat):Int).toNat)=c.pc:=by
      rw[s5 (show c.a+1<c.b by omega),l4 a8,C0]
     simp only[e]at r;obtain⟨c2,j,k,l2,n,s,t⟩:=Iw g d m ⟨c.pc,c.a+1,c.b,if c.a+1<c.b then 1 else 0,c.l,up c.mem c.a 0,c.rd,c.out⟩ rfl o ZN;have:=r.trans j;rw[show 1+(1+(1+1))+4*(m+1)=4*(m+1+1) by omega]at this;refine⟨c2,this,k,l2,n,s,λX=>?_⟩;rw[t];simp only;by_cases f:X=c.a
     .rw[l4 a7,f,ta,s5 a7]
     .rw[iW f]
      grind
include Y in
theorem MA{a b:Int}{c:Cf}(i:0<=a)(d:a<=b)(u:b<=D)(f:At C c.pc (close env (ku a b) c.pc)):∃j c',Rn okI C inp D j c c'/\j<=4*D+6/\c'.pc=c.pc+z (close env (ku a b) c.pc)/\c'.l=c.l/\c'.rd=c.rd/\c'.out=c.out/\∀X,c'.mem X=if a<=X/\X<b then 0 else c.mem X:=by
 by_cases g:b-a<=6
 .have e:ku a b=kU a (b-a).toNat:=s5 g
  rw[e]at f|-;obtain⟨c1,v,w,l1,x,y,A,B⟩:=DP (Y:=Y) (inp:=inp) i (b-a).toNat a7 f
  grind
 .have e:ku a b=λn=>⟨[(1,1,0,a),(1,2,0,b),(17,0,1,0),(4,1,1,15),(14,3,1,2),(20,3,0,(n:Int)+2)],[]⟩:=l4 g
  rw[e]at f|-;have f:At C c.pc [(1,1,0,a),(1,2,0,b),(17,0,1,0),(4,1,1,15),(14,3,1,2),(20,3,0,(c.pc:Int)+2)]:=f;have o:=f.tl.tl;obtain⟨c2,k,m,l2,r,s,E⟩:=Iw (Y:=Y) (inp:=inp) (b:=b.toNat) (q:=c.pc+1+1) a7 ZN ((b-a).toNat-1) ⟨c.pc+1+1,a.toNat,b.toNat,c.t,c.l,c.mem,c.rd,c.out⟩ rfl rfl ZN;refine⟨_,c2,(WK Y.dec f.hd).trans ((aeb Y.dec (c:=⟨c.pc+1,_,_,_,_,_,_,_⟩) f.tl.hd).trans k),a7,by rw[m];rfl,l2,r,s,λX=>?_⟩
  grind
end
section
open Go.Emit (MI aD aE gg ku lz close dr jb eT jJ cT)
open Go.Src (Prog Fn ab cF ay)
open Go.Lower (Ins Code cSs leave codeOf)
variable{okI:Nat->Nat->Nat->Nat->Bool}{p:Prog}{C:List MI}{env:Int×Int->Int}{D:Nat}{Y:Lay okI p C env D}{inp:Asm.Str}{W fu:Nat}
section
variable{f:Nat}{fn:Src.Fn}(w:p.f[f]?=S fn)
include w
theorem Ix{n}{L}{G}{c}(i:GSs Y inp W fu n)(ar:Ste Y f fn 0 0 L G c):match (eM p (aG p) inp fu n f L G fn.body).bind λr H=>.ok (r.2.getD 0) H with|.ok v ad=>RO Y inp W f fn 0 (z (Y.cd f fn)) G c v ad|.en e ad=>EO Y inp W f 0 (z (Y.cd f fn)) G c e ad|.no=>True:=by
 have b:Y.cd f fn=cSs fn.word 0 (cF (ay p).1 (iP fn (Y.ft f)) fn.body)++leave fn.word:=rfl;have d:Sub Y f fn 0 (Y.cd f fn):=λj x h=>by grind
 rw[b]at d;obtain⟨k,g⟩:=d.app;have U:=i f fn w L G fn.body 0 c k ar;rw[D2]at U g;rw[b,j7];match V:eM p (aG p) inp fu n f L G fn.body with|.no=>trivial;|.en e ad=>rw[V]at U;exact EO.mono w U a7;|.ok (a,S v) ad=>rw[V]at U;exact SR.mono w U a7 λ_ _ e=>by cases e;|.ok (a,N) ad=>rw[V]at U;obtain⟨j,c1,l,m,o,q⟩:=U;exact SR.after (r:=.ok (a,S 0) ad) w l m q (IC w o g)
end
theorem Rw(hW:z C+4*D+8<=W){n}(hL:GSs Y inp W fu n):GB Y inp W fu (n+1):=by
 intro g gn o bn vs G c hp hv y b7 ho;rw[evB,o];show BR Y inp W g gn G c (if z vs=z gn.p then(eM p (aG p) inp fu n g (vs++List.replicate (z gn.l) 0) G gn.body).bind λr H=>.ok (r.2.getD 0) H else .no);by_cases A:z vs=z gn.p;case neg=>rw[l4 A];trivial
 rw[s5 A];have I:=Y.at_ g gn o;have bd:z (ab p).f=z p.f:=by unfold ab;exact Src.nY _ _ _
 have B:=Y.base g gn o;have J:Rch Y g gn 0 0:=⟨C7 0,(mid Y o).2.1⟩;have hd:=J.dp o;have hD:=Y.hD;have af:=Y.fts g gn o;have u:=Y.ftm (i:=0) (j:=g) a7 a7;have b8:=Y.globs;have m:=B.2.2.1;rw[l4 a7]at m;have bo:∀k,close env (lz (ab p).f Y.P g) k=(17,14,0,Y.bk g)::close env (ku (Y.ft g+z gn.p) (Y.ft g+(z gn.p+z gn.l))) (k+1):=λk=>by
  have e:lz (ab p).f Y.P g=aD (aE 17 14 0 (Y.bk g)) (ku (Y.ft g+z gn.p) (Y.ft g+(z gn.p+z gn.l))):=by unfold lz;rw[l4 a7,Y.fs g gn o,B.2.1];rfl
  rw[e,dr eT (Emit.GV (Q:=λ_=>True)).inner,jb];rfl
 obtain⟨E,d'⟩:=I.head;rw[bo,<-hp]at E d';obtain⟨j2,c2,r2,l2,p2,e2,K,O,s⟩:=MA (Y:=Y) (inp:=inp) (c:=⟨c.pc+1,c.a,c.b,c.t,c.l,up c.mem (Y.bk g) c.l,c.rd,c.out⟩) a7 a7 a7 E.tl;have r:=(adY Y.dec E.hd a7 a7).trans r2;simp only at s p2 e2 K O;have hm:∀X:Int,X<Y.ft g+z gn.p->c2.mem X=c.mem X:=λX hz=>by rw[s,l4 a7,iW a7]
 have S2:Ste Y g gn 0 0 (vs++List.replicate (z gn.l) 0) G c2:=by
  refine⟨by grind,J,y.keep (Y:=Y) o λa w B=>hm a a7,λi x hi=>?_,by simp[A],K.trans b7,O.trans ho⟩;by_cases b5:i<z vs;.grind
  .grind
 have hB:=Ix o hL S2;have bl:Y.pl g (z (Y.cd g gn))<=z C:=I.le;have q:∀a:Int,(Y.ft (g+1)<=a/\a<Y.bk 0)\/Y.bk (g+1)<=a->c2.mem a=c.mem a:=λa w=>by have:=(Y.bks ((l9.1 o).1)).2;rw[s,l4 a7,iW a7]
 cases V:(eM p (aG p) inp fu n g (vs++List.replicate (z gn.l) 0) G gn.body).bind λr H=>.ok (r.2.getD 0) H with
 |no=>trivial;|en e ad=>
 rw[V]at hB;rcases hB with h|⟨j,U,Z⟩;.exact .inl h
 .exact .inr ⟨_,r.re U,a7⟩;|ok v ad=>rw[V]at hB;have hB:RO Y inp W g gn 0 (z (Y.cd g gn)) G c2 v ad:=hB;unfold RO at hB;rw[l4 a7]at hB;obtain⟨j,c3,r3,h3,p3,w3,g3,d3,o3,L⟩:=hB;refine⟨_,c3,r.trans r3,a7,?_,w3,g3,d3,o3,λa w=>(L a w).trans (q a w)⟩;rw[p3,s,l4 a7,ta]
theorem DQ(hW:z C+4*D+8<=W):∀n:Nat,GE Y inp W fu n/\GL Y inp W fu n/\GB Y inp W fu n/\GS Y inp W fu n/\GSs Y inp W fu n/\GW Y inp W fu n
 |0=>by
  refine⟨λf fn w L G e k d c b ar=>?_,λf fn w L G l k d c b ar=>?_,λg gn o q vs G c _ _ _ _ _=>?_,λf fn w L G s k c b ar=>?_,λf fn w L G l k c b ar=>?_,λf fn w L G a l k c b ar=>?_⟩;.rw[evE];trivial
  .rw[fc];trivial
  .rw[evB];trivial
  .rw[evS];trivial
  .rw[eM];trivial
  .rw[evW];trivial;|n+1=>by obtain⟨U,Z,i,m,h,j⟩:=DQ hW n;grind[RG,RF,Rw,Rv,MO,RH]
theorem Ve(c0:C[0]?=S (1,15,0,1))(c:Y.en (z p.f-1)=1) n:match runN p inp fu n with|.ok _ G=>∀al,8*(G.tk+1)*(z C+D+1)<=al->(Mach.Lu okI (C.map fK) D inp al).1=1/\(Mach.Lu okI (C.map fK) D inp al).2.1=G.out|.en e G=>e≠5->∀al,8*(G.tk+1)*(z C+D+1)<=al->(Mach.Lu okI (C.map fK) D inp al).1=e/\(Mach.Lu okI (C.map fK) D inp al).2.1=G.out|.no=>True:=by
 have V:=(Src.FA Y.snd).1;have hn:1<=z p.f:=by unfold Src.ct at V;simp at V;exact V.1.1.1
 obtain⟨L,g⟩:∃L,z p.f-1=L:=⟨_,rfl⟩;obtain⟨fn,w⟩:∃fn,p.f[L]?=S fn:=⟨_,x9 a7⟩;rw[g]at c;unfold runN;rw[g];cases n with|zero=>grind[evB];|succ n=>
 rw[evB,w];have o:=Y.at_ L fn w;have bd:z (ab p).f=z p.f:=by unfold ab;exact Src.nY _ _ _
 have E:Y.pl L 0=1:=by
  rw[o.head.2,c];have e:lz (ab p).f Y.P L=gg:=by unfold lz;rw[s5 a7]
  rw[e,Emit.KD];rfl
 let u:Cf:=⟨1,0,0,0,0,λ_=>0,0,[]⟩;have I:∃m,Ms D u m/\∀al,Mach.runM okI (C.map fK) inp (1+al) (Mach.start D)=Mach.runM okI (C.map fK) inp al m:=by refine⟨_,?_,λal=>step1 Y.dec rfl c0 al⟩;refine⟨rfl,rfl,rfl,rfl,rfl,rfl,rfl,rfl,rfl,H3 ..,λk J=>?_,rfl,rfl⟩;show (List.replicate D 0)[k]?=S 0;rw[T7,s5 J]
 obtain⟨K,d,O⟩:=I;show match (if z ([]:List Nat)=z fn.p then(eM p (aG p) inp fu n L ([]++List.replicate (z fn.l) 0) (start p) fn.body).bind λr H=>.ok (r.2.getD 0) H else .no:Rs Nat)with|.ok _ G=>∀al,8*(G.tk+1)*(z C+D+1)<=al->(Mach.Lu okI (C.map fK) D inp al).1=1/\(Mach.Lu okI (C.map fK) D inp al).2.1=G.out|.en e G=>e≠5->∀al,8*(G.tk+1)*(z C+D+1)<=al->(Mach.Lu okI (C.map fK) D inp al).1=e/\(Mach.Lu okI (C.map fK) D inp al).2.1=G.out|.no=>True;by_cases X:z ([]:List Nat)=z fn.p;case neg=>grind
 rw[s5 X];have ar:Ste Y L fn 0 0 ([]++List.replicate (z fn.l) 0) (start p) u:=by
  refine⟨E.symm,⟨C7 0,(mid Y w).2.1⟩,⟨λi x s=>?_,λi l hl j x hj=>?_,by simp[start],λi l hl=>?_⟩,λi x s=>?_,by grind,rfl,rfl⟩;.simp only[start,T7]at s;grind
  .simp only[start,A4]at hl;grind
  .simp only[start,A4]at hl;obtain⟨a,y,rfl⟩:=F0.1 hl;refine⟨a,y,?_⟩;have:1<=a.2:=by unfold Src.ct at V;simp only[l6,z7]at V;have:=V.2.1 a (l8 y);exact x5
   grind
  .grind
 have hB:=Ix (inp:=inp) (fu:=fu) w (DQ (l7 _) n).2.2.2.2.1 ar;have bl:Y.pl L (z (Y.cd L fn))<=z C:=o.le;have b:∀(t j:Nat),j+1+0*(z C+4*D+8)<=z C+t*(z C+4*D+8)->1+j<=8*(t+1)*(z C+D+1):=λt j h=>by grind
 have b4:∀(e:Nat)(G:Sg)(j:Nat),RE okI C inp D j u e G.out->1+j<=8*(G.tk+1)*(z C+D+1)->∀al,8*(G.tk+1)*(z C+D+1)<=al->(Mach.Lu okI (C.map fK) D inp al).1=e/\(Mach.Lu okI (C.map fK) D inp al).2.1=G.out:=λe G j A hj al hN=>by obtain⟨q,rfl⟩:∃q,al=1+q:=⟨al-1,a7⟩;obtain⟨U,Z⟩:=A.2 K d q a7;unfold Mach.Lu;simp only[O,U,Z,l4 A.1,and_self]
 cases Q:(eM p (aG p) inp fu n L ([]++List.replicate (z fn.l) 0) (start p) fn.body).bind λr H=>.ok (r.2.getD 0) H with
 |no=>trivial;|en e B=>
 rw[Q]at hB;intro he;rcases hB with h|⟨j,U,Z⟩;.omega
 grind;|ok v B=>grind[RO,start]
end
open Go.Emit (MI whole filled iy dY uP Vq uQ toC cT bX)
open Go.Src (Prog Fn CFn ab bN ay)
theorem aat{fs}{P}{ar}(H:uP fs P ar):(filled (whole fs P))[0]?=S (1,15,0,1):=by
 rw[Emit.KF H];have a:∀k,∃r,toC (iy (whole fs P)) fs P k=[(1,15,0,1)]++r:=by intro k;induction k with|zero=>exact⟨_,rfl⟩;|succ k b=>grind[toC]
 obtain⟨r,V⟩:=a (z fs-1);grind
variable{okI:Nat->Nat->Nat->Nat->Bool}
theorem adU{x}(h:uQ x)(f:okI x.1.toNat x.2.1.toNat x.2.2.1.toNat x.2.2.2.toNat=T):Dec okI x:=by
 obtain⟨⟨o1,g⟩,d,e,c⟩:=h;have a:∀{v:Int}{b:Bool},Emit.inP v 15 b->v.toNat<=15:=λ{v b}h=>by grind[Emit.inP]
 have d:=a d;have e:=a e;have c:x.2.2.2.toNat<=65535:=by
  unfold Emit.inP at c;split at c;.omega
  .omega
 unfold Dec fK Asm.word;grind
theorem adV{p}{ar}(h:bN p=0)(H:uP (ab p).f (dY (ab p).words (ab p).f) ar)(hd:0<=(dY (ab p).words (ab p).f).data/\(dY (ab p).words (ab p).f).data<=32768)(hC:z (filled (whole (ab p).f (dY (ab p).words (ab p).f)))<=16384)(b:∀x∈filled (whole (ab p).f (dY (ab p).words (ab p).f)),Dec okI x):∃Y:Lay okI p (filled (whole (ab p).f (dY (ab p).words (ab p).f))) (iy (whole (ab p).f (dY (ab p).words (ab p).f))) (dY (ab p).words (ab p).f).data.toNat,Y.en (z p.f-1)=1:=by
 have i:z (ab p).f=z p.f:=by unfold ab;exact Src.nY _ _ _
 obtain⟨ft,f0,a,fts⟩:=DU (ay p).1 p.f (ay p).2;obtain⟨bk,j,c,bks⟩:=Iz (z (ab p).f) (dY (ab p).words (ab p).f).depths 0 (ab p).words;have m:(dY (ab p).words (ab p).f).depths=(ab p).f.map λx=>bX (cT x):=rfl;have B:∀(f:Nat)(x:CFn),(ab p).f[f]?=S x->(dY (ab p).words (ab p).f).depths[f]?=S (bX (cT x)):=λf x I=>by grind
 have e:∀(f:Nat)(fn:Src.Fn),p.f[f]?=S fn->(ab p).f[f]?=S (xP p fn (ft f)):=λf fn d=>(fts f fn d).1;have bs:∀f:Nat,∃q:Nat×(Nat->Nat),∀fn,p.f[f]?=S fn->WO (filled (whole (ab p).f (dY (ab p).words (ab p).f))) (iy (whole (ab p).f (dY (ab p).words (ab p).f))) (ab p).f (dY (ab p).words (ab p).f) f (xP p fn (ft f)) q.1 q.2/\(f=z (ab p).f-1->q.1=1):=λf=>by cases d:p.f[f]?with|none=>simp;|some fn=>obtain⟨en,pl,g⟩:=aaF H B (e f fn d);exact⟨(en,pl),λa h=>by grind⟩
 obtain⟨q,g⟩:=Classical.skolem.1 bs;have o:(dY (ab p).words (ab p).f).back=(Emit.fe (z (ab p).f) 0 (dY (ab p).words (ab p).f).depths (ab p).words).1:=rfl;have r:(dY (ab p).words (ab p).f).base=(Emit.fe (z (ab p).f) 0 (dY (ab p).words (ab p).f).depths (ab p).words).2.1:=rfl;have hD:(dY (ab p).words (ab p).f).data=(Emit.fe (z (ab p).f) 0 (dY (ab p).words (ab p).f).depths (ab p).words).2.2:=rfl;refine⟨⟨ft,bk,λf=>if f+1=z p.f then bk f else bk f+1,λf=>(q f).1,λf=>(q f).2,dY (ab p).words (ab p).f,h,b,a7,hC,f0,?_,?_,e,λf fn d=>(g f fn d).1,λf fn d=>(fts f fn d).2,λf fn d=>?_⟩,?_⟩;.rw[a,j];rfl
 .grind
 .obtain⟨s,k,l⟩:=bks f _ (B f _ (e f fn d));rw[D2,i]at k l;grind
 .have t:=H.n;obtain⟨fn,d⟩:∃fn,p.f[z p.f-1]?=S fn:=⟨_,x9 a7⟩;grind
end Go.Mn
namespace Go.Proofs.YtfdbpgoicedpcaaGreatDoor.Low
open Go Go.Am Go.Asm Go.Mach
open Go.Src (bN ab kL aI qg wB)
attribute[local congr]ite_cc
theorem zH{x:ka}(h:Emit.uQ x):rK x=T:=by obtain⟨⟨U,Z⟩,a,b,c⟩:=h;grind[Emit.inP,rK,ir,lO,inW,td]
theorem HP{v m}{b}(h:Emit.inP v m b):0<=v:=by grind[Emit.inP]
def Pp{x:ka}(h:Emit.uQ x):Mn.Dec okI x:=by refine Mn.adU h ?_;have V:=zH h;obtain⟨⟨U,Z⟩,a,b,c⟩:=h;unfold okI;rw[L7 a7,L7 (HP a),L7 (HP b),L7 (HP c)];exact V
variable{p:Src.Prog}
theorem Fs(h:bN p=0):kL p=if 32768<(ab p).words then(⟨0,[]⟩,2)else(ab p,0):=by grind[Src.kL]
theorem zI(h:bN p=0)(q:qg p)(L:szP p<=150)(hl:wB p=T):∃(code:List Nat)(d:Nat),fN p=((code,d),0)/\(∀x∈code,x<4294967296)/\∀inp fu n,Mn.runN p inp fu n≠.no->(rQ (Mn.runN p inp fu n)).1≠5->∀al,jQ (rQ (Mn.runN p inp fu n)).2.2 code d<=al->(Lu okI code d inp al).1=(rQ (Mn.runN p inp fu n)).1/\(Lu okI code d inp al).2.1=(rQ (Mn.runN p inp fu n)).2.1:=by
 unfold wB at hl;simp only[l6,v8]at hl;have r:∀l:List Src.Fn,(l.map λf=>z f.p+z f.l+aI f.body).sum=(l.map λf=>z f.p+z f.l).sum+(l.map λf=>aI f.body).sum:=by intro l;induction l with|nil=>rfl;|cons a l A=>grind
 rw[oT,r]at L;obtain⟨U,Z,s,t,k⟩:=Emit.aaM h q a7 hl.2.1;have i:∀f∈p.f,z f.p<=6:=λf w=>by have V:=(Src.FA h).1;simp_all[Src.ct,Src.de]
 have H:=Emit.Vq h i;have b:=λx I=>Pp (k x I);obtain⟨Y,c⟩:=Mn.adV h H ⟨Z,s⟩ t b;refine⟨(Emit.filled (Emit.whole (ab p).f (gZ p))).map oK,(gZ p).data.toNat,?_,?_,?_⟩;.unfold fN;rw[Fs h,l4 (show¬32768<(ab p).words by omega),l4 b9];unfold uX gZ;rw[l4 a7];simp only;rw[l4 a7,s5 (z7.2 λx I=>zH (k x I))]
 .intro x I;obtain⟨y,o,rfl⟩:=E6.1 I;have hd:=(b y o).1;have:=(k y o).1;show Mn.fK y<_;omega
 intro inp fu n u k al m;have j:=Mn.Ve (inp:=inp) (fu:=fu) (Mn.aat H) c n;unfold jQ at m;rw[j6]at m;cases V:Mn.runN p inp fu n with|ok v G=>rw[V]at j m;exact j al m;|en e G=>rw[V]at j m k;exact j k al m;|no=>grind
def Um a s t(x:Str):aR Tryz.prog 27 [.agg [ag (a:Nat),bW x,ag (s:Nat)],.agg [ag a,bW x,ag (t:Nat)]] (·=bv T):=by refine hdP Tryz.func27 rfl [4] λg=>?_;exact gO
theorem Bx(h:bN p=0):∀a∈p.a,0<=a.2/\a.2<=4096:=λa c=>by have b:=(Src.FA h).1;unfold Src.ct at b;simp only[l6,z7]at b;grind[Src.fR]
theorem Un:∀l:List (Str×Int),(∀a∈l,0<=a.2/\a.2<=4096)->(l.map (·.2)).sum<=4096*(z l):=by intro l;induction l with|nil=>simp;|cons a l b=>intro h;have:=b λx I=>h x aby;grind
def acL(az:szP p<=150):Sm p:=by rw[oT]at az;refine⟨a7,a7,a7,λf a=>?_⟩;have:=lZ a;rw[oT]at this;omega
theorem Uo{o} p(I:Src.InP p) m(hm:m<=150):cn Tryz.prog 4 o 5 [cK p,ae (m:Nat)] (λr=>∃b,r=bv b/\(b=T->bN p=0/\szP p<=m/\wB p=T)):=by
 refine hdG Tryz.func5 rfl [.tmp 4] λO bc s0 w0 g=>?_;have W:=acu p I m a7;have H:=λh=>Tv (o:=o) p h (λf hf=>(I.fs f hf).2.2);have e:=λU Z h3=>Tw p U Z h3;have x:=I.a;rw[cI]at W H e|-;simp only[go_sem];refine ez (λk K=>∃c:Int,K.f 2=aj 2 (K.gen 2) 0/\K.obj 2=S [aw (p.v.map λs=>[.str s]),aw (p.a.map arD),aw (p.f.map fnD)]/\K.f 1=ae (m:Nat)/\K.f 5=ae c/\K.f 6=ae k) (z p.a) ⟨0,?_⟩ ?_;.exact gO
 rintro k f g1 av hk⟨c,l,t,y,u,A⟩;simp only at l t y u A;by_cases Y:k<z p.a
 .have Q:(k:Int)<(z p.a:Int):=a7;obtain⟨a,G⟩:=getq Y;have L:=getD_at (f:=arD) G;have q:arD a=[.str a.1,.int .i64 a.2]:=rfl;rw[q]at L;by_cases hn:200<a.2;.simp only[go_sem,l,t,A,Q,j6,L,hn];simp
  .simp only[go_sem,l,t,u,A,Q,j6,L,hn,ah (k:=k) a7];refine cj Y ⟨IntKind.i64.wrap (c+a.2),?_⟩;simp only[go_sem,l,t,y]
 have Q:¬(k:Int)<(z p.a:Int):=a7;simp only[go_sem,l,t,y,A,Q,j6];refine lM aN rfl (by simp only[go_sem];exact W) c8 ?_;rintro _ rfl;cases j:Src.acs p m;.simp only[go_sem];simp
 have az:szP p<=m:=by have:=Src.adO j;rw[oT];omega
 by_cases hc:c<=200;case neg=>simp only[go_sem,u,hc];simp
 simp only[go_sem,l,t,u,hc];refine lN aN (λs β ds w h=>h.1.2) rfl (by simp only[go_sem];exact H (acL a7)) c8 ?_;rintro _ rfl;by_cases G:bN p=0;case neg=>have i:¬(bN p:Int)=0:=a7;simp only[go_sem,i];simp
 have ar:=Bx G;have bd:=Un p.a ar;have cu:z p.a<=150:=by rw[oT]at az;omega
 have e:=e a7 (λa ha=>(ar a ha).1) a7;simp only[go_sem,l,t,G];refine lM aN rfl (by simp only[go_sem];exact e) c8 ?_;rintro _ rfl;simp only[go_sem];grind
theorem Up{o}{inp:Str}{fu}(A:z inp<=1000)(X:fu<=1000)(h:bN p=0)(hn:qg p)(az:szP p<=150)(hl:wB p=T){code}{d}(Z:fN p=((code,d),0)):cn Tryz.prog 4 o 9 [iX (code,d),cK p,sv inp,ae (fu:Nat)] (·=bv T):=by
 refine hdG Tryz.func9 rfl [.tmp 8] λO bc s0 w0 g=>?_;obtain⟨m,d',bo,P,b0⟩:=zI h hn az hl;obtain⟨⟨rfl,rfl⟩,_⟩:(code=m/\d=d')/\True:=by grind
 obtain⟨n,u⟩:=Mn.aau (inp:=inp) (fu:=fu) h hn;have ar:=Bx h;have E:=qm p;rw[Z]at E;simp only at E;have b4:SmM p inp fu:=by
  have hz:=az;rw[oT]at hz;refine⟨a7,a7,a7,λf hf=>?_,a7,a7,λk=>?_⟩;.have:=lZ hf;omega
  .grind[alM]
 have B:=acv (o:=o) b4 (Src.FA h).1 u;have bz:=b0 inp fu n u;have b2:(rQ (Mn.runN p inp fu n)).2.2<=fu:=by have:=(Mn.WJ (p:=p) (fd:=Mn.aG p) (inp:=inp) (fu:=fu) n).2.2.2.2.2 (z p.f-1) [] (Mn.start p) (LL _);unfold Mn.runN at u|-;revert this u;cases Mn.evB p (Mn.aG p) inp fu n (z p.f-1) [] (Mn.start p)with|ok v G=>exactλ_ h=>h;|en e G=>exactλ_ h=>h;|no=>simp
 generalize rQ (Mn.runN p inp fu n)=r at B bz b2;obtain⟨e,out,tk⟩:=r;simp only at B bz b2;unfold VP at B;have b:=F_A tk code d a7 a7 E.2;have hE:=λhb=>JA code d inp (jQ tk code d) a7 P E.2 hb;rw[cI]at B|-;unfold iX iC at b hE|-;simp only[go_sem];refine dm rfl (by simp only[go_sem];exact B) ?_;rintro _ rfl;by_cases V:e=5;.subst V;exact gO
 have b6:¬(e:Int)=5:=a7;simp only[go_sem,b6];refine kr rfl (by simp only[go_sem];exact b) ?_;rintro _ rfl;simp only[go_sem];by_cases hb:jQ tk code d<=2000000
 .have W:¬(2000000:Int)<((jQ tk code d:Nat):Int):=a7;have hE:=hE a7;have cu:=λK=>Um e K tk out;obtain⟨H,Q⟩:=bz V (jQ tk code d) (l7 _);obtain⟨⟨e1,l,K⟩,w⟩:∃r,Lu okI code d inp (jQ tk code d)=r:=⟨_,rfl⟩;rw[w]at H Q hE;subst H Q;refine cG aP mixed aN [] [([10],[],[],F),([22],[],[],F),([23],[],[],F),([4,24],[],[],F),([2,24],[],[],F),([10,24],[],[],F),([25,26,27,24],[],[],F),([9,24],[],[],F),([28,29,24],[],[],F),([24,30],[],[],F),([31],[],[],T)] 0 rfl c9 rfl a8 ?_;simp only[go_sem];iterate 6 (refine au gdD (λ_ _ _ _ J=>by simp only[go_sem,W]at J|-;exact J) ?_)
  refine au (v:=.agg [ag (e1:Nat),bW l,ag (K:Nat)]) ⟨_,rfl,a8,rfl⟩ (λfa ga oa I J=>?_) ?_;.simp only[go_sem]at J|-;refine kr rfl abZ ?_;exact sT
  (refine au gdD Z4 ?_);refine au (v:=bv T) ⟨_,rfl,a8,rfl⟩ (λfa ga oa I J=>?_) ?_;.simp only[go_sem]at J|-;refine kr rfl (by simp only[go_sem];exact cu K) ?_;exact sT
  (refine au gdD Z4 ?_);refine cH A6 ?_;intro I Y;simp only[go_sem];refine Y _ ?_;clear Y I;exact gO
 have W:(2000000:Int)<((jQ tk code d:Nat):Int):=a7;refine vL aP mixed aN c8 c9 (λL s=>s.f 10=ae (jQ tk code d:Nat)/\(L 0=T->s.f 22=ae (jQ tk code d:Nat))/\(L 1=T->s.f 23=bv T)/\(L 2=T->s.f 24=bv T)/\(L 9=T->s.f 31=bv T)/\(L 10=T->s.f 8=bv T)) ?_ ?_ ?_;.exact gO
 .rintro L⟨fs,gs,x⟩i o⟨a,z0,U,q,t,y⟩ho hL c b7;simp only at a z0 U q t y;match i,ho with|0,ho=>simp only[x8,x6,w8,w7]at ho;subst ho;refine .inl ⟨trivial,?_⟩;simp only[go_sem,a];grind;|1,ho=>simp only[x8,x6,w8,w7]at ho;subst ho;refine .inl ⟨trivial,?_⟩;simp only[go_sem,a,z0 (c ⟨0,.data⟩ b9 rfl),W];grind;|2,ho=>simp only[x8,x6,w8,w7]at ho;subst ho;refine .inl ⟨trivial,?_⟩;simp only[go_sem,a,U (c ⟨1,.data⟩ b9 rfl)];grind;|3,ho=>simp only[x8,x6,w8,w7]at ho;subst ho;refine .inr ⟨⟨24,rfl,q (c ⟨2,.guard⟩ b9 rfl)⟩,?_⟩;simp only[go_sem,a];grind;|4,ho=>simp only[x8,x6,w8,w7]at ho;subst ho;refine .inr ⟨⟨24,rfl,q (c ⟨2,.guard⟩ b9 rfl)⟩,?_⟩;simp only[go_sem,a];grind;|5,ho=>simp only[x8,x6,w8,w7]at ho;subst ho;refine .inr ⟨⟨24,rfl,q (c ⟨2,.guard⟩ b9 rfl)⟩,?_⟩;simp only[go_sem,a];grind;|6,ho=>simp only[x8,x6,w8,w7]at ho;subst ho;refine .inr ⟨⟨24,rfl,q (c ⟨2,.guard⟩ b9 rfl)⟩,?_⟩;simp only[go_sem,a];grind;|7,ho=>simp only[x8,x6,w8,w7]at ho;subst ho;refine .inr ⟨⟨24,rfl,q (c ⟨2,.guard⟩ b9 rfl)⟩,?_⟩;simp only[go_sem,a];grind;|8,ho=>simp only[x8,x6,w8,w7]at ho;subst ho;refine .inr ⟨⟨24,rfl,q (c ⟨2,.guard⟩ b9 rfl)⟩,?_⟩;simp only[go_sem,a];grind;|9,ho=>simp only[x8,x6,w8,w7]at ho;subst ho;refine .inl ⟨trivial,?_⟩;simp only[go_sem,a,q (c ⟨2,.data⟩ b9 rfl)];grind;|10,ho=>simp only[x8,x6,w8,w7]at ho;subst ho;refine .inl ⟨trivial,?_⟩;simp only[go_sem,a,t (c ⟨9,.data⟩ b9 rfl)];grind;|j+11,ho=>exact absurd ho b9
 .rintro L⟨fs,gs,x⟩⟨a,z0,U,q,t,y⟩bs;have:=y (bs 10 a8);simp only at this;simp only[go_sem,this]
end Go.Proofs.YtfdbpgoicedpcaaGreatDoor.Low
namespace Go.Src
section
open Go.Asm (Str iS)
section
abbrev TK:=Nat×Str×Nat
abbrev Pc:=Str×TK
def strip(t:Tok):TK:=(t.kind,t.text,t.num)
def tN(s:Str):TK:=(1,s,0)
def tW(s:Str):TK:=(3,s,0)
def tS(s:Str):TK:=(4,s,0)
def setl(s:Str):List Pc->List Pc|[]=>[]|x::l=>(s,x.2)::l
def Qa s l:(setl s l).map (·.2)=l.map (·.2):=by cases l<;>rfl
def kM(kind op:Int):Str:=if kind=8 then [38,38]else if kind=9 then [124,124]else if op=4 then [43]else if op=5 then [45]else if op=6 then [42]else if op=7 then [47]else if op=8 then [37]else if op=9 then [38]else if op=10 then [124]else if op=11 then [94]else if op=12 then [60,60]else if op=13 then [62,62]else if op=14 then [60]else [61,61]
mutual
def pcE:Ex->List Pc
 |.mk kind op num name kids=>
   if kind=1 then [([],2,iS num.toNat,num.toNat)]
   else if kind=2 then [([],tN name)]
   else if kind=3 then([],tN name)::([],tS [91])::(setl [] ((pcM (tS cZ) [] kids).drop 1)++[([],tS [93])])
   else if kind=4 then([],tN name)::([],tS dH)::(setl [] ((pcM (tS cZ) [] kids).drop 1)++[([],tS bP)])
   else if kind=5 then [([],tW [103,101,116]),([],tS dH),([],tS bP)]
   else if kind=7 then([],tS [33])::setl [] ((pcM (tS cZ) [] kids).drop 1)
   else([],tS dH)::(setl [] ((pcM (tS (kM kind op)) [32] kids).drop 1)++[([],tS bP)])
def pcM(c:TK)(s:Str):List Ex->List Pc
 |[]=>[]
 |e::l=>(s,c)::(setl [32] (pcE e)++pcM c s l)
end
def pcJ(l:List Ex):List Pc:=setl [] ((pcM (tS cZ) [] l).drop 1)
def ind(n:Nat):Str:=List.replicate (2*n) 32
mutual
def pcS(q:Nat):Stm->List Pc
 |.mk kind name e a el=>
   setl (10::ind q) (if kind=1 then([],tN name)::([32],tS [61])::(setl [32] (pcJ e)++[([],tS cq)])
   else if kind=2 then([],tN name)::([],tS [91])::(pcJ (e.take 1)++([],tS [93])::([32],tS [61])::(setl [32] (pcJ (e.drop 1))++[([],tS cq)]))
   else if kind=3 then([],tW [112,117,116])::([],tS dH)::(pcJ e++[([],tS bP),([],tS cq)])
   else if kind=6 then([],tN name)::([],tS dH)::(pcJ e++[([],tS bP),([],tS cq)])
   else if kind=7 then([],tW [114,101,116,117,114,110])::(setl [32] (pcJ e)++[([],tS cq)])
   else([],tW (if kind=5 then [119,104,105,108,101]else [105,102]))::([32],tS dH)::(pcJ e++([],tS bP)::([32],tS [123])::(jA (q+1) a ++
    ((if el.isEmpty then []else(10::ind q,tS [125])::([32],tW [101,108,115,101])::([32],tS [123])::jA (q+1) el)++[(10::ind q,tS [125])]))))
def jA(q:Nat):List Stm->List Pc
 |[]=>[]
 |s::l=>pcS q s++jA q l
end
def pcN:List Str->List Pc|[]=>[]|s::l=>([],tN s)::l.flatMap λx=>[([],tS cZ),([32],tN x)]
def pcF(f:Fn):List Pc:=([10],tW [102,117,110,99])::([32],tN f.name)::([],tS dH)::(pcN f.p++([],tS bP)::((if f.word then [([32],tW [119,111,114,100])]else [])++([32],tS [123])::((if f.l=[]then []else(10::ind 1,tW [118,97,114])::(setl [32] (pcN f.l)++[([],tS cq)]))++(jA 1 f.body++[([10],tS [125])]))))
def pcA(a:Str×Int):List Pc:=[([10],tW [97,114,114,97,121]),([32],tN a.1),([],tS [91]),([],2,iS a.2.toNat,a.2.toNat),([],tS [93]),([],tS cq)]
def pcP(p:Prog):List Pc:=setl [] ((if p.v=[]then []else([10],tW [118,97,114])::(setl [32] (pcN p.v)++[([],tS cq)]))++(p.a.flatMap pcA++p.f.flatMap pcF))
def ax(l:List Pc):Str:=l.flatMap λx=>x.1++x.2.2.1
def tks(l:List Pc):List TK:=l.map (·.2)
def bL l m:tks (l++m)=tks l++tks m:=C2
def bt x m:tks (x::m)=x.2::tks m:=rfl
def cr s l:tks (setl s l)=tks l:=Qa s l
def mG l:tks (l.drop 1)=(tks l).drop 1:=List.map_drop
variable{A B:Nat}{l:List TK}{x:TK}{s:Str}{m:List Str}{G:List Tok}
def Rd(G:List Tok)(l:List TK)(n m:Nat):Prop:=m=n+z l/\∀(j:Nat)(x:TK),l[j]?=S x->∃t,G[n+j]?=S t/\strip t=x
def Rd.nil{n m}(h:Rd G [] n m):n=m:=h.1.symm
def Rd.cons{n m}(h:Rd G (x::l) n m):∃t,G[n]?=S t/\strip t=x/\Rd G l (n+1) m:=by obtain⟨t,U,Z⟩:=h.2 0 x rfl;refine⟨t,U,Z,by have:=h.1;grind,λj y a=>?_⟩;have:=h.2 (j+1) y ZN;grind
theorem Rd.app{l m}{n b}(h:Rd G (l++m) n b):∃c,Rd G l n c/\Rd G m c b:=by
 refine⟨n+z l,⟨rfl,λj x I=>h.2 j x ?_⟩,?_,λj x I=>?_⟩;.grind
 .have:=h.1;grind
 .have:=h.2 (z l+j) x ZN;grind
def um{t}(h:strip t=x):t.kind=x.1/\t.text=x.2.1/\t.num=x.2.2:=by subst h;exact⟨rfl,rfl,rfl⟩
def bq(h:Rd G (x::l) A B):aM G A=if x.1=3\/x.1=4 then x.2.1 else []:=by obtain⟨t,a,U,_⟩:=h.cons;simp_all[um,aM]
def qB(h:Rd G (x::l) A B):eI G A=x.1:=by obtain⟨t,a,U,_⟩:=h.cons;simp_all[eI,um]
def aS(h:Rd G (x::l) A B):Rd G l (A+1) B:=by obtain⟨t,_,_,Z⟩:=h.cons;exact Z
def dU(h:Rd G (tS s::l) A B):bj G (s::m) A=bj G m (A+1):=by rw[bj,s5];rw[bq h];rfl
def Qb(h:Rd G (tW s::l) A B):bj G (s::m) A=bj G m (A+1):=by rw[bj,s5];rw[bq h];rfl
def nh{k}(h:Rd G (x::l) A B)(d:x.1=k):∃t,takeN G k A=.ok t (A+1)/\t.text=x.2.1/\t.num=x.2.2:=by obtain⟨t,a,U,Z⟩:=h.cons;simp_all[um,takeN]
def HX{kind op}(h:(kind=6/\4<=op/\op<=15)\/((kind=8\/kind=9)/\op=0)):1<=(tt (kM kind op)).2.2/\(tt (kM kind op)).1=kind/\(tt (kM kind op)).2.1=op:=by
 rcases h with⟨rfl,U,Z⟩|⟨rfl|rfl,rfl⟩;.have:op=4\/op=5\/op=6\/op=7\/op=8\/op=9\/op=10\/op=11\/op=12\/op=13\/op=14\/op=15:=a7;rcases this with rfl|rfl|rfl|rfl|rfl|rfl|rfl|rfl|rfl|rfl|rfl|rfl<;>decide
 .decide
 .decide
def Fol(G:List Tok)(B:Nat):Prop:=aM G B≠[91]/\aM G B≠dH
def HY(G:List Tok)(B:Nat):Prop:=Fol G B/\(tt (aM G B)).2.2=0
def dE{q}{a}{l}(h:bp q (a::l)=T):dn q a=T/\bp q l=T:=by simp_all[bp]
def ll c s a l:tks (pcM c s (a::l))=c::(tks (pcE a)++tks (pcM c s l)):=by rw[pcM,bt,bL,cr]
def gS(h:Rd G (tS s::l) A B)(b:s=bP\/s=[93]\/s=cZ\/s=cq):HY G A:=by have a:=bq h;simp[tS,↓reduceIte]at a;unfold HY Fol;rw[a];rcases b with rfl|rfl|rfl|rfl<;>decide
def wQ(h:Rd G (tN s::l) A B):aM G A=[]/\eI G A=1:=⟨by rw[bq h];rfl,qB h⟩
def Qc e:∃x l,tks (pcE e)=x::l/\(x.1=1\/x.1=2\/x=tW [103,101,116]\/x=tS dH\/x=tS [33]):=by
 obtain⟨kind,op,num,name,a⟩:=e;unfold pcE;split;.exact⟨_,_,rfl,.inr (.inl rfl)⟩
 split;.exact W9
 split;.exact W9
 split;.exact W9
 split;.exact⟨_,_,rfl,.inr (.inr (.inl rfl))⟩
 split;.exact⟨_,_,rfl,.inr (.inr (.inr (.inr rfl)))⟩
 .exact⟨_,_,rfl,.inr (.inr (.inr (.inl rfl)))⟩
def Qd{e}{m}(h:Rd G (tks (pcE e)++m) A B):aM G A≠bP/\aM G A≠cq:=by
 obtain⟨x,l,a,I⟩:=Qc e;rw[a,z6]at h;rw[bq h];rcases I with I|I|rfl|rfl|rfl;.rw[l4 a7];decide
 .rw[l4 a7];decide
 .decide
 .decide
 .decide
def jD e:0<szE e:=by cases e;rw[szE];omega
def RdE(G:List Tok)(a:Ex):Prop:=∀(A C:Nat)(n:Nat),Rd G (tks (pcE a)) A C->HY G C->4*szE a+1<=n->dW G n 1 A=.ok a C
def Qe:∀l done A B n,(∀a∈l,RdE G a)->Rd G (tks (pcM (tS cZ) [] l)++[tS bP]) A B->4*aO l+2<=n->jy G n done A=.ok (done++l) B:=by intro l;induction l with|nil=>intro done A B n _ h d;obtain⟨n,rfl⟩:∃k,n=k+1:=⟨n-1,a7⟩;rw[pcM]at h;have h:Rd G [tS bP] A B:=h;rw[jy,l4 abf,dU h,bj,(aS h).nil];simp;|cons a l c=>
 intro done A B n e h d;obtain⟨n,rfl⟩:∃k,n=k+1:=⟨n-1,a7⟩;rw[ll,z6,s9]at h;rw[aO]at d;have H:=jD a;obtain⟨C,U,Z⟩:=(aS h).app;have hC:HY G C:=by cases l with|nil=>rw[pcM]at Z;exact gS Z (.inl rfl);|cons b l=>rw[ll,z6]at Z;exact gS Z (.inr (.inr (.inl rfl)))
 rw[jy,s5 abi,e a b9 _ C n U hC a7];simp;rw[c (done++[a]) C B n (λb hb=>e b abQ) Z a7,s9];rfl
def FX{l}{n}(d:∀a∈l,RdE G a)(h:Rd G (tks (pcJ l)++[tS bP]) A B)(f:4*aO l+3<=n):iF G n A=.ok l B:=by obtain⟨n,rfl⟩:∃k,n=k+1:=⟨n-1,a7⟩;unfold pcJ at h;rw[cr,mG]at h;cases l with|nil=>rw[pcM]at h;rw[iF,s5 abi,(aS h).nil];|cons a l=>
 rw[ll,D9,D6,s9]at h;obtain⟨C,e,c⟩:=h.app;have hC:HY G C:=by cases l with|nil=>rw[pcM]at c;exact gS c (.inl rfl);|cons b l=>rw[ll,z6]at c;exact gS c (.inr (.inr (.inl rfl)))
 rw[aO]at f;have H:=jD a;rw[iF,l4 (Qd (m:=[]) (by rw[u7];exact e)).1,d a b9 _ C n e hC a7];simp;rw[Qe l [a] C B n (λb hb=>d b abQ) c a7];rfl
def lW{e}:∀{l},oB l->e∈l->rB e
 |a::l,h,b=>by
  rw[oB]at h;rcases A0.1 b with rfl|b;.exact h.1
  .exact lW h.2 b
def fS{q}{e}:∀{l},bp q l=T->e∈l->dn q e=T
 |a::l,h,b=>by
  obtain⟨U,Z⟩:=dE h;rcases A0.1 b with rfl|b;.exact U
  .exact fS Z b
def Qf G:∀al,(∀e q A B n,szE e<=al->rB e->dn q e=T->Rd G (tks (pcE e)) A B->Fol G B->4*szE e<=n->fA G n A=.ok e B)/\(∀e q A B n m,szE e<=al->rB e->dn q e=T->Rd G (tks (pcE e)) A B->HY G B->4*szE e+1<=n->1<=m->dW G n m A=.ok e B):=by intro al;induction al with|zero=>exact⟨λe _ _ _ _ h=>by cases e;grind[szE],λe _ _ _ _ _ h=>by cases e;grind[szE]⟩;|succ al W=>
 have hA:∀e q A B n,szE e<=al+1->rB e->dn q e=T->Rd G (tks (pcE e)) A B->Fol G B->4*szE e<=n->fA G n A=.ok e B:=by
  rintro⟨kind,op,num,name,y⟩q A B n az i V h Q K;rw[szE]at az K;rw[rB]at i;obtain⟨j,i⟩:=i;simp[dn]at V;obtain⟨_,d,r⟩:=V;obtain⟨n,rfl⟩:∃k,n=k+1:=⟨n-1,a7⟩;have p:∀{a:Ex}{c:TK}{s:Str},y=[a]->tks ((pcM c s y).drop 1)=tks (pcE a):=λe=>by rw[e,mG,ll,pcM];simp[tks]
  unfold bV at d;unfold pcE at h;by_cases k1:kind=1;.rw[s5 k1]at h d;simp only[l6,v8,aq,↓reduceIte,B4]at d;have h:Rd G [(2,iS num.toNat,num.toNat)] A B:=h;obtain⟨t,J,_,a6⟩:=nh (k:=2) h rfl;rw[fA,s5 (qB h),J];simp only[PR.bind];rw[(aS h).nil,a6,k1,d.1.1,d.1.2,v7 d.2,L7 j.1]
  rw[l4 k1]at h d;by_cases k2:kind=2;.rw[s5 k2]at h d;simp only[l6,v8]at d;have h:Rd G [tN name] A B:=h;obtain⟨t,J,I,_⟩:=nh (k:=1) h rfl;obtain⟨L,Y⟩:=wQ h;rw[fA,l4 a7,l4 ZN,l4 (by rw[L];decide),l4 ZN,J];simp[PR.bind];rw[(aS h).nil,l4 Q.1,l4 Q.2,I,k2,d.1.1.1,d.1.1.2,v7 d.2];rfl
  rw[l4 k2]at h d;have g:∀{l:List TK},Rd G (tN name::l) A B->∃t,takeN G 1 A=.ok t (A+1)/\t.text=name/\eI G A≠2/\aM G A≠[103,101,116]/\aM G A≠dH/\aM G A≠[33]:=λh=>by obtain⟨t,J,I,_⟩:=nh (k:=1) h rfl;obtain⟨L,Y⟩:=wQ h;exact⟨t,J,I,a7,by grind,by rw[L];decide,by grind⟩
  by_cases k3:kind=3;.rw[s5 k3]at h d;simp at d;obtain⟨a,rfl⟩:∃a,y=[a]:=M4.1 d.2;rw[bt,bt,bL,cr,p rfl]at h;obtain⟨t,J,I,L,Y,q3,q4⟩:=g h;have U:=aS h;obtain⟨C,Z,O⟩:=(aS U).app;have O:Rd G [tS [93]] C B:=O;rw[aO,aO]at az K;rw[fA,l4 L,l4 Y,l4 q3,l4 q4,J];simp[PR.bind];rw[s5 ac0,W.2 a (q+1) _ C n 1 a7 i.1 (dE r).1 Z (gS O (.inr (.inl rfl))) a7 a7];simp only;rw[dU O,bj,(aS O).nil];grind
  rw[l4 k3]at h d;by_cases k4:kind=4;.rw[s5 k4]at h d;simp at d;rw[bt,bt,bL,cr,mG]at h;obtain⟨t,J,I,L,Y,q3,q4⟩:=g h;have U:=aS h;rw[fA,l4 L,l4 Y,l4 q3,l4 q4,J];simp[PR.bind];rw[l4 adF,s5 ac0,FX (λa X A C n h hC K=>W.2 a (q+1) A C n 1 (by have:=vu X;omega) (lW i X) (fS r X) h hC K (l7 _)) (by unfold pcJ;rw[cr,mG];exact aS U) a7];grind
  rw[l4 k4]at h d;by_cases k5:kind=5;.rw[s5 k5]at h d;simp only[l6,v8,aq,↓reduceIte,B4]at d;have U:=aS h;have Z:Rd G [tS bP] ((A+1+1)) B:=aS U;rw[fA,l4 (by rw[qB h];decide),s5 abi,dU U,dU Z,bj,(aS Z).nil];simp_all
  rw[l4 k5]at h d;by_cases k7:kind=7;.rw[s5 k7]at h;rw[l4 a7,s5 k7]at d;simp[aq,↓reduceIte]at d;obtain⟨a,rfl⟩:∃a,y=[a]:=M4.1 d.2;rw[bt,cr,p rfl]at h;rw[aO,aO]at az K;have h:Rd G (tS [33]::tks (pcE a)) A B:=h;rw[fA,l4 (by rw[qB h];decide),l4 abf,l4 abf,s5 abi,W.1 a (q+1) _ B n a7 i.1 (dE r).1 (aS h) Q a7];simp_all
  rw[l4 k7]at h d;have hb:(((kind=6/\4<=op/\op<=15)\/((kind=8\/kind=9)/\op=0))/\num=0)/\name=[]/\z y=2:=by
   by_cases P:kind=6;.simp_all[aq]
   .simp_all[aq]
  obtain⟨⟨u,e1⟩,e2,e3⟩:=hb;obtain⟨a,b,rfl⟩:∃a b,y=[a,b]:=by match y,e3 with|[a,b],_=>simp
  obtain⟨s1,s2,s3⟩:=HX u;obtain⟨f,E⟩:=dE r;rw[bt,bL,cr,mG,ll,D9,D6,ll,pcM,s9]at h;have h:Rd G (tS dH::(tks (pcE a)++tS (kM kind op)::(tks (pcE b)++[tS bP]))) A B:=by simpa[tks]using h
  obtain⟨C,U,Z⟩:=(aS h).app;obtain⟨D,O,h4⟩:=(aS Z).app;rw[aO,aO,aO]at az K;have x:=jD a;have w:=jD b;have o:aM G C=kM kind op:=by rw[bq Z];rfl
  have hC:Fol G C:=by
   unfold Fol;rw[o];constructor;.intro e;rw[e]at s1;exact absurd s1 a8
   .intro e;rw[e]at s1;exact absurd s1 a8
  obtain⟨n,rfl⟩:∃k,n=k+3:=⟨n-3,a7⟩;rw[fA,l4 (by rw[qB h];decide),l4 abf,s5 abi,dW,W.1 a (q+1) _ C (n+2) a7 i.1 f U hC a7];simp[PR.bind];rw[jx,o,l4 a7,W.2 b (q+1) _ D (n+1) _ a7 i.2.1 (dE E).1 O (gS h4 (.inl rfl)) a7 a7];simp;rw[jx,s5 (by rw[(gS h4 (.inl rfl)).2];decide)];simp only;rw[dU h4,bj,(aS h4).nil];simp only;rw[s2,s3,e1,e2]
 refine⟨hA,λe q A B n m az i V h Q K hm=>?_⟩;obtain⟨n,rfl⟩:∃k,n=k+1:=⟨n-1,a7⟩;rw[dW,hA e q A B n az i V h Q.1 a7];simp;have H:=jD e;obtain⟨n,rfl⟩:∃k,n=k+1:=⟨n-1,a7⟩;rw[jx,s5 (by rw[Q.2];omega)]
end
theorem Db c s:∀l:List Ex,(∀e∈l,szE e<=z (tks (pcE e)))->aO l+z l<=z (tks (pcM c s l))|[],_=>by simp[aO];|a::l,h=>by have U:=h a b9;have Z:=Db c s l λe b=>h e (by simp[b]);rw[ll,aO];grind
theorem Dc:∀al e q,szE e<=al->dn q e=T->szE e<=z (tks (pcE e)):=by intro al;induction al with|zero=>omega;|succ al g=>
 rintro⟨kind,op,num,name,b⟩q az V;rw[szE]at az|-;simp[dn]at V;obtain⟨_,d,r⟩:=V;have j:∀c s,aO b<=z (tks ((pcM c s b).drop 1)):=λc s=>by have:=Db c s b λe f=>g e (q+1) (by have:=vu f;omega) (fS r f);rw[mG,G6];cases b with|nil=>simp[aO];|cons a l=>grind
 unfold bV at d;unfold pcE;split;.rename_i k;rw[s5 k]at d;exact Y4
 rename_i i;rw[l4 i]at d;split;.rename_i k;rw[s5 k]at d;exact Y4
 rename_i n;rw[l4 n]at d;split;.have:=j (tS cZ) [];simp only[bt,bL,cr,j8,j7];omega
 rename_i o;rw[l4 o]at d;split;.have:=j (tS cZ) [];simp only[bt,bL,cr,j8,j7];omega
 rename_i p;rw[l4 p]at d;split;.rename_i k;rw[s5 k]at d;exact Y4
 split;.simp_all[tS,cZ,bt,cr]
 .have:=j (tS (kM kind op)) [32];simp only[bt,bL,cr,j8,j7];omega
theorem xZ a:tks (pcJ [a])=tks (pcE a):=by unfold pcJ;rw[cr,mG,ll,pcM];simp[tks]
variable{l:List Ex}{m:List TK}{A B k:Nat}{G:List Tok}
theorem vw{a}{q A}(b:rB a)(V:dn q a=T){C}(h:Rd G (tks (pcJ [a])) A C)(hC:HY G C){fu}(c:4*szE a+1<=fu):dW G fu 1 A=.ok a C:=by rw[xZ]at h;exact(Qf G (szE a)).2 a q A C fu 1 (l7 _) b V h hC c (l7 _)
theorem UB{q A B}(c:oB l)(V:bp q l=T)(h:Rd G (tks (pcJ l)++[tS bP]) A B){fu}(d:4*aO l+3<=fu):iF G fu A=.ok l B:=FX (λa b A C n h hC e=>(Qf G (szE a)).2 a q A C n 1 (l7 _) (lW c b) (fS V b) h hC e (l7 _)) h d
theorem FY{a}{q k}{A B}(b:rB a)(V:dn q a=T){l}(h:Rd G (tS dH::(tks (pcJ [a])++tS bP::l)) A B)(c:4*szE a+1<=k):∃C,kZ G k A=.ok [a] C/\Rd G l C B:=by obtain⟨C,U,Z⟩:=(aS h).app;refine⟨_,?_,aS Z⟩;unfold kZ;rw[dU h,bj];simp[PR.bind];rw[vw b V U (gS Z (.inl rfl)) c];simp only;rw[dU Z,bj]
def FZ:Str:=[101,108,115,101]
def RdS(G:List Tok)(s:Stm):Prop:=∀(q:Nat)(A B:Nat)(n:Nat),Rd G (tks (pcS q s)) A B->aM G B≠FZ->4*szS s<=n->jl G n A=.ok s B
theorem YJ q s:∃x l,tks (pcS q s)=x::l/\(x.1=1\/x=tW [112,117,116]\/x=tW [114,101,116,117,114,110]\/x=tW [119,104,105,108,101]\/x=tW [105,102]):=by
 obtain⟨kind,name,e,a,el⟩:=s;rw[pcS,cr];split;.exact W9
 split;.exact W9
 split;.exact⟨_,_,rfl,.inr (.inl rfl)⟩
 split;.exact W9
 split;.exact⟨_,_,rfl,.inr (.inr (.inl rfl))⟩
 refine⟨_,_,rfl,?_⟩;grind
theorem HZ{q}{s}{A B}(h:Rd G (tks (pcS q s)++m) A B):aM G A≠[125]/\aM G A≠FZ/\aM G A≠[118,97,114]:=by
 obtain⟨x,l,a,I⟩:=YJ q s;rw[a,z6]at h;rw[bq h];rcases I with I|rfl|rfl|rfl|rfl;.rw[l4 a7];decide
 all_goals decide
theorem qf s:0<szS s:=by cases s;simp[szS]
theorem wR:∀l done q A B n m,(∀s∈l,RdS G s)->Rd G (tks (jA q l)++tS [125]::m) A B->4*aI l+2<=n->∃C,eC G n done A=.ok (done++l) C/\Rd G m C B:=by intro l;induction l with|nil=>intro done q A B n m _ h d;obtain⟨n,rfl⟩:∃k,n=k+1:=⟨n-1,a7⟩;rw[jA]at h;refine⟨_,?_,aS h⟩;rw[eC,s5 abi,u7];|cons a l c=>
 intro done q A B n m e h d;obtain⟨n,rfl⟩:∃k,n=k+1:=⟨n-1,a7⟩;rw[jA,bL,s9]at h;rw[aI]at d;have H:=qf a;obtain⟨C,U,Z⟩:=h.app;have hC:aM G C≠FZ:=by cases l with|nil=>rw[jA]at Z;rw[bq (show Rd G (tS [125]::m) C B from Z)];decide;|cons b l=>rw[jA,bL,s9]at Z;grind[HZ]
 rw[eC,l4 ((HZ h).1),e a b9 q _ C n U hC a7];simp;obtain⟨D,f,g⟩:=c (done++[a]) q C B n m (λb hb=>e b abQ) Z a7;grind
theorem eg{q}{a}:∀{l},bD q l=T->a∈l->dC q a=T
 |b::l,h,c=>by
  simp[bD]at h;rcases A0.1 c with rfl|c;.exact h.1
  .exact eg h.2 c
theorem jc{a}:∀{l},mj l->a∈l->wb a
 |b::l,h,c=>by
  rw[mj]at h;rcases A0.1 c with rfl|c;.exact h.1
  .exact jc h.2 c
theorem Ia{H:Type}{l:List H}(h:z l=1):∃a,l=[a]:=M4.1 h
theorem YK:∀al s q,szS s<=al->wb s->dC q s=T->RdS G s:=by intro al;induction al with|zero=>grind[qf];|succ al ih=>
 rintro⟨kind,name,e,X,el⟩q az i V c A B n h hB hn;rw[szS]at az hn;rw[wb]at i;simp[dC]at V;obtain⟨⟨_,d,x⟩,L,a6⟩:=V;obtain⟨n,rfl⟩:∃k,n=k+1:=⟨n-1,a7⟩;rw[pcS,cr]at h;unfold cP at d;have H:∀{l:List TK},Rd G (tN name::l) A B->aM G A≠[112,117,116]/\aM G A≠[114,101,116,117,114,110]/\aM G A≠[105,102]/\aM G A≠[119,104,105,108,101]:=λh=>by rw[(wQ h).1];decide
 have b2:∀{l:List TK},Rd G (tN name::l) A B->∃t,takeN G 1 A=.ok t (A+1)/\t.text=name:=λh=>by obtain⟨t,y,I,_⟩:=nh (k:=1) h rfl;exact⟨t,y,I⟩
 by_cases k1:kind=1;.rw[s5 k1]at h d;simp only[l6,v8]at d;obtain⟨a,rfl⟩:=Ia d.2.1;rw[bt,bt,bL,cr]at h;have h:Rd G (tN name::tS [61]::(tks (pcJ [a])++[tS cq])) A B:=h;obtain⟨J,K,O,Q⟩:=H h;obtain⟨t,y,I⟩:=b2 h;have U:=aS h;obtain⟨C,Z,u⟩:=(aS U).app;rw[jl,l4 J,l4 K,l4 O,l4 Q];unfold jT;rw[y];simp[PR.bind];rw[s5 ac0,vw i.1.1 (dE x).1 Z (gS u (.inr (.inr (.inr rfl)))) abz];simp only;rw[dU u,bj,(aS u).nil];grind
 rw[l4 k1]at h d;by_cases k2:kind=2
 .rw[s5 k2]at h d;simp only[l6,v8]at d;obtain⟨a,b,rfl⟩:∃a b,e=[a,b]:=by match e,d.2.1 with|[a,b],_=>simp
  simp[bt,bL,cr]at h;have h:Rd G (tN name::tS [91]::(tks (pcJ [a])++tS [93]::tS [61]::(tks (pcJ [b])++[tS cq]))) A B:=h;obtain⟨J,K,O,Q⟩:=H h;obtain⟨t,y,I⟩:=b2 h;have U:=aS h;obtain⟨C,Z,u⟩:=(aS U).app;have r:=aS u;obtain⟨D,Y,W⟩:=(aS r).app;rw[jl,l4 J,l4 K,l4 O,l4 Q];unfold jT;rw[y];simp[PR.bind];rw[l4 adF,s5 ac0,vw i.1.1 (dE x).1 Z (gS u (.inr (.inl rfl))) abz];simp only;rw[dU u,dU r,bj];simp only;rw[vw i.1.2.1 (dE (dE x).2).1 Y (gS W (.inr (.inr (.inr rfl)))) abz];simp only;rw[dU W,bj,(aS W).nil];grind
 rw[l4 k2]at h d;by_cases k3:kind=3;.rw[s5 k3]at h d;simp only[l6,v8,aq,↓reduceIte,B4]at d;obtain⟨a,rfl⟩:=Ia d.2.1;rw[bt,bt,bL]at h;obtain⟨C,U,Z⟩:=FY (k:=n) i.1.1 (dE x).1 (aS h) abz;rw[jl,s5 abi,U];simp[PR.bind];rw[dU Z,bj,(aS Z).nil];grind
 rw[l4 k3]at h d;by_cases P:kind=6;.rw[s5 P]at h;rw[l4 a7,l4 a7,s5 P]at d;simp only[l6,v8]at d;rw[bt,bt,bL]at h;have h:Rd G (tN name::tS dH::(tks (pcJ e)++[tS bP,tS cq])) A B:=h;obtain⟨J,K,O,Q⟩:=H h;obtain⟨t,y,I⟩:=b2 h;have U:=aS h;have Z:=aS U;rw[show (tks (pcJ e)++[tS bP,tS cq])=(tks (pcJ e)++[tS bP])++[tS cq] by simp]at Z;obtain⟨C,u,r⟩:=Z.app;rw[jl,l4 J,l4 K,l4 O,l4 Q];unfold jT;rw[y];simp[PR.bind];rw[l4 adF,l4 adF,s5 ac0,UB i.1 x u a7];simp only;rw[dU r,bj,(aS r).nil];grind
 rw[l4 P]at h;by_cases k7:kind=7;.rw[s5 k7]at h;rw[l4 a7,l4 a7,l4 P,s5 k7]at d;simp only[l6,v8,aq,↓reduceIte,B4]at d;rw[bt,bL,cr]at h;have h:Rd G (tW [114,101,116,117,114,110]::(tks (pcJ e)++[tS cq])) A B:=h;rw[jl,l4 abf,s5 abi];match e,d.2.1 with|[],_=>have U:Rd G [tS cq] (A+1) B:=aS h;rw[s5 ac0,show A+2=B from(aS U).nil,k7,d.1,v7 d.2.2.1,v7 d.2.2.2];|[a],_=>have U:=aS h;rw[xZ]at U;have o:=(Qd U).2;rw[<-xZ]at U;obtain⟨C,Z,u⟩:=U.app;rw[l4 o,vw i.1.1 (dE x).1 Z (gS u (.inr (.inr (.inr rfl)))) abz];simp[PR.bind];rw[dU u,bj,(aS u).nil];grind
 rw[l4 k7]at h;have hk:(kind=4\/kind=5/\el=[])/\name=[]/\z e=1:=by
  by_cases w:kind=4;.simp_all[aq]
  .simp_all[aq]
 obtain⟨hk,e2,e1⟩:=hk;obtain⟨a,rfl⟩:=Ia e1;have h:Rd G (tW (if kind=5 then [119,104,105,108,101]else [105,102])::tS dH::(tks (pcJ [a])++tS bP::tS [123]::(tks (jA (c+1) X)++tS [125]::(if el.isEmpty then []else tW FZ::tS [123]::(tks (jA (c+1) el)++[tS [125]]))))) A B:=by
  rw[bt,bt,bL,bt,bt,bL,bL]at h;cases j:el.isEmpty;.rw[j]at h;simp only[B4,↓reduceIte,bt]at h|-;exact h
  .rw[j]at h;simp at h|-;exact h
 obtain⟨C,U,Z⟩:=FY (k:=n) i.1.1 (dE x).1 (aS h) abz;obtain⟨n,rfl⟩:∃k,n=k+1:=⟨n-1,a7⟩;obtain⟨D,u,r⟩:=wR X [] (c+1) (C+1) B n _ (λs hs=>ih s (q+1) abA (jc i.2.1 hs) (eg L hs)) (aS Z) a7;have g:jL G (n+1) C=.ok X D:=by rw[jL,dU Z,bj];simp;exact u
 rcases hk with w|⟨v,rfl⟩;.rw[l4 a7]at h;rw[jl,l4 abf,l4 abf,s5 abi,U];simp[PR.bind];rw[g];simp only;cases el with|nil=>have hB:aM G B≠[101,108,115,101]:=hB;rw[(r).nil,l4 hB,w,e2];|cons b l=>
  have r:Rd G (tW FZ::tS [123]::(tks (jA (c+1) (b::l))++[tS [125]])) D B:=r;have Y:=aS r;obtain⟨E,W,h7⟩:=wR (b::l) [] (c+1) (D+1+1) B n _ (λs hs=>ih s (q+1) abA (jc i.2.2 hs) (eg a6 hs)) (aS Y) a7;have f:jL G (n+1) (D+1)=.ok (b::l) E:=by rw[jL,dU Y,bj];simp;exact W
  rw[s5 (by rw[bq r];rfl),f];grind[h7.nil]
 .rw[s5 v]at h;rw[jl,l4 abf,l4 abf,l4 abf,s5 abi,U];grind[PR.bind,(r).nil]
theorem Ga:∀l done A B n,Rd G (tks (l.flatMap λx=>[([],tS cZ),([32],tN x)])) A B->aM G B≠cZ->z l+1<=n->fj G n done A=.ok (done++l) B|[],done,A,B,n,h,hB,b=>by obtain⟨n,rfl⟩:∃k,n=k+1:=⟨n-1,a7⟩;simp_all[Rd,fj,h.nil];|a::l,done,A,B,n,h,hB,b=>by rw[j8]at b;obtain⟨n,rfl⟩:∃k,n=k+1:=⟨n-1,a7⟩;have U:=aS h;obtain⟨t,c,I,_⟩:=nh (k:=1) U rfl;have I:t.text=a:=I;rw[fj,s5 abi,c];simp;rw[I,Ga l (done++[a]) _ B n (aS U) hB a7,s9];rfl
theorem vx{l}(hl:l≠[])(h:Rd G (tks (pcN l)++m) A B)(b:∃s m',m=tS s::m'/\s≠cZ)(c:z l<=k):∃C,fQ G k A=.ok l C/\Rd G m C B:=by cases l with|nil=>grind;|cons a l=>obtain⟨s,m',rfl,d⟩:=b;have h:Rd G (tN a::(tks (l.flatMap λx=>[([],tS cZ),([32],tN x)])++tS s::m')) A B:=h;obtain⟨t,e,I,_⟩:=nh (k:=1) h rfl;have I:t.text=a:=I;obtain⟨C,U,Z⟩:=(aS h).app;refine⟨C,?_,Z⟩;unfold fQ;rw[e];simp;rw[I,Ga l [a] _ C _ U (by rw[bq Z];exact d) c];rfl
theorem Dd{f}(V:de f=T)(v:mj f.body)(h:Rd G (tks (pcF f)) A B)(L:4*(z f.p+z f.l+aI f.body)+5<=k):oX G k A=.ok f B:=by
 obtain⟨name,u,n,word,body⟩:=f;simp only at L v;unfold de at V;simp only[l6,v8]at V;obtain⟨_,_,O⟩:=V;obtain⟨ml,az⟩:∃ml,tks (if n=[]then []else(10::ind 1,tW [118,97,114])::(setl [32] (pcN n)++[([],tS cq)]))++(tks (jA 1 body)++[tS [125]])=ml:=⟨_,rfl⟩;have h:Rd G (tW [102,117,110,99]::tN name::tS dH::(tks (pcN u)++tS bP::((if word then [tW [119,111,114,100]]else [])++tS [123]::ml))) A B:=by
  unfold pcF at h;simp[bt,bL]at h;rw[<-az];cases word;.exact h
  .exact h
 have U:=aS h;have Z:=aS U;obtain⟨t,Q,I,_⟩:=nh (k:=1) U rfl;have I:t.text=name:=I;unfold oX;rw[Qb h,bj];simp[PR.bind];rw[Q];simp only;rw[dU Z,bj];simp only;have i:=aS Z;obtain⟨C,W,x⟩:∃C,(if eI G (A+1+1+1)=1 then fQ G k (A+1+1+1)else .ok [] (A+1+1+1))=.ok u C/\Rd G (tS bP::((if word then [tW [119,111,114,100]]else [])++tS [123]::ml)) C B:=by cases u with|nil=>have i:Rd G (tS bP::((if word then [tW [119,111,114,100]]else [])++tS [123]::ml)) (A+1+1+1) B:=i;exact⟨_,l4 (by rw[qB i];decide),i⟩;|cons a l=>obtain⟨C,y,r⟩:=vx (k:=k) b9 i ⟨_,_,rfl,a8⟩ a7;refine⟨C,?_,r⟩;have b:eI G (A+1+1+1)=1:=qB (show Rd G (tN a::_) _ B from i);grind
 rw[W];simp only;rw[dU x,bj];simp only;have g:=aS x;obtain⟨D,X,Y,c⟩:∃D,(if aM G (C+1)=[119,111,114,100]then C+1+1 else C+1)=D/\decide (aM G (C+1)=[119,111,114,100])=word/\Rd G (tS [123]::ml) D B:=by
  cases word
  .have e:¬aM G (C+1)=[119,111,114,100]:=by rw[bq g];decide
   grind
  .have g:Rd G (tW [119,111,114,100]::tS [123]::ml) (C+1) B:=g;have e:aM G (C+1)=[119,111,114,100]:=by rw[bq g];rfl
   exact⟨_,s5 e,E4 e,aS g⟩
 rw[X,Y,dU c,bj];simp only;have m:=aS c;rw[<-az]at m;obtain⟨E,w,H⟩:∃E,eD G k [] (D+1)=.ok n E/\Rd G (tks (jA 1 body)++[tS [125]]) E B:=by
  have d:∀{A:Nat},Rd G (tks (jA 1 body)++[tS [125]]) A B->aM G A≠[118,97,114]:=λh=>by cases body with|nil=>rw[bq (show Rd G [tS [125]] _ B from h)];decide;|cons s l=>rw[jA,bL,s9]at h;grind[HZ]
  obtain⟨k,rfl⟩:∃j,k=j+2:=⟨k-2,a7⟩;by_cases hl:n=[];.rw[s5 hl]at m;have m:Rd G (tks (jA 1 body)++[tS [125]]) (D+1) B:=m;exact⟨_,by rw[eD,l4 (d m),hl],m⟩
  .rw[l4 hl,bt,bL,cr,z6,s9]at m;have m:Rd G (tW [118,97,114]::(tks (pcN n)++tS cq::(tks (jA 1 body)++[tS [125]]))) (D+1) B:=m;obtain⟨E,y,r⟩:=vx (k:=k+1) hl (aS m) ⟨_,_,rfl,a8⟩ a7;have J:=aS r;refine⟨_,?_,J⟩;rw[eD,s5 (by rw[bq m];rfl),y];simp only[PR.bind];rw[dU r,bj];simp only;rw[eD,l4 (d J)];rfl
 rw[w];simp only;obtain⟨b2,q,o⟩:=wR body [] 1 E B k [] (λs K=>YK _ s 1 (l7 _) (jc v K) (eg O K)) H a7;grind[o.nil]
def tu:Str:=[102,117,110,99]
theorem vy:∀l vs done A B n m,(∀a∈l,0<=a.2)->Rd G (tks (l.flatMap pcA)++tW tu::m) A B->z l+1<=n->∃C,lf G n vs done A=.ok (vs,done++l) C/\Rd G (tW tu::m) C B|[],vs,done,A,B,n,m,_,h,c=>by obtain⟨n,rfl⟩:∃k,n=k+1:=⟨n-1,a7⟩;exact⟨A,by rw[lf,l4 abf,l4 abf,u7],h⟩;|a::l,vs,done,A,B,n,m,i,h,c=>by rw[j8]at c;obtain⟨n,rfl⟩:∃k,n=k+1:=⟨n-1,a7⟩;have U:=aS h;have Z:=aS U;have d:=aS Z;have e:=aS d;have f:=aS e;obtain⟨t,j,I,_⟩:=nh (k:=1) U rfl;obtain⟨q,p,_,g⟩:=nh (k:=2) d rfl;obtain⟨C,r,o⟩:=vy l vs (done++[a]) _ B n m (λb hb=>i b abQ) (aS f) a7;refine⟨C,?_,o⟩;rw[lf,l4 abf,s5 abi,j];simp[PR.bind];rw[dU Z,bj];simp only;rw[p];simp only;rw[dU e,bj];simp only;rw[dU f,bj];simp only;have I:t.text=a.1:=I;grind
theorem JI{Q B}(hB:B<z G)(I:aM G B≠tu):∀l done A n,(∀f∈l,(de f=T/\mj f.body)/\4*(z f.p+z f.l+aI f.body)+5<=Q)->Rd G (tks (l.flatMap pcF)) A B->Q+z l+1<=n->lD G n done A=.no B|[],done,A,n,_,h,a=>by obtain⟨n,rfl⟩:∃k,n=k+1:=⟨n-1,a7⟩;have I:aM G B≠[102,117,110,99]:=I;simp_all[(h).nil,lD,oX,bj];|f::l,done,A,n,b,h,a=>by rw[j8]at a;obtain⟨n,rfl⟩:∃k,n=k+1:=⟨n-1,a7⟩;rw[A8,bL]at h;obtain⟨C,U,Z⟩:=h.app;obtain⟨⟨f1,d⟩,f3⟩:=b f b9;rw[lD,s5 (by have:=U.1;have:=Z.1;omega),Dd f1 d U a7];simp;exact JI hB I l _ C n (λg hg=>b g adA) Z a7
omit G in
theorem UC{q:Nat}(V:bp q l=T):aO l<=z (tks (pcJ l)):=by
 unfold pcJ;rw[cr,mG,G6];have:=Db (tS cZ) [] l λe b=>Dc _ e q (l7 _) (fS V b);cases l with
 |nil=>simp[aO]
 |cons a l=>grind
omit G in
theorem vz(q:Nat):∀l:List Stm,(∀s∈l,∀c,szS s<=z (tks (pcS c s)))->aI l<=z (tks (jA q l))
 |[],_=>by simp[aI]
 |a::l,h=>by
   have U:=h a b9 q;have Z:=vz q l λs b=>h s (by simp[b]);rw[jA,aI,bL,j7];omega
omit G in
theorem UD:∀(al:Nat)(s:Stm)(q c:Nat),szS s<=al->dC q s=T->szS s<=z (tks (pcS c s)):=by
 intro al
 induction al with
 |zero=>omega
 |succ al j=>
   rintro⟨kind,name,e,i,el⟩ q c az V;rw[szS]at az|-;simp only[dC,l6,v8]at V;obtain⟨⟨_,d,n⟩,L,p⟩:=V;have v:=UC n;have w:=vz (c+1) i λs hs g=>j s (q+1) g abA (eg L hs);have x:=vz (c+1) el λs hs g=>j s (q+1) g abA (eg p hs)
   have o:∀{b:Bool},(b&&decide (z e=1/\z i=0/\z el=0))=T->aI i=0/\aI el=0:=λh=>by
    simp only[l6,v8]at h;rw[v7 h.2.2.1,v7 h.2.2.2];exact⟨rfl,rfl⟩
   rw[pcS,cr];unfold cP at d;split
   .rename_i k;rw[s5 k]at d
    have:=o d;simp only[bt,bL,cr,j8,j7];omega
   rename_i r;rw[l4 r]at d;split
   .rename_i k;rw[s5 k]at d
    simp only[l6,v8]at d;rw[v7 d.2.2.1,v7 d.2.2.2]
    match e,d.2.1 with
    |[a,b],_=>
      obtain⟨f,E⟩:=dE n;have U:=Dc _ a _ (l7 _) f;have Z:=Dc _ b _ (l7 _) (dE E).1;simp only[D5,G8,D9,D6,bt,bL,cr,j8,j7,xZ,aO,aI];omega
   rename_i t;rw[l4 t]at d;split
   .rename_i k;rw[s5 k]at d
    have:=o d;simp only[bt,bL,j8,j7];omega
   rename_i u;rw[l4 u]at d;split
   .rename_i k
    rw[l4 a7,l4 a7,s5 k]at d;simp only[l6,v8]at d;rw[v7 d.2.2.1,v7 d.2.2.2];simp only[bt,bL,j8,j7,aI];omega
   rename_i P;split
   .rename_i k
    rw[l4 a7,l4 a7,l4 P,s5 k]at d;simp only[l6,v8]at d;rw[v7 d.2.2.1,v7 d.2.2.2];simp only[bt,bL,cr,j8,j7,aI];omega
   .simp only[bt,bL,j8,j7]
    cases el with
    |nil=>simp only[aI];omega
    |cons b l=>simp only[T3,B4,↓reduceIte,bt,j8];omega
omit G in
theorem Qg:∀l:List Str,z l<=z (tks (l.flatMap λx=>[([],tS cZ),([32],tN x)]))
 |[]=>by simp
 |b::l=>by
   have:=Qg l;rw[A8,bL,j7,j8];have:z (tks [(([]:Str),tS cZ),([32],tN b)])=2:=rfl;omega
omit G in
theorem ya(l:List Str):z l<=z (tks (pcN l)):=by
 cases l with
 |nil=>simp
 |cons a l=>have:=Qg l;unfold pcN;rw[bt,j8,j8];omega
omit G in
theorem qC{f:Fn}(V:de f=T):z f.p+z f.l+aI f.body+6<=z (tks (pcF f)):=by
 obtain⟨name,u,n,word,body⟩:=f;unfold de at V;simp only[l6,v8]at V;have U:=vz 1 body λs a c=>UD _ s 1 c (l7 _) (eg V.2.2 a);have Z:=ya u;have b:=ya n;unfold pcF;simp only[bt,bL,j8,j7,show tks ([]:List Pc)=[]from rfl,l5]at U Z b|-
 have d:z n<=z (tks (if n=[]then []else(10::ind 1,tW [118,97,114])::(setl [32] (pcN n)++[([],tS cq)]))):=by
  split
  .grind
  .rw[bt,bL,cr,j8,j7];omega
 omega
omit G in
theorem pK{H:Type}{b2:H->List Pc}{k:Nat}:∀{l:List H},(∀a∈l,k<=z (tks (b2 a)))->k*z l<=z (tks (l.flatMap b2))
 |[],_=>by simp
 |b::l,h=>by
   have U:=h b b9;have Z:=pK (l:=l) λc d=>h c (by simp[d]);rw[A8,bL,j7,j8,Nat.mul_add];omega
omit G in
theorem Ac{H:Type}{b2:H->List Pc}{w:H->Nat}{k:Nat}:∀{l:List H}{a:H},(∀a∈l,w a<=z (tks (b2 a))/\k<=z (tks (b2 a)))->a∈l->w a+k*z l<=z (tks (l.flatMap b2))+k
 |b::l,a,h,d=>by
   rw[A8,bL,j7,j8,Nat.mul_add];rcases A0.1 d with rfl|d
   .have:=(h a b9).1
    have:=pK (b2:=b2) (k:=k) (l:=l) λc e=>(h c (by simp[e])).2;omega
   .have:=Ac (a:=a) (λc e=>h c (by simp[e])) d
    grind
theorem YL{p}(V:ct p=T)(u:qg p){B}(hB:B<z G)(I:aM G B≠tu)(h:Rd G (tks (pcP p)) 0 B):mR G (4*z G+7) 0=.no B:=by
 unfold ct at V;simp only[l6,v8,z7]at V;obtain⟨⟨K,_⟩,H,x⟩:=V;obtain⟨f,fs,q⟩:∃f fs,p.f=f::fs:=by cases e:p.f with|nil=>grind;|cons f fs=>simp
 have bs:∀g∈f::fs,de g=T/\mj g.body:=λg hg=>⟨x g (q▸hg),u g (q▸hg)⟩;unfold pcP at h;rw[cr,bL,bL,q,A8,bL]at h;have s:∀a∈p.a,0<=a.2:=λa ha=>by grind[fR]
 obtain⟨i,b⟩:∃m,tks (pcF f)=tW tu::m:=⟨_,rfl⟩;have L:=pK (b2:=pcA) (k:=6) (l:=p.a) λa _=>by simp[pcA,tks]
 have c:=pK (b2:=pcF) (k:=6) (l:=fs) λg hg=>by have:=qC (bs g adA).1;omega
 have r:=h.1;have O:=qC (bs f b9).1;have d:∀g∈fs,z g.p+z g.l+aI g.body+6*z fs<=z (tks (fs.flatMap pcF)):=λg hg=>by exact zv
 simp only[j7]at r;obtain⟨C,n,j⟩:∃C,lf G (4*z G+7) [] [] 0=.ok (p.v,p.a) C/\Rd G (tks (pcF f)++tks (fs.flatMap pcF)) C B:=by
  by_cases o:p.v=[];.rw[s5 o]at h;have h:Rd G (tks (p.a.flatMap pcA)++(tks (pcF f)++tks (fs.flatMap pcF))) 0 B:=h;rw[b,z6]at h|-;obtain⟨C,n,j⟩:=vy p.a [] [] 0 _ (4*z G+7) _ s h a7;grind
  .rw[l4 o]at r;have W:=ya p.v;rw[bt,bL,cr,j8,j7]at r;rw[l4 o,bt,bL,cr,z6,s9]at h;obtain⟨C,n,j⟩:=vx (k:=4*z G+6) o (aS h) ⟨_,_,rfl,a8⟩ a7;have t:=aS j;rw[b,z6]at t|-;obtain⟨D,X,y⟩:=vy p.a p.v [] _ _ (4*z G+6) _ s t a7;refine⟨D,?_,y⟩;rw[lf,s5 abi,n];simp only[PR.bind];rw[dU j,bj];grind
 obtain⟨D,U,Z⟩:=j.app;unfold mR;rw[n];simp[PR.bind];obtain⟨E,J⟩:=bs f b9;rw[Dd E J U a7];simp only;rw[JI (Q:=4*(z (tks (fs.flatMap pcF))-6*z fs)+5) hB I fs [f] D _ (λg hg=>⟨bs g adA,by grind⟩) Z a7]
end
section
open Go.Asm (Str digit letter eK je iS Di Ik AE wZ wht small)
def Sep(R:Str):Prop:=∀c,R.head?=S c->eK c=F
def qD(s:Str):Prop:=∀c∈s,c=32\/c=10
def tv(k:TK)(R:Str):Prop:=firstT (k.2.1++R)=.ok k/\∃c t,k.2.1=c::t/\c≠32/\c≠9/\c≠10/\¬(c=47/\(t++R).head?=S 47)
def okC:List Pc->Str->Prop|[],_=>True|x::l,R=>qD x.1/\tv x.2 (ax l++R)/\okC l R
def aV l m:ax (l++m)=ax l++ax m:=O7
def aA x l:ax (x::l)=x.1++x.2.2.1++ax l:=A8
theorem ej:∀l m R,okC (l++m) R↔okC l (ax m++R)/\okC m R|[],m,R=>by simp[okC];|x::l,m,R=>by rw[z6,okC,okC,ej l m R,aV,s9];grind
variable{R:Str}{l:List Pc}{c:UInt8}{s:Str}{k:TK}
def lp(a:qD s):∀{l}{R},okC l R->okC (setl s l) R|[],_,h=>h|_::_,_,h=>⟨a,h.2.1,h.2.2⟩
def lq:Nat->List Pc->List Tok|_,[]=>[]|k,x::l=>⟨x.2.1,x.2.2.1,x.2.2.2,k+z x.1⟩::lq (k+z x.1+z x.2.2.1) l
def rZ:∀l k,(lq k l).map strip=tks l|[],_=>rfl|x::l,k=>by rw[lq,s7,rZ l];rfl
theorem BF:∀l m k,lq k (l++m)=lq k l++lq (k+z (ax l)) m|[],m,k=>rfl|x::l,m,k=>by rw[z6,lq,lq,BF l m,aA,z6];grind
theorem wS:∀s n k R,qD s->lC (n+z s) k (s++R)=lC n (k+z s) R|[],n,k,R,_=>by simp;|c::s,n,k,R,h=>by have a:=h c b9;rw[z6,j8,<-D4,lC,s5 ZN,wS s n (k+1) R λx I=>h x aby];grind
theorem BG(h:tv k R) n p:lC (n+1) p (k.2.1++R)=match lC n (p+z k.2.1) R with|(.ok l,q)=>(.ok (⟨k.1,k.2.1,k.2.2,p⟩::l),q)|(.err e,q)=>(.err e,q):=by obtain⟨U,c,t,e,Z,b,d,a⟩:=h;obtain⟨f,g,v⟩:=k;subst e;simp only;rw[z6]at U|-;rw[lC,l4 ZN,l4 a,U];grind
theorem Qh:∀l n k,okC l []->z (ax l)<n->(lC n k (ax l)).1=.ok (lq k l)
 |[],n,k,_,h=>by obtain⟨n,rfl⟩:∃j,n=j+1:=⟨n-1,a7⟩;rfl;|x::l,n,k,h,a=>by
  obtain⟨U,Z,b⟩:=h;rw[aA]at a|-;simp only[j7]at a;have d:0<z x.2.2.1:=by obtain⟨_,c,t,e,_⟩:=Z;rw[e];simp
  obtain⟨n,rfl⟩:∃j,n=j+1+z x.1:=⟨n-1-z x.1,a7⟩;rw[u7]at Z;rw[s9,wS x.1 _ k _ U,BG Z];have f:=Qh l n (k+z x.1+z x.2.2.1) b a7;grind[lq]
def mb{q}:∀{s:Str}{R},s.takeWhile q=s->(∀c,R.head?=S c->q c=F)->(s++R).takeWhile q=s
 |[],[],_,_=>rfl|[],c::R,_,h=>by simp_all;|a::s,R,b,h=>by
  rw[H9]at b;split at b;.rename_i d;rw[z6,H9,s5 d,mb (List.cons.inj b).2 h]
  .cases b
def tw{q}:∀s:Str,(∀c∈s,q c=T)->s.takeWhile q=s|[],_=>rfl|a::s,h=>by rw[H9,s5 (h a b9),tw s λc b=>h c (by simp[b])]
theorem pL(h:letter c=T):digit c=F/\c≠39/\c≠32/\c≠9/\c≠10/\c≠47:=by
 unfold letter small at h;simp at h;refine⟨?_,?_,?_,?_,?_,?_⟩;.grind[digit]
 all_goals rintro rfl;grind
theorem jd{s R}(h:ba s=T)(b:Sep R):tv (tN s) R:=by unfold ba at h;simp only[v8]at h;obtain⟨U,Z,d,e,f⟩:=h;cases s with|nil=>grind;|cons c t=>
 have hl:letter c=T:=by simpa using d
 obtain⟨o,g,i,j,m,n⟩:=pL hl;have a:=mb e b;refine⟨?_,c,t,rfl,i,j,m,λx=>n x.1⟩;show firstT ((c::t)++R)=_;rw[z6]at a|-;rw[firstT,l4 ZN,l4 g,s5 hl,a,l4 a7,l4 f];rfl
def jG{s R}(h:s∈jw)(b:Sep R):tv (tW s) R:=by
 have d:s.takeWhile eK=s/\z s<=20/\∃c t,s=c::t/\letter c=T:=by revert h;unfold jw;simp only[A0,A9,D8];rintro(rfl|rfl|rfl|rfl|rfl|rfl|rfl|rfl|rfl|rfl)<;>exact⟨a8,a8,_,_,rfl,a8⟩
 obtain⟨e,Z,c,t,rfl,hl⟩:=d;obtain⟨n,f,g,i,j,m⟩:=pL hl;have a:=mb e b;refine⟨?_,c,t,rfl,g,i,j,λx=>m x.1⟩;show firstT ((c::t)++R)=_;rw[z6]at a|-;rw[firstT,l4 ZN,l4 f,s5 hl,a,l4 a7,s5 h];rfl
theorem Ib(h:eK c=F):digit c=F:=by unfold eK at h;grind
theorem Gb{n}(h:n<4294967296)(f:Sep R):tv (2,iS n,n) R:=by have bs:=Di n;have d:=mb (tw _ (z7.1 bs)) λc g=>Ib (f c g);have bz:=Ik n;have e:=AE n;cases hd:iS n with|nil=>grind;|cons c t=>
 rw[hd]at bs d e;simp only[D1,l6]at bs;obtain⟨b,_,_,_,i,_,_,_⟩:=wZ bs.1;unfold wht at b;simp only[Bool.or_eq_false_iff,beq_eq_false_iff_ne]at b;refine⟨?_,c,t,rfl,b.1,b.2,i,λx=>?_⟩;.show firstT ((c::t)++R)=.ok (2,c::t,n);rw[z6]at d|-;rw[firstT,s5 bs.1,d,e,l4 a7]
 .have:=bs.1;rw[x.1]at this;revert this;decide
def JJ:List Str:=[[40],[41],[91],[93],[59],[44],[123],[125],[33]]
def bw{s R}(h:s∈JJ):tv (tS s) R:=by unfold JJ at h;simp at h;rcases h with rfl|rfl|rfl|rfl|rfl|rfl|rfl|rfl|rfl;all_goals refine⟨?_,_,_,rfl,a8,a8,a8,λx=>absurd x.1 a8⟩;rfl
theorem De{s R}(h:s∈ug)(a:R.head?=S 32):tv (tS s) R:=by
 obtain⟨n,rfl⟩:∃n,R=32::n:=by cases R with|nil=>cases a;|cons c R=>grind
 unfold ug at h;simp at h;rcases h with rfl|rfl|rfl|rfl|rfl|rfl|rfl|rfl|rfl|rfl|rfl|rfl|rfl|rfl|rfl|rfl|rfl|rfl|rfl|rfl|rfl|rfl|rfl|rfl;all_goals refine⟨?_,_,_,rfl,a8,a8,a8,λx=>absurd x.2 b9⟩;rfl
def bl0:qD []:=λ_ h=>absurd h b9
def bl1:qD [32]:=λc h=>.inl (C8.1 h)
def bl2:qD [10]:=λc h=>.inr (C8.1 h)
def blI n:qD (10::ind n):=λc h=>by
 rcases A0.1 h with rfl|h;.simp
 .exact .inl (I5 h)
theorem Gc(h:eK c=F):Sep (c::R):=λx I=>by grind
def da{s R}(h:s∈JJ):Sep (ax (([],tS s)::l)++R):=by rw[aA];unfold JJ at h;simp at h;rcases h with rfl|rfl|rfl|rfl|rfl|rfl|rfl|rfl|rfl<;>exact Gc a8
def fW{s R:Str}(h:c=32\/c=10):Sep (ax ((c::s,k)::l)++R):=by rw[aA];rcases h with rfl|rfl<;>exact Gc a8
theorem Qi{kind op}:kM kind op∈ug:=by
 have t:∀(c:Prop)[Decidable c](a b:Str),a∈ug->b∈ug->(if c then a else b)∈ug:=λc _ a b d e=>by grind
 unfold kM;repeat (refine t _ _ _ (by decide) ?_)
 decide
def Qj e:pcE e≠[]:=λh=>by obtain⟨x,l,a,_⟩:=Qc e;rw[h]at a;cases a
theorem pM(h:l≠[]) R:(ax (setl [32] l)++R).head?=S 32:=by cases l with|nil=>grind;|cons x l=>rfl
def OkE(a:Ex):Prop:=∀R,Sep R->okC (pcE a) R
theorem okM{c}{s}(e:qD s)(f:∀Q,Q.head?=S 32->tv c Q)(d:∀m R,Sep (ax ((s,c)::m)++R)):∀l R,(∀a∈l,OkE a)->Sep R->okC (pcM c s l) R
 |[],R,_,_=>trivial|a::l,R,g,i=>by
  rw[pcM];refine⟨e,f _ ?_,(ej _ _ _).2 ⟨lp bl1 (g a b9 _ ?_),okM e f d l R (λb hb=>g b abQ) i⟩⟩;.rw[aV,s9];exact pM (Qj a) _
  .cases l with|nil=>exact i;|cons b l=>rw[pcM];grind
def Gd(h:okC l R):okC (l.drop 1) R:=by cases l with|nil=>exact h;|cons x l=>exact h.2.2
def okJ{l}(b:∀a∈l,OkE a)(d:Sep R):okC (pcJ l) R:=lp bl0 (Gd (okM bl0 (λQ _=>bw a8) (λm R=>da a8) l R b d))
def YM:∀al e q,szE e<=al->rB e->dn q e=T->OkE e:=by intro al;induction al with|zero=>intro e _ h;have:=jD e;omega;|succ al j=>
 rintro⟨kind,op,num,name,b⟩q az i V R f;rw[szE]at az;rw[rB]at i;simp[dn]at V;obtain⟨_,d,r⟩:=V;have J:∀a∈b,OkE a:=λa g=>j a (q+1) (by have:=vu g;omega) (lW i.2 g) (fS r g);unfold bV at d;unfold pcE;split;.exact⟨bl0,Gb a7 f,trivial⟩
 rename_i n;rw[l4 n]at d;split;.rename_i k;rw[s5 k]at d;simp only[l6,aq,↓reduceIte]at d;exact⟨bl0,jd d.1.2 f,trivial⟩
 rename_i o;rw[l4 o]at d;split;.rename_i k;rw[s5 k]at d;exact K3
 rename_i p;rw[l4 p]at d;split;.rename_i k;rw[s5 k]at d;exact K3
 split;.exact⟨bl0,jG a8 (da a8),bl0,bw a8,bl0,bw a8,trivial⟩
 split;.exact⟨bl0,bw a8,okJ J f⟩
 .refine⟨bl0,bw a8,(ej _ _ _).2 ⟨lp bl0 (Gd (okM bl1 (λQ t=>De Qi t) (λm R=>fW (.inl rfl)) b _ J (da a8))),bl0,bw a8,trivial⟩⟩
def JK(h:l≠[]):setl s l≠[]:=by cases l<;>simp_all[setl]
theorem Ic{l}(h:l≠[]):pcJ l≠[]:=by cases l with|nil=>grind;|cons a l=>simp_all[pcJ,pcM,JK,Qj]
def Ge(h:R.head?=S 32):Sep R:=λc a=>by rw[h]at a;cases a;decide
def OkS(s:Stm):Prop:=∀q R,Sep R->okC (pcS q s) R
def Qk q s:∃k l,pcS q s=(10::ind q,k)::l:=by
 obtain⟨kind,name,e,a,el⟩:=s;rw[pcS];repeat' split
 all_goals exact⟨_,_,rfl⟩
def JL:∀l q R,(∀s∈l,OkS s)->Sep R->okC (jA q l) R|[],_,_,_,_=>by rw[jA];trivial;|a::l,q,R,d,f=>by rw[jA,ej];refine⟨d a b9 q _ ?_,JL l q R (λb hb=>d b abQ) f⟩;cases l with|nil=>rw[jA];exact f;|cons b l=>obtain⟨k,m,e⟩:=Qk q b;simp_all[jA,fW]
theorem YN:∀al s q,szS s<=al->wb s->dC q s=T->OkS s:=by intro al;induction al with|zero=>grind[qf];|succ al m=>
 rintro⟨kind,name,e,n,el⟩q az i V c R x;rw[szS]at az;rw[wb]at i;simp[dC]at V;obtain⟨⟨_,d,o⟩,L,p⟩:=V;have g:∀a∈e,OkE a:=λa j=>YM _ a (q+1) (l7 _) (lW i.1 j) (fS o j);have f:∀{Q:Str},okC [(([]:Str),tS cq)] Q:=λ{Q}=>⟨bl0,bw a8,trivial⟩;unfold cP at d;rw[pcS];refine lp (blI c) ?_;split;.rename_i k;rw[s5 k]at d;simp only[l6,aq,↓reduceIte,v8]at d;exact⟨bl0,jd d.1 (fW (.inl rfl)),bl1,De a8 (by rw[aV,s9];grind[pM,Ic]),(ej _ _ _).2 ⟨lp bl1 (okJ g (da a8)),f⟩⟩
 rename_i u;rw[l4 u]at d;split;.rename_i k;rw[s5 k]at d;simp only[l6,aq,↓reduceIte,v8]at d;exact⟨bl0,jd d.1 (da a8),bl0,bw a8,(ej _ _ _).2 ⟨okJ (λa j=>g a (N4 j)) (da a8),bl0,bw a8,bl1,De a8 (by rw[aV,s9];exact pM (Ic (λh=>by have:=congrArg z h;grind)) _),(ej _ _ _).2 ⟨lp bl1 (okJ (λa j=>g a (N5 j)) (da a8)),f⟩⟩⟩
 rename_i v;rw[l4 v]at d;split;.exact⟨bl0,jG a8 (da a8),bl0,bw a8,(ej _ _ _).2 ⟨okJ g (da a8),bl0,bw a8,f⟩⟩
 rename_i w;rw[l4 w]at d;split;.rename_i k;rw[l4 a7,l4 a7,s5 k]at d;simp only[l6,aq,↓reduceIte,v8]at d;exact⟨bl0,jd d.1 (da a8),bl0,bw a8,(ej _ _ _).2 ⟨okJ g (da a8),bl0,bw a8,f⟩⟩
 split;.refine⟨bl0,jG a8 ?_,(ej _ _ _).2 ⟨lp bl1 (okJ g (da a8)),f⟩⟩;cases e with|nil=>exact da a8;|cons a l=>rw[aV,s9];exact Ge (pM (Ic b9) _)
 .refine⟨bl0,jG (by split<;>decide) (fW (.inl rfl)),bl1,bw a8,(ej _ _ _).2 ⟨okJ g (da a8),bl0,bw a8,bl1,bw a8,(ej _ _ _).2 ⟨JL n _ _ (λs hs=>m s (q+1) abA (jc i.2.1 hs) (eg L hs)) ?_,?_⟩⟩⟩;.cases el<;>exact fW (.inr rfl)
  .cases el with|nil=>exact⟨blI _,bw a8,trivial⟩;|cons b l=>exact⟨blI _,bw a8,bl1,jG a8 (fW (.inl rfl)),bl1,bw a8,(ej _ _ _).2 ⟨JL (b::l) _ _ (λs hs=>m s (q+1) abA (jc i.2.2 hs) (eg p hs)) (fW (.inr rfl)),blI _,bw a8,trivial⟩⟩
def JM:∀(l:List Str) R,l.all ba=T->Sep R->okC (l.flatMap λx=>[([],tS cZ),([32],tN x)]) R|[],_,_,_=>trivial|a::l,R,h,d=>by simp only[D1,l6]at h;rw[A8,ej];refine⟨⟨bl0,bw a8,bl1,jd h.1 ?_,trivial⟩,JM l R h.2 d⟩;cases l with|nil=>exact d;|cons b l=>exact da a8
def okN{l}(h:l.all ba=T)(d:Sep R):okC (pcN l) R:=by cases l with|nil=>trivial;|cons a l=>simp only[D1,l6]at h;refine⟨bl0,jd h.1 ?_,JM l R h.2 d⟩;cases l with|nil=>exact d;|cons b l=>exact da a8
theorem YO{l}(h:l≠[]):pcN l≠[]:=by cases l with|nil=>grind;|cons a l=>exact List.cons_ne_nil _ _
def Ql(a:qD s){l}(h:l.all ba=T)(hl:l≠[]):okC ((s,tW [118,97,114])::(setl [32] (pcN l)++[([],tS cq)])) R:=⟨a,jG a8 (by rw[aV,s9];exact Ge (pM (YO hl) _)),(ej _ _ _).2 ⟨lp bl1 (okN h (da a8)),bl0,bw a8,trivial⟩⟩
def YP{f}(V:de f=T)(d:mj f.body)(i:Sep R):okC (pcF f) R:=by
 obtain⟨name,u,n,word,body⟩:=f;unfold de at V;simp only[l6,v8]at V;obtain⟨⟨H,_⟩,⟨e,hl⟩,g⟩:=V;have b:okC ((if n=[]then []else(10::ind 1,tW [118,97,114])::(setl [32] (pcN n)++[([],tS cq)]))++(jA 1 body++[([10],tS [125])])) R:=by
  refine(ej _ _ _).2 ⟨?_,(ej _ _ _).2 ⟨JL body 1 _ (λs a=>YN _ s 1 (l7 _) (jc d a) (eg g a)) (fW (.inr rfl)),bl2,bw a8,trivial⟩⟩;split;.trivial
  .simp_all[Ql,blI]
 unfold pcF;refine⟨bl2,jG a8 (fW (.inl rfl)),bl1,jd H (da a8),bl0,bw a8,(ej _ _ _).2 ⟨okN e (da a8),bl0,bw a8,?_⟩⟩;cases word;.exact⟨bl1,bw a8,b⟩
 .exact⟨bl1,jG a8 (fW (.inl rfl)),bl1,bw a8,b⟩
def Qm{b2:List Pc}(h:∃k m,b2=([10],k)::m) R:Sep (ax b2++R):=by obtain⟨k,m,rfl⟩:=h;simp_all[fW]
def Ie{H:Type}{b2:H->List Pc}(d:∀a,∃k m,b2 a=([10],k)::m):∀(l:List H) R,(∀a∈l,∀R,Sep R->okC (b2 a) R)->Sep R->okC (l.flatMap b2) R|[],_,_,_=>trivial|a::l,R,h,e=>by rw[A8,ej];refine⟨h a b9 _ ?_,Ie d l R (λb hb=>h b abQ) e⟩;cases l with|nil=>exact e;|cons b l=>simp_all[aV,Qm]
def Qn{p}(V:ct p=T)(e:qg p)(b:Sep R):okC (pcP p) R:=by
 unfold ct at V;simp only[l6,v8,z7]at V;obtain⟨⟨_,g⟩,H,i⟩:=V;unfold pcP;have m:okC (p.a.flatMap pcA++p.f.flatMap pcF) R:=by
  refine(ej _ _ _).2 ⟨Ie (b2:=pcA) (λa=>⟨_,_,rfl⟩) _ _ (λa n R b=>?_) ?_,Ie (λf=>⟨_,_,rfl⟩) _ _ (λf d R b=>YP (i f d) (e f d) b) b⟩;.have:=H a n;unfold fR at this;simp at this;exact⟨bl2,jG a8 (fW (.inl rfl)),bl1,jd this.1.1 (da a8),bl0,bw a8,bl0,Gb a7 (da a8),bl0,bw a8,bl0,bw a8,trivial⟩
  .cases o:p.f with|nil=>exact b;|cons f l=>rw[A8,aV,s9];exact Qm ⟨_,_,rfl⟩ _
 refine lp bl0 ((ej _ _ _).2 ⟨?_,m⟩);split;.trivial
 simp_all[Ql,bl2]
theorem Qo{p}(V:ct p=T)(a:qg p)(b:tv k [])(hl:z (ax (pcP p)++([10,32]++k.2.1))<=20000):∃G,rY (ax (pcP p)++([10,32]++k.2.1))=(G,0,0)/\Rd G (tks (pcP p)) 0 (z (pcP p))/\z G=z (pcP p)+1/\G[z (pcP p)]?=S ⟨k.1,k.2.1,k.2.2,z (ax (pcP p))+2⟩:=by
 have e:ax (pcP p)++([10,32]++k.2.1)=ax (pcP p++[([10,32],k)]):=by rw[aV];simp[ax]
 have d:okC (pcP p++[([10,32],k)]) []:=(ej _ _ _).2 ⟨Qn V a (fW (.inr rfl)),λc g=>by grind,b,trivial⟩;have h:=Qh _ (z (ax (pcP p++[([10,32],k)]))+1) 0 d (Nat.lt_succ_self _);rw[e]at hl|-;have f:=rZ (pcP p) 0;have i:z (lq 0 (pcP p))=z (pcP p):=by have:=congrArg z f;simpa[tks]using this
 have m:lq 0 (pcP p++[([10,32],k)])=lq 0 (pcP p)++[⟨k.1,k.2.1,k.2.2,z (ax (pcP p))+2⟩]:=by rw[BF,D2];rfl
 refine⟨lq 0 (pcP p++[([10,32],k)]),?_,⟨by simp[tks],λj x I=>?_⟩,?_,?_⟩;.grind[rY]
 .grind
 .grind
 grind
end
section
open Go.Asm (Str digit letter eK je iS jn nA)
def nB:∀k n,n<10^(k+1)->z (iS n)<=k+1
 |0,n,h=>by rw[jn a7];simp;|k+1,n,h=>by
  by_cases w:n<10;.rw[jn w];simp
  rw[nA w,j7,H4];have:=nB k (n/10) a7;omega
theorem lX{s}(h:ba s=T):z s<=20:=by grind[ba]
def lr s l:z (ax (setl s l))<=z s+z (ax l):=by cases l with|nil=>simp[setl,ax];|cons x l=>simp_all[setl,aA]
def wT l:z (ax (l.drop 1))<=z (ax l):=by cases l with|nil=>simp;|cons x l=>simp only[D9,D6,aA,j7];omega
theorem UE{c}{s:Str}{w}(d:z s+z c.2.1+1<=w):∀l:List Ex,(∀a∈l,z (ax (pcE a))+w<=28*szE a)->z (ax (pcM c s l))<=28*aO l|[],_=>by simp[pcM,ax];|a::l,h=>by have U:=h a b9;have Z:=UE d l λb hb=>h b abQ;have e:=lr [32] (pcE a);rw[pcM,aA,aV,aO];grind
theorem Qp kind op:z (kM kind op)<=2:=by
 have t:∀(c:Prop)[Decidable c](a b:Str),z a<=2->z b<=2->z (if c then a else b)<=2:=λc _ a b d e=>by grind
 unfold kM;repeat (refine t _ _ _ (by decide) ?_)
 decide
theorem acU:∀al e q,szE e<=al->rB e->dn q e=T->z (ax (pcE e))+4<=28*szE e:=by intro al;induction al with|zero=>intro e _ h;have:=jD e;omega;|succ al n=>
 rintro⟨kind,op,num,name,b⟩q az i V;rw[szE]at az|-;rw[rB]at i;simp only[dn,l6,v8]at V;obtain⟨_,d,r⟩:=V;have J:∀a∈b,z (ax (pcE a))+4<=28*szE a:=λa g=>n a (q+1) (by have:=vu g;omega) (lW i.2 g) (fS r g);have hC:z (ax (setl [] ((pcM (tS cZ) [] b).drop 1)))<=28*aO b:=by have U:=UE (c:=tS cZ) (s:=[]) a8 b J;have Z:=wT (pcM (tS cZ) [] b);have j:=lr [] ((pcM (tS cZ) [] b).drop 1);simp only[l5]at j;omega
 have E:z (ax (setl [] ((pcM (tS (kM kind op)) [32] b).drop 1)))<=28*aO b:=by have u:=Qp kind op;have U:=UE (c:=tS (kM kind op)) (s:=[32]) (by simp only[tS,H4];omega) b J;have Z:=wT (pcM (tS (kM kind op)) [32] b);have j:=lr [] ((pcM (tS (kM kind op)) [32] b).drop 1);simp only[l5]at j;omega
 have H:aq T name=T->z name<=20:=λh=>lX (by grind[aq]);have f:∀s:Str,(tS s).2.1=s:=λ_=>rfl;have m:(tN name).2.1=name:=rfl;unfold bV at d;unfold pcE;split;.have:=nB 9 num.toNat a7;simp only[ax,A8,J2,j7,l5,u7];omega
 rename_i o;rw[l4 o]at d;split;.rename_i k;rw[s5 k]at d;simp only[l6]at d;have:=H d.1.2;simp only[ax,A8,J2,j7,l5,u7,m];omega
 rename_i p;rw[l4 p]at d;split;.rename_i k;rw[s5 k]at d;simp only[l6]at d;have:=H d.1.2;rw[aA,aA,aV,aA];simp only[m,f,j7,l5,j8,ax,J2]at hC|-;omega
 rename_i t;rw[l4 t]at d;split;.rename_i k;rw[s5 k]at d;simp only[l6]at d;have:=H d.1.2;rw[aA,aA,aV,aA];simp only[m,f,j7,l5,j8,ax,J2,dH,bP]at hC|-;omega
 split;.rw[aA,aA,aA];simp only[f,j7,l5,j8,ax,J2,dH,bP,tW]at hC|-;omega
 split;.rw[aA];grind
 .rw[aA,aV,aA];simp only[f,j7,l5,j8,ax,J2,dH,bP]at E|-;omega
theorem Qq{l}{q}(d:oB l)(V:bp q l=T):z (ax (pcJ l))<=28*aO l:=by have U:=UE (c:=tS cZ) (s:=[]) a8 l λa b=>acU _ a q (l7 _) (lW d b) (fS V b);have Z:=wT (pcM (tS cZ) [] l);have e:=lr [] ((pcM (tS cZ) [] l).drop 1);grind[pcJ]
def UF q:z (10::ind q)=2*q+1:=by simp[ind]
def Df q:∀l:List Stm,(∀s∈l,z (ax (pcS q s))<=200*szS s)->z (ax (jA q l))<=200*aI l|[],_=>by simp[jA,ax];|a::l,h=>by have U:=h a b9;have Z:=Df q l λs b=>h s (by simp[b]);rw[jA,aV,aI,j7];omega
theorem acV:∀al s q,szS s<=al->wb s->dC q s=T->z (ax (pcS q s))<=200*szS s:=by intro al;induction al with|zero=>grind[qf];|succ al n=>
 rintro⟨kind,name,e,o,el⟩q az i V;rw[szS]at az|-;rw[wb]at i;simp only[dC,l6,v8]at V;obtain⟨⟨j,d,f⟩,L,p⟩:=V;have x:=Qq i.1 f;have u:=lr [32] (pcJ e);have y:=Df (q+1) o λs hs=>n s (q+1) abA (jc i.2.1 hs) (eg L hs);have A:=Df (q+1) el λs hs=>n s (q+1) abA (jc i.2.2 hs) (eg p hs);have H:aq T name=T->z name<=20:=λh=>lX (by grind[aq]);have hs:∀s:Str,(tS s).2.1=s:=λ_=>rfl;have c:∀s:Str,(tW s).2.1=s:=λ_=>rfl;have g:(tN name).2.1=name:=rfl;have m:=UF q;unfold cP at d;rw[pcS];refine C4 (lr _ _) ?_;rw[m];simp only[H4]at u;split;.rename_i k;rw[s5 k]at d;simp only[l6]at d;have:=H d.1;simp only[aA,aV,g,hs,j7,l5,j8,cq,show ax []=[]from rfl];omega
 rename_i r;rw[l4 r]at d;split;.rename_i k;rw[s5 k]at d;simp only[l6,v8]at d;have:=H d.1;match e,d.2.1 with|[a,b],_=>have U:=Qq (l:=[a]) (q:=q+1) (by grind[oB]) (by simp_all[bp]);have Z:=Qq (by grind[oB]) (dE f).2;have t:=lr [32] (pcJ [b]);simp only[aO,H4]at U Z t;simp only[D5,G8,D9,D6,aA,aV,g,hs,j7,l5,j8,cq,show ax []=[]from rfl,aO];omega
 rename_i v;rw[l4 v]at d;split;.simp only[aA,aV,hs,c,j7,l5,j8,cq,dH,bP,show ax []=[]from rfl];omega
 rename_i w;rw[l4 w]at d;split;.rename_i k;rw[l4 a7,l4 a7,s5 k]at d;simp only[l6]at d;have:=H d.1;simp only[aA,aV,g,hs,j7,l5,j8,cq,dH,bP,show ax []=[]from rfl];omega
 split;.simp only[aA,aV,hs,c,j7,l5,j8,cq,show ax []=[]from rfl];omega
 .have B:z (if kind=5 then [119,104,105,108,101]else [105,102]:Str)<=5:=by split<;>decide
  cases el with|nil=>simp only[T6,↓reduceIte,aA,aV,hs,c,j7,l5,j8,dH,bP,show ax []=[]from rfl]at m|-;omega;|cons b l=>simp only[T3,B4,↓reduceIte,aA,aV,hs,c,j7,l5,j8,dH,bP,show ax []=[]from rfl]at m|-;omega
def BH:∀l:List Str,l.all ba=T->z (ax (l.flatMap λx=>[([],tS cZ),([32],tN x)]))<=22*z l|[],_=>by simp[ax];|a::l,h=>by simp only[D1,l6]at h;have U:=BH l h.2;have Z:=lX h.1;rw[A8,aV,j7,aA,aA];simp only[j7,l5,j8,show (tS cZ).2.1=[44]from rfl,show (tN a).2.1=a from rfl,show ax []=[]from rfl]at U|-;omega
variable{l:List Str}
def VX(h:l.all ba=T):z (ax (pcN l))<=22*z l:=by cases l with|nil=>simp[pcN,ax];|cons a l=>simp only[D1,l6]at h;have U:=BH l h.2;have Z:=lX h.1;unfold pcN;rw[aA];simp only[j7,l5,j8,show (tN a).2.1=a from rfl];omega
def VY{s:Str}(a:z s<=3)(h:l.all ba=T):z (ax (if l=[]then []else(s,tW [118,97,114])::(setl [32] (pcN l)++[([],tS cq)])))<=30*z l:=by
 split;.grind[ax]
 .rename_i e;have U:=VX h;have Z:=lr [32] (pcN l);have:=J0.2 e;simp only[aA,aV,j7,l5,j8,show (tS cq).2.1=[59]from rfl,show (tW [118,97,114]).2.1=[118,97,114]from rfl,show ax []=[]from rfl]at Z|-;omega
def acW{f}(V:de f=T)(b:mj f.body):z (ax (pcF f))<=200*(1+z f.p+z f.l+aI f.body):=by
 obtain⟨name,u,n,word,body⟩:=f;unfold de at V;simp only[l6,v8]at V;obtain⟨⟨H,_⟩,⟨c,hl⟩,d⟩:=V;have U:=lX H;have Z:=VX c;have e:=VY (s:=10::ind 1) a8 hl;have i:=Df 1 body λs a=>acV _ s 1 (l7 _) (jc b a) (eg d a);unfold pcF;simp only[aA,aV,j7];have g:z (ax (if word then [([32],tW [119,111,114,100])]else []))<=5:=by cases word<;>decide
 simp only[l5,j8,show∀s,(tS s).2.1=s fromλ_=>rfl,show∀s,(tW s).2.1=s fromλ_=>rfl,show (tN name).2.1=name from rfl,show ax []=[]from rfl,dH,bP]at e g|-;omega
def oZ{H:Type}{b2}{w}:∀l:List H,(∀a∈l,z (ax (b2 a))<=w a)->z (ax (l.flatMap b2))<=(l.map w).sum|[],_=>by simp[ax];|a::l,h=>by have U:=h a b9;have Z:=oZ l λb hb=>h b abQ;rw[A8,aV,j7,s7,H2];omega
theorem acX{p}(V:ct p=T)(c:qg p):z (ax (pcP p))<=200*(z p.v+z p.a+z p.f+(p.f.map λf=>z f.p+z f.l+aI f.body).sum):=by
 unfold ct at V;simp only[l6,v8,z7]at V;obtain⟨⟨_,d⟩,H,e⟩:=V;have U:=VY (s:=[10]) a8 (z7.2 d);have Z:=oZ (b2:=pcA) (w:=λ_=>200) p.a λa g=>by have:=H a g;unfold fR at this;simp only[l6,v8]at this;have j:=lX this.1.1;have i:=nB 9 a.2.toNat a7;unfold pcA;simp only[aA,j7,l5,j8,show∀s,(tS s).2.1=s fromλ_=>rfl,show∀s,(tW s).2.1=s fromλ_=>rfl,show (tN a.1).2.1=a.1 from rfl,show ax []=[]from rfl,cq];omega
 have k:=oZ (w:=λf=>200*(1+z f.p+z f.l+aI f.body)) p.f λf b=>acW (e f b) (c f b);have i:(p.a.map λ_=>200).sum=200*z p.a:=by rw[List.map_const'];simp[U5]
 have m:∀l:List Fn,(l.map λf=>200*(1+z f.p+z f.l+aI f.body)).sum=200*(z l+(l.map λf=>z f.p+z f.l+aI f.body).sum):=by intro l;induction l with|nil=>rfl;|cons a l n=>grind
 unfold pcP;refine C4 (lr _ _) ?_;rw[aV,aV];grind
def Dg:List TK:=[tS [125],tS [59],(2,[55],7),tN [120],tW [112,117,116],tS [40],tW [118,97,114],tW [101,108,115,101],tS [61],tS [38,38]]
def Ig{k}(h:k∈Dg):tv k []/\(if k.1=3\/k.1=4 then k.2.1 else [])≠tu/\z k.2.1<=4:=by unfold Dg at h;simp only[A0,A9,D8]at h;rcases h with rfl|rfl|rfl|rfl|rfl|rfl|rfl|rfl|rfl|rfl<;>exact⟨⟨c8,_,_,rfl,a8,a8,a8,λx=>absurd x.1 a8⟩,a8,a8⟩
def LA{p}(V:ct p=T)(a:qg p){k}(h:k∈Dg)(hl:z (ax (pcP p))<=19000):zZ (ax (pcP p)++([10,32]++k.2.1))=(.err 3,z (ax (pcP p))+2):=by
 obtain⟨c,d,i⟩:=Ig h;obtain⟨G,e,f,j,b⟩:=Qo V a c ZN;have g:aM G (z (pcP p))≠tu:=by unfold aM;rw[b];exact d
 have A:=YL V a a7 g f;simp_all[zZ,b9,oI]
end
section
open Go.Asm (Str iS)
def ln(l:List Pc):Str:=(ax l).drop 1++[10]
def Nl(l:List Pc):Prop:=∃s k m,l=(10::s,k)::m
variable{s:Str}{l:List Pc}
def VZ(h:Nl l):10::ln l=ax l++[10]:=by obtain⟨s,k,m,rfl⟩:=h;rfl
def prS(q:Nat)(s:Stm):Str:=ln (pcS q s)
def wU(q:Nat)(l:List Stm):Str:=l.flatMap (prS q)
def afA q s:Nl (pcS q s):=by obtain⟨k,l,e⟩:=Qk q s;exact⟨_,k,l,e⟩
theorem JN q:∀l:List Stm,10::wU q l=ax (jA q l)++[10]|[]=>by rfl;|s::l=>by have a:=JN q l;have h:=VZ (afA q s);unfold wU at a|-;rw[A8,jA,aV,s9,<-a,<-z6];grind[prS]
def JO q l(r:Str):ax (jA q l)++10::r=10::(wU q l++r):=by grind[ax,jA,JN]
def qE{x:Pc}(h:x.1=[]):ax (setl s (x::l))=s++ax (x::l):=by simp_all[setl,aA]
def sO e:∃k l,pcE e=([],k)::l:=by
 obtain⟨kind,op,num,name,kids⟩:=e;unfold pcE;repeat' split
 all_goals simp
def BI s e:ax (setl s (pcE e))=s++ax (pcE e):=by obtain⟨k,l,h⟩:=sO e;simp_all[qE]
def Qr a l:ax (pcJ (a::l))=ax (pcE a)++l.flatMap λe=>[44,32]++ax (pcE e):=by
 have j:∀l:List Ex,ax (pcM (tS cZ) [] l)=l.flatMap λe=>[44,32]++ax (pcE e):=by intro l;induction l with|nil=>rfl;|cons b l c=>rw[pcM,aA,aV,BI,c,A8];rfl
 unfold pcJ;rw[pcM,D9,D6];obtain⟨k,m,h⟩:=sO a;rw[h,setl,z6,setl,<-z6,aV,j]
theorem wV{l}(h:l≠[]):ax (setl s (pcJ l))=s++ax (pcJ l):=by cases l with|nil=>grind;|cons a l=>unfold pcJ;rw[pcM,D9,D6];obtain⟨k,m,h⟩:=sO a;rw[h,setl,z6,setl];exact qE rfl
section
variable{op num:Int}{name:Str}{kids:List Ex}
def fl1:ax (pcE (.mk 1 op num name kids))=iS num.toNat:=by simp[pcE,ax]
def fl2:ax (pcE (.mk 2 op num name kids))=name:=by simp[pcE,ax,tN]
def fl3:ax (pcE (.mk 3 op num name kids))=name++[91]++ax (pcJ kids)++[93]:=by rw[pcE,l4 a8,l4 a8,s5 rfl,aA,aA,aV,show setl [] ((pcM (tS cZ) [] kids).drop 1)=pcJ kids from rfl];simp[ax,tN,tS]
def fl4:ax (pcE (.mk 4 op num name kids))=name++[40]++ax (pcJ kids)++[41]:=by rw[pcE,l4 a8,l4 a8,l4 a8,s5 rfl,aA,aA,aV,show setl [] ((pcM (tS cZ) [] kids).drop 1)=pcJ kids from rfl];simp[ax,tN,tS,dH,bP]
def fl5:ax (pcE (.mk 5 op num name kids))=[103,101,116,40,41]:=c8
def fl7:ax (pcE (.mk 7 op num name kids))=[33]++ax (pcJ kids):=by rfl
def flO{kind}{a b}(c:kind=6\/kind=8\/kind=9):ax (pcE (.mk kind op num name [a,b]))=[40]++ax (pcE a)++([32]++kM kind op++[32])++ax (pcE b)++[41]:=by rw[pcE,l4 a7,l4 a7,l4 a7,l4 a7,l4 a7,l4 a7,aA,aV,pcM,pcM,pcM,D9,D6];obtain⟨k,m,h⟩:=sO a;rw[h,setl,z6,setl,<-z6,aV,aA ([32],_),aV,BI];simp[ax,tS,dH,bP]
def acY a:ax (pcJ [a])=ax (pcE a):=by rw[Qr];simp
end
section
variable{q:Nat}{name:Str}{e:List Ex}{c el:List Stm}
def wW{x:Pc}(h:x.1=[]):ln (setl (10::s) (x::l))=s++ax (x::l)++[10]:=by simp_all[ln,qE]
def st1(h:e≠[]):prS q (.mk 1 name e c el)=ind q++(name++[32,61,32])++ax (pcJ e)++[59]++[10]:=by unfold prS;rw[pcS,s5 rfl,wW rfl,aA,aA,aV,wV h];simp[ax,tN,tS,cq]
def st2{a b}:prS q (.mk 2 name [a,b] c el)=ind q++(name++[91])++ax (pcJ [a])++[93,32,61,32]++ax (pcJ [b])++[59]++[10]:=by unfold prS;rw[pcS,l4 a8,s5 rfl,wW rfl,D5,G8,D9,D6,aA,aA,aV,aA,aA,aV,wV b9];simp[ax,tN,tS,cq]
def st3:prS q (.mk 3 name e c el)=ind q++[112,117,116,40]++ax (pcJ e)++[41,59]++[10]:=by unfold prS;rw[pcS,l4 a8,l4 a8,s5 rfl,wW rfl,aA,aA,aV];simp[ax,tW,tS,cq,dH,bP]
def st6:prS q (.mk 6 name e c el)=ind q++(name++[40])++ax (pcJ e)++[41,59]++[10]:=by unfold prS;rw[pcS,l4 a8,l4 a8,l4 a8,s5 rfl,wW rfl,aA,aA,aV];simp[ax,tN,tS,cq,dH,bP]
def st7:prS q (.mk 7 name e c el)=ind q++[114,101,116,117,114,110]++(if e=[]then []else [32]++ax (pcJ e))++[59]++[10]:=by
 unfold prS;rw[pcS,l4 a8,l4 a8,l4 a8,l4 a8,s5 rfl,wW rfl,aA,aV];split;.grind[ax,tW,tS,cq,pcJ,pcM,setl]
 grind[wV,ax,tW,tS,cq]
def st45{kind}(d:kind=4\/kind=5):prS q (.mk kind name e c el)=ind q++((if kind=5 then [119,104,105,108,101,32,40]else [105,102,32,40]):Str)++ax (pcJ e)++[41,32,123]++[10]++wU (q+1) c++(if el=[]then []else ind q++[125,32,101,108,115,101,32,123]++[10]++wU (q+1) el)++(ind q++[125]++[10]):=by
 unfold prS;rw[pcS,l4 a7,l4 a7,l4 a7,l4 a7,l4 a7,wW rfl,aA,aA,aV,aA,aA,aV,aV];have a:(if kind=5 then [119,104,105,108,101,32,40]else [105,102,32,40]:Str)=(if kind=5 then [119,104,105,108,101]else [105,102])++[32,40]:=by split<;>rfl
 rw[a];cases el with|nil=>simp only[tS,tW,dH,bP,T6,↓reduceIte,aA,show ax []=[]from rfl,u7,A3,s9,z6,JO];|cons b l=>simp only[tS,tW,dH,bP,T3,B4,reduceCtorEq,↓reduceIte,aA,show ax []=[]from rfl,u7,A3,s9,z6,JO]
end
def jM:List Str->Str|[]=>[]|a::l=>a++l.flatMap λx=>[44,32]++x
def Ih l:ax (pcN l)=jM l:=by
 have j:∀l:List Str,ax (l.flatMap λx=>[([],tS cZ),([32],tN x)])=l.flatMap λx=>[44,32]++x:=by intro l;induction l with|nil=>rfl;|cons b l c=>simp_all[ax,tS,tN,cZ]
 cases l with|nil=>rfl;|cons a l=>unfold pcN jM;rw[aA,j];rfl
theorem BJ{l}(h:l≠[]):ax (setl s (pcN l))=s++jM l:=by rw[<-Ih];cases l with|nil=>grind;|cons a l=>exact qE rfl
def uq(s:Str)(l:List Str):Str:=if l=[]then []else s++([118,97,114,32]++jM l++[59])++[10]
def qS(a:Str×Int):Str:=([97,114,114,97,121,32]++a.1++[91]++iS a.2.toNat++[93,59])++[10]
def prF(f:Fn):Str:=(([102,117,110,99,32]++f.name++[40]++jM f.p++[41])++(if f.word then [32,119,111,114,100]else [])++[32,123])++[10]++uq (ind 1) f.l++wU 1 f.body++([125]++[10])
def jU(p:Prog):Str:=uq [] p.v++p.a.flatMap qS++p.f.flatMap prF
def afB f:ln (pcF f)=prF f:=by
 obtain⟨name,u,n,word,body⟩:=f;unfold ln pcF prF uq;by_cases hl:n=[];.cases word<;>simp only[hl,tS,tW,tN,dH,bP,↓reduceIte,B4,aA,aV,Ih,show ax []=[]from rfl,u7,A3,s9,z6,JO,D9,D6]
 .cases word<;>simp only[hl,tS,tW,tN,dH,bP,cq,↓reduceIte,B4,aA,aV,Ih,BJ hl,show ax []=[]from rfl,u7,A3,s9,z6,JO,D9,D6]
def afC f:Nl (pcF f):=⟨_,_,_,rfl⟩
def afD a:Nl (pcA a):=⟨_,_,_,rfl⟩
def afE a:ln (pcA a)=qS a:=by unfold ln pcA qS;simp only[tS,tW,tN,cq,aA,show ax []=[]from rfl,u7,A3,s9,z6,D9,D6]
theorem ur{H:Type}{b2}(b:∀a,Nl (b2 a)):∀(l:List H)(r:Str),ax (l.flatMap b2)++10::r=10::((l.flatMap λa=>ln (b2 a))++r)|[],r=>rfl|a::l,r=>by have h:=VZ (b a);rw[A8,A8,aV,s9,ur b l r,s9];grind
theorem Ad{p}(h:p.f≠[]):jU p=ax (pcP p)++[10]:=by
 have e:ax ((if p.v=[]then []else([10],tW [118,97,114])::(setl [32] (pcN p.v)++[([],tS cq)]))++(p.a.flatMap pcA++p.f.flatMap pcF))++[10]=10::jU p:=by
  have i:=funext afE;rw[aV,aV,s9,s9,ur afC,ur afD,i,funext afB];unfold jU uq;split;.simp[ax]
  .rename_i b;simp only[tS,tW,cq,aA,aV,BJ b,show ax []=[]from rfl,u7,A3,s9,z6]
 have bz:((if p.v=[]then []else([10],tW [118,97,114])::(setl [32] (pcN p.v)++[([],tS cq)]))++(p.a.flatMap pcA++p.f.flatMap pcF))≠[]:=λc=>by
  rw[c]at e;have e:=congrArg z e;obtain⟨f,fs,k⟩:∃f fs,p.f=f::fs:=by cases d:p.f with|nil=>grind;|cons f fs=>simp
  have U:=(K9.1 (K9.1 c).2).2;rw[k,A8]at U;exact absurd (K9.1 U).1 (List.cons_ne_nil _ _)
 unfold pcP;obtain⟨x,l,hl⟩:=List.exists_cons_of_ne_nil bz;rw[hl]at e|-;have I:x.1=[10]:=by
  have Z:x∈(((if p.v=[]then []else([10],tW [118,97,114])::(setl [32] (pcN p.v)++[([],tS cq)]))++(p.a.flatMap pcA++p.f.flatMap pcF)).head?):=by rw[hl];rfl
  by_cases b:p.v=[];.rw[s5 b,A3]at hl;cases g:p.a with
  |nil=>rw[g,J2,A3]at hl;cases d:p.f with|nil=>grind;|cons f fs=>rw[d,A8]at hl;cases hl;rfl
  |cons a y=>rw[g,A8]at hl;cases hl;rfl
  .grind
 simp_all[aA,setl]
end
section
open Go.Asm (Str)
def join_eq:∀l:List Str,Lib.join l [44,32]=jM l
 |[]=>rfl|[a]=>by rfl;|a::b::l=>by
  have c:=join_eq (b::l);have e:Lib.join (a::b::l) [44,32]=a++[44,32]++Lib.join (b::l) [44,32]:=by unfold Lib.join;simp[List.intercalate,List.intersperse]
  rw[e,c];simp[jM]
def LB{p:Prog}(V:ct p=T)(b:qg p)(h:z p.v+z p.a+z p.f+(p.f.map λf=>z f.p+z f.l+aI f.body).sum<=90):z (ax (pcP p))<=18000:=by have:=acX V b;omega
def refuse{p:Prog}(V:ct p=T)(b:qg p)(h:z p.v+z p.a+z p.f+(p.f.map λf=>z f.p+z f.l+aI f.body).sum<=90){k:TK}(c:k∈Dg):zZ (jU p++([32]++k.2.1))=(.err 3,z (jU p)+1)/\z (jU p)<=18001:=by
 have bz:p.f≠[]:=λe=>by unfold ct at V;grind
 have hl:=LB V b h;have U:=LA V b c a7;rw[Ad bz];grind
end
open Go.Asm (Str digit letter eK je iS)
variable{p:Prog}
section
variable{G:List Tok}
def JP{Q}:∀l done A n,(∀f∈l,(de f=T/\mj f.body)/\4*(z f.p+z f.l+aI f.body)+5<=Q)->Rd G (tks (l.flatMap pcF)) A (z G)->Q+z l+1<=n->lD G n done A=.ok (done++l) (z G)
 |[],done,A,n,_,h,b=>by obtain⟨n,rfl⟩:∃k,n=k+1:=⟨n-1,a7⟩;simp_all[Rd,h.nil,lD];|f::l,done,A,n,a,h,b=>by
  rw[j8]at b;obtain⟨n,rfl⟩:∃k,n=k+1:=⟨n-1,a7⟩;rw[A8,bL]at h;obtain⟨C,U,Z⟩:=h.app;have c:A<z G:=by have:=U.1;have:=Z.1;have:=qC (a f b9).1.1;omega
  obtain⟨⟨f1,d⟩,f3⟩:=a f b9;rw[lD,s5 c,Dd f1 d U a7];simp only[PR.bind];rw[JP l _ C n (λg hg=>a g adA) Z a7,s9,Q1]
theorem UG(V:ct p=T)(u:qg p)(h:Rd G (tks (pcP p)) 0 (z G)):mR G (4*z G+7) 0=.ok p (z G):=by
 unfold ct at V;simp only[l6,v8,z7]at V;obtain⟨⟨E,_⟩,H,x⟩:=V;obtain⟨f,fs,n⟩:∃f fs,p.f=f::fs:=by cases e:p.f with|nil=>grind;|cons f fs=>simp
 have bs:∀g∈f::fs,de g=T/\mj g.body:=λg hg=>⟨x g (n▸hg),u g (n▸hg)⟩;unfold pcP at h;rw[cr,bL,bL,n,A8,bL]at h;have s:∀a∈p.a,0<=a.2:=λa ha=>by grind[fR]
 obtain⟨i,b⟩:∃m,tks (pcF f)=tW tu::m:=⟨_,rfl⟩;have I:=pK (b2:=pcA) (k:=6) (l:=p.a) λa _=>by simp[pcA,tks]
 have c:=pK (b2:=pcF) (k:=6) (l:=fs) λg hg=>by have:=qC (bs g adA).1;omega
 have r:=h.1;have J:=qC (bs f b9).1;have d:∀g∈fs,z g.p+z g.l+aI g.body+6*z fs<=z (tks (fs.flatMap pcF)):=λg hg=>by exact zv
 simp only[j7]at r;obtain⟨C,o,j⟩:∃C,lf G (4*z G+7) [] [] 0=.ok (p.v,p.a) C/\Rd G (tks (pcF f)++tks (fs.flatMap pcF)) C (z G):=by
  by_cases q:p.v=[];.rw[s5 q]at h;have h:Rd G (tks (p.a.flatMap pcA)++(tks (pcF f)++tks (fs.flatMap pcF))) 0 (z G):=h;rw[b,z6]at h|-;obtain⟨C,o,j⟩:=vy p.a [] [] 0 _ (4*z G+7) _ s h a7;grind
  .rw[l4 q]at r;have K:=ya p.v;rw[bt,bL,cr,j8,j7]at r;rw[l4 q,bt,bL,cr,z6,s9]at h;obtain⟨C,o,j⟩:=vx (k:=4*z G+6) q (aS h) ⟨_,_,rfl,a8⟩ a7;have t:=aS j;rw[b,z6]at t|-;obtain⟨D,L,y⟩:=vy p.a p.v [] _ _ (4*z G+6) _ s t a7;refine⟨D,?_,y⟩;rw[lf,s5 abi,o];simp only[PR.bind];rw[dU j,bj];grind
 obtain⟨D,U,Z⟩:=j.app;unfold mR;rw[o];simp only[PR.bind];obtain⟨A,B⟩:=bs f b9;rw[Dd A B U a7];simp only;rw[JP (Q:=4*(z (tks (fs.flatMap pcF))-6*z fs)+5) fs [f] D _ (λg hg=>⟨bs g adA,by grind⟩) Z a7];simp only[Q1,<-n]
end
def Ae:Str:=[47,47,32,97,110,100,32,109,111,114,101,10]
def Qs(R:Str):Prop:=R=[10]\/R=[10]++Ae
theorem Qt{R}(h:Qs R){n} k(a:z R<n):(lC n k R).1=.ok []:=by
 rcases h with rfl|rfl;.obtain⟨n,rfl⟩:∃m,n=m+2:=⟨n-2,by grind⟩;rfl
 .obtain⟨n,rfl⟩:∃m,n=m+4:=⟨n-4,by grind[Ae]⟩;rfl
theorem JQ{R}(a:Qs R):∀l n k,okC l R->z (ax l)+z R<n->(lC n k (ax l++R)).1=.ok (lq k l)
 |[],n,k,_,h=>Qt a k a7|x::l,n,k,h,b=>by
  obtain⟨U,Z,d⟩:=h;rw[aA]at b|-;simp only[j7]at b;have f:0<z x.2.2.1:=by obtain⟨_,c,t,e,_⟩:=Z;rw[e];simp
  obtain⟨n,rfl⟩:∃j,n=j+1+z x.1:=⟨n-1-z x.1,a7⟩;rw[s9,s9,wS x.1 _ k _ U,BG Z];have g:=JQ a l n (k+z x.1+z x.2.2.1) d a7;grind[lq]
theorem BK(V:ct p=T)(e:qg p){R}(d:Qs R)(hl:z (ax (pcP p))<=19000):zZ (ax (pcP p)++R)=(.ok p,0):=by
 have b:z R<=13:=by rcases d with rfl|rfl<;>simp[Ae]
 have h:=JQ d (pcP p) (z (ax (pcP p)++R)+1) 0 (Qn V e (λc g=>by rcases d with rfl|rfl<;>(cases g;decide))) b9;have i:rY (ax (pcP p)++R)=(lq 0 (pcP p),0,0):=by unfold rY;rw[l4 ZN];generalize lC (z (ax (pcP p)++R)+1) 0 (ax (pcP p)++R)=r at h|-;obtain⟨a,q⟩:=r;subst h;rfl
 have k:=rZ (pcP p) 0;have l:Rd (lq 0 (pcP p)) (tks (pcP p)) 0 (z (lq 0 (pcP p))):=by rw[<-k];refine⟨b9,λj x I=>?_⟩;rw[A4]at I;obtain⟨t,U,Z⟩:=F0.1 I;exact⟨t,by grind,Z⟩
 unfold zZ;rw[i];simp only;rw[l4 b9,UG V e l];simp
theorem YQ(V:ct p=T)(a:qg p)(hl:z (ax (pcP p))<=19000):zZ (jU p)=(.ok p,0)/\zZ (jU p++Ae)=(.ok p,0):=by
 have bz:p.f≠[]:=λe=>by grind[ct]
 rw[Ad bz,s9];exact⟨BK V a (.inl rfl) hl,BK V a (.inr rfl) hl⟩
end Go.Src
namespace Go.Proofs.YtfdbpgoicedpcaaGreatDoor
section
open Go Go.Am Go.Asm Go.RowKit
open Go.Src (ind)
attribute[local congr]ite_cc
variable{B:Nat}
theorem tl5(hB:200<=B) k:(125=B+k)=False:=by grind
theorem th5(hB:200<=B) k:(B+k=125)=False:=by grind
theorem tl1(hB:200<=B) k:(121=B+k)=False:=by grind
theorem th1(hB:200<=B) k:(B+k=121)=False:=by grind
abbrev Tp(H:Nat)(W:Str)(g:Nat->Nat)(ob:Obs):Prop:=Tap 125 121 H W g ob
def WtR(H:Nat)(W:Str)(g:Nat->Nat)(ob:Obs)(r:AV)(g':Nat->Nat)(Y:Obs):Prop:=r=uv/\Tp H W g' Y/\∀i,i≠125->i≠121->g' i=g i/\Y i=ob i
def Wts(f:FuncId)(xs:List AV)(out:Str):Prop:=∀(B H:Nat)(W:Str)(g:Nat->Nat)(ob:Obs),200<=B->(∀i,B<=i->ob i=N)->Tp H W g ob->z W+z out<=1000000000->dS Tryz.prog f (aj 125 H 0::xs) g ob (WtR H (W++out) g ob) (λ_ _ _=>False)
def eY{B H}{W}{g}{ob}{s}(hB:200<=B)(h:Tp H W s.gen s.obj)(l:∀i,i<B->i≠125->i≠121->s.gen i=g i/\s.obj i=ob i):bS B [125,121] g ob (WtR H W g ob) s []:=by
 obtain⟨m,n,⟨a,j,ho⟩,o,b,bz⟩:=h;refine⟨⟨λi b h=>l i b (λe=>h ac3) (λe=>h ac3),λi J f d c k=>?_⟩,[],rfl,rfl,⟨?_,n,⟨a,j,?_⟩,?_,?_,bz⟩,λi U Z=>⟨l4 ZN,l4 ZN⟩⟩
 .rcases A0.1 J with rfl|J
  .rw[ho]at d;cases d;rcases A0.1 k with rfl|k
   .rcases j with rfl|rfl;.trivial
    .show 125<B;omega
   .obtain rfl:=C8.1 k;show 121<B;omega
  .obtain rfl:=C8.1 J;rw[b]at d;cases d;obtain⟨x,_,rfl⟩:=E6.1 k;trivial
 .exact(s5 b9).trans m
 .simp_all[iA,kS]
 .simp_all[kS]
 simp_all[iA]
section
variable{O:Bs}{rd:Option Nat}{b:St->Am.Loc->List Deferred->World->Prop}{l:Nat}{m:il}{op:Oper}{s:St}{K:St->Prop}{k:Box K}{args:Array Operand}{tys:Array TypeId}{H:Nat}{W:Str}
theorem oN(a6:bA O b)(ho:op.op=.call ⟨.value (.func 48),args,tys⟩)(t:Str)(I:args.toList.map s.ev=[aj 125 H 0,sv t])(h:Tp H W s.gen s.obj)(hl:z W+z t<=1000000000)(c:∀a Y,Tp H (W++t) a Y->(∀i,i≠125->i≠121->a i=s.gen i/\Y i=s.obj i)->K (St.put ⟨s.f,a,Y⟩ op.dst (.tup [ae (z t),.one (.d .nili)]))):bE (spF Tryz.prog rd O b l m) op s k:=dO a6 ho (by rw[I];exact Ft t h a7 a7) λr a Y e=>by grind
theorem mz(a6:bA O b){f}{xs}{out}(c:Wts f xs out)(ho:op.op=.call ⟨.value (.func f),args,tys⟩)(I:args.toList.map s.ev=aj 125 H 0::xs) B(hB:200<=B)(ar:∀i,B<=i->s.obj i=N)(h:Tp H W s.gen s.obj)(hl:z W+z out<=1000000000)(e:∀a Y,Tp H (W++out) a Y->(∀i,i≠125->i≠121->a i=s.gen i/\Y i=s.obj i)->K (St.put ⟨s.f,a,Y⟩ op.dst uv)):bE (spF Tryz.prog rd O b l m) op s k:=dO a6 ho (by rw[I];exact(c B H W s.gen s.obj hB ar h hl).toR) λr a Y d=>by obtain⟨rfl,U,Z⟩:=d;grind
end
theorem na(q:Nat)(t:Str)(j:q<=1000):Wts 47 [ae q,sv t] (ind q++t):=by
 intro B H W g ob hB hf h hl;refine hdM B [125,121] Tryz.func47 rfl [] ZN hf λO bc s0 w0=>?_;have c4:z (ind q)=2*q:=by simp[ind]
 rw[j7,c4]at hl;simp only[go_sem];refine ez (λk K=>K.f 0=aj 125 H 0/\K.f 2=sv t/\K.f 6=ae q/\K.f 7=ae k/\Tp H (W++ind k) K.gen K.obj/\∀i,i≠125->i≠121->K.gen i=g i/\K.obj i=ob i) q ?_ ?_;.simp only[go_sem];grind[ind]
 rintro k f Y av hk⟨o,w,r,x,l,u⟩;simp only at o w r x l u;have bd:z (W++ind k)=z W+2*k:=by rw[j7];simp[ind]
 obtain⟨a,ha,ho⟩:=l.obj;by_cases A:k<q
 .have Q:(k:Int)<(q:Int):=a7;simp only[go_sem,o,r,x,Q,l.gen,ho];refine oN aa rfl [32,32] c8 l ZN ?_;intro G I L v;simp only[go_sem,x,ah (k:=k) a7];refine cj A ?_;simp only[go_sem,o,w,r];refine⟨?_,λi U Z=>⟨(v i U Z).1.trans (u i U Z).1,(v i U Z).2.trans (u i U Z).2⟩⟩;have e:ind (k+1)=ind k++[32,32]:=by unfold ind;rw[Nat.mul_add,<-List.replicate_append_replicate];rfl
  grind
 .have Q:¬(k:Int)<(q:Int):=a7;obtain rfl:k=q:=a7;simp only[go_sem,o,w,r,x,Q,l.gen,ho];refine oN aa rfl t c8 l a7 ?_;intro G I L v;simp only[go_sem];refine⟨_,ai.refl _,?_⟩;refine eY hB ZN λi _ U Z=>⟨(v i U Z).1.trans (u i U Z).1,(v i U Z).2.trans (u i U Z).2⟩
def aH{g a g2:Nat->Nat}{ob av b:Obs}(h:∀i,i≠125->i≠121->a i=g i/\av i=ob i)(c:∀i,i≠125->i≠121->g2 i=a i/\b i=av i):∀i,i≠125->i≠121->g2 i=g i/\b i=ob i:=λi U Z=>⟨(c i U Z).1.trans (h i U Z).1,(c i U Z).2.trans (h i U Z).2⟩
def rV(q:Nat)(t:Str)(j:q<=1000):Wts 20 [ae q,sv t] (ind q++t++[10]):=by intro B H W g ob hB hf h hl;refine hdM B [125,121] Tryz.func20 rfl [] ZN hf λO bc s0 w0=>?_;rw[j7,H4]at hl;simp only[go_sem];refine mz aa (na q t j) rfl c8 B hB a7 h a7 ?_;exact oC
def xy(t:Str):Wts 84 [sv t] (t++[10]):=by intro B H W g ob hB hf h hl;refine hdM B [125,121] Tryz.func84 rfl [] ZN hf λO bc s0 w0=>?_;rw[j7,H4]at hl;obtain⟨a,ha,ho⟩:=h.obj;simp only[go_sem,h.gen,ho];refine oN aa rfl t c8 h a7 ?_;exact oC
end
section
open Go Go.Am Go.Asm Go.RowKit
open Go.Src (Ex ind ax pcE pcJ szE aO)
attribute[local congr]ite_cc
def Tp.upd{H B}{W}{g}{ob}(h:Tp H W g ob)(hB:200<=B) k x y:Tp H W (upd g (B+k) x) (upd ob (B+k) y):=by obtain⟨hg,cb,⟨a,ha,ho⟩,b1,hi,bz⟩:=h;have n1:¬125=B+k:=a7;have n2:¬121=B+k:=a7;exact V5
variable{ob:Obs}{l:List Ex}{g:Nat->Nat}{xs:List AV}
def Tp.upd2{H B}{W}(h:Tp H W g ob)(hB:200<=B) k x y X:Tp H W (Am.upd g (B+k) x) (Am.upd (Am.upd ob (B+k) y) (B+k) X):=by
 have e:Am.upd (Am.upd ob (B+k) y) (B+k) X=Am.upd ob (B+k) X:=by funext i;simp only[Am.upd];split<;>rfl
 rw[e];exact h.upd hB k x X
theorem Fu{B k i}{y X}(h:∀i,B+100<=i->ob i=N)(hi:B+100<=i)(hk:k<100:=by decide):Am.upd (Am.upd ob (B+k) y) (B+k) X i=N:=by grind[Am.upd]
def WtG(o:cM)(f:FuncId)(xs:List AV)(out:Str):Prop:=∀(B H:Nat)(W:Str)(g:Nat->Nat)(ob:Obs),200<=B->(∀i,B<=i->ob i=N)->Tp H W g ob->z W+z out<=1000000000->DC Tryz.prog 4 o f (aj 125 H 0::xs) g ob (WtR H (W++out) g ob)
def Pq o B ar{f}{fn}{c}(hf:Tryz.prog.funcs[f]?=S fn)(hb:fn.body=S c) rs{R}(hS:∀i∈ar,i<B)(hB:∀i,B<=i->ob i=N)(h:∀O bc s0 w0,wpC (spF Tryz.prog N O (Rq 4 o O bc s0 w0) B sZ) Tt c (bx (Kq Tt rs B ar g ob R)) ⟨dZ xs,g,ob⟩)(hn:(fn.name == "runtime.NumGoroutine")=F:=by rfl)(a1:fn.results=rs.toArray:=by rfl)(p:jj c=T:=by kernel_rfl)(an:codeOk fn.ntmps c=T:=by kernel_rfl)(m:Nat.ble (z xs) fn.ntmps=T:=by kernel_rfl):DC Tryz.prog 4 o f xs g ob R:=DI B 4 o ar aP mixed hf hb hn rs a1 p an (H5 m) hS hB h
section
variable{o:cM}{O:Bs}{rd:Option Nat}{bc:Am.Loc}{s0:St}{w0:World}{j:Nat}{n:il}{op:Oper}{s:St}{K:St->Prop}{k:Box K}{args:Array Operand}{tys:Array TypeId}{H:Nat}{W:Str}
theorem eb{f}{out}(hf:WtG o f xs out)(ho:op.op=.call ⟨.value (.func f),args,tys⟩)(I:args.toList.map s.ev=aj 125 H 0::xs) B(hB:200<=B)(ar:∀i,B<=i->s.obj i=N)(h:Tp H W s.gen s.obj)(hl:z W+z out<=1000000000)(c:∀a Y,Tp H (W++out) a Y->(∀i,i≠125->i≠121->a i=s.gen i/\Y i=s.obj i)->K (St.put ⟨s.f,a,Y⟩ op.dst uv)):bE (spF Tryz.prog rd O (Rq 4 o O bc s0 w0) j n) op s k:=vK (X:=4) (o:=o) aW (λ_ _ _ _ h=>h.1) ho abW λr a Y b=>by obtain⟨rfl,U,Z⟩:=b;grind
end
section
variable{O:Bs}{rd:Option Nat}{q:St->Am.Loc->List Deferred->World->Prop}{j:Nat}{n:il}{op:Oper}{s:St}{K:St->Prop}{k:Box K}{args:Array Operand}{tys:Array TypeId}{H:Nat}{W:Str}
theorem jv(a6:bA O q){t0:Nat}(ho:op.op=.call ⟨.value (.tmp t0),args,tys⟩)(t:Str)(b:s.f t0=.one (.clo (48+1000000) [.ptr 125 H 0]))(I:args.toList.map s.ev=[sv t])(h:Tp H W s.gen s.obj)(hl:z W+z t<=1000000000)(c:∀a Y,Tp H (W++t) a Y->(∀i,i≠125->i≠121->a i=s.gen i/\Y i=s.obj i)->K (St.put ⟨s.f,a,Y⟩ op.dst (.tup [ae (z t),.one (.d .nili)]))):bE (spF Tryz.prog rd O q j n) op s k:=tJ (L:=λ_ _ _=>False) a6 ho b (by rw[I];exact(Ft t h a7 a7).toX) (λ_ _ _ h=>h.elim) λr a Y e=>by grind
end
def Pr{k}{e}(b:l[k]?=S e):ax (pcJ (l.take (k+1)))=ax (pcJ (l.take k))++(if k=0 then []else [44,32])++ax (pcE e):=by cases l with|nil=>simp at b;|cons a l=>cases k with|zero=>cases b;rw[D5,G8,G8,Src.acY,s5 rfl];rfl;|succ k=>
 have c:l[k]?=S e:=by simpa using b
 rw[D5,D5,Src.Qr,Src.Qr,C1,c];simp
theorem Yv k:z (ax (pcJ (l.take k)))<=z (ax (pcJ l)):=by cases l with|nil=>simp;|cons a l=>cases k with|zero=>simp[pcJ,Src.pcM,Src.setl,ax];|succ k=>
 rw[D5,Src.Qr,Src.Qr,j7,j7];have:∀(l:List Ex)(k:Nat),z ((l.take k).flatMap λe=>[44,32]++ax (pcE e))<=z (l.flatMap λe=>[44,32]++ax (pcE e)):=by intro l;induction l with|nil=>simp;|cons b l c=>intro k;cases k with|zero=>simp;|succ k=>grind
 grind
theorem sK(ch:z l<=1000000){o}(G:∀a∈l,WtG o 130 [exV a] (ax (pcE a))):WtG o 85 [ea l] (ax (pcJ l)):=by
 intro B H W g ob hB hf h hl;refine Pq o B [125,121] Tryz.func85 rfl [] ZN hf λO bc s0 w0=>?_;unfold ea;simp only[go_sem,j6];refine ez (λk K=>K.f 0=aj 125 H 0/\K.f 6=.one (aw (l.map exD))/\K.f 7=ae (z l)/\K.f 8=ae k/\Tp H (W++ax (pcJ (l.take k))) K.gen K.obj/\(∀i,i<B->i≠125->i≠121->K.gen i=g i/\K.obj i=ob i)/\∀i,B+100<=i->K.obj i=N) (z l) ?_ ?_;.simp only[go_sem];rw[show W++ax (pcJ [])=W by simp[pcJ,Src.pcM,Src.setl,ax]];grind
 rintro k f g1 av hk⟨t,v,u,w,r,Y,ar⟩;simp only at t v u w r Y ar;by_cases af:k<z l
 .have Q:(k:Int)<(z l:Int):=a7;obtain⟨e,x⟩:=getq af;have I:=getD_at (f:=exD) x;have c:=G e (l8 x);have b2:=Pr x;have bl:=Yv (l:=l) (k+1);rw[b2,j7,j7]at bl;unfold exV at c;obtain⟨kind,op,num,name,j⟩:=e;have hX:exD (.mk kind op num name j)=[.int .i64 kind,.int .i64 op,.int .u32 num,.str name,.sl (j.map exD)]:=by simp only[exD,aL]
  rw[hX]at I c;obtain⟨a,ha,ho⟩:=r.obj;by_cases bk:k=0;case' neg=>have b:(0:Int)<(k:Int):=a7;rw[l4 bk]at b2 bl;simp only[go_sem,t,v,u,w,Q,I,r.gen,ho,tl5 hB,b];refine oN aW rfl [44,32] c8 (r.upd2 hB 5 _ _ _) ZN ?_;intro g2 bn b8 L;have A:=L (B+5) a7 a7;have A:=y7 (A.1.trans (s5 rfl)) (A.2.trans (s5 rfl));simp only[go_sem,t,A.1,A.2]
  case' pos=>have b:¬(0:Int)<(k:Int):=a7;rw[s5 bk,u7]at b2;rw[s5 bk]at bl;simp only[go_sem,t,v,u,w,Q,I,b]
  case' neg=>refine eb (G _ (l8 x)) rfl (by unfold exV;rw[hX];rfl) (B+200) a7 (λi hi=>(L i a7 a7).2.trans ?_) b8 ZN ?_
  case' pos=>refine eb (G _ (l8 x)) rfl (by unfold exV;rw[hX];rfl) (B+200) a7 (λi hi=>?_) (r.upd2 hB 5 _ _ _) ZN ?_
  case neg.refine_1=>exact Fu ar a7
  case pos.refine_1=>exact Fu ar a7
  all_goals intro g3 b' cv an;simp only[go_sem,w,ah (k:=k) a7];refine cj af ?_;simp only[go_sem,t,v,u]
  case' neg=>have an:=aH L an
  all_goals
  refine⟨by grind,λi hi U Z=>?_,λi hi=>?_⟩;.have:=an i U Z;simp only[Am.upd,l4 (show¬i=B+5 by omega)]at this;grind
  .exact(an i a7 a7).2.trans (Fu ar hi)
 .have Q:¬(k:Int)<(z l:Int):=a7;obtain rfl:k=z l:=a7;simp only[go_sem,u,w,Q];rw[E8]at r;refine⟨_,ai.refl _,?_⟩;exact eY hB r Y
end
section
open Go Go.Am Go.Asm Go.RowKit Go.Sort Go.Lib Go.Proofs
attribute[local congr]ite_cc
def CR(u:Nat)(a:u<18446744073709551616) w(g:Lib.TabIs Tryz.prog w "internal/strconv.uint64pow10" .u64 Lib.pow10Tab):Calls Tryz.prog 83 #[.int .u64 u,.int .i64 10] w λe w'=>e=.returned (.string ⟨(Lib.decDigits u).toArray⟩)/\∃k os,w'=grow (w.drewN k) os:=by
 have mixed:Tryz.prog.follows .mixedOrders=T:=j0;have t3:Tryz.prog.underlying 3=S (.int .i64):=Tryz.underlying3;have c:Tryz.prog.underlying 225=S (.array 24 5):=Tryz.underlying225;have v:∀w,(zeroValue 225).run Tryz.prog w=.ok (.agg Lib.zeros24) w:=Tryz.zeroValue225;have A:Tryz.prog.underlying 107=S (.int .u64):=Tryz.underlying107;have z5:∀w,(Go.sizeOf 5).run Tryz.prog w=.ok 1 w:=Tryz.sizeOf5;by_cases hs:u<100;.go_enter Tryz.func83,Tryz.ntmps83;go_wp2_with (refine((λw=>Any.internal_strconv_small Uk u hs w) _).mono ?_;rintro e w'⟨rfl,rfl⟩);go_ret;exact⟨rfl,0,#[],c8⟩
 .have cc:1<=u:=a7;have o:Lib.nDigits u<=20:=by have:=Lib.numDigits_eq u cc a;split at this<;>omega
  have cu:Tryz.prog.arrayLen 225=24:=by simp[Program.arrayLen,c]
  have x:∀W,(Instr.sliceAt 225 (.pointer (S ⟨w.heap.size,0,N⟩)) N (S (.int .i64 (Lib.nDigits u:Int))) N).run Tryz.prog W=.ok (.slice (S ⟨w.heap.size,0,N⟩) (Lib.nDigits u) 24) W:=λW=>by rw[run_sliceAt_array_h W 225 ⟨w.heap.size,0,N⟩ (by simp[Program.arrayLen,Program.elem,c]) .i64 (Lib.nDigits u:Int) a7 a7];go_simp
  have f:Holds (λ(b:UInt8)=>Value.int .u8 (b.toNat:Int)) (w.alloc (.cells Lib.zeros24 225)) w.heap.size 0 (Array.replicate (Lib.nDigits u) 0):=λj Y=>by
   have ch:j<Lib.nDigits u:=by simpa using Y
   refine⟨?_,World.frozen?_alloc_new _ _ _ _⟩;rw[World.cell?_alloc_new,Lib.zeros24_at _ a7,getElem!_pos _ j Y];simp
  have i:Calls Tryz.prog 128 #[.slice (S ⟨w.heap.size,0,N⟩) (Lib.nDigits u) 24,.int .u64 u] (w.alloc (.cells Lib.zeros24 225)) λe w'=>e=.returned (.tuple #[])/\∃(n v':Nat)(d:Array UInt8),w'=(putRow (λ(b:UInt8)=>Value.int .u8 (b.toNat:Int)) (w.alloc (.cells Lib.zeros24 225)) w.heap.size 0 d).drewN n/\FmtInv (Lib.nDigits u) u 0 v' d:=by have h:=Any.internal_strconv_formatBase10 Ul w.heap.size 0 24 u (Array.replicate (Lib.nDigits u) 0) (w.alloc (.cells Lib.zeros24 225)) f (by simp[Lib.lt_pow_nDigits]) a ZN;rw[Q7]at h;exact h
  have p:=Lib.hid f;clear f cu;go_enter Tryz.func83,Tryz.ntmps83;go_wp2_with (first|(refine((λw h=>Any.internal_strconv_numDigits Po u cc a w h) _ (Lib.tabIs_alloc g _)).mono ?_;rintro e w'⟨rfl,rfl⟩));refine i.mono ?_;rintro e w'⟨rfl,k,v',d,rfl,Z⟩;have b2:(convert 56 9 (.slice (S ⟨w.heap.size,0,N⟩) (Lib.nDigits u) 24)).run Tryz.prog ((putRow (λ(b:UInt8)=>Value.int .u8 (b.toNat:Int)) (w.alloc (.cells Lib.zeros24 225)) w.heap.size 0 d).drewN k)=.ok (.string ⟨(Lib.decDigits u).toArray⟩) ((putRow (λ(b:UInt8)=>Value.int .u8 (b.toNat:Int)) (w.alloc (.cells Lib.zeros24 225)) w.heap.size 0 d).drewN k):=by have h:=run_convert_bytes_back ((putRow (λ(b:UInt8)=>Value.int .u8 (b.toNat:Int)) (w.alloc (.cells Lib.zeros24 225)) w.heap.size 0 d).drewN k) 56 9 5 ⟨w.heap.size,0,N⟩ 24 (Lib.decDigits u) Tryz.underlying56 Tryz.underlying5 Tryz.underlying9 (λj Y=>by rw[Lib.row_is_numeral Z j Y,Lib.add_plain,World.cell?_drewN];exact cell?_putRow (λ(b:UInt8)=>Value.int .u8 (b.toNat:Int)) _ w.heap.size 0 _ d p.out (by rw[Z.size,Q7]) j (by grind[Z.size,Lib.decDigits_length]));rw[Lib.decDigits_length]at h;exact h
  go_wp2;go_ret;obtain⟨q,_,e⟩:=putRow_grow_new (λ(b:UInt8)=>Value.int .u8 (b.toNat:Int)) w #[.cells Lib.zeros24 225] w.heap.size 0 d (l7 _);rw[<-alloc_eq_grow]at e;exact⟨rfl,k,q,by rw[e];rfl⟩
variable{o:cM}
def zJ(ho:Fg o)(n:Nat)(a:n<18446744073709551616):cn Tryz.prog 4 o 83 [iv .u64 n,ae 10] (·=sv (Lib.decDigits n)):=by refine ze ⟨_,Tryz.func83,rfl,c8⟩ rfl rfl λw b=>?_;exact(CR n a w (ho w b)).mono λe c⟨U,k,os,Z⟩=>by subst Z;exact⟨U,grown w k os⟩
def CS(ho:Fg o)(n:Nat)(hn:n<18446744073709551616):cn Tryz.prog 4 o 50 [iv .u64 n,ae 10] (·=sv (Lib.decDigits n)):=by refine hdG Tryz.func50 rfl [.tmp 4] λO bc s0 w0 g=>?_;simp only[go_sem];refine dm rfl (by simp only[go_sem];exact zJ ho n hn) ?_;rintro _ rfl;exact gO
def Yw n:Lib.decDigits n=iS n:=by induction n using Nat.strongRecOn with|ind n a=>
 rw[Lib.decDigits];split;.simp_all[jn]
 .rename_i h;rw[nA h,a _ a7]
def Ps(ho:Fg o){n}(b:0<=n)(hn:n<4294967296):cn Tryz.prog 4 o 22 [iv .u32 n] (·=sv (iS n.toNat)):=by
 obtain⟨m,rfl⟩:∃m:Nat,n=(m:Int):=⟨n.toNat,a7⟩;refine hdG Tryz.func22 rfl [.tmp 2] λO bc s0 w0 g=>?_;have a:IntKind.u64.wrap (m:Int)=(m:Int):=by rw[IntKind.wrap_u64];omega
 simp only[go_sem,a];refine dm rfl (by simp only[go_sem];exact CS ho m a7) ?_;rintro _ rfl;simp only[go_sem,Yw]
def Uq:List Str:=[[43],[45],[42],[47],[37],[38],[124],[94],[60,60],[62,62],[60],[61,61]]
def Lq(o:cM):Prop:=∀w:World,tG 4 o w->∀(i:Nat)t,Uq[i]?=S t->w.cell? ⟨4,i,N⟩=S (.string ⟨t.toArray⟩)
open Go.Src (Ex kM)
def Yx{kind op:Int}(a:kind=6)(b:4<=op)(A:op<=15):∃i:Nat,op-4=i/\i<12/\Uq[i]?=S (kM kind op):=by refine⟨(op-4).toNat,a7,a7,?_⟩;subst a;have:op=4\/op=5\/op=6\/op=7\/op=8\/op=9\/op=10\/op=11\/op=12\/op=13\/op=14\/op=15:=a7;rcases this with rfl|rfl|rfl|rfl|rfl|rfl|rfl|rfl|rfl|rfl|rfl|rfl<;>rfl
def Yy(ho:Lq o){kind op num}{name}{kids}(h:(kind=6/\4<=op/\op<=15)\/kind=8\/kind=9):cn Tryz.prog 4 o 199 [exV (.mk kind op num name kids)] (·=sv (kM kind op)):=by
 refine hdG Tryz.func199 rfl [.tmp 2] λO bc s0 w0 g=>?_;unfold exV;simp only[exD,aL,s7,x7];rcases h with⟨rfl,b,A⟩|rfl|rfl
 .obtain⟨i,d,k,l⟩:=Yx rfl b A;have a:IntKind.i64.wrap (op-4)=(i:Int):=by rw[d];exact wrap_i64 _ a7 a7
  simp only[go_sem,a];refine sk aN (λs q ds w h=>h.1.2) aP rfl rfl a8 c8 k (cs:=[.str (kM 6 op)]) abB (λw a j x I=>by match j,I with|0,I=>cases I;rw[show i*(Tt 9).size+0=i from by show i*1+0=i;omega];exact ho w a i _ l) ?_;exact gO
 .simp only[go_sem];rfl
 .simp only[go_sem];rfl
end
section
open Go Go.Am Go.Asm Go.RowKit
open Go.Src (Ex ax pcE pcJ szE aO dn bp bV oB)
attribute[local congr]ite_cc
variable{g g':Nat->Nat}{ob Y:Obs}{B k x:Nat}{y:Option (List C)}
def br{B}(hB:200<=B)(a:∀i,i≠125->i≠121->g' i=g i/\Y i=ob i) k:g' (B+k)=g (B+k)/\Y (B+k)=ob (B+k):=a _ a7 a7
def sV(a:∀i,i≠125->i≠121->g' i=Am.upd g (B+k) x i/\Y i=Am.upd ob (B+k) y i):∀i,i<B->i≠125->i≠121->g' i=g i/\Y i=ob i:=λi b U Z=>by have:=a i U Z;simpa only[Am.upd,l4 (show¬i=B+k by omega)]using this
theorem frB(hf:∀i,B<=i->ob i=N)(hs:∀i,i≠125->i≠121->g' i=Am.upd g (B+k) x i/\Y i=Am.upd ob (B+k) y i)(hB:200<=B:=by assumption)(hk:k<200:=by decide):∀i,B+200<=i->Y i=N:=λi hi=>by rw[(hs i a7 a7).2];simp only[Am.upd,l4 (show¬i=B+k by omega)];grind
section
variable{O:Bs}{rd:Option Nat}{n:St->Am.Loc->List Deferred->World->Prop}{p:Nat}{t:il}{op:Oper}{s:St}{K:St->Prop}{k:Box K}{args:Array Operand}{tys:Array TypeId}{H:Nat}{W:Str}
theorem ed(a6:bA O n){f}{xs}{out}(hf:Wts f xs out){t0:Nat}(ho:op.op=.call ⟨.value (.tmp t0),args,tys⟩)(a:s.f t0=.one (.clo (f+1000000) [.ptr 125 H 0]))(I:args.toList.map s.ev=xs) B(hB:200<=B)(ar:∀i,B<=i->s.obj i=N)(h:Tp H W s.gen s.obj)(hl:z W+z out<=1000000000)(c:∀g' Y,Tp H (W++out) g' Y->(∀i,i≠125->i≠121->g' i=s.gen i/\Y i=s.obj i)->K (St.put ⟨s.f,g',Y⟩ op.dst uv)):bE (spF Tryz.prog rd O n p t) op s k:=tJ (L:=λ_ _ _=>False) a6 ho a abW (λ_ _ _ h=>h.elim) λr g' Y b=>by obtain⟨rfl,U,Z⟩:=b;grind
end
theorem Yz{o}(hS:Lq o)(A:Fg o):∀al e q,szE e<=al->al<=1000000->Src.rB e->dn q e=T->WtG o 130 [exV e] (ax (pcE e)):=by intro al;induction al with|zero=>intro e _ h;cases e;grind[szE];|succ al ih=>
 rintro⟨kind,op,num,name,kids⟩q az hN i V B H W g ob hB hf h hl;rw[szE]at az;rw[Src.rB]at i;obtain⟨j,i⟩:=i;simp only[dn,l6,v8]at V;obtain⟨_,d,r⟩:=V;have Z:∀a∈kids,WtG o 130 [exV a] (ax (pcE a)):=λa L=>ih a (q+1) (by have:=Src.vu L;omega) a7 (Src.lW i L) (Src.fS r L);have bo:=Src.PS kids;have J:=sK a7 Z;unfold ea at J;refine Pq o B [125,121] Tryz.func130 rfl [] ZN hf λO bc s0 w0=>?_;obtain⟨a,L,ho⟩:=h.obj;unfold exV;have n:=tl5 hB;have t:=th5 hB;have v:=tl1 hB;have E:=th1 hB;unfold bV at d;by_cases k1:kind=1;.rw[s5 k1]at d;subst k1;rw[Src.fl1]at hl|-;simp only[exD,aL,s7,x7];simp only[go_sem,h.gen,ho,n,t,v,E];refine lN aW (λs β ds w h=>h.1.2) rfl (by simp only[go_sem];exact Ps A j.1 j.2) c8 ?_;rintro _ rfl;simp only[go_sem];refine jv aW rfl (iS num.toNat) c8 c8 (h.upd hB 3 _ _) a7 ?_;intro g1 av b6 a1;simp only[go_sem];exact⟨_,ai.refl _,eY hB b6 (sV a1)⟩
 rw[l4 k1]at d;by_cases k2:kind=2
 .rw[s5 k2]at d;subst k2;rw[Src.fl2]at hl|-;try simp only[j7,j8,l5]at hl
  simp only[exD,aL,s7,x7];simp only[go_sem,h.gen,ho,n,t,v,E];refine jv aW rfl name c8 c8 (h.upd hB 3 _ _) a7 ?_;exact V7
 rw[l4 k2]at d;by_cases k3:kind=3
 .rw[s5 k3]at d;subst k3;rw[Src.fl3]at hl|-;try simp only[j7,j8,l5]at hl
  simp only[exD,aL,s7,x7];simp only[go_sem,h.gen,ho,n,t,v,E];refine⟨a7,?_⟩;refine jv aW rfl (name++[91]) c8 c8 (h.upd hB 3 _ _) ZN ?_;intro g1 av b6 a1;have e1:=br hB a1 3;simp only[go_sem,e1.1,e1.2];refine eb J rfl c8 (B+200) a7 (frB hf a1) b6 ZN ?_;intro g2 bn Q bf;have e2:=y7 ((br hB bf 3).1.trans e1.1) ((br hB bf 3).2.trans e1.2);simp only[go_sem,e2.1,e2.2];refine jv aW rfl [93] c8 c8 Q ZN ?_;exact tb
 rw[l4 k3]at d;by_cases k4:kind=4
 .rw[s5 k4]at d;subst k4;rw[Src.fl4]at hl|-;try simp only[j7,j8,l5]at hl
  simp only[exD,aL,s7,x7];simp only[go_sem,h.gen,ho,n,t,v,E];refine⟨a7,?_⟩;refine jv aW rfl (name++[40]) c8 c8 (h.upd hB 3 _ _) ZN ?_;intro g1 av b6 a1;have e1:=br hB a1 3;simp only[go_sem,e1.1,e1.2];refine eb J rfl c8 (B+200) a7 (frB hf a1) b6 ZN ?_;intro g2 bn Q bf;have e2:=y7 ((br hB bf 3).1.trans e1.1) ((br hB bf 3).2.trans e1.2);simp only[go_sem,e2.1,e2.2];refine jv aW rfl [41] c8 c8 Q ZN ?_;exact tb
 rw[l4 k4]at d;by_cases k5:kind=5
 .rw[s5 k5]at d;subst k5;rw[Src.fl5]at hl|-;try simp only[j7,j8,l5]at hl
  simp only[exD,aL,s7,x7];simp only[go_sem,h.gen,ho,n,t,v,E];refine jv aW rfl [103,101,116,40,41] c8 c8 (h.upd hB 3 _ _) a7 ?_;exact V7
 rw[l4 k5]at d;by_cases k7:kind=7
 .rw[l4 a7,s5 k7]at d;subst k7;rw[Src.fl7]at hl|-;try simp only[j7,j8,l5]at hl
  simp only[exD,aL,s7,x7];simp only[go_sem,h.gen,ho,n,t,v,E];refine jv aW rfl [33] c8 c8 (h.upd hB 3 _ _) ZN ?_;intro g1 av b6 a1;have e1:=br hB a1 3;simp only[go_sem,e1.1,e1.2];refine eb J rfl c8 (B+200) a7 (frB hf a1) b6 ZN ?_;intro g2 bn Q bf;have e2:=y7 ((br hB bf 3).1.trans e1.1) ((br hB bf 3).2.trans e1.2);exact Zf
 have u:(kind=6/\4<=op/\op<=15)\/kind=8\/kind=9:=by
  by_cases P:kind=6;.grind
  .grind
 have ad:z kids=2:=by
  rw[l4 k7]at d;rcases u with⟨h,_⟩|h;.grind
  .grind
 obtain⟨x,y,rfl⟩:∃x y,kids=[x,y]:=by match kids,ad with|[x,y],_=>simp
 have hX:=sK (l:=[x]) b9 (λa L=>Z a ZN);have c:=sK (l:=[y]) b9 (λa L=>Z a ZN);rw[Src.acY]at hX c;unfold ea at hX c;have f:=Yy hS (num:=num) (name:=name) (kids:=[x,y]) u;simp only[exD,aL,s7,x7]at f hX c;have ca:=Src.Qp kind op;have b:kind=6\/kind=8\/kind=9:=a7;rw[Src.flO b]at hl|-;simp only[j7,j8,l5]at hl;simp only[exD,aL,s7,x7];clear d;obtain⟨m,k⟩:∃m,m=Src.kM kind op:=⟨_,rfl⟩;rw[<-k]at f hl ca|-;have h5:∀X∈[exD x,exD y],z X=5:=λX hz=>by simp at hz;rcases hz with rfl|rfl<;>exact aY _
 rcases b with rfl|rfl|rfl;all_goals simp only[go_sem,h.gen,ho,n,t,v,E];refine jv aW rfl [40] c8 c8 (h.upd hB 3 _ _) ZN ?_;intro g1 av b6 a1;have e1:=br hB a1 3;simp only[go_sem,e1.1,e1.2];refine⟨h5,?_⟩;refine eb hX rfl c8 (B+200) a7 (frB hf a1) b6 ZN ?_;intro g2 bn Q bf;have e2:=y7 ((br hB bf 3).1.trans e1.1) ((br hB bf 3).2.trans e1.2);simp only[go_sem,e2.1,e2.2];refine lN aW (λs β ds w h=>h.1.2) rfl (by simp only[go_sem];exact f) c8 ?_;rintro _ rfl;simp only[go_sem];refine⟨a7,a7,?_⟩;refine jv aW rfl ([32]++m++[32]) c8 c8 Q ZN ?_;intro g3 b' cv an;have e3:=y7 ((br hB an 3).1.trans e2.1) ((br hB an 3).2.trans e2.2);simp only[go_sem,e3.1,e3.2];refine⟨h5,?_⟩;refine eb c rfl c8 (B+200) a7 (frB hf (aH (aH a1 bf) an)) cv ZN ?_;intro g4 cd G cc;have U:=y7 ((br hB cc 3).1.trans e3.1) ((br hB cc 3).2.trans e3.2);simp only[go_sem,U.1,U.2];refine jv aW rfl [41] c8 c8 G ZN ?_;intro g5 c0 b5 I;have e5:=y7 ((br hB I 3).1.trans U.1) ((br hB I 3).2.trans U.2);simp only[go_sem];exact⟨_,ai.refl _,eY hB ZN (sV (aH (aH (aH (aH a1 bf) an) cc) I))⟩
end
section
open Go Go.Am Go.Asm Go.RowKit
open Go.Src (Ex Stm ind ax pcE pcJ szE aO szS aI dC bD bp cP prS wU)
attribute[local congr]ite_cc
def CT{H:Type}{l:List H}{k}{e}(a:l[k]?=S e)(f:H->Str):(l.take (k+1)).flatMap f=(l.take k).flatMap f++f e:=by rw[C1,a];simp
def Pt{H:Type}(l:List H) k(f:H->Str):z ((l.take k).flatMap f)<=z (l.flatMap f):=by
 conv=>rhs;rw[<-G3 k l,O7,j7]
 omega
def CU{l}{q:Nat}(ch:z l<=1000000){o}(Y:∀a∈l,WtG o 51 [smV a,ae q] (prS q a)):WtG o 23 [eU l,ae q] (wU q l):=by
 intro B H W g ob hB hf h hl;refine Pq o B [125,121] Tryz.func23 rfl [] ZN hf λO bc s0 w0=>?_;unfold eU;unfold wU at hl|-;simp only[go_sem,j6];refine ez (λk K=>K.f 0=aj 125 H 0/\K.f 2=ae q/\K.f 8=.one (aw (l.map smD))/\K.f 9=ae (z l)/\K.f 10=ae k/\Tp H (W++(l.take k).flatMap (prS q)) K.gen K.obj/\(∀i,i<B->i≠125->i≠121->K.gen i=g i/\K.obj i=ob i)/\∀i,B+100<=i->K.obj i=N) (z l) ?_ ?_;.simp only[go_sem];grind
 rintro k f g1 av hk⟨r,t,u,G,I,j,x,ar⟩;simp only at r t u G I j x ar;by_cases A:k<z l
 .have Q:(k:Int)<(z l:Int):=a7;obtain⟨e,v⟩:=getq A;have L:=getD_at (f:=smD) v;have b2:=CT v (prS q);have bl:=Pt l (k+1) (prS q);rw[b2,j7]at bl;obtain⟨kind,name,e,w,el⟩:=e;have hX:smD (.mk kind name e w el)=[.int .i64 kind,.str name,.sl (e.map exD),.sl (w.map smD),.sl (el.map smD)]:=by simp only[smD,aL,dy]
  rw[hX]at L;simp only[go_sem,r,t,u,G,I,Q,L];refine eb (Y _ (l8 v)) rfl (by unfold smV;rw[hX];rfl) (B+200) a7 (λi hi=>?_) (j.upd2 hB 7 _ _ _) ZN ?_;.exact Fu ar a7
  intro g3 b' cv an;simp only[go_sem,I,ah (k:=k) a7];refine cj A ?_;simp only[go_sem,r,t,u,G];refine⟨by grind,λi hi U Z=>?_,λi hi=>?_⟩;.have:=an i U Z;simp only[Am.upd,l4 (show¬i=B+7 by omega)]at this;grind
  .exact(an i a7 a7).2.trans (Fu ar hi)
 .have Q:¬(k:Int)<(z l:Int):=a7;obtain rfl:k=z l:=a7;simp only[go_sem,G,I,Q];rw[E8]at j;exact⟨_,ai.refl _,eY hB j x⟩
def YA{o}{kind}{name}{e}{Q el}{q}(hk:kind=4\/kind=5)(j:q<=24)(V:WtG o 85 [ea e] (ax (pcJ e)))(hT:WtG o 23 [eU Q,ae (q+1:Nat)] (wU (q+1) Q))(hL:WtG o 23 [eU el,ae (q+1:Nat)] (wU (q+1) el))(a6:z el<=1000000):WtG o 86 [smV (.mk kind name e Q el),ae q] (prS q (.mk kind name e Q el)):=by
 intro B H W g ob hB hf h hl;refine Pq o B [125,121] Tryz.func86 rfl [] ZN hf λO bc s0 w0=>?_;obtain⟨a,ha,ho⟩:=h.obj;have t1:=tl5 hB;have t2:=th5 hB;have t3:=tl1 hB;have E:=th1 hB;have L:=ah (k:=q) a7;have b7:z (if kind=5 then [119,104,105,108,101,32,40]else [105,102,32,40]:Str)<=7:=by split<;>decide
 obtain⟨hd,b⟩:∃hd:Str,hd=if kind=5 then [119,104,105,108,101,32,40]else [105,102,32,40]:=⟨_,rfl⟩;rw[Src.st45 hk]at hl|-;rw[<-b]at hl b7|-;simp only[j7,j8,l5]at hl;have c4:z (ind q)=2*q:=by simp[ind]
 unfold smV;simp only[smD,aL,dy,s7,x7];by_cases c:el=[];case pos=>subst c;rw[s5 rfl]at hl|-;simp only[l5]at hl;rcases hk with rfl|rfl;all_goals simp only[reduceCtorEq,↓reduceIte,Int.reduceEq]at b;simp only[go_sem,h.gen,ho,t1,t2,t3,E];refine mz aW (na q hd a7) rfl (by simp only[go_sem,b]) (B+200) a7 (frB (g':=Am.upd g (B+4) 0) hf λ_ _ _=>⟨rfl,rfl⟩) (h.upd hB 4 _ _) ZN ?_;intro g1 av X a1;have s:=br hB a1 4;simp only[go_sem,s.1,s.2];refine eb V rfl c8 (B+200) a7 (frB hf a1) X ZN ?_;intro g2 bn Z n;have w:=y7 ((br hB n 4).1.trans s.1) ((br hB n 4).2.trans s.2);simp only[go_sem,w.1,w.2];refine mz aW (xy [41,32,123]) rfl c8 (B+200) a7 (frB hf (aH a1 n)) Z ZN ?_;intro g3 b' cv an;have A:=y7 ((br hB an 4).1.trans w.1) ((br hB an 4).2.trans w.2);simp only[go_sem,A.1,A.2,L];refine eb hT rfl c8 (B+200) a7 (frB hf (aH (aH a1 n) an)) cv ZN ?_;intro g4 cd G r;have J:=y7 ((br hB r 4).1.trans A.1) ((br hB r 4).2.trans A.2);simp only[go_sem,J.1,J.2,L,j6,l5,x7];refine mz aW (rV q [125] a7) rfl c8 (B+200) a7 (frB hf (aH (aH (aH a1 n) an) r)) G ZN ?_;intro g5 c0 b5 I;have K:=y7 ((br hB I 4).1.trans J.1) ((br hB I 4).2.trans J.2);simp only[go_sem,K.1,K.2];exact⟨_,ai.refl _,eY hB ZN (sV (aH (aH (aH (aH a1 n) an) r) I))⟩
 case neg=>
 have i:(0:Int)<(z el:Int):=by have:=J0.2 c;omega
 rw[l4 c]at hl|-;simp only[j7,j8,l5]at hl;rcases hk with rfl|rfl;all_goals simp only[reduceCtorEq,↓reduceIte,Int.reduceEq]at b;simp only[go_sem,h.gen,ho,t1,t2,t3,E];refine mz aW (na q hd a7) rfl (by simp only[go_sem,b]) (B+200) a7 (frB (g':=Am.upd g (B+4) 0) hf λ_ _ _=>⟨rfl,rfl⟩) (h.upd hB 4 _ _) ZN ?_;intro g1 av X a1;have s:=br hB a1 4;simp only[go_sem,s.1,s.2];refine eb V rfl c8 (B+200) a7 (frB hf a1) X ZN ?_;intro g2 bn Z n;have w:=y7 ((br hB n 4).1.trans s.1) ((br hB n 4).2.trans s.2);simp only[go_sem,w.1,w.2];refine mz aW (xy [41,32,123]) rfl c8 (B+200) a7 (frB hf (aH a1 n)) Z ZN ?_;intro g3 b' cv an;have A:=y7 ((br hB an 4).1.trans w.1) ((br hB an 4).2.trans w.2);simp only[go_sem,A.1,A.2,L];refine eb hT rfl c8 (B+200) a7 (frB hf (aH (aH a1 n) an)) cv ZN ?_;intro g4 cd G r;have J:=y7 ((br hB r 4).1.trans A.1) ((br hB r 4).2.trans A.2);simp only[go_sem,J.1,J.2,L,j6,l5,x7,i];refine mz aW (rV q [125,32,101,108,115,101,32,123] a7) rfl c8 (B+200) a7 (frB hf (aH (aH (aH a1 n) an) r)) G abM ?_;intro g5 c0 b5 I;have K:=y7 ((br hB I 4).1.trans J.1) ((br hB I 4).2.trans J.2);simp only[go_sem,K.1,K.2,L];refine eb hL rfl c8 (B+200) a7 (frB hf (aH (aH (aH (aH a1 n) an) r) I)) b5 abM ?_;intro g6 v t d;have U:=y7 ((br hB d 4).1.trans K.1) ((br hB d 4).2.trans K.2);simp only[go_sem,U.1,U.2];refine mz aW (rV q [125] a7) rfl c8 (B+200) a7 (frB hf (aH (aH (aH (aH (aH a1 n) an) r) I) d)) t abM ?_;intro l ad m f;have u:=y7 ((br hB f 4).1.trans U.1) ((br hB f 4).2.trans U.2);simp only[go_sem,u.1,u.2];exact⟨_,ai.refl _,eY hB ZN (sV (aH (aH (aH (aH (aH (aH a1 n) an) r) I) d) f))⟩
def nb{q:Nat}{s:Stm}:∀{l:List Stm},bD q l=T->s∈l->dC q s=T
 |a::l,h,b=>by
  rw[bD,l6]at h;rcases A0.1 b with rfl|b;.exact h.1
  .exact nb h.2 b
def YB{o:cM}(hS:Lq o)(A:Fg o):∀(al:Nat)(s:Stm)(q:Nat),szS s<=al->al<=1000000->Src.wb s->dC q s=T->WtG o 51 [smV s,ae q] (prS q s):=by intro al;induction al with|zero=>intro s _ h;cases s;rw[szS]at h;omega;|succ al U=>
 rintro⟨kind,name,e,th,el⟩q az hN i V;rw[szS]at az;rw[Src.wb]at i;obtain⟨bz,m,cy⟩:=i;simp only[dC,l6,v8]at V;obtain⟨⟨j,d,bk⟩,b7,Z⟩:=V;have a6:=Src.PS e;have Y:=Src.PT th;have b4:=Src.PT el;have u:∀a∈e,WtG o 130 [exV a] (ax (pcE a)):=λa n=>Yz hS A (szE a) a (q+1) (l7 _) (by have:=Src.vu n;omega) (Src.lW bz n) (Src.fS bk n);have hE:=sK (l:=e) a7 u;have hT:=CU (l:=th) (q:=q+1) a7 λa n=>U a (q+1) (by have:=Src.nd n;omega) a7 (Src.jc m n) (nb b7 n);have hL:=CU (l:=el) (q:=q+1) a7 λa n=>U a (q+1) (by have:=Src.nd n;omega) a7 (Src.jc cy n) (nb Z n);intro B H W g ob hB hf h hl;refine Pq o B [125,121] Tryz.func51 rfl [] ZN hf λO bc s0 w0=>?_;obtain⟨a,n,ho⟩:=h.obj;have v:=tl5 hB;have w:=th5 hB;have L:=tl1 hB;have E:=th1 hB;have c4:z (ind q)=2*q:=by simp[ind]
 unfold cP at d;unfold smV;simp only[smD,aL,dy,s7,x7];by_cases k:kind=4\/kind=5;.have f:=YA (name:=name) k j hE hT hL a7;unfold smV at f;simp only[smD,aL,dy,s7,x7]at f;obtain⟨out,J⟩:∃out,prS q (.mk kind name e th el)=out:=⟨_,rfl⟩;rw[J]at f hl|-;clear d hE hT hL u U;rcases k with rfl|rfl;all_goals simp only[go_sem,h.gen,ho,v,w,L,E];refine eb f rfl c8 (B+200) a7 (frB (g:=g) (g':=Am.upd g (B+4) 0) hf λ_ _ _=>⟨rfl,rfl⟩) (h.upd hB 4 _ _) a7 ?_;intro g1 av b6 a1;have e1:=br hB a1 4;simp only[go_sem,e1.1,e1.2];exact⟨_,ai.refl _,eY hB a7 (sV a1)⟩
 have K:=hE;unfold ea at hE;clear hT hL U;by_cases k1:kind=1
 .subst k1;have b:e≠[]:=λh0=>by grind
  rw[Src.st1 b]at hl|-;simp only[j7,j8,l5]at hl;simp only[go_sem,h.gen,ho,v,w,L,E];refine⟨a7,?_⟩;refine ed aW (na q (name++[32,61,32]) a7) rfl c8 c8 (B+200) a7 (frB (g:=g) (g':=Am.upd g (B+4) 0) hf λ_ _ _=>⟨rfl,rfl⟩) (h.upd hB 4 _ _) ZN ?_;intro g1 av b6 a1;have e1:=br hB a1 4;simp only[go_sem,e1.1,e1.2];refine eb hE rfl c8 (B+200) a7 (frB hf a1) b6 ZN ?_;intro g2 bn b8 bf;have e2:=y7 ((br hB bf 4).1.trans e1.1) ((br hB bf 4).2.trans e1.2);simp only[go_sem,e2.1,e2.2];refine ed aW (xy [59]) rfl c8 c8 (B+200) a7 (frB hf (aH a1 bf)) b8 ZN ?_;intro g3 b' cv an;have e3:=y7 ((br hB an 4).1.trans e2.1) ((br hB an 4).2.trans e2.2);simp only[go_sem,e3.1,e3.2];exact⟨_,ai.refl _,eY hB ZN (sV (aH (aH a1 bf) an))⟩
 by_cases k2:kind=2
 .subst k2;obtain⟨x,y,rfl⟩:∃x y,e=[x,y]:=by match e,d with|[x,y],_=>simp;|[],hf=>simp at hf;|[_],hf=>simp at hf;|_::_::_::_,hf=>simp at hf
  have hX:=sK (l:=[x]) b9 (λa n=>u a ZN);have c:=sK (l:=[y]) b9 (λa n=>u a ZN);unfold ea at hX c;have h5:∀X∈[exD x,exD y],z X=5:=λX hz=>by simp at hz;rcases hz with rfl|rfl<;>exact aY _
  simp only[s7,x7]at hX c|-;rw[Src.st2]at hl|-;simp only[j7,j8,l5]at hl;simp only[go_sem,h.gen,ho,v,w,L,E];refine⟨a7,?_⟩;refine ed aW (na q (name++[91]) a7) rfl c8 c8 (B+200) a7 (frB (g:=g) (g':=Am.upd g (B+4) 0) hf λ_ _ _=>⟨rfl,rfl⟩) (h.upd hB 4 _ _) ZN ?_;intro g1 av b6 a1;have e1:=br hB a1 4;simp only[go_sem,e1.1,e1.2];refine⟨h5,?_⟩;refine eb hX rfl c8 (B+200) a7 (frB hf a1) b6 ZN ?_;intro g2 bn b8 bf;have e2:=y7 ((br hB bf 4).1.trans e1.1) ((br hB bf 4).2.trans e1.2);obtain⟨c2,b1,b2⟩:=b8.obj;simp only[go_sem,e2.1,e2.2,b8.gen,b2];refine oN (H:=H) aW rfl [93,32,61,32] c8 b8 ZN ?_;intro g3 b' cv an;have e3:=y7 ((br hB an 4).1.trans e2.1) ((br hB an 4).2.trans e2.2);simp only[go_sem,e3.1,e3.2];refine⟨h5,?_⟩;refine eb c rfl c8 (B+200) a7 (frB hf (aH (aH a1 bf) an)) cv ZN ?_;intro g4 cd G r;have Q:=y7 ((br hB r 4).1.trans e3.1) ((br hB r 4).2.trans e3.2);simp only[go_sem,Q.1,Q.2];refine ed aW (xy [59]) rfl c8 c8 (B+200) a7 (frB hf (aH (aH (aH a1 bf) an) r)) G abM ?_;intro g5 c0 b5 I;have e5:=y7 ((br hB I 4).1.trans Q.1) ((br hB I 4).2.trans Q.2);simp only[go_sem,e5.1,e5.2];exact⟨_,ai.refl _,eY hB ZN (sV (aH (aH (aH (aH a1 bf) an) r) I))⟩
 by_cases k3:kind=3;.subst k3;rw[Src.st3]at hl|-;simp only[j7,j8,l5]at hl;simp only[go_sem,h.gen,ho,v,w,L,E];refine ed aW (na q [112,117,116,40] a7) rfl c8 c8 (B+200) a7 (frB (g:=g) (g':=Am.upd g (B+4) 0) hf λ_ _ _=>⟨rfl,rfl⟩) (h.upd hB 4 _ _) ZN ?_;exact Zh
 by_cases P:kind=6;.subst P;rw[Src.st6]at hl|-;simp only[j7,j8,l5]at hl;simp only[go_sem,h.gen,ho,v,w,L,E];refine⟨a7,?_⟩;refine ed aW (na q (name++[40]) a7) rfl c8 c8 (B+200) a7 (frB (g:=g) (g':=Am.upd g (B+4) 0) hf λ_ _ _=>⟨rfl,rfl⟩) (h.upd hB 4 _ _) ZN ?_;exact Zh
 have k7:kind=7:=by
  by_cases k7:kind=7;.exact k7
  .grind
 subst k7;rw[Src.st7]at hl|-;by_cases a':e=[];.subst a';rw[s5 rfl]at hl|-;simp only[j7,j8,l5]at hl;simp only[go_sem,h.gen,ho,v,w,L,E];refine ed aW (na q [114,101,116,117,114,110] a7) rfl c8 c8 (B+200) a7 (frB (g:=g) (g':=Am.upd g (B+4) 0) hf λ_ _ _=>⟨rfl,rfl⟩) (h.upd hB 4 _ _) ZN ?_;intro g1 av b6 a1;have e1:=br hB a1 4;simp only[go_sem,e1.1,e1.2,l5,x7];refine ed aW (xy [59]) rfl c8 c8 (B+200) a7 (frB hf a1) b6 ZN ?_;intro g2 bn b8 bf;have e2:=y7 ((br hB bf 4).1.trans e1.1) ((br hB bf 4).2.trans e1.2);exact Zf
 .have cx:(0:Int)<(z e:Int):=by have:=J0.2 a';omega
  rw[l4 a']at hl|-;simp only[j7,j8,l5]at hl;simp only[go_sem,h.gen,ho,v,w,L,E];refine ed aW (na q [114,101,116,117,114,110] a7) rfl c8 c8 (B+200) a7 (frB (g:=g) (g':=Am.upd g (B+4) 0) hf λ_ _ _=>⟨rfl,rfl⟩) (h.upd hB 4 _ _) ZN ?_;intro g1 av b6 a1;have e1:=br hB a1 4;obtain⟨c1,b3,t⟩:=b6.obj;simp only[go_sem,e1.1,e1.2,b6.gen,t,j6,cx];refine oN (H:=H) aW rfl [32] c8 b6 ZN ?_;intro g2 bn b8 bf;have e2:=y7 ((br hB bf 4).1.trans e1.1) ((br hB bf 4).2.trans e1.2);simp only[go_sem,e2.1,e2.2];refine eb hE rfl c8 (B+200) a7 (frB hf (aH a1 bf)) b8 ZN ?_;intro g3 b' cv an;have e3:=y7 ((br hB an 4).1.trans e2.1) ((br hB an 4).2.trans e2.2);simp only[go_sem,e3.1,e3.2];refine ed aW (xy [59]) rfl c8 c8 (B+200) a7 (frB hf (aH (aH a1 bf) an)) cv ZN ?_;intro g4 cd G r;have Q:=y7 ((br hB r 4).1.trans e3.1) ((br hB r 4).2.trans e3.2);simp only[go_sem,Q.1,Q.2];exact⟨_,ai.refl _,eY hB ZN (sV (aH (aH (aH a1 bf) an) r))⟩
end
section
open Go Go.Am Go.Asm Go.RowKit Go.Shelf
open Go.Src (jM)
attribute[local congr]ite_cc
def Lr{W:Str}{G f H:Nat}{g:Nat->Nat}{ob:Obs}(h:Tap G f H W g ob)(b:W≠[])(hl:z W<=1000000000):iK Tryz.prog 24 [aj G H 0] g ob (λr g' Y=>r=sv W/\g'=g/\∀i,i≠f->Y i=ob i):=by
 refine hdF 0 Tryz.func24 rfl [2] ?_;obtain⟨e,u,⟨a,w,ho⟩,q,n,bz⟩:=h;simp only[go_sem];refine iU aP mixed [f] [([0],[],[],F),([3],[],[],F),([4],[],[],F),([5],[],[],F),([6],[],[],F),([0],[],[],F),([8],[],[],F),([9],[],[],F),([10],[],[],F),([11],[],[],F),([7,12],[],[0],F),([13],[],[],T)] 1 c9 rfl b9 ?_;simp only[go_sem];iterate 4 (refine aX (λ_ _ _ _ J=>by simp only[go_sem,e,ho]at J|-;exact J) ?_)
 refine aX (v:=aj f (g f) 0) (λs ga t d J=>?_) ?_;.simp only[go_sem]at J|-;refine Mh (k:=bx d) rfl ac1 rfl ZN ZN ?_;exact h9
 iterate 5 (refine aX (λ_ _ _ _ J=>by simp only[go_sem,e,ho,n]at J|-;exact J) ?_)
 have c:upd g f (g f)=g:=by funext j;simp only[upd];split<;>simp_all
 refine dJ (v:=sv W) (x:=g f) (y:=N) (λs ga t d J=>?_) ?_;.simp only[go_sem,c,O0]at J|-;refine Kj (k:=bx d) rfl acH Yk (l:=W) c8 c8 rfl q n (by rw[s6 b9];rfl) b a7 ?_;exact h9
 simp only[go_sem,c,O0];apply dQ;intro d o;simp only[go_sem];refine o _ ?_;clear o d;simp only[go_sem];refine⟨_,ai.refl _,c8,rfl,λi p=>?_⟩;simp[upd,p]
def YC:Builder.Extra Tryz.prog xx where
 sizeBuilder:=j0
 liesBuilder:=j0
 t5:=Tryz.underlying5
 a5:=Tryz.isAgg5
 z5:=Tryz.sizeOf5
 v5:=Tryz.zeroValue5
 infoByte:=j0
 cellsByte:=j0
 sizeByte:=j0
 neB5:=a8
def CV(l:List Str)(a:z l<=1000000)(hl:z (jM l)<=1000000000):aR Tryz.prog 21 [.one (aw (l.map λw=>[.str w])),sv [44,32]] (·=sv (jM l)):=by have h:=GM Uj YC (f:=21) rfl ⟨_,Tryz.func21,rfl,c8⟩ l [44,32] a7 (by rw[Src.join_eq];omega);rw[Src.join_eq]at h;exact h
end
open Go Go.Am Go.Asm Go.RowKit
open Go.Src (fR ba jM uq qS prF wU jU ind ct de)
attribute[local congr]ite_cc
section
variable{o:cM}{O:Bs}{rd:Option Nat}{bc:Am.Loc}{s0:St}{w0:World}{B0:Nat}{Ψ:il}{op:Oper}{s:St}{K:St->Prop}{k:Box K}{args:Array Operand}{tys:Array TypeId}{H:Nat}{W:Str}
theorem Pu{f}{xs}{out}(hf:WtG o f xs out)(ho:op.op=.call ⟨.value (.func f),args,tys⟩)(I:args.toList.map s.ev=aj 125 H 0::xs) B(hB:200<=B)(ar:∀i,B<=i->s.obj i=N)(h:Tp H W s.gen s.obj)(hl:z W+z out<=1000000000)(c:∀a Y,Tp H (W++out) a Y->(∀i,i≠125->i≠121->a i=s.gen i/\Y i=s.obj i)->K (St.put ⟨s.f,a,Y⟩ op.dst uv)):bE (spF Tryz.prog rd O (Kk 4 o O bc s0 w0) B0 Ψ) op s k:=vK (X:=4) (o:=o) aN (λ_ _ _ _ h=>h.1) ho abW λr a Y b=>by obtain⟨rfl,U,Z⟩:=b;grind
end
def Pv{P}{rd}{O}{b}{B0}{Ψ}(a6:bA O b){o}{s} d{K}{k:Box K}(hv:ai s d)(h:bE (spF P rd O b B0 Ψ) o d k):bE (spF P rd O b B0 Ψ) o s k:=by exact tz
structure PrI (p:Src.Prog) (H g3:Nat) (W:Str) (s:St):Prop where
 f1:s.f 1=aj 123 g3 0
 f3:s.f 3=aj 125 H 0
 f4:s.f 4=.one (.clo 1000020 [.ptr 125 H 0])g3:s.gen 123=g3
 o3:s.obj 123=some (jK p)tp:Tp H W s.gen s.obj
 fr:∀i,222<=i->s.obj i=none
def PrI.keep{p}{H g3}{W r}{s a}(h:PrI p H g3 W s)(b:a.f 1=s.f 1/\a.f 3=s.f 3/\a.f 4=s.f 4)(d:Tp H r a.gen a.obj)(c:∀i,i≠125->i≠121->i≠128->i≠130->a.gen i=s.gen i/\a.obj i=s.obj i):PrI p H g3 r a:=⟨b.1.trans h.f1,b.2.1.trans h.f3,b.2.2.trans h.f4,(c 123 a8 a8 a8 a8).1.trans h.g3,(c 123 a8 a8 a8 a8).2.trans h.o3,d,λi e=>(c i a7 a7 a7 a7).2.trans (h.fr i e)⟩
variable{g:Nat->Nat}
def Tp.updi{H}{W}{ob}(h:Tp H W g ob) i(n1:125≠i)(n2:121≠i) x y:Tp H W (Am.upd g i x) (Am.upd ob i y):=by obtain⟨hg,cb,⟨a,ha,ho⟩,b1,hi,bz⟩:=h;exact V5
def Tp.upi2{H}{W}{ob}(h:Tp H W g ob) i(a:125≠i)(b:121≠i) x y X:Tp H W (Am.upd g i x) (Am.upd (Am.upd ob i y) i X):=by
 have e:Am.upd (Am.upd ob i y) i X=Am.upd ob i X:=by funext j;simp[Am.upd];split<;>rfl
 rw[e];exact h.updi i a b x X
def Fv:ind 0=[]:=rfl
theorem Ur{o}(hS:Lq o)(A:Fg o) p(V:ct p=T)(hn:Src.qg p)(az:z p.v+z p.a+z p.f+(p.f.map λf=>z f.p+z f.l+Src.aI f.body).sum<=90)(hl:z (jU p)<=1000000):cn Tryz.prog 4 o 7 [cK p] (·=sv (jU p)):=by
 refine qb 122 4 o aP mixed Tryz.func7 rfl c8 [.tmp 2] rfl c8 j0 b9 λO bc s0 w0 g=>?_;obtain⟨H,E⟩:∃x,x=nxC 61 (g 125):=⟨_,rfl⟩;obtain⟨g3,y⟩:∃x,x=nxC 27 (g 123):=⟨_,rfl⟩;obtain⟨P,B⟩:∃x,x=uq [] p.v:=⟨_,rfl⟩;unfold Src.jU at hl;rw[<-B,j7,j7]at hl;have bs:jU p=P++p.a.flatMap qS++p.f.flatMap prF:=by rw[B];rfl
 rw[bs];have w:∀x,Tp H [] (Am.upd (Am.upd (Am.upd g 123 x) 125 H) 121 (nxC 6 (g 121))) (Am.upd (Am.upd (Am.upd (Am.upd (λ_=>N) 123 (S (jK p))) 125 (S [.d .nilp,.d .nsl])) 125 (S [.d .nilp,.osl 121 (nxC 6 (g 121)) 1 0 0])) 121 (S [])):=λx=>⟨c8,by rw[E];exact vC _ a8,⟨.d .nilp,.inl rfl,c8⟩,by simp[Am.upd,vC],c8,a8⟩;have dc:jK p=[C.d (D.sl (List.map (λs=>[D.str s]) p.v)),C.d (D.sl (List.map arD p.a)),C.d (D.sl (List.map fnD p.f))]:=rfl;unfold cK kG;by_cases hv:p.v=[];case' pos=>
  have d':P=[]:=by rw[B,hv];rfl
  rw[hv];simp only[go_sem,x7,l5];rw[<-E,<-y];refine Jp _ (AQ (t:=3) (c:=6) (o:=125) (b:=121) (j:=1) (sz:=1) (cells:=[.d .nilp,.d .nsl]) (.inl ⟨0,c8⟩) c8 rfl a8) (λk K=>PrI p H g3 (P++(p.a.take k).flatMap qS) K/\K.f 23=.one (aw (p.a.map arD))/\K.f 24=ae (z p.a)/\K.f 25=ae k) (z p.a) ?_ ?_;.simp only[St.claimC];refine⟨⟨c8,c8,c8,c8,by simp only[go_sem,dc,hv],by have dz:=w g3;rw[dc,hv]at dz;rw[d'];exact dz,λi hi=>by grind[Am.upd]⟩,by rfl,by rfl,by rfl⟩
 case' neg=>
  have b7:(0:Int)<(z p.v:Int):=by have:=J0.2 hv;omega
  simp only[go_sem,j6,b7];rw[<-E,<-y];refine Pv aN _ (AQ (t:=3) (c:=6) (o:=125) (b:=121) (j:=1) (sz:=1) (cells:=[.d .nilp,.d .nsl]) (.inl ⟨0,c8⟩) c8 rfl a8) ?_;simp only[St.claimC];have dh:z (uq [] p.v)=z (jM p.v)+6:=by unfold uq;rw[l4 hv];simp
  rw[<-B]at dh;refine dm rfl (by simp only[go_sem];exact(CV p.v a7 a7).toG) ?_;rintro _ rfl;simp only[go_sem];refine⟨a7,a7,?_⟩;refine ed aN (rV 0 ([118,97,114,32]++jM p.v++[59]) a7) rfl c8 c8 222 a8 (λi hi=>by grind[Am.upd]) (w g3) (by simp[Fv];omega) ?_;intro g1 av b6 a1;have ec:([]:Str)++(ind 0++([118,97,114,32]++jM p.v++[59])++[10])=P:=by rw[B];unfold uq;rw[l4 hv];simp[Fv]
  rw[ec]at b6;have X:=a1 123 a8 a8;simp only[Am.upd]at X;simp only[go_sem,X.1,X.2];refine ez (λk K=>PrI p H g3 (P++(p.a.take k).flatMap qS) K/\K.f 23=.one (aw (p.a.map arD))/\K.f 24=ae (z p.a)/\K.f 25=ae k) (z p.a) ?_ ?_;.refine⟨⟨c8,c8,c8,by grind,by grind,by grind,λi hi=>(a1 i a7 a7).2.trans (by grind[Am.upd])⟩,by rfl,by rfl,by rfl⟩
 all_goals
  rintro k f g1 av hk⟨hI,c',c1,h⟩;obtain⟨f1,f3,f4,z3,o3,tp,fr⟩:=id hI;simp only at c' c1 h f1 f3 f4 z3 o3 tp fr;have hw:=ah (k:=k) a7;by_cases af:k<z p.a;case' pos=>
   have Q:(k:Int)<(z p.a:Int):=a7;obtain⟨a,dd⟩:=getq af;have hg:=getD_at (f:=arD) dd;simp only[arD]at hg;have ar:fR a=T:=by unfold ct at V;simp only[l6,z7]at V;exact V.2.1 a (l8 dd)
   simp only[fR,ba,l6,v8]at ar;have dk:z (iS a.2.toNat)<=10:=nB a7;have b2:=CT dd qS;have bl:=Pt p.a (k+1) qS;rw[b2,j7]at bl;have b0:z (qS a)=_:=congrArg z (show qS a=([97,114,114,97,121,32]++a.1++[91]++iS a.2.toNat++[93,59])++[10]from rfl);have c7:IntKind.u32.wrap a.2=a.2:=by rw[IntKind.wrap_u32];omega
   simp only[go_sem,c',c1,h,Q,hg,j6];refine cG aP mixed aN [] [([4],[],[],F),([6],[],[],F),([30],[],[],F),([31],[],[],F),([32],[],[],F),([6],[],[],F),([34],[],[],F),([35],[],[],F),([36],[],[],F),([33,37],[],[],F),([38],[],[],F),([29,39],[],[],T)] 0 rfl c9 rfl a8 ?_;simp only[go_sem];iterate 3 (refine au gdD (λ_ _ _ _ J=>by simp only[go_sem,f4]at J|-;exact J) ?_)
   refine au (v:=sv ([97,114,114,97,121,32]++a.1)) A6 (λfa ga oa K' J=>?_) ?_;.simp only[go_sem]at J|-;grind
   refine au (v:=sv ([97,114,114,97,121,32]++a.1++[91])) A6 (λfa ga oa K' J=>?_) ?_;.simp only[go_sem]at J|-;grind
   iterate 3 (refine au gdD (λ_ _ _ _ J=>by simp only[go_sem,c7]at J|-;exact J) ?_)
   refine au (v:=sv (iS a.2.toNat)) A6 (λfa ga oa K' J=>?_) ?_;.simp only[go_sem]at J|-;refine dm rfl (by simp only[go_sem];exact Ps A a7 a7) ?_;exact sT
   refine au (v:=sv ([97,114,114,97,121,32]++a.1++[91]++iS a.2.toNat)) A6 (λfa ga oa K' J=>?_) ?_;.simp only[go_sem]at J|-;grind
   refine au (v:=sv ([97,114,114,97,121,32]++a.1++[91]++iS a.2.toNat++[93,59])) A6 (λfa ga oa K' J=>?_) ?_;.simp only[go_sem]at J|-;grind
   refine cH A6 ?_;intro K' a';simp only[go_sem];have ef:P++(p.a.take k).flatMap qS++(ind 0++([97,114,114,97,121,32]++a.1++[91]++iS a.2.toNat++[93,59])++[10])=P++(p.a.take (k+1)).flatMap qS:=by rw[b2,Fv,A3,s9];rfl
   refine ed aN (rV 0 ([97,114,114,97,121,32]++a.1++[91]++iS a.2.toNat++[93,59]) a7) rfl c8 c8 222 a8 ac2 (tp.upi2 128 (by decide) (by decide) _ _ _) (by rw[Fv];grind) ?_;intro g2 bn b8 bf;rw[ef]at b8;refine a' _ ?_;clear a' K';simp only[go_sem,h,hw];refine cj af ?_;simp only[go_sem,c',c1];refine hI.keep ⟨c8,c8,c8⟩ b8 λi U Z h3 h4=>?_;have:=bf i U Z;simp only[Am.upd,l4 h3]at this;exact this
  case' neg=>
  have Q:¬(k:Int)<(z p.a:Int):=a7;obtain rfl:k=z p.a:=a7;rw[E8]at hI tp;simp only[go_sem,c1,h,Q,f1,z3,o3,dc,j6];refine ez (λk K=>PrI p H g3 ((P++p.a.flatMap qS)++(p.f.take k).flatMap prF) K/\K.f 43=.one (aw (p.f.map fnD))/\K.f 44=ae (z p.f)/\K.f 45=ae k) (z p.f) ?_ ?_;.refine⟨⟨by simp only[go_sem,f1],by simp only[go_sem,f3],by simp only[go_sem,f4],z3,o3,by grind,fr⟩,c8,c8,c8⟩
  clear hI tp fr f1 f3 f4 z3 o3 c' c1 h hw hk af Q
 all_goals
 rintro k f g1 av hk⟨hI,dp,c6,a6⟩;obtain⟨f1,f3,f4,z3,o3,tp,fr⟩:=id hI;simp only at dp c6 a6 f1 f3 f4 z3 o3 tp fr;have hw:=ah (k:=k) a7;by_cases af:k<z p.f;case' pos=>
  have Q:(k:Int)<(z p.f:Int):=a7;obtain⟨fn,ds⟩:=getq af;have hg:=getD_at (f:=fnD) ds;have ca:=l8 ds;have b3:de fn=T:=by unfold ct at V;simp only[l6,z7]at V;exact V.2.2 fn ca
  have cf:=hn fn ca;have b2:=CT ds prF;have bl:=Pt p.f (k+1) prF;rw[b2,j7]at bl;have b4:z fn.p+z fn.l+Src.aI fn.body<=90:=by have U:=lZ ca;have Z:szP p=z p.v+z p.a+z p.f+(p.f.map λf=>z f.p+z f.l+Src.aI f.body).sum:=rfl;omega
  obtain⟨name,u,n,word,body⟩:=fn;simp only[de,ba,l6,v8]at b3;simp only at b4 cf;have b0:z (prF ⟨name,u,n,word,body⟩)=_:=congrArg z (show prF ⟨name,u,n,word,body⟩=(([102,117,110,99,32]++name++[40]++jM u++[41])++(if word then [32,119,111,114,100]else [])++[32,123])++[10]++uq (ind 1) n++Src.wU 1 body++([125]++[10])from rfl);simp only[j7,j8,l5]at b0;simp only[fnD]at hg;have cz:=Src.PT body;have hT:=CU (l:=body) (q:=1) a7 λa ha=>YB hS A (Src.szS a) a 1 (l7 _) (by have:=Src.nd ha;omega) (Src.jc cf ha) (nb b3.2.2 ha);unfold eU at hT;obtain⟨SB,dx⟩:∃x,x=Src.wU 1 body:=⟨_,rfl⟩;rw[<-dx]at hT b0;obtain⟨WA,c2⟩:∃x,x=(P++p.a.flatMap qS)++(p.f.take k).flatMap prF:=⟨_,rfl⟩;have cx:z WA<=1000000:=by rw[c2];simp only[j7];omega
  rw[<-c2]at tp;simp only[go_sem,dp,c6,a6,Q,hg,j6];refine cG aP mixed aN [] [([8],[],[],F),([49],[],[],F),([50],[],[],F),([51],[],[],F),([8],[],[],F),([53],[],[],F),([54],[],[],F),([52,55],[],[],F),([56],[],[],F),([57],[],[],T)] 0 rfl c9 rfl a8 ?_;simp only[go_sem];iterate 2 (refine au gdD (λ_ _ _ _ J=>by simp only[go_sem]at J|-;exact J) ?_)
  refine au (v:=sv ([102,117,110,99,32]++name)) A6 (λfa ga oa K' J=>?_) ?_;.simp only[go_sem]at J|-;grind
  refine au (v:=sv ([102,117,110,99,32]++name++[40])) A6 (λfa ga oa K' J=>?_) ?_;.simp only[go_sem]at J|-;grind
  iterate 2 (refine au gdD (λ_ _ _ _ J=>by simp only[go_sem]at J|-;exact J) ?_)
  refine au (v:=sv (jM u)) A6 (λfa ga oa K' J=>?_) ?_;.simp only[go_sem]at J|-;refine dm rfl (by simp only[go_sem];exact(CV u a7 a7).toG) ?_;exact sT
  refine au (v:=sv ([102,117,110,99,32]++name++[40]++jM u)) A6 (λfa ga oa K' J=>?_) ?_;.simp only[go_sem]at J|-;grind
  refine au (v:=sv ([102,117,110,99,32]++name++[40]++jM u++[41])) A6 (λfa ga oa K' J=>?_) ?_;.simp only[go_sem]at J|-;grind
  refine cH A6 ?_;intro K' a';simp only[go_sem];refine a' _ ?_;clear a' K';have cv:word=F\/word=T:=by cases word<;>simp
  rcases cv with rfl|rfl;case' inl=>
   obtain⟨L,hL⟩:∃x:Str,x=[102,117,110,99,32]++name++[40]++jM u++[41]++[32,123]:=⟨_,rfl⟩;have bo:prF ⟨name,u,n,F,body⟩=L++[10]++uq (ind 1) n++SB++([125]++[10]):=by rw[hL,dx];unfold prF;simp
   simp only[go_sem]
  case' inr=>
   obtain⟨L,hL⟩:∃x:Str,x=[102,117,110,99,32]++name++[40]++jM u++[41]++[32,119,111,114,100]++[32,123]:=⟨_,rfl⟩;have bo:prF ⟨name,u,n,T,body⟩=L++[10]++uq (ind 1) n++SB++([125]++[10]):=by rw[hL,dx];unfold prF;simp
   simp only[go_sem];refine⟨by simp only[j7,H4];omega,?_⟩
  all_goals
  have e4:=congrArg z hL;simp only[j7,j8,l5]at e4;rw[bo]at b2 b0 bl;simp only[j7,j8,l5]at bl;clear bo b0;refine⟨by simp only[j7,j8,l5];omega,?_⟩;refine ed aN (rV 0 L a7) rfl (by simp only[go_sem,f4]) (by simp only[go_sem,hL]) 222 a8 ac2 (tp.upi2 130 (by decide) (by decide) _ _ _) (by rw[Fv];grind) ?_;intro g2 bn b8 bf;rw[Fv,A3]at b8;have e2:=bf 130 a8 a8;simp only[Am.upd,B3]at e2;have e:∀i,i≠125->i≠121->i≠130->g2 i=g1 i/\bn i=av i:=λi U Z h3=>by have:=bf i U Z;simp only[Am.upd,l4 h3]at this;exact this
  clear bf;have b1:∀i,222<=i->bn i=N:=λi hi=>(e i a7 a7 a7).2.trans (fr i hi);by_cases m:n=[];case' pos=>
   have cm:uq (ind 1) n=[]:=by rw[m];rfl
   have ch:¬(0:Int)<(z n:Int):=by rw[m];decide
   rw[cm]at b2;simp only[go_sem,e2.1,e2.2,j6,ch];have hp:Tp H (WA++(L++[10])++[]) g2 bn:=by rw[u7];exact b8
   have hs:=e;have c4:z (ind 1)=2:=rfl;rw[cm]at bl;simp only[l5]at bl
  case' neg=>
   have ch:(0:Int)<(z n:Int):=by have:=J0.2 m;omega
   have cm:uq (ind 1) n=ind 1++([118,97,114,32]++jM n++[59])++[10]:=by unfold uq;rw[l4 m]
   have c4:z (ind 1)=2:=rfl;rw[cm]at b2 bl;simp only[j7,j8,l5,c4]at bl;simp only[go_sem,e2.1,e2.2,j6,ch];refine dm rfl (by simp only[go_sem];exact(CV n a7 a7).toG) ?_;rintro _ rfl;simp only[go_sem];refine⟨a7,a7,?_⟩;refine ed aN (rV 1 ([118,97,114,32]++jM n++[59]) a7) rfl (by simp only[go_sem,f4]) c8 222 a8 b1 b8 (by simp only[j7,j8,l5,c4];omega) ?_;intro eh b' hp an;have e3:=an 130 a8 a8;have e3:=y7 (e3.1.trans e2.1) (e3.2.trans e2.2);have hs:∀i,i≠125->i≠121->i≠130->eh i=g1 i/\b' i=av i:=λi U Z h3=>⟨(an i U Z).1.trans (e i U Z h3).1,(an i U Z).2.trans (e i U Z h3).2⟩;clear an;simp only[go_sem,e3.1,e3.2]
  all_goals refine Pu (H:=H) hT rfl (by simp only[go_sem,f3]) 222 a8 (λi hi=>(hs i a7 a7 a7).2.trans (fr i hi)) hp (by simp only[j7,j8,l5,cm,c4];omega) ?_;intro g4 cd G cc;simp only[go_sem];refine ed aN (rV 0 [125] a7) rfl (by simp only[go_sem,f4]) c8 222 a8 (λi hi=>(cc i a7 a7).2.trans ((hs i a7 a7 a7).2.trans (fr i hi))) G (by simp only[j7,j8,l5,cm,c4,Fv];omega) ?_;intro g5 c0 b5 I;simp only[go_sem,a6,hw];refine cj af ?_;simp only[go_sem,dp,c6];refine hI.keep ⟨c8,c8,c8⟩ ?_ λi U Z h3 h4=>⟨(I i U Z).1.trans ((cc i U Z).1.trans (hs i U Z h4).1),(I i U Z).2.trans ((cc i U Z).2.trans (hs i U Z h4).2)⟩;rw[b2];simpa only[c2,cm,Fv,A3,u7,s9]using b5
 case' neg=>
 have Q:¬(k:Int)<(z p.f:Int):=a7;obtain rfl:k=z p.f:=a7;rw[E8]at tp;have bz:P++p.a.flatMap qS++p.f.flatMap prF≠[]:=λh0=>by have U:=(K9.1 h0).2;unfold ct at V;simp only[l6,v8]at V;cases hp:p.f with|nil=>grind;|cons a l=>rw[hp,A8]at U;exact absurd (K9.1 U).1 (by simp[prF])
 have bd:z (P++p.a.flatMap qS++p.f.flatMap prF)<=1000000000:=by simp only[j7];omega
 have W:=Lr tp bz bd;obtain⟨a0,al,ad⟩:=tp.obj;simp only[go_sem,c6,a6,Q,f3,tp.gen,ad];refine dO aN rfl (by simp only[go_sem];exact W) ?_;rintro r g' Y⟨rfl,rfl,bk⟩;simp only[go_sem]
end Go.Proofs.YtfdbpgoicedpcaaGreatDoor
namespace Go.Proofs.YtfdbpgoicedpcaaGreatDoor.Low
open Go Go.Am Go.Asm Go.Mach
open Go.Src (bN aI qg wB jU Ae)
attribute[local congr]ite_cc
def LD(m:List Nat×Nat):xJ m=HR m:=rfl
variable{m:List Nat×Nat}{src:Asm.Str}{p:Src.Prog}
def Dh(U:z m.1<=16384)(Z:m.2<=32768)(a:∀w∈m.1,w<4294967296):kl (xJ m)=S m:=by rw[LD];exact CZ U Z a
def LF(m:List Nat×Nat):z (xJ m)=12+4*z m.1:=by unfold xJ;rw[j7,j7,lT,lT];rfl
theorem Af(h:Src.zZ src=(.ok p,0))(V:Src.ct p=T)(a:fN p=(m,0)):nV src=(xJ m,0,0):=by unfold nV nO;grind
theorem Gh(h:Src.zZ src=(.ok p,0))(V:Src.ct p=T)(a:szP p<=150):szP (nO src).1<=2000:=by unfold nO;grind
theorem QI{o:cM}(n:mL o)(A:Fg o)(x:Lq o)(p:Src.Prog)(hp:Src.InP p)(hn:qg p)(inp:Str):cn Tryz.prog 4 o 3 [cK p,sv inp] (·=bv T):=by
 refine hdG Tryz.func3 rfl [.tmp 4] λO bc s0 w0 g=>?_;have hL:=Uo (o:=o) p hp 40 a8;have a:=λU Z q=>Ur (o:=o) x A p U hn Z q;have j:=λU Z q y code d B=>Up (o:=o) (p:=p) (inp:=inp) (fu:=60) U a8 Z hn q y (code:=code) (d:=d) B;rw[cI]at hL a j|-;simp only[go_sem];refine dm rfl (by simp only[go_sem];exact Ty n) ?_;rintro _ rfl;simp only[go_sem];refine dm rfl abu ?_;rintro _⟨b,rfl,hb⟩;cases b;.exact gO
 obtain⟨t,az,hl⟩:=hb rfl;by_cases E:(30:Int)<(z inp:Int);.simp only[go_sem,E]
 simp only[go_sem,E];have V:=(Src.FA t).1;have G:=az;rw[oT]at az;have H:=Src.LB V hn a7;have f:z (jU p)<=18001:=(Src.refuse V hn a7 (k:=Src.tS [125]) (by simp[Src.Dg])).2;obtain⟨u,w⟩:=Src.YQ V hn a7;obtain⟨code,d,i,P,_⟩:=zI t hn a7 hl;have l:=qm p;rw[i]at l;simp only at l;have e:=sE n (src:=jU p) (Gh u V a7);have c:=sE n (src:=jU p++Ae) (Gh w V a7);rw[Af u V i]at e;rw[Af w V i]at c;unfold EP at e c;unfold Ae at c;have a:=a V a7 a7;have j:=j a7 t a7 hl code d i;have v:=zG (xJ (code,d)) (by rw[LF];grind);rw[Dh l.1 l.2 P]at v;unfold CO iX iC at v;unfold iX iC at j;refine dm rfl adu ?_;rintro _ rfl;simp only[go_sem];refine dm rfl (by simp only[go_sem];exact e) ?_;rintro _ rfl;simp only[go_sem];refine dm rfl adu ?_;rintro _ rfl;simp only[go_sem];refine⟨a7,?_⟩;refine dm rfl (by simp only[go_sem];exact c) ?_;rintro _ rfl;simp only[go_sem];refine kr rfl (by simp only[go_sem];exact v) ?_;rintro _ rfl;simp only[go_sem];refine dm rfl (by simp only[go_sem];exact j) ?_;rintro _ rfl;exact gO
end Go.Proofs.YtfdbpgoicedpcaaGreatDoor.Low
namespace Go.Proofs.YtfdbpgoicedpcaaGreatDoor
section
open Go Go.Am Go.ChangeShapes Go.WideShapes Go.ChangeAt Go.RowKit Go.Lib
def own:ownKnob Tryz.prog.godebug=N:=c8
def laidOut:laidOutB Tryz.prog=T:=j0
def xC:List (String×DataW Unit):=[("math/bits.deBruijn32tab",Rows.laid_math_bits_deBruijn32tab),("math/bits.deBruijn64tab",Rows.laid_math_bits_deBruijn64tab),("internal/strconv.uint64pow10",Rows.laid_internal_strconv_uint64pow10),("seedcorn/token.words",Rows.laid_seedcorn_token_words),("seedcorn/token.signs",Rows.laid_seedcorn_token_signs),("seedcorn/syntax.signs",Rows.laid_seedcorn_syntax_signs)]
def Qv:reachBytes=140737488351232:=c8
def u9:Tryz.prog.underlying 9=S .string:=b9
def u4:Tryz.prog.underlying 4=S .bool:=b9
def u3:Tryz.prog.underlying 3=S (.int .i64):=b9
def u64:Tryz.prog.underlying 64=S (.int .u32):=b9
def afF:Tryz.prog.underlying 107=S (.int .u64):=b9
def u5:Tryz.prog.underlying 5=S (.int .u8):=b9
def tys:List TypeId:=[3,4,5,9,22,23,24,26,46,64,65,67,108,110,199]
def uu:xM Tryz.prog tys=T:=j0
variable{P:Program}
def pb{H:Type}{enc:TypeId×Value->H}{w:World}{base:Nat}{sp:Nat->Bool}{B:Bool}{q:Nat}{t e:TypeId}{n:Nat}{cs:List Value}{m:List (List UInt8)}{p:List MemPlace}(f:P.underlying t=S (.array n e))(g:P.underlying e=S .string)(r:P.cellsOf e=1)(a:P.cellsOf t=n)(h:DataW.trod enc P w base sp B q t cs=S (DataW.agg (m.map λX=>.lit (.string X)),p)):∀(i:Nat)X,m[i]?=S X->cs[i]?=S (.string ⟨X.toArray⟩):=by cases q with|zero=>simp[DataW.trod]at h;|succ q=>
 simp only[DataW.trod,f,r,a,LK]at h;split at h
 .obtain⟨c,d,I⟩:=F0.1 h;have u:c.map (·.1)=m.map λX=>(DataW.lit (.string X):DataW H):=by have:=congrArg Prod.fst I;simpa using this
  have o:z c=n:=by simpa using mapM_length d
  have bc:z m=n:=by have:=congrArg z u;simp at this;omega
  intro i X j;have k:i<n:=by have:=(l9.1 j).1;omega
  obtain⟨b,l,v⟩:=mapM_at d i i (by simp[k]);obtain⟨s,x,rfl,_⟩:=DataW.trod_string g v;have U:cs[i]?=S (.string s):=by have:=congrArg (·[0]?) x;simpa[L3,P1]using this
  have Z:(c.map (·.1))[i]?=S (DataW.lit (.string s.data.toList):DataW H):=by simp[l]
  simp_all
 .cases h
theorem Qw{W w:World}{n:String}{g:Nat}(a:P.globalNamed n=S g)(b:w.heap[g]?=W.heap[g]?):w.var? P n=W.var? P n:=by unfold World.var?;grind
def LG{W:World}(h:laidMetH Tryz.prog xC W):∃o,tG 4 o W/\Fg o/\mL o/\Lq o:=by
 rw[MakeChecks.laidMetH_plain _ _ _ c8]at h;have j:TabIs Tryz.prog W "internal/strconv.uint64pow10" .u64 pow10Tab:=by obtain⟨g,t,x,q,p,k,l,f,hd⟩:=laidMet.reads h (n:= "internal/strconv.uint64pow10") (d:=Rows.laid_internal_strconv_uint64pow10) (by simp[xC]);obtain rfl:=F8 ((show Tryz.prog.globalNamed "internal/strconv.uint64pow10" =S 2 by kernel_rfl).symm.trans k);obtain rfl:=F8 ((show (Tryz.prog.globals[2]?).map (·.type)=S 289 by rfl).symm.trans l);have b2:=cells_of_tab (show Tryz.prog.underlying 289=S (.array 20 107) by simp) afF j0 j0 (show DataW.trod _ _ _ _ _ _ _ _ _=S (tabData .u64 pow10Tab,_)from hd);unfold TabIs;rw[f,<-b2]
 have a:∀(i:Nat)X,Uq[i]?=S X->W.cell? ⟨4,i,N⟩=S (.string ⟨X.toArray⟩):=by obtain⟨g,t,x,q,p,k,l,f,hd⟩:=laidMet.reads h (n:= "seedcorn/syntax.signs") (d:=Rows.laid_seedcorn_syntax_signs) (by simp[xC]);obtain rfl:=F8 ((show Tryz.prog.globalNamed "seedcorn/syntax.signs" =S 4 by kernel_rfl).symm.trans k);obtain rfl:=F8 ((show (Tryz.prog.globals[4]?).map (·.type)=S 316 by rfl).symm.trans l);intro i X s;have u:=pb (H:=Unit) (m:=Uq) (show Tryz.prog.underlying 316=S (.array 12 9) by simp) u9 j0 j0 hd i X s;rw[World.var?_cell k f i,<-G4];exact u
 have c:∀(i:Nat)X,Src.jw[i]?=S X->W.cell? ⟨3,i,N⟩=S (.string ⟨X.toArray⟩):=by obtain⟨g,t,x,q,p,k,l,f,hd⟩:=laidMet.reads h (n:= "seedcorn/token.words") (d:=Rows.laid_seedcorn_token_words) (by simp[xC]);obtain rfl:=F8 ((show Tryz.prog.globalNamed "seedcorn/token.words" =S 3 by kernel_rfl).symm.trans k);obtain rfl:=F8 ((show (Tryz.prog.globals[3]?).map (·.type)=S 314 by rfl).symm.trans l);intro i X s;have u:=pb (H:=Unit) (m:=Src.jw) (show Tryz.prog.underlying 314=S (.array 10 9) by simp) u9 j0 j0 hd i X s;rw[World.var?_cell k f i,<-G4];exact u
 have e:∀(i:Nat)X,Src.ug[i]?=S X->W.cell? ⟨0,i,N⟩=S (.string ⟨X.toArray⟩):=by obtain⟨g,t,x,q,p,k,l,f,hd⟩:=laidMet.reads h (n:= "seedcorn/token.signs") (d:=Rows.laid_seedcorn_token_signs) (by simp[xC]);obtain rfl:=F8 ((show Tryz.prog.globalNamed "seedcorn/token.signs" =S 0 by kernel_rfl).symm.trans k);obtain rfl:=F8 ((show (Tryz.prog.globals[0]?).map (·.type)=S 283 by rfl).symm.trans l);intro i X s;have u:=pb (H:=Unit) (m:=Src.ug) (show Tryz.prog.underlying 283=S (.array 24 9) by simp) u9 j0 j0 hd i X s;rw[World.var?_cell k f i,<-G4];exact u
 have y:=a 0 _ rfl;have A:4<W.heap.size:=by refine Nat.lt_of_not_le λbl=>?_;simp[World.cell?,P9 bl]at y
 refine⟨λb=>W.heap[b]?,⟨A,λ_ _=>rfl⟩,λw r=>?_,λw r=>⟨λi t v=>?_,λi t v=>?_⟩,λw r i t v=>?_⟩;.unfold TabIs;rw[Qw (show Tryz.prog.globalNamed "internal/strconv.uint64pow10" =S 2 by kernel_rfl) (r.2 2 a8)];exact j
 .rw[<-c i t v];unfold World.cell?;rw[show w.heap[3]?=W.heap[3]?from r.2 3 a8]
 .rw[<-e i t v];unfold World.cell?;rw[show w.heap[0]?=W.heap[0]?from r.2 0 a8]
 .rw[<-a i t v];unfold World.cell?;rw[show w.heap[4]?=W.heap[4]?from r.2 4 a8]
end
section
open Go Go.Am Go.Asm
open Go.Src (Ex Stm inE uZ inS ua)
def YT{v:Value}{cs}{n}(h:v.cells.toList=cs)(hl:z cs=n+2):v=.agg cs.toArray:=by subst h;cases v with|agg vs=>rfl;|_=>grind[Value.cells]
def u49:Tryz.prog.underlying 108=S (.slice 199):=b9
def u51:Tryz.prog.underlying 199=S (Tt 199).desc:=j0
def u52:Tryz.prog.underlying 65=S (.slice 110):=b9
def u54:Tryz.prog.underlying 110=S (Tt 110).desc:=j0
def u22:Tryz.prog.underlying 22=S (.slice 9):=b9
def u23:Tryz.prog.underlying 23=S (.slice 46):=b9
def u65:Tryz.prog.underlying 46=S (Tt 46).desc:=j0
def u24:Tryz.prog.underlying 24=S (.slice 67):=b9
def u56:Tryz.prog.underlying 67=S (Tt 67).desc:=j0
def u26:Tryz.prog.underlying 26=S (Tt 26).desc:=j0
def Ag{n b}(h:n*b<=reachBytes)(a:Nat.ble 1 b=T):n<=1000000000000000000:=by have Z:n<=n*b:=T9 _ (H5 a);rw[Qv]at h;omega
def JS:∀{l},(∀e∈l,inE e/\Src.rB e)->uZ l/\Src.oB l|[],_=>⟨trivial,trivial⟩|e::l,h=>by have U:=h e b9;have Z:=JS (l:=l) λx I=>h x aby;exact⟨⟨U.1,Z.1⟩,U.2,Z.2⟩
def JT:∀{l},(∀e∈l,inS e/\Src.wb e)->ua l/\Src.mj l|[],_=>⟨trivial,trivial⟩|e::l,h=>by have U:=h e b9;have Z:=JT (l:=l) λx I=>h x aby;exact⟨⟨U.1,Z.1⟩,U.2,Z.2⟩
def YU{m}(h:(Lit.int .u32 m).wf=T):0<=m/\m<4294967296:=by simp only[Lit.wf,l6,v8]at h;have a:IntKind.u32.min=0:=rfl;have b:IntKind.u32.max=4294967295:=rfl;omega
def five{H:Type}{l:List H}(h:z l=5):∃a b c d e,l=[a,b,c,d,e]:=by match l,h with|[a,b,c,d,e],_=>simp
variable{ds:List D}
def YV{t}(h:iT Tryz.prog t ds):(t=199->∃e,ds=exD e/\inE e/\Src.rB e)/\(t=108->∃l,ds=[.sl (l.map exD)]/\z l<=1000000000000000000/\uZ l/\Src.oB l):=by induction h with|bool hu=>exact⟨λe=>abb,λe=>abb⟩;|int hu=>exact⟨λe=>abb,λe=>abb⟩;|str hu=>exact⟨λe=>abb,λe=>abb⟩;|array hu=>exact⟨λe=>abb,λe=>abb⟩;|sl hu es hl h g=>refine⟨λe=>abb,λe=>?_⟩;subst e;rw[u49]at hu;cases hu;obtain⟨l,rfl,i⟩:=sq λx I=>(g x I).1 rfl;rw[j6]at hl;obtain⟨a,b⟩:=JS i;exact⟨l,rfl,Ag hl j0,a,b⟩;|struct hu parts hl h g=>refine⟨λe=>?_,λe=>abb⟩;subst e;rw[u51]at hu;cases hu;obtain⟨a,b,c,d,e,rfl⟩:=five hl;obtain⟨j,rfl,_⟩:=(h 0 _ a rfl rfl).inv_int u3;obtain⟨k,rfl,_⟩:=(h 1 _ b rfl rfl).inv_int u3;obtain⟨m,rfl,n⟩:=(h 2 _ c rfl rfl).inv_int u64;obtain⟨o,rfl,_⟩:=(h 3 _ d rfl rfl).inv_str u9;obtain⟨l,rfl,U,Z,p⟩:=(g 4 _ e rfl rfl).2 rfl;exact⟨.mk j k m o l,by simp[exD,aL],⟨U,Z⟩,YU n,p⟩
def YW{t}(h:iT Tryz.prog t ds):(t=110->∃e,ds=smD e/\inS e/\Src.wb e)/\(t=65->∃l,ds=[.sl (l.map smD)]/\z l<=1000000000000000000/\ua l/\Src.mj l):=by induction h with|bool hu=>exact⟨λe=>abb,λe=>abb⟩;|int hu=>exact⟨λe=>abb,λe=>abb⟩;|str hu=>exact⟨λe=>abb,λe=>abb⟩;|array hu=>exact⟨λe=>abb,λe=>abb⟩;|sl hu es hl h g=>refine⟨λe=>abb,λe=>?_⟩;subst e;rw[u52]at hu;cases hu;obtain⟨l,rfl,i⟩:=sq λx I=>(g x I).1 rfl;rw[j6]at hl;obtain⟨a,b⟩:=JT i;exact⟨l,rfl,Ag hl j0,a,b⟩;|struct hu parts hl h g=>refine⟨λe=>?_,λe=>abb⟩;subst e;rw[u54]at hu;cases hu;obtain⟨a,b,c,d,e,rfl⟩:=five hl;obtain⟨j,rfl,_⟩:=(h 0 _ a rfl rfl).inv_int u3;obtain⟨k,rfl,_⟩:=(h 1 _ b rfl rfl).inv_str u9;obtain⟨l,rfl,U,Z,m⟩:=(YV (h 2 _ c rfl rfl)).2 rfl;obtain⟨l1,rfl,n,o,g3⟩:=(g 3 _ d rfl rfl).2 rfl;obtain⟨l2,rfl,p,q,r⟩:=(g 4 _ e rfl rfl).2 rfl;exact⟨.mk j k l l1 l2,by simp[smD,aL,dy],⟨⟨U,Z⟩,⟨n,o⟩,p,q⟩,m,g3,r⟩
def Ah(h:iT Tryz.prog 22 ds):∃l:List Str,ds=[.sl (l.map λs=>[.str s])]/\z l<=1000000000000000000:=by
 obtain⟨b,rfl,hl,a⟩:=h.inv_sl u22;obtain⟨l,rfl,_⟩:=sq (f:=λs:Str=>[D.str s]) (Q:=λ_=>True) λx I=>by obtain⟨s,rfl,_⟩:=(a x I).inv_str u9;simp
 rw[j6]at hl;exact⟨l,rfl,Ag hl j0⟩
def afG(f:Src.Fn):Prop:=((z f.p<=1000000000000000000/\z f.l<=1000000000000000000)/\z f.body<=1000000000000000000/\ua f.body)/\Src.mj f.body
def YX(h:iT Tryz.prog 67 ds):∃f,ds=fnD f/\afG f:=by obtain⟨o,rfl,hl,g⟩:=h.inv_struct u56;obtain⟨a,b,c,d,e,rfl⟩:=five hl;obtain⟨i,rfl,_⟩:=(g 0 _ a rfl rfl).inv_str u9;obtain⟨l1,rfl,U⟩:=Ah (g 1 _ b rfl rfl);obtain⟨l2,rfl,Z⟩:=Ah (g 2 _ c rfl rfl);obtain⟨w,rfl⟩:=(g 3 _ d rfl rfl).inv_bool u4;obtain⟨m,rfl,j,k,l⟩:=(YW (g 4 _ e rfl rfl)).2 rfl;exact⟨⟨i,l1,l2,w,m⟩,rfl,⟨⟨U,Z⟩,j,k⟩,l⟩
def YY(h:iT Tryz.prog 46 ds):∃a,ds=arD a/\True:=by
 obtain⟨o,rfl,hl,c⟩:=h.inv_struct u65;obtain⟨a,b,rfl⟩:∃a b,o=[a,b]:=by match o,hl with|[a,b],_=>simp
 obtain⟨d,rfl,_⟩:=(c 0 _ a rfl rfl).inv_str u9;obtain⟨e,rfl,_⟩:=(c 1 _ b rfl rfl).inv_int u3;exact⟨(d,e),rfl,trivial⟩
def Qx(h:iT Tryz.prog 26 ds):∃p,ds=kG p/\Src.InP p/\Src.qg p:=by
 obtain⟨o,rfl,hl,g⟩:=h.inv_struct u26;obtain⟨a,b,c,rfl⟩:∃a b c,o=[a,b,c]:=by match o,hl with|[a,b,c],_=>simp
 obtain⟨l1,rfl,U⟩:=Ah (g 0 _ a rfl rfl);obtain⟨n,rfl,j,d⟩:=(show iT Tryz.prog 23 b from g 1 _ b rfl rfl).inv_sl u23;obtain⟨q,rfl,k,e⟩:=(show iT Tryz.prog 24 c from g 2 _ c rfl rfl).inv_sl u24;obtain⟨l2,rfl,_⟩:=sq λx I=>YY (d x I);obtain⟨m,rfl,l⟩:=sq λx I=>YX (e x I);rw[j6]at j k;exact⟨⟨l1,l2,m⟩,rfl,⟨U,Ag j j0,Ag k j0,λf i=>(l f i).1⟩,λf i=>(l f i).2⟩
end
open Go Go.Am
def afH:List FuncId:=[3,4,6,16,42,43,73,118,74,75,119,72,76,77,120,190,223,224,238,240,239,241,225,226,41,70,114,183,115,116,117,184,185,186,187,189,188,191,71,44,78,79,121,80,122,192,123,193,17,12,30,54,90,137,207,138,208,140,141,139,209,210,91,142,211,212,217,235,213,214,215,143,216,144,55,56,92,93,31,32,34,60,99,173,219,220,236,174,221,237,100,33,57,94,145,146,147,148,218,149,58,95,150,151,96,152,153,154,155,156,157,158,159,160,161,162,163,164,165,166,167,168,97,169,59,98,170,171,172,18,19,45,46,8,25,11,10,29,28,53,88,132,203,230,231,232,89,133,134,135,136,204,233,234,205,206,5,13,35,36,61,14,37,62,63,101,102,175,177,176,178,64,103,179,222,38,65,105,104,180,106,107,181,108,66,39,67,109,110,68,111,182,112,15,40,69,113,7,20,47,48,81,124,21,49,82,125,24,22,50,83,126,127,195,194,196,128,129,197,198,227,228,23,51,84,85,130,199,86,9,26,52,87,131,200,202,201,229,27]
def clo:Tryz.prog.closure 3=afH:=j0
def Qy:Tryz.prog.unfollowed 3=T:=by unfold Program.unfollowed;rw[clo];kernel_rfl
def ada:Tryz.prog.recurses 3=T:=by unfold Program.recurses;rw[Qy];rfl
def adb:(Rows.stackcTextsRow.inPlace==Tryz.prog.inPlace 3)=T:=by unfold Program.inPlace;rw[clo];kernel_rfl
def ade:(Rows.stackcTextsRow.named==Tryz.prog.varsNamed 3)=T:=by unfold Program.varsNamed;rw[clo];kernel_rfl
def YZ:Tryz.prog.goes 3=F:=by unfold Program.goes;rw[clo,Qy];kernel_rfl
def UH:joinedFacts Tryz.prog 3 Tryz.f3 Rows.stackcTextsSpec Rows.stackcTextsRow=T:=by unfold joinedFacts;rw[adb,ade,Qy,ada];kernel_rfl
def Qz:F=Rows.stackcTextsRow.goesBy Tryz.prog:=by unfold OpenClaim.goesBy Program.goesAt Program.goesFrom;rw[show Tryz.prog.funcNamed Rows.stackcTextsRow.func=S 3 by kernel_rfl];simp only[Option.any_some,YZ,Bool.false_or];rfl
end Go.Proofs.YtfdbpgoicedpcaaGreatDoor

