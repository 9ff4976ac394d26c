/- A part; no conditions. -/
import Derived.Test.YtfdbpgoicedpcaaGreatDoorPart12
set_option linter.all false
open List renaming length -> z
open Option renaming some -> S, none -> N
open Bool renaming true -> T, false -> F
set_option maxHeartbeats 64000000
set_option maxRecDepth 100000
namespace Go.Emit
section
open Go.Lower (Ins Code Sig codeOf takes next Inv left Good OkI iZ)
section
variable{ps:Sig}{word:Bool}
def vS{x}{r}(h:takes ps word x=S r):x.op=1\/x.op=2\/x.op=3\/x.op=4\/x.op=5\/x.op=6\/x.op=7\/x.op=8\/x.op=9\/x.op=10\/x.op=11\/x.op=12\/x.op=13:=by grind[takes]
def MR{x}{t p}(h:takes ps word x=S (t,p)):0<=p/\p<=1:=by
 rcases vS h with U|U|U|U|U|U|U|U|U|U|U|U|U;all_goals try (obtain⟨rfl,rfl⟩:_=t/\_=p:=by simpa[takes,U]using h)
 all_goals try (exact⟨by decide,by decide⟩)
 .simp only[takes,U]at h;grind
 grind[takes]
structure yR (G:Nat->Option Int) (A:Lower.Code) (out:List Int) (c:List Nat):Prop where
 inv:Inv G A.length out c
 le:∀v∈out,v+left out<=A.length
 clo:∀(k:Nat)(v:Int),out[k]?=some v->0<=v->k∈c\/∀x d,A[k]?=some (x,d)->∀y∈next x k,∃u,out[y.toNat]?=some u/\0<=u
def yR.find{G}{A}{k}{out}{c}{b v d}(h:yR G A out c)(hT:G k=S b)(g:0<=b)(f:out[k]?=S v)(l:v<0)(hd:b<=d+1)(o:d+left out<=z A):yR G A (out.set k b) (c++[k])/\left (out.set k b)+z (c++[k])=left out+z c/\d+left (out.set k b)<=z A:=by
 obtain⟨U,Z⟩:=h.inv.find hT g f l;have p:=Lower.oV f l g;have r:=(l9.1 f).1;refine⟨⟨U,λu L=>?_,λj u m L=>?_⟩,Z,a7⟩
 .rcases J1 L with L|rfl;.have:=h.le u L;omega
  .omega
 .have a:∀(i:Nat)(u:Int),out[i]?=S u->0<=u->∃n,(out.set k b)[i]?=S n/\0<=n:=λi u s L=>by grind
  by_cases e:k=j;.grind
  .rw[E3,l4 e]at m;rcases h.clo j u m L with q|q;.grind
   grind
def vT{G}{A}(hT:∀k,G k=(A[k]?).map Prod.snd){v}:∀l out c,yR G A out c->(∀y∈l,∃(k:Nat)(V:Int),y=(k:Int)/\G k=S V/\0<=V/\V<=v+1)->v+left out<=z A->yR G A (visit A l (out,c)).1 (visit A l (out,c)).2/\left (visit A l (out,c)).1+z (visit A l (out,c)).2=left out+z c/\(∀(i:Nat) u,out[i]?=S u->0<=u->(visit A l (out,c)).1[i]?=S u)/\(∀y∈l,∃u,(visit A l (out,c)).1[y.toNat]?=S u/\0<=u)/\(∀k∈c,k∈(visit A l (out,c)).2)
 |[],out,c,h,_,_=>⟨h,rfl,λ_ _ q _=>q,λ_ q=>(by cases q),λ_ q=>q⟩|y::l,out,c,h,hl,b=>by
  obtain⟨k,V,rfl,e,f,U⟩:=hl y b9;have g:k<z out:=by
   rw[h.inv.1];rw[hT]at e;rcases U4 k (z A)with q|q;.exact q
   .grind
  obtain⟨u,L⟩:∃u,out[k]?=S u:=⟨_,x9 g⟩;have m:∀y∈l,∃(k:Nat)(V:Int),y=(k:Int)/\G k=S V/\0<=V/\V<=v+1:=λy j=>hl y (by simp[j]);by_cases a:u<0;.obtain⟨n,x,o⟩:=h.find e f L a U b;rw[yN (u:=u) (d:=V) ZN a ZN,C0];obtain⟨p,r,s,t,w⟩:=vT hT l (out.set k V) (c++[k]) n m o;grind
  .rw[yO (u:=u) ZN a];obtain⟨p,r,s,t,w⟩:=vT hT l out c h m b;grind
def Cm{H:Type}(l:List H):l=[]\/∃b a,l=b++[a]:=by
 by_cases h:l=[];.grind
 .exact .inr ⟨l.dropLast,l.getLast h,(M7 h).symm⟩
def yS{ps}{word}{G}{A}(hT:∀k,G k=(A[k]?).map Prod.snd)(hg:Lower.Good ps word G 0 A):∀m out c,m=left out+z c->yR G A out c->yR G A (search A m (out,c)) []/\∀(i:Nat) u,out[i]?=S u->0<=u->(search A m (out,c))[i]?=S u
 |0,out,c,hm,h=>by obtain rfl:c=[]:=v7 a7;exact⟨h,λ_ _ q _=>q⟩;|m+1,out,c,hm,h=>by
  rcases Cm c with rfl|⟨c,a,rfl⟩;.rw[GR];grind
  .obtain⟨v,E,H,bl⟩:=h.inv.2.2 a b9;have B:=H;rw[hT]at B;obtain⟨⟨x,s⟩,I,K⟩:=F0.1 B;obtain rfl:s=v:=K;obtain⟨t,p,b2,ad,Y,dk,bc⟩:=(by have:=iZ hg I;grind:OkI ps word G a x s);have hp:=MR b2;rw[DV A m out c a I];have O:∀y∈next x a,∃(k:Nat)(V:Int),y=(k:Int)/\G k=S V/\0<=V/\V<=s+1:=λy hy=>by grind
   obtain⟨o,q2,Q,U,q5⟩:=vT hT (next x a) out (c++[a]) h O (h.le s (l8 E));have d:∀(l:List Int)(out:List Int)(t0 r:List Nat),(visit A l (out,t0++r)).1=(visit A l (out,r)).1/\(visit A l (out,t0++r)).2=t0++(visit A l (out,r)).2:=by intro l;induction l with|nil=>intro out t0 r;exact⟨rfl,rfl⟩;|cons y l ih=>intro out t0 r;simp only[visit];grind
   have w:=d (next x a) out c [];have e:=d (next x a) out (c++[a]) [];rw[u7]at w e;rw[e.1,e.2]at o q2;rw[e.1]at Q U;rw[show visit A (next (x,s).fst a) (out,c)=((visit A (next x a) (out,[])).1,c++(visit A (next x a) (out,[])).2)from Prod.ext w.1 w.2];have J:yR G A (visit A (next x a) (out,[])).1 (c++(visit A (next x a) (out,[])).2):=by
    refine⟨⟨o.inv.1,o.inv.2.1,λb hb=>o.inv.2.2 b ZN⟩,o.le,λk u W L=>?_⟩;rcases o.clo k u W L with X|X;.grind
    .grind
   obtain⟨r1,r2⟩:=yS hT hg m _ _ ZN J;grind
def mW{G}{A}(hT:∀k,G k=(A[k]?).map Prod.snd)(f:G 0=S 0)(hg:Lower.Good ps word G 0 A):yR G A (bX A) []/\(bX A)[0]?=S 0:=by
 have g:0<z A:=by cases i:A with|nil=>grind;|cons=>simp
 obtain⟨m,b⟩:∃m,z A=m+1:=⟨z A-1,a7⟩;have hl:left ((List.replicate (z A) (-1)).set 0 0)+z [0]=z A:=by rw[b,J9,L1];unfold left;rw[T8,UU];simp
 have J:yR G A ((List.replicate (z A) (-1)).set 0 0) [0]:=by
  have bl:left ((List.replicate (z A) (-1)).set 0 0)<=z A:=a7;refine⟨⟨b9,λk v h=>?_,λa j=>?_⟩,λv c=>?_,λk v h c=>?_⟩;.grind
  .grind
  .grind
  .grind
 obtain⟨d,e⟩:=yS hT hg (z A) _ _ hl.symm J;exact⟨d,e 0 0 ZN (C7 _)⟩
end
section
def Fits(L M:Nat)(Q:Int×Int->Prop)(w:Nat->Wr):Prop:=∀n,z (w n).code<=L/\z (w n).holes<=M/\∀h∈(w n).holes,(n:Int)<=h.1/\h.1<(n:Int)+z (w n).code/\Q h.2
variable{P:Plan}{f:Nat}{fs:List Src.CFn}{d r b:Int}{L a M o:Nat}{Q:Int×Int->Prop}{v w:Nat->Wr}
def Fits.mono(h:Fits L M Q w)(c:L<=a)(j:M<=o):Fits a o Q w:=λn=>⟨C4 (h n).1 c,C4 (h n).2.1 j,(h n).2.2⟩
def jZ:Fits 0 0 Q gg:=λ_=>⟨l7 _,l7 _,λ_ h=>by cases h⟩
def dv{a b c d}:Fits 1 0 Q (aE a b c d):=λ_=>⟨l7 _,l7 _,λ_ h=>by cases h⟩
def sx{a b f pl}(hq:Q (f,pl)):Fits 1 1 Q (aJ a b f pl):=λn=>⟨l7 _,l7 _,λh hh=>by
 obtain rfl:h=((n:Int),f,pl):=by grind[aJ]
 exact⟨C7 _,by grind[aJ],hq⟩⟩
def Fits.seq(c:Fits L M Q v)(e:Fits a o Q w):Fits (L+a) (M+o) Q (aD v w):=λn=>by obtain⟨i,j,k⟩:=c n;obtain⟨l,b2,A⟩:=e (n+z (v n).code);refine⟨by simp only[aD,j7];omega,by simp only[aD,j7];omega,λh g=>?_⟩;simp only[aD,C6,j7]at g|-;grind
def iB:Fits 1 0 Q (eN P f d r b):=dv
def kv:Fits 1 0 Q (ey P f d r b):=dv
def DZ{r n}:Fits 2 0 Q (lY r n):=by
 unfold lY;split;.exact dv.seq dv
 .exact dv.mono a8 a8
def GU{d}:Fits 3 0 Q (mJ fs P f d):=by
 unfold mJ;split;.exact dv.mono a8 a8
 .simp only;split;.exact iB.seq (dv.seq dv)
  .exact(dv.seq dv).mono a8 a8
def yT{a}:∀k,Fits k 0 Q (kU a k)|0=>jZ|k+1=>(yT k).seq dv
def GV{a b}:Fits 6 0 Q (ku a b):=by
 by_cases h:b-a<=6;.have e:ku a b=kU a (b-a).toNat:=s5 h;rw[e];exact(yT _).mono a7 a8
 .have e:ku a b=λn=>⟨[(1,1,0,a),(1,2,0,b),(17,0,1,0),(4,1,1,15),(14,3,1,2),(20,3,0,(n:Int)+2)],[]⟩:=l4 h;rw[e];exactλn=>⟨l7 _,l7 _,λ_ h=>by cases h⟩
def vV{P}{f}{d p i}:∀k,Fits (2*k) 0 Q (nM P f d p i k)|0=>jZ|k+1=>((vV k).seq (iB.seq dv)).mono a7 a8
def Ky{d a}{ar}(c:∀y,fs[a.toNat]?=S y->y.p.toNat<=ar/\Q (a,-1)):Fits (2*ar+2) 1 Q (xl fs P f d a):=by unfold xl;cases e:fs[a.toNat]?with|none=>exact jZ.mono a7 a8;|some y=>
 obtain⟨U,Z⟩:=c y e;simp only;split;.exact((vV _).seq ((sx Z).seq kv)).mono a7 a8
 .exact((vV _).seq ((sx Z).seq jZ)).mono a7 a8
def MS{d}{x}{ar}(s:x.op=10->∀y,fs[x.a.toNat]?=S y->y.p.toNat<=ar/\Q (x.a,-1))(k:x.op=8\/x.op=9->Q (f,x.a)):Fits (2*ar+5) 1 Q (mK fs P f d x):=by
 by_cases U:x.op=1;.rw[show mK fs P f d x=_ from s5 U];exact(DZ.seq kv).mono a7 a8
 by_cases Z:x.op=2;.rw[show mK fs P f d x=_ from(l4 U).trans (s5 Z)];exact(dv.seq kv).mono a7 a8
 by_cases c:x.op=3;.rw[show mK fs P f d x=_ from(l4 U).trans ((l4 Z).trans (s5 c))];exact(iB.seq dv).mono a7 a8
 by_cases e:x.op=4;.rw[show mK fs P f d x=_ from(l4 U).trans ((l4 Z).trans ((l4 c).trans (s5 e)))];exact(iB.seq (dv.seq (dv.seq kv))).mono a7 a8
 by_cases g:x.op=5;.rw[show mK fs P f d x=_ from(l4 U).trans ((l4 Z).trans ((l4 c).trans ((l4 e).trans (s5 g))))];exact(iB.seq (dv.seq (iB.seq dv))).mono a7 a8
 by_cases i:x.op=6;.rw[show mK fs P f d x=_ from(l4 U).trans ((l4 Z).trans ((l4 c).trans ((l4 e).trans ((l4 g).trans (s5 i)))))];exact(iB.seq (iB.seq (dv.seq kv))).mono a7 a8
 by_cases l:x.op=7;.rw[show mK fs P f d x=_ from(l4 U).trans ((l4 Z).trans ((l4 c).trans ((l4 e).trans ((l4 g).trans ((l4 i).trans (s5 l))))))];exact(iB.seq (dv.seq kv)).mono a7 a8
 have u:mK fs P f d x=if x.op=8 then aJ 18 0 f x.a else if x.op=9 then aD (eN P f d 1 1) (aJ 19 1 f x.a)else if x.op=10 then xl fs P f d x.a else if x.op=11 then mJ fs P f d else if x.op=12 then aD (aE 23 1 0 0) (ey P f d 1 0)else if x.op=13 then aD (eN P f d 1 1) (aE 24 1 0 0)else gg:=(l4 U).trans ((l4 Z).trans ((l4 c).trans ((l4 e).trans ((l4 g).trans ((l4 i).trans (l4 l))))));rw[u];by_cases j:x.op=8;.rw[s5 j];exact(sx (k (.inl j))).mono a7 a8
 rw[l4 j];by_cases m:x.op=9;.rw[s5 m];exact(iB.seq (sx (k (.inr m)))).mono a7 a8
 rw[l4 m];by_cases w:x.op=10;.rw[s5 w];exact(Ky (s w)).mono a7 a8
 rw[l4 w];by_cases H:x.op=11;.rw[s5 H];exact GU.mono a7 a8
 rw[l4 H];by_cases q:x.op=12;.rw[s5 q];exact(dv.seq kv).mono a7 a8
 rw[l4 q];by_cases o:x.op=13;.rw[s5 o];exact(iB.seq dv).mono a7 a8
 rw[l4 o];exact jZ.mono a7 a8
def Kz:Fits 7 0 Q (lz fs P f):=by
 unfold lz;split;.exact jZ.mono a8 a8
 .cases fs[f]?with|none=>exact jZ.mono a8 a8;|some y=>exact(dv.seq GV).mono a8 a8
def Ba{fs}{P}{f:Nat}{A}{ds}{ar}(h:∀x∈A,(x.1.op=10->∀y,fs[x.1.a.toNat]?=S y->y.p.toNat<=ar/\Q (x.1.a,-1))/\(x.1.op=8\/x.1.op=9->Q (f,x.1.a))):∀k,Fits (7+k*(2*ar+5)) k Q (iw fs P f A ds k)|0=>Kz.mono a7 a7|k+1=>by have c:=Ba (P:=P) (ds:=ds) h k;rw[iw];cases I:A[k]?with|none=>exact(c.seq jZ).mono ZN a7;|some x=>cases hd:ds[k]?with|none=>exact(c.seq jZ).mono ZN a7;|some d=>
 simp only;obtain⟨U,Z⟩:=h x (l8 I);split;.exact(c.seq (MS U Z)).mono ZN a7
 .exact(c.seq jZ).mono ZN a7
end
def cT(x:Src.CFn):Lower.Code:=codeOf x.word x.body
def szF(fs:List Src.CFn)(ar f:Nat):Nat:=match fs[f]? with|some x=>7+z (cT x)*(2*ar+5)|none=>0
def vW(fs:List Src.CFn)(ar:Nat):Nat->Nat|0=>0|k+1=>vW fs ar k+szF fs ar k
def KA fs ar{a b}(h:a<=b):vW fs ar a<=vW fs ar b:=by induction h with|refl=>simp;|step _ c=>exact C4 c (L0 _ _)
def Cn fs ar:∀k,k<=z fs->vW fs ar k<=7*k+((fs.take k).map λx=>z (cT x)).sum*(2*ar+5)|0,_=>by simp[vW];|k+1,h=>by have b:=Cn fs ar k a7;have a:fs[k]?=S (fs[k]'a7):=x9 a7;rw[vW,C1,a];simp only[szF,a,Option.toList,C2,O8,s7,x7,H2,UL,J6,J3];omega
def Vm(fs:List Src.CFn)(q:Int×Int):Prop:=(0<=q.1/\q.1<(z fs:Int))/\(0<=q.2->∃x,fs[q.1.toNat]?=S x/\q.2<(z (cT x):Int))
structure uP (fs:List Src.CFn) (P:Plan) (ar:Nat):Prop where
 n:0<fs.length
 dl:P.depths.length=fs.length
 c:∀x∈fs,∀y∈cT x,y.1.op=10->∃(k:Nat)(X:Src.CFn),y.1.a=(k:Int)/\fs[k]?=some X
 j:∀x∈fs,∀y∈cT x,y.1.op=8\/y.1.op=9->0<=y.1.a/\y.1.a<((cT x).length:Int)p:∀x∈fs,x.p.toNat<=ar
variable{fs:List Src.CFn}{P:Plan}{x:Src.CFn}
def uP.fits{ar}(h:uP fs P ar){f}(I:fs[f]?=S x) ds k:Fits (7+k*(2*ar+5)) k (Vm fs) (iw fs P f (cT x) ds k):=by
 have b:=l8 I;have l:=(l9.1 I).1;refine Ba (λy d=>⟨λw X e=>?_,λr=>?_⟩) k;.obtain⟨c,a,m,g⟩:=h.c x b y d w;have:=(l9.1 g).1;exact⟨h.p X (l8 e),⟨a7,λn=>by omega⟩⟩
 .obtain⟨o,i⟩:=h.j x b y d r;exact⟨⟨b9,a7⟩,λ_=>⟨x,by grind,i⟩⟩
structure rA (fs:List Src.CFn) (d:jE) (done:Nat->Prop) (al:Nat):Prop where
 c:d.code.length<=al
 hl:d.holes.length<=al
 h:∀x∈d.holes,0<=x.1/\x.1<(d.code.length:Int)/\Vm fs x.2
 pl:d.pls.length=fs.length
 el:d.ent.length=fs.length
 p:∀f,done f->∃x l,fs[f]?=some x/\d.pls[f]?=some l/\l.length=(cT x).length
def nr{d}{f}{ds}(I:fs[f]?=S x)(hd:P.depths[f]?=S ds):fE fs P d f=⟨d.code++(iw fs P f (cT x) ds (z (cT x)) (z d.code)).code,d.holes++(iw fs P f (cT x) ds (z (cT x)) (z d.code)).holes,d.ent.set f (z d.code),d.pls.set f (placesOf fs P f (cT x) ds (z d.code))⟩:=by unfold fE;rw[I,hd];rfl
def rA.add{ar}(H:uP fs P ar){d}{done}{al f}(h:rA fs d done al)(g:f<z fs):rA fs (fE fs P d f) (λi=>done i\/i=f) (al+szF fs ar f):=by
 obtain⟨x,I⟩:∃x,fs[f]?=S x:=⟨_,x9 g⟩;obtain⟨ds,hd⟩:∃ds,P.depths[f]?=S ds:=⟨_,x9 (by grind[H.dl])⟩;obtain⟨f1,k,f3⟩:=H.fits I ds (z (cT x)) (z d.code);have az:szF fs ar f=7+z (cT x)*(2*ar+5):=by unfold szF;rw[I]
 rw[nr I hd,az];refine⟨?_,?_,λy b=>?_,?_,?_,λi j=>?_⟩;.simp only[j7];grind[h.c]
 .simp only[j7];grind[h.hl]
 .simp only[C6,j7]at b|-;rcases b with b|b;.obtain⟨n,o,q⟩:=h.h y b;grind
  grind
 .simp_all[h.pl]
 .simp_all[h.el]
 .simp only;by_cases e:i=f;.simp_all[h.pl,placesOf]
  .obtain⟨a,l,r,s,t⟩:=h.p i (j.resolve_right e);grind
def xR{fs}{P}{ar}(H:uP fs P ar):∀k,k<=z fs-1->rA fs (sR fs P k) (λi=>i<k\/i=z fs-1) (1+szF fs ar (z fs-1)+vW fs ar k)|0,_=>by have e:=H.n;have d:rA fs ⟨[(1,15,0,1)],[],List.replicate (z fs) 0,List.replicate (z fs) []⟩ (λ_=>False) 1:=⟨b9,b9,abc,b9,b9,(λ_ h=>False.elim h)⟩;have U:=d.add H (f:=z fs-1) a7;refine⟨U.c,U.hl,U.h,U.pl,U.el,λi b=>U.p i (.inr (b.resolve_left a7))⟩;|k+1,g=>by have a:=(xR H k a7).add H (f:=k) a7;refine⟨by have:=a.c;rw[vW];exact C4 this a7,by have:=a.hl;rw[vW];exact C4 this a7,a.h,a.pl,a.el,λi b=>a.p i ?_⟩;omega
def KB fs ar{k}(c:0<z fs)(a:k<=z fs-1):szF fs ar (z fs-1)+vW fs ar k<=vW fs ar (z fs):=by obtain⟨m,b⟩:∃m,z fs=m+1:=⟨z fs-1,a7⟩;have U:=KA fs ar a;grind[vW]
end
section
open Go.Lower (Ins Code Sig codeOf takes next Inv left Good OkI iZ)
open Go.Src (ab eF qz nY BB ay sigs bN ct sW aI CFn)
def vX n:∀l k w,(∀o∈l,0<=deepest o 0)->w<=(fe n k l w).2.2/\∀x∈(fe n k l w).2.1,w<=x/\x<=(fe n k l w).2.2|[],k,w,_=>⟨C7 _,λ_ h=>by cases h⟩|o::l,k,w,h=>by have a:=h o b9;simp only[fe];have b:=vX n l (k+1) ((if k+1=n then w else w+1)+deepest o 0) (λo ho=>h o abh);grind
def jr:∀l d,d<=deepest l d|[],d=>C7 _|a::l,d=>by rw[uO];have:=jr l (max d a);omega
def Vn:∀l m w,w<=(Src.gV l m w).2|[],m,w=>C7 _|n::l,m,w=>by rw[Src.gV];have:=Vn l ((n,w,0)::m) (w+1);omega
def Vo:∀l m w,(∀a∈l,0<=a.2)->w<=(Src.gA l m w).2|[],m,w,_=>C7 _|n::l,m,w,h=>by rw[Src.gA];have:=Vo l ((n.1,w,n.2)::m) (w+n.2) (λa b=>h a (by simp[b]));grind
variable{p:Src.Prog}{x:CFn}
def GX(h:bN p=0):0<=(ay p).2:=by
 obtain⟨V,_,_⟩:=Src.FA h;unfold ct at V;simp only[l6,z7]at V;have H:∀a∈p.a,0<=a.2:=λa b=>by grind[Src.fR]
 unfold ay;have U:=Vn p.v [] 0;have Z:=Vo p.a (Src.gV p.v [] 0).1 (Src.gV p.v [] 0).2 H;omega
def Vp{k:Nat}(I:(ab p).f[k]?=S x):∃f w,p.f[k]?=S f/\(ay p).2<=w/\x=Src.pJ (ay p).1 f w/\w+(z f.p+z f.l)<=(ab p).words:=by
 unfold ab at I|-;simp only at I|-;have a:k<z p.f:=by have:=(l9.1 I).1;rw[nY]at this;exact this
 obtain⟨f,b⟩:∃f,p.f[k]?=S f:=⟨_,x9 a⟩;obtain⟨c,U,Z,d⟩:=qz (ay p).1 p.f (ay p).2 k f b;grind
def MT(I:x∈(ab p).f):∃f w,f∈p.f/\(ay p).2<=w/\x=Src.pJ (ay p).1 f w/\w+(z f.p+z f.l)<=(ab p).words:=by obtain⟨k,a⟩:=C9 I;obtain⟨f,w,U,Z⟩:=Vp a;grind
def Co p:z (ab p).f=z p.f:=nY _ _ _
def MU p:(ab p).f.map (λx=>(x.p,x.word))=sigs p.f:=by apply N0;intro k;unfold sigs;rw[A4,A4];cases I:(ab p).f[k]?with
 |none=>
 have:z p.f<=k:=by rw[<-Co];exact N8.1 I
 grind;|some x=>obtain⟨f,w,U,_,rfl,_⟩:=Vp I;rw[U];rfl
def vY(h:bN p=0)(I:x∈(ab p).f):let G:=λk=>((cT x)[k]?).map Prod.snd
 G 0=S 0/\Lower.Good (sigs p.f) x.word G 0 (cT x):=by obtain⟨k,a⟩:=C9 I;exact Lower.Fz (Src.HT h a)
def MV(h:bN p=0)(I:x∈(ab p).f){y}(e:y∈cT x):(1<=y.1.op/\y.1.op<=13)/\(y.1.op=10->∃(c:Nat)(X:CFn),y.1.a=c/\(ab p).f[c]?=S X)/\(y.1.op=8\/y.1.op=9->0<=y.1.a/\y.1.a<(z (cT x))):=by
 obtain⟨k,g⟩:=C9 I;obtain⟨i,b⟩:=C9 e;obtain⟨t,q,b2,_⟩:=iZ (vY h I).2 b;refine⟨by have:=vS b2;omega,λw=>?_,λr=>Lower.Uv (Src.HT h g) b r⟩;by_cases j:y.1.a<0;.grind[takes]
 .obtain⟨c,l⟩:∃c:Nat,y.1.a=(c:Int):=⟨y.1.a.toNat,a7⟩;cases d:(sigs p.f)[c]?with|none=>grind[takes];|some s=>
 have hl:c<z (ab p).f:=by have:=(l9.1 d).1;rw[<-MU,j6]at this;exact this
 grind
def WT{f:Nat}{ds}(hd:(dY (ab p).words (ab p).f).depths[f]?=S ds):∃x,(ab p).f[f]?=S x/\ds=bX (cT x):=by unfold dY at hd;simp only[A4]at hd;obtain⟨x,U,Z⟩:=F0.1 hd;exact⟨x,U,Z.symm⟩
def Bb(h:bN p=0)(I:x∈(ab p).f):z (bX (cT x))=z (cT x)/\∀d∈bX (cT x),-1<=d/\d<=(z (cT x)):=by obtain⟨b,c⟩:=vY h I;obtain⟨a,_⟩:=mW (λ_=>rfl) b c;refine⟨a.inv.1,λd hd=>?_⟩;obtain⟨k,e⟩:=C9 hd;have:=a.le d hd;rcases a.inv.2.1 k d e with h|⟨_,h⟩<;>omega
def Vq(h:bN p=0){ar}(b:∀f∈p.f,z f.p<=ar):uP (ab p).f (dY (ab p).words (ab p).f) ar:=by obtain⟨V,_,_⟩:=Src.FA h;refine⟨by rw[Co];exact (by unfold ct at V;simp at V;exact V.1.1.1),by simp[dY],λx I y a=>(MV h I a).2.1,λx I y a=>(MV h I a).2.2,λx I=>?_⟩;obtain⟨f,w,U,_,rfl,_⟩:=MT I;simp_all[Src.pJ]
def tM{H:Type} f g(h:∀x,f x<=6*g x+2):∀l:List H,(l.map f).sum<=6*(l.map g).sum+2*z l|[]=>by simp;|a::l=>by have:=tM f g h l;grind
def aaN{ar}(hl:z p.f<=64)(b:(p.f.map λf=>aI f.body).sum<=ar):vW (ab p).f ar (z (ab p).f)<=448+(6*ar+128)*(2*ar+5):=by have U:=Cn (ab p).f ar (z (ab p).f) (l7 _);rw[E8]at U;have Z:=tM (λx:CFn=>z (cT x)) (λx=>Src.sW x.body) (λx=>Src.ZJ x.word x.body) (ab p).f;have c:((ab p).f.map λx=>Src.sW x.body).sum=(p.f.map λf=>aI f.body).sum:=Src.FD _ _ _;have d:=Co p;have a:((ab p).f.map λx=>z (cT x)).sum<=6*ar+128:=a7;have:=J5 (2*ar+5) a;omega
end
open Go.Lower (Ins Code Sig codeOf takes)
def mX(env:Int×Int->Int)(n:Nat)(c:List MI)(h:Ho):List MI:=match c[(h.1-n).toNat]?with|some x=>c.set (h.1-n).toNat (x.1,x.2.1,x.2.2.1,env h.2)|none=>c
def close(env:Int×Int->Int)(w:Nat->Wr)(n:Nat):List MI:=(w n).holes.foldl (mX env n) (w n).code
variable{n:Nat}{a b c d:Int}{h:Ho}{w:Nat->Wr}{fs:List Src.CFn}
section
variable{env:Int×Int->Int}
def Ea{c}:z (mX env n c h)=z c:=by unfold mX;grind
def nv{n}:∀(l:List Ho) c,z (l.foldl (mX env n) c)=z c|[],_=>rfl|h::l,c=>by rw[G5,nv l,Ea]
def kF:z (close env w n)=z (w n).code:=nv _ _
def KC{a b}(e:n<=h.1)(U:h.1<n+z a):mX env n (a++b) h=mX env n a h++b:=by have f:(h.1-n).toNat<z a:=a7;grind[mX]
def GY{a b}(e:((n+z a:Nat))<=h.1):mX env n (a++b) h=a++mX env (n+z a) b h:=by have f:z a<=(h.1-n).toNat:=a7;have g:(h.1-((n+z a:Nat):Int)).toNat=(h.1-n).toNat-z a:=a7;grind[mX]
def vZ{n:Nat}{b}:∀(l:List Ho) a,(∀h∈l,n<=h.1/\h.1<n+z a)->l.foldl (mX env n) (a++b)=l.foldl (mX env n) a++b|[],_,_=>rfl|h::l,a,H=>by obtain⟨U,Z⟩:=H h b9;rw[G5,G5,KC U Z,vZ l _ λx I=>by rw[Ea];grind]
def tO{n}{a}:∀(l:List Ho) b,(∀h∈l,((n+z a:Nat))<=h.1)->l.foldl (mX env n) (a++b)=a++l.foldl (mX env (n+z a)) b|[],_,_=>rfl|h::l,b,H=>by rw[G5,G5,GY (H h b9),tO l _ λx I=>H x aby]
def jJ(w:Nat->Wr):Prop:=∀n,∀h∈(w n).holes,(n:Int)<=h.1/\h.1<(n:Int)+z (w n).code
def Fits.inner{L M}{Q}(h:Fits L M Q w):jJ w:=λn x I=>⟨((h n).2.2 x I).1,((h n).2.2 x I).2.1⟩
def dr{v w}(e:jJ v)(f:jJ w):close env (aD v w) n=close env v n++close env w (n+z (v n).code):=by unfold close aD;simp only;rw[T2,vZ _ _ (e n)];have hl:z ((v n).holes.foldl (mX env n) (v n).code)=z (v n).code:=nv _ _;rw[tO _ _ λh g=>by rw[hl];have:=(f _ h g).1;omega,hl]
def nw{v w}(f:jJ v)(g:jJ w):jJ (aD v w):=λn h e=>by
 simp only[aD,C6,j7]at e|-;rcases e with e|e;.have:=f n h e;omega
 .have:=g _ h e;omega
def eT:jJ (aE a b c d):=λ_ _ h=>by cases h
def ny:jJ gg:=λ_ _ h=>by cases h
def kx:jJ (aJ a b c d):=λn h e=>by
 obtain rfl:h=((n:Int),c,d):=by grind[aJ]
 exact⟨C7 _,by grind[aJ]⟩
def jb:close env (aE a b c d) n=[(a,b,c,d)]:=rfl
def KD:close env gg n=[]:=rfl
def ky:close env (aJ a b c d) n=[(a,b,0,env (c,d))]:=by simp_all[close,aJ,mX]
end
def iy(d:jE)(q:Int×Int):Int:=if 0<=q.2 then(((d.pls[q.1.toNat]?).getD [])[q.2.toNat]?).getD 0 else(d.ent[q.1.toNat]?).getD 0
def KE d c h(e:0<=h.1):fill d c h=mX (iy d) 0 c h:=by unfold fill mX;rw[show (h.1-((0:Nat):Int)).toNat=h.1.toNat by omega];rfl
def tP d:∀(l:List Ho) c,(∀h∈l,0<=h.1)->l.foldl (fill d) c=l.foldl (mX (iy d) 0) c|[],_,_=>rfl|h::l,c,H=>by rw[G5,G5,KE d c h (H h b9),tP d l _ λx I=>H x aby]
def yU(env:Int×Int->Int)(fs:List Src.CFn)(P:Plan)(f n:Nat):List MI:=match fs[f]?,P.depths[f]?with|some x,S ds=>close env (iw fs P f (cT x) ds (z (cT x))) n|_,_=>[]
def toC(env:Int×Int->Int)(fs:List Src.CFn)(P:Plan):Nat->List MI|0=>[(1,15,0,1)]++yU env fs P (z fs-1) 1|k+1=>toC env fs P k++yU env fs P k (z (toC env fs P k))
def Bd{env}{P}{ar}(H:uP fs P ar){d}{done}{al f}(h:rA fs d done al)(g:f<z fs):(fE fs P d f).holes.foldl (mX env 0) (fE fs P d f).code=d.holes.foldl (mX env 0) d.code++yU env fs P f (z d.code):=by
 obtain⟨x,I⟩:∃x,fs[f]?=S x:=⟨_,x9 g⟩;obtain⟨ds,hd⟩:∃ds,P.depths[f]?=S ds:=⟨_,x9 (by grind[H.dl])⟩;rw[nr I hd];unfold yU;rw[I,hd];simp only;rw[T2,vZ _ _ λy e=>⟨(h.h y e).1,by have:=(h.h y e).2.1;omega⟩];have hl:z (d.holes.foldl (mX env 0) d.code)=z d.code:=nv _ _;rw[tO _ _ λy e=>?_,hl,D2];.rfl
 .rw[hl];have:=((H.fits I ds (z (cT x))).inner _ y e).1;omega
def yV{env}{fs}{P}{ar}(H:uP fs P ar):∀k,k<=z fs-1->(sR fs P k).holes.foldl (mX env 0) (sR fs P k).code=toC env fs P k|0,_=>by have i:=H.n;have e:rA fs ⟨[(1,15,0,1)],[],List.replicate (z fs) 0,List.replicate (z fs) []⟩ (λ_=>False) 1:=⟨b9,b9,abc,b9,b9,(λ_ h=>False.elim h)⟩;exact Bd H e a7;|k+1,j=>by have g:=yV (env:=env) H k a7;rw[toC,<-g];rw[show (z ((sR fs P k).holes.foldl (mX env 0) (sR fs P k).code))=z (sR fs P k).code from nv _ _];exact Bd H (xR H k a7) a7
def KF{P}{ar}(H:uP fs P ar):filled (whole fs P)=toC (iy (whole fs P)) fs P (z fs-1):=by unfold filled;exact(tP (whole fs P) (whole fs P).holes (whole fs P).code λh f=>((xR H (z fs-1) (l7 _)).h h f).1).trans (yV H _ (l7 _))
end Go.Emit
namespace Go.Proofs.YtfdbpgoicedpcaaGreatDoor.Low
section
open Go Go.Am Go.Lower
attribute[local congr]ite_cc
section
def EF{s}{cs:List D}(h:cs.all (λx=>match x with|.nsl=>F|_=>T)=T):oh s (.agg (cs.map .d)) (.agg (cs.map .d)):=by refine⟨cs,b9,λi c a=>?_,rfl⟩;rw[A4]at a;cases b:cs[i]?with|none=>grind;|some x=>
 rw[b]at a;cases a;refine⟨x,rfl,?_⟩;have:=z7.1 h x (l8 b);have e:jI x=x:=by cases x<;>simp_all[jI]
 grind[Frz.d]
def Oe n k(h:k<n):(List.replicate k (-1)++List.replicate (n-k) 0).set k (-1)=List.replicate (k+1) (-1)++List.replicate (n-(k+1)) 0:=by rw[I2 _ _ b9,H3,K8];obtain⟨m,a⟩:∃m,n-k=m+1:=⟨n-k-1,a7⟩;rw[a,show n-(k+1)=m by omega,J9,L1,List.replicate_succ' (n:=k),s9];rfl
variable{G:Nat->Option Int}{word:Bool}
def KV{n}(b:0<n)(hT:G 0=S 0):Inv G n ((List.replicate n (-1)).set 0 0) [0]/\left ((List.replicate n (-1)).set 0 0)+1=n/\(∀v∈(List.replicate n (-1)).set 0 0,v<=0):=by
 obtain⟨m,rfl⟩:∃m,n=m+1:=⟨n-1,a7⟩;rw[J9,L1];refine⟨⟨b9,λk v h=>?_,λa c=>?_⟩,?_,λv d=>?_⟩;.grind
 .grind
 .simp_all[left,UU]
 grind
def rJ{H:Type} n(x:H):(List.replicate n [x]).flatten=List.replicate n x:=by simp
def EG x:z (er x)=4:=rfl
def nI(l:List Nat):List Int:=l.map λk:Nat=>(k:Int)
def EH{H:Type}(l:List H):l=[]\/∃b a,l=b++[a]:=by
 by_cases h:l=[];.grind
 .exact .inr ⟨l.dropLast,l.getLast h,(M7 h).symm⟩
structure Mid (G:Nat->Option Int) (n:Nat) (out:List Int) (c:List Nat):Prop where
 inv:Inv G n out c
 le:∀v∈out,v+left out<=n
def Mid.popL{n}{out}{a}{c}(h:Mid G n out (c++[a])):Mid G n out c/\∃v,out[a]?=S v/\G a=S v/\0<=v/\v+left out<=n:=by obtain⟨v,U,Z,d⟩:=h.inv.2.2 a b9;exact⟨⟨⟨h.inv.1,h.inv.2.1,λb hb=>h.inv.2.2 b abQ⟩,h.le⟩,v,U,Z,d,h.le v (l8 U)⟩
def Mid.find{G}{n k}{out}{c}{b v d}(h:Mid G n out c)(hT:G k=S b)(a:0<=b)(e:out[k]?=S v)(f:v<0)(hd:b<=d+1)(g:d+left out<=n):Mid G n (out.set k b) (c++[k])/\left (out.set k b)+z (c++[k])=left out+z c/\d+left (out.set k b)<=n:=by
 obtain⟨U,Z⟩:=h.inv.find hT a e f;have i:=oV e f a;refine⟨⟨U,λu L=>?_⟩,Z,a7⟩;rcases J1 L with L|rfl;.have:=h.le u L;omega
 .omega
def Og{ps}{c}(h:Lower.Good ps word G 0 c){i}{x}{d}(a:c[i]?=S (x,d)):OkI ps word G i x d:=by have:=iZ h a;grind
def SX{ps}{x}{t p}(h:takes ps word x=S (t,p)):0<=p/\p<=1:=by
 rcases EE h with U|U|U|U|U|U|U|U|U|U|U|U|U;all_goals try (obtain⟨rfl,rfl⟩:_=t/\_=p:=by simpa[takes,U]using h)
 all_goals try (exact⟨by decide,by decide⟩)
 .simp only[takes,U]at h;grind
 grind[takes]
def Oh{w}{fs}{f:Nat}{W}(hf:fs[f]?=S W){A}(cb:codeOf W.word W.body=A)(hl:z A<=100000000)(hT:∀k,G k=(A[k]?).map Prod.snd)(h0:G 0=S 0)(hg:Lower.Good (SW fs) W.word G 0 A):aR Tryz.prog 94 [kX w fs,ae f] (λr=>(Inv G (z A) (Emit.bX A) []/\∀v∈Emit.bX A,v<=z A)/\r=.tup [.one (.d (ksD (Emit.bX A))),bv T]):=by
 refine hdP Tryz.func94 rfl [4,5] λg=>?_;have b3:=(l9.1 hf).1;have hn:0<z A:=by cases hq:A with|nil=>grind;|cons=>simp
 have bf:¬(z A:Int)=0:=a7;have cf:¬(f:Int)<0:=a7;have eo:¬(z fs:Int)<=(f:Int):=a7;have ev:(0:Int)<=(f:Int):=a7;have e0:∀k v,G k=S v->k<z A:=λk v h=>by grind
 unfold kX;simp only[go_sem,hf,cf,ev,eo,bf,sfD,cb,j6];refine⟨l7 _,a7,a7,?_⟩;refine fU (λn s=>∃k:Nat,n+k=z A/\s.f 1=ae f/\s.f 2=aj 2 (s.gen 2) 0/\s.f 6=.one (.d (xI A))/\s.f 7=eS 42 (s.gen 42) 1 0 (z A)/\s.f 44=ae (z A)/\s.f 45=ae k/\s.obj 2=S [ag w,aw (fs.map sfD)]/\s.obj 42=S (icells (List.replicate k (-1)++List.replicate (z A-k) 0))/\∀j,200<=j->s.obj j=N) (z A) ?_ ?_;.refine⟨0,rfl,?_⟩;simp only[go_sem];refine⟨?_,λj hj=>nu⟩;rw[rJ,icells,C2,P2,P2,L6,A3]
 clear g;rintro n g gn ob⟨k,hk,f1,f2,f6,f7,ca,c',o2,i,ar⟩;simp only at f1 f2 f6 f7 ca c' o2 i ar;have hw:=ah (k:=k) a7;have c4:(icells (List.replicate k (-1)++List.replicate (z A-k) 0)).length=z A:=by rw[dA,j7,H3,H3];omega
 by_cases af:k<z A;.have Q:(k:Int)<(z A:Int):=a7;have bk:(0:Int)<=(k:Int):=a7;simp only[go_sem,f7,ca,c',i,Q,bk,c4,hw];refine⟨a7,?_⟩;refine fD (n-1) a7 ⟨k+1,a7,?_⟩;simp only[go_sem,f1,f2,f6,f7,ca,o2];exact⟨by rw[kA,Oe (z A) k af],λj hj=>nt (ar j hj)⟩
 have b0:k=z A:=a7;subst b0;have Q:¬(z A:Int)<(z A:Int):=a7;rw[K8,L6,u7]at i;simp only[go_sem,f7,ca,c',i,Q,dA,H3];refine⟨a7,a7,?_⟩;refine Il _ (dX (t:=9) (b:=200) (j:=0) (sz:=1) c8 c8 rfl a8) ?_;simp only[St.claimAt];refine cY rfl (by simp only[go_sem];exact(Od (B:=300) (G:=9) (D:=200) (l:=[]) (x:=0) (λj hj=>nt (ar j a7)) a8 a8 a8 ⟨c8,[],c8⟩ c8 b9).toR) ?_;rintro _ g2 bn⟨pl,q1,q2⟩;have e2:=q1 2 a8;have cz:=q1 42 a8;have e9:=q1 9 a8;have p2:=q2 2 a8 a8;have X:=q2 42 a8 a8;simp[upd]at e2 cz e9 p2 X;have b1:∀j,300<=j->bn j=N:=λj hj=>by rw[q2 j a7 a7];exact nt (ar j a7)
 obtain⟨s1,s2,s3⟩:=KV hn h0;simp only[go_sem];refine fU (λm s=>∃(out:List Int)(c:List Nat),m=left out+z c/\m<=z A/\Mid G (z A) out c/\Emit.search A (left out+z c) (out,c)=Emit.bX A/\s.f 1=ae f/\s.f 2=aj 2 (s.gen 2) 0/\s.f 6=.one (.d (xI A))/\s.f 7=eS 42 (s.gen 42) 1 0 (z A)/\s.f 9=aj 9 (s.gen 9) 0/\s.obj 2=S [ag w,aw (fs.map sfD)]/\s.obj 42=S (icells out)/\xn 9 200 (nI c) s.gen s.obj/\(∀j,300<=j->s.obj j=N)) (z A) ?_ ?_;.refine⟨(List.replicate (z A) (-1)).set 0 0,[0],by grind,l7 _,⟨s1,λv hv=>by grind⟩,by rw[j8,l5,s2];rfl,?_⟩;simp only[go_sem,f1,f2,f6,f7,e2,cz,e9,p2,X,o2];exact⟨kA _ _ _,pl,b1⟩
 clear f1 f2 f6 f7 ca c' o2 i hk af hw s1 s2 s3 ar b1 e2 cz e9 p2 X pl q1 q2 c4 Q;clear n g gn ob g2 bn;rintro n g gn ob⟨out,c,hm,cv,J,P,f1,f2,f6,f7,f9,o2,i,pl,ar⟩;simp only at f1 f2 f6 f7 f9 o2 i pl ar;have cy:z (nI c)=z c:=by simp[nI]
 simp only[go_sem];refine cY rfl (by simp only[go_sem,f9];exact(Xz (B:=300) (G:=9) (D:=200) (l:=nI c) ar a8 pl rfl).toR) ?_;rintro _ g2 bn⟨rfl,rfl,rfl⟩;rw[cy];rcases EH c with rfl|⟨c,a,rfl⟩;.rw[Emit.GR]at P;subst P;simp only[go_sem,f7,l5];refine⟨_,⟨_,fJ rfl (Emit.bX A) (λk=>[.int .i64 k]) i ?_ abo (λ_ _=>rfl) J.inv.1,rfl⟩,⟨J.inv,λv hv=>by have:=J.le v hv;omega⟩,rfl⟩;simp[icells];clear i J hm;generalize Emit.bX A=out;induction out with|nil=>rfl;|cons b out ih=>grind
 obtain⟨c0,v,hv,c7,bl,bs⟩:=J.popL;have cu:=e0 a v c7;have a':=c7;rw[hT]at a';obtain⟨⟨x,v'⟩,I,d'⟩:=F0.1 a';obtain rfl:v'=v:=d';obtain⟨t,p,b2,ad,eh,dk,bc⟩:=Og hg I;have az:(0:Int)<((z c+1:Nat):Int):=a7;have bz:nI (c++[a])=nI c++[(a:Int)]:=by simp[nI]
 rw[bz]at pl;have b4:z (c++[a])=z c+1:=b9;rw[b4];have Y:z c<=1000000000:=by rw[b4]at hm;omega
 have ds:Emit.search A (n-1) (Emit.visit A ((next x a).drop 0) (out,c))=Emit.bX A:=by rw[b4,<-D4,Emit.DV A _ out c a I]at P;rw[hm,b4];exact P
 have b5:z (nI c)=z c:=by simp[nI]
 simp only[go_sem,az];refine cY rfl (by simp only[go_sem,f9];exact(ach (B:=300) (G:=9) (D:=200) (l:=nI c) (x:=(a:Int)) ar a8 a8 a8 pl rfl a7).toR) ?_;rintro _ g3 b'⟨rfl,ec,rfl,q3⟩;have p2:=q3 2 a8;have X:=q3 42 a8;rw[o2]at p2;rw[i]at X;have c1:∀j,300<=j->b' j=N:=λj hj=>by grind
 simp only[go_sem];refine eu aP mixed c9 ?_;have an:=J.inv.1;have al:(0:Int)<=(a:Int):=a7;have ch:(a:Int)<(z A:Int):=a7;have e5:a<z out:=a7;simp only[go_sem,f1,f2,f6,f7,p2,X,I,al,ch,EG,hv,kz];have dc:v'<=1000000000:=a7;refine bF rfl (Oc hf b2 ad eh dc dk) ⟨_,_,rfl,EF (cs:=[.int .i64 w,.sl (fs.map sfD)]) rfl,_,_,rfl,⟨_,.d _,rfl⟩,_,_,rfl,EF rfl,_,_,rfl,⟨_,.d _,rfl⟩,rfl⟩ rfl ?_;have hp:=SX b2;obtain⟨V,O⟩:∃q:Int,(if x.op=11 then 0 else v'-t+p)=q:=⟨_,rfl⟩;rw[O];have e3:∀y∈next x a,∃E:Nat,y=(E:Int)/\G E=S V/\0<=V/\V<=v'+1:=λy hy=>by
  obtain⟨E,U,Z⟩:=bc y hy;have H:¬x.op=11:=by intro e;unfold next at hy;rw[l4 a7,l4 a7,s5 e]at hy;cases hy
  grind
 simp only[go_sem,f6,I,al,EG];refine ja rfl (Xy a7) c8 ?_;rintro _ rfl;simp only[go_sem,j6,ksD];refine fU (λm s=>∃(out:List Int)(c:List Nat)(j:Nat),m+j=z (next x a)/\left out+z c+1=n/\Mid G (z A) out c/\Emit.search A (n-1) (Emit.visit A ((next x a).drop j) (out,c))=Emit.bX A/\v'+left out<=z A/\s.f 11=ae V/\s.f 79=.one (.d (ksD (next x a)))/\s.f 80=ae (z (next x a))/\s.f 81=ae j/\s.f 1=ae f/\s.f 2=aj 2 (s.gen 2) 0/\s.f 6=.one (.d (xI A))/\s.f 7=eS 42 (s.gen 42) 1 0 (z A)/\s.f 9=aj 9 (s.gen 9) 0/\s.obj 2=S [ag w,aw (fs.map sfD)]/\s.obj 42=S (icells out)/\xn 9 200 (nI c) s.gen s.obj/\(∀j,300<=j->s.obj j=N)) (z (next x a)) ?_ ?_;.refine⟨out,c,0,rfl,a7,c0,ds,bs,?_⟩;simp only[go_sem,f1,f2,f6,f7,f9,p2,X,ksD];grind
 clear f1 f2 f6 f7 f9 o2 i pl ec p2 X q3 ar c1 hm J c0 P ds hv bs an e5 b4 bz cy b5 Y az dc;clear g g3 bn b' out c;rintro m g gn ob⟨out,c,j,hj,hm,J,P,bs,av,b6,b7,c2,f1,f2,f6,f7,f9,o2,i,pl,ar⟩;simp only at av b6 b7 c2 f1 f2 f6 f7 f9 o2 i pl ar;have an:=J.inv.1;have dh:z (next x a)<=2:=by
  unfold next;by_cases e1:x.op=8;.simp[e1]
  .grind
 have cm:=ah (k:=j) a7;by_cases af:j<z (next x a);case neg=>
  have bd:¬(j:Int)<(z (next x a):Int):=a7;simp only[go_sem,b7,c2,bd,ksD];refine fD (n-1) a7 ⟨out,c,a7,a7,J,?_,?_⟩;.rw[y8 a7]at P;rw[show left out+z c=n-1 by omega];exact P
  simp only[go_sem,f1,f2,f6,f7,f9,o2,i];grind
 have bd:(j:Int)<(z (next x a):Int):=a7;have cx:(0:Int)<=(j:Int):=a7;obtain⟨y,hy⟩:=getq af;obtain⟨k,rfl,dd,dx,e4⟩:=e3 y (l8 hy);rw[B8 af,show (next x a)[j]=(k:Int)from(l9.1 hy).2]at P;have bo:=e0 k _ dd;have a1:¬(z A:Int)<=(k:Int):=a7;have a6:(k:Int)<(z A:Int):=a7;have dz:(0:Int)<=(k:Int):=a7;have bk:¬(k:Int)<0:=a7;obtain⟨u,L⟩:=getq (show k<z out by omega);rcases J.inv.seen dd L with c6|b8
 .have ef:¬0<=u:=a7;obtain⟨m1,m2,m3⟩:=J.find dd dx L c6 e4 bs;rw[Emit.yN (u:=u) (d:=V) ZN c6 (by rw[C0,<-hT];exact dd),C0]at P;simp only[go_sem,f6,f7,av,b6,b7,c2,i,bd,cx,hy,a1,a6,dz,bk,L,c6,ef,an,j6,kz,dA,ksD,setAt];refine⟨a7,?_⟩;have b1:∀j,300<=j->upd ob 42 (S (icells (out.set k V))) j=N:=λj hj=>by grind[upd]
  have e6:xn 9 200 (nI c) gn (upd ob 42 (S (icells (out.set k V)))):=⟨by grind[upd,pl.t],by grind[upd,pl.d]⟩;rw[kA];refine cY rfl (by simp only[go_sem,f9];exact(Od (B:=300) (G:=9) (D:=200) (l:=nI c) (x:=(k:Int)) b1 a8 a8 a8 e6 rfl (by grind[nI])).toR) ?_;rintro _ g2 bn⟨ec,q1,q2⟩;have e2:=q1 2 a8;have cz:=q1 42 a8;have e9:=q1 9 a8;have p2:=q2 2 a8 a8;have X:=q2 42 a8 a8;simp[upd]at p2 X;rw[o2]at p2;simp only[go_sem,c2,cm];refine fD (m-1) a7 ⟨out.set k V,c++[k],j+1,a7,a7,m1,P,m3,?_⟩;simp only[go_sem,f1,f2,f6,f7,f9,av,b6,b7,e2,cz,e9,p2,X,ksD];exact⟨by grind[nI],λj hj=>by grind⟩
 .subst b8;have cc:¬u<0:=a7;rw[Emit.yO (u:=u) ZN cc]at P;simp only[go_sem,f6,f7,av,b6,b7,c2,i,bd,cx,hy,a1,a6,dz,bk,L,dx,cc,j6,kz,ksD,cm];refine fD (m-1) a7 ⟨out,c,j+1,a7,hm,J,P,bs,?_⟩;simp only[go_sem,f1,f2,f6,f7,f9,av,b6,b7,o2,i,ksD];grind
end
def Oi(h:List (List Int))(back base:List Int)(data:Int):AV:=.agg [aw (h.map λo=>[ksD o]),.d (ksD back),.d (ksD base),ag data]
def ocells(l:List (List Int)):List C:=l.map λo=>.d (ksD o)
def Hp(l:List (List Int)):z (ocells l)=z l:=by simp[ocells]
def zj(a b:List (List Int)):ocells (a++b)=ocells a++ocells b:=by simp[ocells]
def tL{l:List Int}{b:Int}(h:∀v∈l,v<=b):∀{d:Int},d<=b->d<=Emit.deepest l d/\Emit.deepest l d<=b:=by induction l with|nil=>intro d hd;exact⟨C7 _,hd⟩;|cons a l c=>intro d hd;have U:=h a b9;have:=c (λv e=>h v (by simp[e])) (d:=max d a) a7;rw[Emit.uO];omega
def XA{w:Int}{fs:List Src.CFn}(ds:List (List Int))(ar:z ds=z fs)(ad:0<=w/\w<=1000000)(hl:z fs<=1000000)(al:∀o∈ds,(∀v∈o,v<=100000000)/\z o<=1000000000)(hD:∀f o,ds[f]?=S o->aR Tryz.prog 94 [kX w fs,ae (f:Nat)] (·=.tup [.one (.d (ksD o)),bv T])):aR Tryz.prog 57 [kX w fs] (·=Oi ds (Emit.fe (z fs) 0 ds w).1 (Emit.fe (z fs) 0 ds w).2.1 (Emit.fe (z fs) 0 ds w).2.2):=by
 refine hdR Tryz.func57 rfl [.cell 2 134] λg=>?_;have b1:kX w fs=.agg [ag w,aw (fs.map sfD)]:=rfl;rw[b1]at hD|-;have b5:IntKind.i64.wrap ((z fs:Int)-1)=(z fs:Int)-1:=by rw[wrap_i64]<;>omega
 simp only[go_sem,j6,b5];refine Ds _ (((dX (t:=3) (o:=3) (b:=34) (j:=0) (sz:=1) (off:=0) (cells:=[.d .nsl,.d .nsl,.d .nsl,ag w]) c8 c8 rfl a8).trans
  (dX (t:=3) (o:=3) (b:=41) (j:=1) (sz:=1) (off:=0) (cells:=[.osl 34 (g 34+1) 1 0 0,.d .nsl,.d .nsl,ag w]) c8 c8 rfl a8)).trans
  (dX (t:=3) (o:=3) (b:=55) (j:=2) (sz:=1) (off:=0) (cells:=[.osl 34 (g 34+1) 1 0 0,.osl 41 (g 41+1) 1 0 0,.d .nsl,ag w]) c8 c8 rfl a8))
  (λn s=>∃(k:Nat)(h:List (List Int))(back base:List Int)(data:Int),n+k=z fs/\z h=k/\z back=k/\z base=k/\(h=ds.take k/\Emit.fe (z fs) 0 h w=(back,base,data))/\0<=data/\data<=1000000+100000001*k/\s.f 1=aj 1 (s.gen 1) 0/\s.f 2=aj 2 (s.gen 2) 0/\s.f 3=aj 3 (s.gen 3) 0/\s.f 20=ae (z fs)/\s.f 21=ae k/\s.f 4=ae ((z fs:Int)-1)/\s.obj 1=S [ag w,aw (fs.map sfD)]/\(∃a b c d,s.obj 2=S [a,b,c,d])/\s.obj 3=S [.osl 34 (s.gen 34) 1 0 k,.osl 41 (s.gen 41) 1 0 k,.osl 55 (s.gen 55) 1 0 k,ag data]/\s.obj 34=S (ocells h)/\s.obj 41=S (icells back)/\s.obj 55=S (icells base)) (z fs) ?_ ?_;.simp only[St.claimAt];refine⟨0,[],[],[],w,rfl,rfl,rfl,rfl,⟨rfl,rfl⟩,ad.1,a7,?_⟩;simp only[go_sem,b5];exact⟨⟨_,_,_,_,rfl,rfl,rfl,rfl⟩,rfl,rfl⟩
 clear g;rintro n g gn ob⟨k,h,back,base,data,hk,lo,lb,P,⟨E,A⟩,et,X,f1,f2,f3,p,q,f4,o1,⟨a0,b0,c0,d0,o2⟩,o3,u,x,r⟩;simp only at f1 f2 f3 p q f4 o1 o2 o3 u x r;have Z:=ah (k:=k) a7;by_cases af:k<z fs;case neg=>
  have Q:¬(k:Int)<(z fs:Int):=a7;obtain rfl:k=z fs:=a7;simp only[go_sem,f1,f2,f3,p,q,Q,o2,o3];have L:∀{H:Type}(l:List H)(e:H->D),(l.map λa=>C.d (e a))=l.flatMap λa=>([e a]:List D).map C.d:=by intro H l e;induction l with|nil=>rfl;|cons b l ih=>grind
  have r1:∀{s:St},s.gen 34=gn 34->s.obj 34=ob 34->Frz s (.osl 34 (gn 34) 1 0 (z fs)) (.sl (h.map λo=>[ksD o])):=λ{s}hg ho=>by refine fJ (s:=s) hg h (λo=>[ksD o]) (ho.trans u) (L h ksD) (λa _ y hy=>?_) (λ_ _=>rfl) lo;rw[C8.1 hy];rfl
  have r2:∀{s:St},s.gen 41=gn 41->s.obj 41=ob 41->Frz s (.osl 41 (gn 41) 1 0 (z fs)) (ksD back):=λ{s}hg ho=>by refine fJ (s:=s) hg back (λo=>[.int .i64 o]) (ho.trans x) (L back _) (λa _ y hy=>?_) (λ_ _=>rfl) lb;rw[C8.1 hy];rfl
  have r3:∀{s:St},s.gen 55=gn 55->s.obj 55=ob 55->Frz s (.osl 55 (gn 55) 1 0 (z fs)) (ksD base):=λ{s}hg ho=>by refine fJ (s:=s) hg base (λo=>[.int .i64 o]) (ho.trans r) (L base _) (λa _ y hy=>?_) (λ_ _=>rfl) P;rw[C8.1 hy];rfl
  refine⟨_,⟨[.sl (h.map λo=>[ksD o]),ksD back,ksD base,.int .i64 data],rfl,λi c hc=>?_,rfl⟩,?_⟩;rotate_left;.rw[s6 a7]at E;subst E;rw[A];rfl
  match i,hc with|0,hc=>cases hc;exact⟨_,rfl,r1 rfl c8⟩;|1,hc=>cases hc;exact⟨_,rfl,r2 rfl c8⟩;|2,hc=>cases hc;exact⟨_,rfl,r3 rfl c8⟩;|3,hc=>cases hc;exact⟨_,rfl,.d _⟩
 have Q:(k:Int)<(z fs:Int):=a7;have bk:(0:Int)<=(k:Int):=a7;have an:=Hp h;have cz:=dA back;have ca:=dA base;simp only[go_sem,f1,f2,f3,p,q,f4,Q,o1];obtain⟨out,J⟩:=getq (show k<z ds by omega);obtain⟨W,av⟩:=al out (l8 J);have Y:h++[out]=ds.take (k+1):=by rw[E,C1,J];rfl
 have bf:=Emit.DW (z fs) h 0 w out;rw[A]at bf;simp only[lo,D2]at bf;refine ja rfl (hD k out J) c8 ?_;rintro _ rfl;simp only[go_sem,f1,f3,o3,u,an,lo,bm,x,cz,lb,f4];refine⟨l7 _,⟨a8,a7⟩,l7 _,⟨a8,a7⟩,?_⟩;have cv:IntKind.i64.wrap (data+1)=data+1:=by rw[wrap_i64]<;>omega
 by_cases bo:(k:Int)=(z fs:Int)-1
 .skip;simp only[go_sem,w9 bo,r,ca,P,f3,ksD,j6];refine⟨l7 _,⟨a8,a7⟩,?_⟩;refine fU (λm s=>∃(j:Nat)(V:Int),m+j=z out/\Emit.deepest (out.drop j) V=Emit.deepest out 0/\0<=V/\V<=100000000/\s.f 1=aj 1 (s.gen 1) 0/\s.f 2=aj 2 (s.gen 2) 0/\s.f 3=aj 3 (s.gen 3) 0/\s.f 20=ae (z fs)/\s.f 21=ae k/\s.f 4=ae ((z fs:Int)-1)/\s.f 57=.one (aw (out.map λk=>[.int .i64 k]))/\s.f 58=ae (z out)/\s.f 59=ae j/\s.f 8=ae V/\s.obj 1=S [ag w,aw (fs.map sfD)]/\s.obj 2=S [a0,b0,c0,d0]/\s.obj 3=S [.osl 34 (s.gen 34) 1 0 (k+1),.osl 41 (s.gen 41) 1 0 (k+1),.osl 55 (s.gen 55) 1 0 (k+1),ag (data)]/\s.obj 34=S (ocells (h++[out]))/\s.obj 41=S (icells (back++[data]))/\s.obj 55=S (icells (base++[data]))) (z out) ?_ ?_;.exact ts
  clear f1 f2 f3 p q f4 o1 o2 o3 u x r;rintro m g gn ob⟨j,V,hj,O,d',b6,f1,f2,f3,p,q,f4,G,I,K,U,o1,o2,o3,u,x,r⟩;simp only at f1 f2 f3 p q f4 G I K U o1 o2 o3 u x r;have cm:=ah (k:=j) a7;by_cases B:j<z out;.exact l3
  have bd:¬(j:Int)<(z out:Int):=a7;have b':IntKind.i64.wrap (data+V)=data+V:=by rw[wrap_i64]<;>omega
  simp only[go_sem,G,I,K,U,bd,f3,o3,b',q,Z,j6];refine fD (n-1) a7 ⟨k+1,h++[out],back++[data],base++[data],data+V,a7,by grind,by grind,by grind,⟨Y,bf.trans ?_⟩,a7,a7,?_⟩;.rw[s5 (show k+1=z fs by omega)];rw[y8 a7]at O;rw[<-O];rfl
  simp only[go_sem,f1,f2,f3,p,f4,o1,o2,u,x,r];simp
 .skip;simp only[go_sem,bo,cv,r,ca,P,f3,ksD,j6];refine⟨l7 _,⟨a8,a7⟩,?_⟩;refine fU (λm s=>∃(j:Nat)(V:Int),m+j=z out/\Emit.deepest (out.drop j) V=Emit.deepest out 0/\0<=V/\V<=100000000/\s.f 1=aj 1 (s.gen 1) 0/\s.f 2=aj 2 (s.gen 2) 0/\s.f 3=aj 3 (s.gen 3) 0/\s.f 20=ae (z fs)/\s.f 21=ae k/\s.f 4=ae ((z fs:Int)-1)/\s.f 57=.one (aw (out.map λk=>[.int .i64 k]))/\s.f 58=ae (z out)/\s.f 59=ae j/\s.f 8=ae V/\s.obj 1=S [ag w,aw (fs.map sfD)]/\s.obj 2=S [a0,b0,c0,d0]/\s.obj 3=S [.osl 34 (s.gen 34) 1 0 (k+1),.osl 41 (s.gen 41) 1 0 (k+1),.osl 55 (s.gen 55) 1 0 (k+1),ag ((data+1))]/\s.obj 34=S (ocells (h++[out]))/\s.obj 41=S (icells (back++[data]))/\s.obj 55=S (icells (base++[(data+1)]))) (z out) ?_ ?_;.exact ts
  clear f1 f2 f3 p q f4 o1 o2 o3 u x r;rintro m g gn ob⟨j,V,hj,O,d',b6,f1,f2,f3,p,q,f4,G,I,K,U,o1,o2,o3,u,x,r⟩;simp only at f1 f2 f3 p q f4 G I K U o1 o2 o3 u x r;have cm:=ah (k:=j) a7;by_cases B:j<z out;.exact l3
  have bd:¬(j:Int)<(z out:Int):=a7;have b':IntKind.i64.wrap ((data+1)+V)=(data+1)+V:=by rw[wrap_i64]<;>omega
  simp only[go_sem,G,I,K,U,bd,f3,o3,b',q,Z,j6];refine fD (n-1) a7 ⟨k+1,h++[out],back++[data],base++[(data+1)],(data+1)+V,a7,by grind,by grind,by grind,⟨Y,bf.trans ?_⟩,a7,a7,?_⟩;.rw[l4 (show¬k+1=z fs by omega)];rw[y8 a7]at O;rw[<-O];rfl
  simp only[go_sem,f1,f2,f3,p,f4,o1,o2,u,x,r];simp
abbrev ka:=Int×Int×Int×Int
def KW(x:ka):List C:=[ag x.1,ag x.2.1,ag x.2.2.1,ag x.2.2.2]
def iH(l:List ka):List C:=l.flatMap KW
def kI(l:List ka):z (iH l)=z l*4:=by induction l with|nil=>rfl;|cons a l b=>simp only[iH,A8,j7,KW,j8,l5]at b|-;omega
def KX(l m:List ka):iH (l++m)=iH l++iH m:=by simp[iH]
def Bk{B:Nat}(l:List ka):∀c∈iH l,og B c:=λc a=>by unfold iH at a;obtain⟨x,_,I⟩:=List.mem_flatMap.1 a;simp only[KW,A0,A9,D8]at I;rcases I with rfl|rfl|rfl|rfl<;>trivial
def aci{B G D u:Nat}{code:List ka}{c0 c1 c2 c3 c4 c5 d0 d1 d2 d3 d4:C}{op a b c:Int}{g:Nat->Nat}{ob:Obs}(hB:∀i,B<=i->ob i=N)(A:G<B)(hD:D<B)(w:G≠D)(f:g G=u)(ho:ob G=S [c0,c1,c2,c3,c4,c5,.osl D (g D) 4 0 (z code),d0,d1,d2,d3,d4])(r:ob D=S (iH code))(j:∀x∈[c0,c1,c2,c3,c4,c5,d0,d1,d2,d3,d4],og B x)(hl:z code<=100000000):dS Tryz.prog 96 [aj G u 0,ae op,ae a,ae b,ae c] g ob (λ_ g' Y=>(∀i,i≠D->g' i=g i)/\Y G=S [c0,c1,c2,c3,c4,c5,.osl D (g' D) 4 0 (z code+1),d0,d1,d2,d3,d4]/\Y D=S (iH (code++[(op,a,b,c)]))/\∀i,i≠G->i≠D->Y i=ob i) (λ_ _ _=>False):=by
 refine hdM B [G,D] Tryz.func96 rfl [] ZN hB λO bc s0 w0=>?_;have s:∀k,(G=B+k)=False:=λk=>by grind
 have t:∀k,(D=B+k)=False:=λk=>by grind
 have v:(G=D)=False:=by simp[w]
 have o:(D=G)=False:=by simp[C5 w]
 simp only[go_sem,s,t,v,o,ho,r,f,kI,bm];refine⟨l7 _,⟨a8,a7⟩,?_⟩;refine⟨_,ai.refl _,?_⟩;simp only[go_sem];have y:List.take (z code*4) (iH code)++[C.d (.int .i64 op),C.d (.int .i64 a),C.d (.int .i64 b),C.d (.int .i64 c)]=iH (code++[(op,a,b,c)]):=by rw[s6 (by rw[kI];simp),KX];simp[iH,KW]
 rw[y];refine⟨⟨λi l hn=>?_,λi l q n=>?_⟩,[],rfl,λi l=>?_,?_,?_,λi l J=>?_⟩;.exact X1
 .simp only[A0,A9,D8]at l;rcases l with rfl|rfl;.simp[upd]at n;subst n;intro x I;simp only[A0,A9,D8]at I j;rcases I with h|h|h|h|h|h|h|h|h|h|h|h;all_goals first|(subst h;exact hD)|exact j x (by simp[h])
  .simp[upd,o]at n;subst n;exact Bk _
 .exact Lm
 .simp[kS,iA,upd]
 .simp[iA,upd,o]
 .unfold iA;grind
end
section
open Go Go.Am Go.Lower
open Go.Emit (Wr)
def Jk{B B'}(hB:B<=B'){c}(h:og B c):og B' c:=by cases c with|d x=>trivial;|osl id _ _ _ _=>exact F3 h hB;|ptr id _ _=>exact F3 h hB;|mp id _ _=>exact F3 h hB;|lsl _=>trivial;|raw _=>trivial;|clo f b=>intro p a;have:=h p a;cases p with|d x=>trivial;|ptr id _ _=>exact F3 this hB
abbrev mY:=Int×Int×Int
def sS(l:List mY):List C:=l.flatMap λx=>[ag x.1,ag x.2.1,ag x.2.2]
def EI l:z (sS l)=z l*3:=by induction l with|nil=>rfl;|cons a l b=>simp only[sS,A8,j7,j8,l5]at b|-;omega
def Oj l m:sS (l++m)=sS l++sS m:=by simp[sS]
def Ok{B} l:∀c∈sS l,og B c:=λc a=>by obtain⟨x,_,I⟩:=List.mem_flatMap.1 a;simp only[A0,A9,D8]at I;rcases I with rfl|rfl|rfl<;>trivial
structure bZ where
 c0:C
 c1:C
 c2:C
 c3:C
 c4:C
 c5:C
 d0:C
 d1:C
 d3:C
 d4:C
def bZ.cells(k:bZ)(D a n H h m:Nat):List C:=[k.c0,k.c1,k.c2,k.c3,k.c4,k.c5,.osl D a 4 0 n,k.d0,k.d1,.osl H h 3 0 m,k.d3,k.d4]
def bZ.all(k:bZ):List C:=[k.c0,k.c1,k.c2,k.c3,k.c4,k.c5,k.d0,k.d1,k.d3,k.d4]
structure gu (B G D H:Nat) (k:bZ) (code:List ka) (holes:List mY) (g:Nat->Nat) (ob:Obs):Prop where
 top:∀i,B<=i->ob i=none
 gB:G<B
 dB:D<B
 hB:H<B
 gd:G≠D
 gh:G≠H
 dh:D≠H
 oG:ob G=some (k.cells D (g D) code.length H (g H) holes.length)oD:ob D=some (iH code)oH:ob H=some (sS holes)low:∀x∈k.all,og B x
variable{k:bZ}{g:Nat->Nat}{ob:Obs}{B B' G D H:Nat}{code:List ka}{holes:List mY}
def gu.up(ar:gu B G D H k code holes g ob)(h:B<=B'):gu B' G D H k code holes g ob:=⟨λi a=>ar.top i a7,by grind[ar.gB],by grind[ar.dB],by grind[ar.hB],ar.gd,ar.gh,ar.dh,ar.oG,ar.oD,ar.oH,λx I=>Jk h (ar.low x I)⟩
def gu.upd{B G D H i}{k}{code}{holes}{g}{ob}(ar:gu B G D H k code holes g ob)(h:i<B)(c:i≠G)(a:i≠D)(b:i≠H) x y:gu B G D H k code holes (Am.upd g i x) (Am.upd ob i y):=⟨λj d=>by simp only[Am.upd];rw[l4 a7];exact ar.top j d,ar.gB,ar.dB,ar.hB,ar.gd,ar.gh,ar.dh,by simp_all[Am.upd,C5,ar.oG],by simp_all[Am.upd,C5,ar.oD],by simp_all[Am.upd,C5,ar.oH],ar.low⟩
def gu.to{B G D H}{g g'}{ob Y}(ar:gu B G D H k code holes g ob)(a:∀i,B<=i->Y i=N)(U:g' D=g D)(Z:g' H=g H)(b:Y G=ob G)(c:Y D=ob D)(d:Y H=ob H):gu B G D H k code holes g' Y:=⟨a,ar.gB,ar.dB,ar.hB,ar.gd,ar.gh,ar.dh,by grind[ar.oG],by grind[ar.oD],by grind[ar.oH],ar.low⟩
structure dK (B G D H:Nat) (g:Nat->Nat) (ob:Obs) (g':Nat->Nat) (Y:Obs):Prop where
 gen:∀i,i<B->i≠D->i≠H->g' i=g i
 fr:∀i,i<B->i≠G->i≠D->i≠H->Y i=ob i
def dK.refl{B G D H}:dK B G D H g ob g ob:=⟨λ_ _ _ _=>rfl,λ_ _ _ _ _=>rfl⟩
def dK.trans{B G D H}{g c g2}{ob av d}(a:dK B G D H g ob c av)(b:dK B G D H c av g2 d):dK B G D H g ob g2 d:=⟨λi h x y=>(b.gen i h x y).trans (a.gen i h x y),λi h x y X=>(b.fr i h x y X).trans (a.fr i h x y X)⟩
def dK.down{g b}{ob av}(a:dK B' G D H g ob b av)(h:B<=B'):dK B G D H g ob b av:=⟨λi q=>a.gen i a7,λi q=>a.fr i a7⟩
def ei(f:FuncId)(xs:List AV)(w:Nat->Wr)(k:bZ):Prop:=∀(B G D H u:Nat)(code:List ka)(holes:List mY)(g:Nat->Nat)(ob:Obs),gu B G D H k code holes g ob->g G=u->z code+(w (z code)).code.length<=100000000->z holes+(w (z code)).holes.length<=100000000->dS Tryz.prog f (aj G u 0::xs) g ob (λ_ a Y=>gu B G D H k (code++(w (z code)).code) (holes++(w (z code)).holes) a Y/\dK B G D H g ob a Y) (λ_ _ _=>False)
def gu.pack{B b G D H}{code m}{holes a}{s}{j q}(ar:gu B G D H k code holes g ob)(c:gu b G D H k m a s.gen s.obj)(t:dK B G D H g ob s.gen s.obj){d}{n}(f:d=m)(h:n=a)(A:fT B s j q):bS B [G,D,H] g ob (λ_ g' Y=>gu B G D H k d n g' Y/\dK B G D H g ob g' Y) s j:=by
 subst f h;have o:∀{i},i∈[G,D,H]↔i=G\/i=D\/i=H:=λ{i}=>by simp
 refine⟨⟨λi p u=>?_,λi p v r=>?_⟩,q,A,⟨λi p=>?_,ar.gB,ar.dB,ar.hB,ar.gd,ar.gh,ar.dh,?_,?_,?_,ar.low⟩,λi p J l=>?_,λi p K J l=>?_⟩;.have w:i≠D:=λe=>u ac3;have y:i≠H:=λe=>u ac3;exact⟨t.gen i p w y,t.fr i p (λe=>u ac3) w y⟩
 .rcases o.1 p with rfl|rfl|rfl;.cases (c.oG.symm.trans r);intro x I;have bs:=ar.low;simp only[bZ.cells,bZ.all,A0,A9,D8]at I bs;rcases I with e|e|e|e|e|e|e|e|e|e|e|e;all_goals first|(subst e;first|exact ar.dB|exact ar.hB)|exact bs x (by simp[e])
  .cases (c.oD.symm.trans r);exact Bk _
  .cases (c.oH.symm.trans r);exact Ok _
 .unfold iA;have:=ar.gB;have:=ar.dB;have:=ar.hB;rw[l4 (λe=>by grind)];exact ar.top i p
 .simp only[iA,kS,A0,A9,D8,R6,Q4,B3];exact c.oG
 .simp_all[iA,c.oD]
 .simp_all[iA,c.oH]
 .unfold kS;split;.exact t.gen i p J l
  .rfl
 grind[iA]
def gw op a b c k:ei 96 [ae op,ae a,ae b,ae c] (Emit.aE op a b c) k:=by
 intro B G D H u code holes g ob ar l hl n;have Q:=ar.gh;have j:=ar.dh;refine(aci ar.top ar.gB ar.dB ar.gd l ar.oG ar.oD ?_ a7).mono ?_ (λ_ _ _ h=>h);.intro x I;have bs:=ar.low;simp only[bZ.all,A0,A9,D8]at I bs;rcases I with e|e|e|e|e|e|e|e|e|e|e;all_goals first|(subst e;exact ar.hB)|exact bs x (by simp[e])
 rintro _ o Y⟨U,Z,m,f⟩;refine⟨⟨λi d=>?_,ar.gB,ar.dB,ar.hB,ar.gd,ar.gh,ar.dh,?_,m,?_,ar.low⟩,λi _ d _=>U i d,λi _ d J _=>f i d J⟩;.have:=ar.gB;have:=ar.dB;rw[f i a7 a7];exact ar.top i d
 .simp_all[C5,bZ.cells,Emit.aE]
 simp_all[C5,Emit.aE,ar.oH]
variable{O:Bs}{rd:Option Nat}{t:St->Am.Loc->List Deferred->World->Prop}
def bJ{d}{e}(a6:bA O t){o}{s}{K}{c:Box K}{f}{args}{tys}(ho:o.op=.call ⟨.value (.func f),args,tys⟩){xs}{w}(hw:ei f xs w k) b G D H u code holes(I:args.toList.map s.ev=aj G u 0::xs)(hg:s.gen G=u)(ar:gu b G D H k code holes s.gen s.obj)(hl:z code+(w (z code)).code.length<=100000000)(a:z holes+(w (z code)).holes.length<=100000000)(i:∀r g' Y,gu b G D H k (code++(w (z code)).code) (holes++(w (z code)).holes) g' Y->dK b G D H s.gen s.obj g' Y->K (St.put ⟨s.f,g',Y⟩ o.dst r)):bE (spF Tryz.prog rd O t e d) o s c:=by refine cN (L:=λ_ _ _=>False) a6 ho ac9 (λ_ _ _ h=>h.elim) ?_;grind
end
section
open Go Go.Am Go.Lower
open Go.Emit (Wr aE aJ aD vR gg)
attribute[local congr]ite_cc
section
structure qj (k:bZ) (fs:List Src.CFn) (P:Emit.Plan) (f:Nat) (V:Int):Prop where
 s:k.c1=aw (fs.map sfD)ds:k.c2=aw (P.depths.map λo=>[ksD o])bk:k.c3=.d (ksD P.back)b:k.c4=.d (ksD P.base)fn:k.d3=ag (f:Nat)d:k.d4=ag V
 fl:f<fs.length
 dl:P.depths.length=fs.length
 bl:P.back.length=fs.length
 l:P.base.length=fs.length
 fz:fs.length<=1000000
 bz:∀x∈P.base,0<=x/\x<=1000000000000000
 dz:-1<=V/\V<=1000000000
 pz:∀x∈fs,0<=x.p/\x.p<=1000000/\0<=x.first/\x.first<=1000000000000000
variable{k:bZ}{fs:List Src.CFn}{P:Emit.Plan}{f:Nat}{V:Int}
def nT(A:qj k fs P f V) reg a(hb:0<=a/\a<=1000000):ei 155 [ae reg,ae a] (Emit.eN P f V reg a) k:=by
 intro B G D H u code holes g ob ar n hl s;have y:=ar.gB;have E:=ar.dB;have I:=ar.hB;refine hdM B [G,D,H] Tryz.func155 rfl [] ZN ar.top λO bc s0 w0=>?_;have a1:=ar.oG;unfold bZ.cells at a1;rw[A.b,A.fn,A.d]at a1;have J:=A.fl;have K:=A.l;obtain⟨j,c⟩:=getq (show f<z P.base by omega);have h:=A.bz j (l8 c);have L:=A.dz;have t:(0:Int)<=(f:Int):=a7;have v:IntKind.i64.wrap (j+V)=j+V:=by rw[wrap_i64]<;>omega
 have w:IntKind.i64.wrap (j+V-a)=j+V-a:=by rw[wrap_i64]<;>omega
 simp only[go_sem];refine aZ c9 ?_;simp only[go_sem,a1,n,ksD,t,c,v,w];refine bJ aa rfl (gw 16 reg 0 (j+V-a) k) (B+27) G D H u code holes c8 n (ar.up a7) hl s ?_;intro r Q Y o x;simp only[go_sem];refine⟨_,ai.refl _,?_⟩;simp only[go_sem];exact ar.pack o (x.down a7) (by simp only[Emit.eN,aE,c,B6]) rfl rfl
def ql(A:qj k fs P f V) reg a(hb:0<=a/\a<=1000000):ei 152 [ae reg,ae a] (Emit.ey P f V reg a) k:=by
 intro B G D H u code holes g ob ar n hl s;have y:=ar.gB;have E:=ar.dB;have I:=ar.hB;refine hdM B [G,D,H] Tryz.func152 rfl [] ZN ar.top λO bc s0 w0=>?_;have a1:=ar.oG;unfold bZ.cells at a1;rw[A.b,A.fn,A.d]at a1;have J:=A.fl;have K:=A.l;obtain⟨j,c⟩:=getq (show f<z P.base by omega);have h:=A.bz j (l8 c);have L:=A.dz;have t:(0:Int)<=(f:Int):=a7;have v:IntKind.i64.wrap (j+V)=j+V:=by rw[wrap_i64]<;>omega
 have w:IntKind.i64.wrap (j+V-a)=j+V-a:=by rw[wrap_i64]<;>omega
 simp only[go_sem];refine aZ c9 ?_;simp only[go_sem,a1,n,ksD,t,c,v,w];refine bJ aa rfl (gw 17 reg 0 (j+V-a) k) (B+27) G D H u code holes c8 n (ar.up a7) hl s ?_;intro r Q Y o x;simp only[go_sem];refine⟨_,ai.refl _,?_⟩;simp only[go_sem];exact ar.pack o (x.down a7) (by simp only[Emit.ey,aE,c,B6]) rfl rfl
def VN{n}:IntKind.u32.wrap ((BitVec.ofInt 32 n&&&BitVec.ofInt 32 65535).toNat)=n%65536:=by rw[show (65535:Int)=((65535:Nat):Int)from rfl,BitVec.toNat_and,BitVec.toNat_ofInt,BitVec.toNat_ofInt,show (((65535:Nat):Int)%(2^32:Nat)).toNat=65535 by omega,show (n%(2^32:Nat)).toNat&&&65535=(n%(2^32:Nat)).toNat%65536 from Nat.and_two_pow_sub_one_eq_mod _ 16,IntKind.wrap_u32];omega
def XB{n:Int}:n.fdiv (2^min 16 32)=n/65536:=by grind
def Ol reg n:ei 151 [ae reg,iv .u32 n] (Emit.lY reg n) k:=by
 intro B G D H u code holes g ob ar b hl a;have x:=ar.gB;have y:=ar.dB;have A:=ar.hB;refine hdM B [G,D,H] Tryz.func151 rfl [] ZN ar.top λO bc s0 w0=>?_;have e:IntKind.i64.wrap (n%65536)=n%65536:=by rw[wrap_i64]<;>omega
 have l:IntKind.i64.wrap (n/65536)=Emit.hi16 n:=by rw[IntKind.wrap_i64];unfold Emit.hi16;omega
 by_cases hn:65535<n;.have d:Emit.lY reg n=aD (aE 1 reg 0 (n%65536)) (aE 2 reg 0 (Emit.hi16 n)):=s5 hn;rw[d]at hl a|-;simp only[aD,aE,j7,j8,l5]at hl a;simp only[go_sem];erw[VN];rw[e];refine bJ aa rfl (gw 1 reg 0 (n%65536) k) (B+20) G D H u code holes c8 b (ar.up a7) ab5 a ?_;intro r s t o K1;simp only[go_sem,hn];refine bJ aa rfl (gw 2 reg 0 (Emit.hi16 n) k) (B+20) G D H u _ _ (by simp only[go_sem,XB,l]) ((K1.gen G a7 ar.gd ar.gh).trans b) o abe abm ?_;intro r E I v w;simp only[go_sem];refine⟨_,ai.refl _,?_⟩;simp only[go_sem];exact ar.pack v ((K1.trans w).down a7) ac6 ac6 rfl
 .have d:Emit.lY reg n=aE 1 reg 0 (n%65536):=l4 hn;rw[d]at hl a|-;simp only[go_sem];erw[VN];rw[e];refine bJ aa rfl (gw 1 reg 0 (n%65536) k) (B+20) G D H u code holes c8 b (ar.up a7) hl a ?_;intro r s t o K1;simp only[go_sem,hn];exact so
def SY(A:qj k fs P f V):ei 166 [] (Emit.mJ fs P f V) k:=by
 intro B G D H u code holes g ob ar e hl j;have c6:=ar.gB;have c7:=ar.dB;have dc:=ar.hB;refine hdM B [G,D,H] Tryz.func166 rfl [] ZN ar.top λO bc s0 w0=>?_;have a1:=ar.oG;unfold bZ.cells at a1;rw[A.b,A.fn,A.d,A.s,A.bk]at a1;have J:=A.fl;have dd:=A.fz;have cz:=A.bl;have K:IntKind.i64.wrap ((z fs:Int)-1)=(z fs:Int)-1:=by rw[wrap_i64]<;>omega
 obtain⟨v,c⟩:=getq (show f<z P.back by omega);obtain⟨W,w⟩:=getq J;have x:(0:Int)<=(f:Int):=a7;simp only[go_sem];refine aZ c9 ?_;by_cases U:(f:Int)=(z fs:Int)-1;.have l:Emit.mJ fs P f V=aE 26 0 0 0:=s5 a7;rw[l]at hl j|-;simp only[go_sem,a1,e,j6,K,w9 U];refine bJ aa rfl (gw 26 0 0 0 k) (B+45) G D H u code holes c8 e (ar.up a7) hl j ?_;intro r Y av o K1;simp only[go_sem];exact so
 .simp only[go_sem,a1,e,j6,K,U];refine aZ c9 ?_;simp only[go_sem,a1,e,x,w,sfD];cases Z:W.word
  .have l:Emit.mJ fs P f V=aD (aE 16 14 0 v) (aE 22 14 0 0):=by unfold Emit.mJ;rw[l4 a7,w];simp only[A5,B6,Z,c,B4,B1]
   rw[l]at hl j|-;simp only[aD,aE,j7,j8,l5]at hl j;simp only[go_sem];refine aZ c9 ?_;simp only[go_sem,a1,e,ksD,x,c];refine bJ aa rfl (gw 16 14 0 v k) (B+45) G D H u code holes c8 e (ar.up a7) ab5 j ?_;intro r2 g2 bn y n;simp only[go_sem];refine bJ aa rfl (gw 22 14 0 0 k) (B+45) G D H u _ _ c8 ((n.gen G a7 ar.gd ar.gh).trans e) y abe abm ?_;intro r3 g3 b' E L;simp only[go_sem];refine⟨_,ai.refl _,?_⟩;simp only[go_sem];exact ar.pack E ((n.trans L).down a7) ac6 ac6 rfl
  .have l:Emit.mJ fs P f V=aD (Emit.eN P f V 1 1) (aD (aE 16 14 0 v) (aE 22 14 0 0)):=by unfold Emit.mJ;rw[l4 a7,w];simp only[A5,B6,Z,c,B3]
   rw[l]at hl j|-;simp only[aD,aE,Emit.eN,j7,j8,l5]at hl j;simp only[go_sem];refine bJ aa rfl (nT A 1 1 a8) (B+45) G D H u code holes c8 e (ar.up a7) (by simp only[aE,Emit.eN,j8,l5];omega) (by simp_all[aE,Emit.eN]) ?_;intro r1 Y av o K1;have I:=(K1.gen G a7 ar.gd ar.gh).trans e;have t:=o.oG;unfold bZ.cells at t;rw[A.b,A.fn,A.d,A.s,A.bk]at t;simp only[go_sem];refine aZ c9 ?_;simp only[go_sem,t,I,ksD,x,c];refine bJ aa rfl (gw 16 14 0 v k) (B+45) G D H u _ _ c8 I o (by simp only[aE,Emit.eN,j7,j8,l5];omega) (by simp_all[aE,Emit.eN]) ?_;intro r2 g2 bn y n;simp only[go_sem];refine bJ aa rfl (gw 22 14 0 0 k) (B+45) G D H u _ _ c8 ((n.gen G a7 ar.gd ar.gh).trans I) y (by simp_all[aE,Emit.eN]) (by simp_all[aE,Emit.eN]) ?_;intro r3 g3 b' E L;simp only[go_sem];refine⟨_,ai.refl _,?_⟩;simp only[go_sem];exact ar.pack E ((K1.trans (n.trans L)).down a7) (by simp[aD,aE,Emit.eN]) (by simp[aD,aE,Emit.eN]) rfl
end
def SZ{k} a b(h0:0<=a)(d:a<=b)(hb:b<=1000000000000000):ei 169 [ae a,ae b] (Emit.ku a b) k:=by
 intro B G D H u code holes g ob ar W hl Y;have c6:=ar.gB;have c7:=ar.dB;have dc:=ar.hB;refine hdM B [G,D,H] Tryz.func169 rfl [] ZN ar.top λO bc s0 w0=>?_;have hw:IntKind.i64.wrap (b-a)=b-a:=by rw[wrap_i64]<;>omega
 by_cases w:b-a<=6
 .have Z:Emit.ku a b=Emit.kU a (b-a).toNat:=s5 w;rw[Z]at hl Y|-;have hz:∀(j n:Nat),z (Emit.kU a j n).code=j/\(Emit.kU a j n).holes=[]:=by intro j;induction j with|zero=>intro n;exact⟨rfl,rfl⟩;|succ j ih=>simp_all[Emit.kU,aD,aE]
  rw[(hz _ _).1]at hl;simp only[go_sem,hw,w];refine aF (λm K=>∃j:Nat,m+j=(b-a).toNat/\K.f 0=aj G u 0/\K.f 2=ae b/\K.f 6=ae (a+j)/\gu (B+41) G D H k (code++(Emit.kU a j (z code)).code) (holes++(Emit.kU a j (z code)).holes) K.gen K.obj/\dK (B+41) G D H g ob K.gen K.obj) (b-a).toNat ?_ ?_;.refine⟨0,rfl,?_⟩;simp only[go_sem,Emit.kU,gg,u7];exact⟨b9,ar.up a7,.refl⟩
  rintro m f g1 av⟨j,hm,q0,A,E,o,K1⟩;simp only at q0 A E o K1;by_cases af:a+j<b
  .have s:IntKind.i64.wrap (a+j+1)=a+j+1:=by rw[wrap_i64]<;>omega
   simp only[go_sem,q0,A,E,af];refine bJ aa rfl (gw 17 0 0 (a+j) k) (B+41) G D H u _ _ c8 ((K1.gen G a7 ar.gd ar.gh).trans W) o (by simp only[j7,(hz _ _).1,aE,j8,l5];omega) (by simp_all[aE]) ?_;intro r g2 bn l U;simp only[go_sem,E,s];refine ak (m-1) a7 ⟨j+1,a7,?_⟩;simp only[go_sem,q0,A];refine⟨a7,?_,K1.trans U⟩;simp_all[Emit.kU,aD]
  .obtain rfl:j=(b-a).toNat:=a7;simp only[go_sem,A,E,af];exact so
 .have Z:Emit.ku a b=λn=>⟨[(1,1,0,a),(1,2,0,b),(17,0,1,0),(4,1,1,15),(14,3,1,2),(20,3,0,(n:Int)+2)],[]⟩:=l4 w;rw[Z]at hl Y|-;simp only[j8,l5]at hl Y;simp only[go_sem,hw,w];refine bJ aa rfl (gw 1 1 0 a k) (B+41) G D H u code holes c8 W (ar.up a7) abe abm ?_;intro r1 g1 av o K1;have b0:=(K1.gen G a7 ar.gd ar.gh).trans W;simp only[go_sem];refine bJ aa rfl (gw 1 2 0 b k) (B+41) G D H u _ _ c8 b0 o abe abm ?_;intro r2 g2 bn l U;have cb:=(U.gen G a7 ar.gd ar.gh).trans b0;have I:=l.oG;unfold bZ.cells at I;simp only[go_sem,I,cb];refine⟨by rw[l.oD];rfl,?_⟩;refine bJ aa rfl (gw 17 0 1 0 k) (B+41) G D H u _ _ c8 cb l abe abm ?_;intro r3 g3 b' S3 L;have y:=(L.gen G a7 ar.gd ar.gh).trans cb;simp only[go_sem];refine bJ aa rfl (gw 4 1 1 15 k) (B+41) G D H u _ _ c8 y S3 abe abm ?_;intro r4 g4 cd J X;have V:=(X.gen G a7 ar.gd ar.gh).trans y;simp only[go_sem];refine bJ aa rfl (gw 14 3 1 2 k) (B+41) G D H u _ _ c8 V J abe abm ?_;intro P g5 c0 Q K5;simp only[go_sem];refine bJ aa rfl (gw 20 3 0 ((z code:Int)+2) k) (B+41) G D H u _ _ (by (first|rfl|simp only[go_sem,aE,j7,j8,l5]);rfl) ((K5.gen G a7 ar.gd ar.gh).trans V) Q (by simp_all[aE]) (by simp_all[aE]) ?_;intro r6 g6 v c e;simp only[go_sem];refine⟨_,ai.refl _,?_⟩;simp only[go_sem];exact ar.pack c ((K1.trans (U.trans (L.trans (X.trans (K5.trans e))))).down a7) (by simp[aE]) (by simp[aE]) rfl
def Hq{k} op a f pl:ei 161 [ae op,ae a,ae f,ae pl] (aJ op a f pl) k:=by
 intro B G D H u code holes g ob ar K hl hh;have hG:=ar.gB;have hD:=ar.dB;have c:=ar.hB;have w:=ar.gd;have Q:=ar.gh;have V:=ar.dh;have hc:=ar.oD;simp only[aJ,j8,l5]at hl hh;refine hdM B [G,D,H] Tryz.func161 rfl [] ZN ar.top λO bc s0 w0=>?_;have a1:=ar.oG;unfold bZ.cells at a1;have n:∀k,(G=B+k)=False:=λk=>by grind
 have s:∀k,(D=B+k)=False:=λk=>by grind
 have t:∀k,(H=B+k)=False:=λk=>by grind
 have A:(G=H)=False:=by simp[Q]
 have E:(H=G)=False:=by simp[C5 Q]
 simp only[go_sem];refine cG aP mixed aa [B+23,H,G] [([0],[0,1,2],[],F),([0],[0],[],F),([11],[0],[],F),([12],[0],[],F),([13],[0],[],F),([0],[],[],F),([15],[],[],F),([16],[],[],F),([17],[],[],F),([18],[],[],F),([3],[],[],F),([4],[],[],F),([19,20,21],[],[],F),([22],[],[0],F),([14,23],[],[1],F),([10],[],[],F),([25],[],[],F),([26,24],[],[],T)] 3 rfl c9 rfl ZN ?_;have e:=EI holes;simp only[go_sem];iterate 10 (refine au gdD (λ_ _ _ _ J=>by simp only[go_sem,n,a1,K,hc]at J|-;exact J) ?_)
 iterate 3 (refine au gdD (λ_ _ _ _ J=>by simp only[go_sem]at J|-;exact J) ?_)
 (refine cw gdD aa7 ?_);refine cw (v:=eS H (nxC (apC 193 (g H) 0) (g H)) 3 0 (z holes+1)) (x:=nxC (apC 193 (g H) 0) (g H)) (y:=S (sS (holes++[((z code:Int),f,pl)]))) A6 (λfa ga oa W J=>?_) ?_
 .have e1:List.take (z holes*3) (sS holes)++[C.d (.int .i64 (z code:Int)),C.d (.int .i64 f),C.d (.int .i64 pl)]=sS (holes++[((z code:Int),f,pl)]):=by rw[s6 a7,Oj];simp[sS]
  simp only[go_sem,bm,ar.oH,e,t]at J|-;exact V0
 iterate 2 (refine au gdD (λ_ _ _ _ J=>by simp only[go_sem,n,A,a1,K]at J|-;exact J) ?_)
 refine cH A6 ?_;intro W Z;simp only[go_sem,n,A,a1,K];refine Z _ ?_;clear Z W;have j:(D=H)=False:=by simp[V]
 have l:(D=G)=False:=by simp[C5 w]
 simp only[go_sem];obtain⟨h,fu⟩:∃x,nxC (apC 193 (g H) 0) (g H)=x:=⟨_,rfl⟩;rw[fu];refine bJ aa rfl (gw op a 0 0 k) (B+31) G D H u code (holes++[((z code:Int),f,pl)]) c8 (by grind[upd]) ⟨λi hi=>nt (ar.top i a7),a7,a7,a7,w,Q,V,?_,?_,?_,λx I=>Jk a7 (ar.low x I)⟩ ab5 abe ?_;.simp_all[upd,bZ.cells]
 .grind[upd]
 .grind[upd]
 intro r g' Y o K1;simp only[go_sem];refine⟨_,ai.refl _,?_⟩;simp only[go_sem];refine ar.pack o ⟨λi hi L U=>(K1.gen i a7 L U).trans ?_,λi hi e1 L U=>(K1.fr i a7 e1 L U).trans ?_⟩ c8 (by simp[aJ,aE]) rfl;.exact Zg
 .exact Zg
def EJ P f V u first:∀j n:Nat,z (Emit.nM P f V u first j n).code=2*j/\(Emit.nM P f V u first j n).holes=[]|0,n=>⟨c8,c8⟩|j+1,n=>by have a:=EJ P f V u first j;exact⟨by simp[Emit.nM,aD,aE,Emit.eN,(a _).1];omega,by simp_all[Emit.nM,aD,aE,Emit.eN]⟩
def XC{k}{fs}{P}{f}{V}(A:qj k fs P f V) x{c:Nat}{y}(hc:x.a=(c:Int))(hy:fs[c]?=S y):ei 164 [.agg ((er x).map .d)] (Emit.xl fs P f V x.a) k:=by
 intro B G D H u code holes g ob ar hg hl hh;have c6:=ar.gB;have c7:=ar.dB;have dc:=ar.hB;have w:=ar.gd;have Q:=ar.gh;have cy:=ar.dh;refine hdM B [G,D,H] Tryz.func164 rfl [] ZN ar.top λO bc s0 w0=>?_;obtain⟨op,a,b,n⟩:=x;simp only at hc;subst hc;have e0:Emit.xl fs P f V (c:Int)=aD (Emit.nM P f V y.p y.first y.p.toNat) (aD (aJ 21 14 (c:Int) (-1)) (if y.word then Emit.ey P f V 1 y.p else gg)):=by unfold Emit.xl;rw[C0,hy]
 rw[e0]at hl hh|-;have a1:=ar.oG;unfold bZ.cells at a1;rw[A.s]at a1;obtain⟨d',b6,cf,az⟩:=A.pz y (l8 hy);have n1:∀k,(G=B+k)=False:=λk=>by grind
 have n2:∀k,(D=B+k)=False:=λk=>by grind
 have n3:∀k,(H=B+k)=False:=λk=>by grind
 simp only[go_sem,er];refine cG aP mixed aa [B+4] [([0],[0],[],F),([6],[0],[],F),([7],[0],[],F),([8],[0],[],F),([9],[0],[],F),([3],[0],[],F),([11],[0],[],F),([10,12],[0],[],F),([13],[0],[],F),([],[],[0],F),([4,14],[],[],T)] 1 rfl c9 rfl b9 ?_;simp only[go_sem];iterate 7 (refine au gdD (λ_ _ _ _ J=>by simp only[go_sem,n1,n2,n3,a1,hg]at J|-;exact J) ?_)
 iterate 2 (refine au gdD (λ_ _ _ _ J=>by simp only[go_sem,n1,n2,n3,a1,hg,a7,a7,(l9.1 hy).1,hy,j6,sfD]at J|-;exact J) ?_)
 (refine cw gdD (λ_ _ _ _ J=>by simp only[go_sem,n1,n2,n3]at J|-;exact J) ?_);refine cH A6 ?_;intro K' a';simp only[go_sem,n1,n2,n3];refine a' _ ?_;clear a' K';simp only[go_sem];have cu:=EJ P f V y.p y.first;have l:z code+(2*y.p.toNat+2)<=100000000+1:=by
  have U:(aD (Emit.nM P f V y.p y.first y.p.toNat) (aD (aJ 21 14 (c:Int) (-1)) (if y.word then Emit.ey P f V 1 y.p else gg)) (z code)).code.length≥2*y.p.toNat+1:=by simp only[aD,aJ,j7,(cu _ _).1,j8,l5];omega
  omega
 have t:z holes+1<=100000000:=by
  have U:(aD (Emit.nM P f V y.p y.first y.p.toNat) (aD (aJ 21 14 (c:Int) (-1)) (if y.word then Emit.ey P f V 1 y.p else gg)) (z code)).holes.length≥1:=by simp only[aD,aJ,j7,(cu _ _).2,j8,l5];omega
  omega
 refine aF (λm K=>∃j:Nat,m+j=y.p.toNat/\K.f 0=aj G u 0/\K.f 3=aj (B+3) (K.gen (B+3)) 0/\K.f 4=aj (B+4) (K.gen (B+4)) 0/\K.f 16=ae y.p/\K.f 17=ae j/\K.obj (B+3)=S [ag op,ag c,ag b,.d (.int .u32 n)]/\K.obj (B+4)=S [ag y.p,ag y.slots,ag y.first,bO y.word,.d (xI (codeOf y.word y.body))]/\gu (B+43) G D H k (code++(Emit.nM P f V y.p y.first j (z code)).code) (holes++(Emit.nM P f V y.p y.first j (z code)).holes) K.gen K.obj/\dK B G D H g ob K.gen K.obj) y.p.toNat ?_ ?_;.refine⟨0,rfl,?_⟩;simp only[go_sem,Emit.nM,gg,u7,n1,n2,n3];exact⟨(ar.up a7).to (λi hi=>nt (ar.top i a7)) (nu) (nu) (nu) (nu) (nu),⟨λi U Z h3=>nu,λi U Z h3 h4=>nu⟩⟩
 rintro m fa g1 av⟨j,hm,q0,q3,q4,E,e,p3,p4,o,K1⟩;simp only at q0 q3 q4 E e p3 p4 o K1;have b0:=(K1.gen G a7 ar.gd ar.gh).trans hg;by_cases af:(j:Int)<y.p
 .have b4:IntKind.i64.wrap (y.p-j)=y.p-j:=by rw[wrap_i64]<;>omega
  have b7:IntKind.i64.wrap (y.first+j)=y.first+j:=by rw[wrap_i64]<;>omega
  simp only[go_sem,q0,q3,q4,E,e,af,p4,b4];refine bJ aa rfl (nT A 1 (y.p-j) a7) (B+43) G D H u _ _ c8 b0 o (by simp only[j7,(cu _ _).1,aE,Emit.eN,j8,l5];omega) (by simp only[j7,(cu _ _).2,aE,Emit.eN,l5];omega) ?_;intro r g2 bn S2 K2;have X:=(K2.fr (B+4) a7 a7 a7 a7).trans p4;have h:=K2.gen (B+4) a7 a7 a7;simp only[go_sem,q0,q3,q4,E,e,X,h,b7];refine bJ aa rfl (gw 17 1 0 (y.first+j) k) (B+43) G D H u _ _ abK ((K2.gen G a7 ar.gd ar.gh).trans b0) S2 (by simp only[j7,(cu _ _).1,aE,Emit.eN,j8,l5];omega) (by simp only[j7,(cu _ _).2,aE,Emit.eN,l5];omega) ?_;intro r g3 b' S3 L;simp only[go_sem,e,ah (k:=j) a7];refine ak (m-1) a7 ⟨j+1,a7,?_⟩;simp only[go_sem,q0,q3,q4,E,(L.fr (B+3) a7 a7 a7 a7).trans ((K2.fr (B+3) a7 a7 a7 a7).trans p3),(L.fr (B+4) a7 a7 a7 a7).trans X,(L.gen (B+3) a7 a7 a7).trans (K2.gen (B+3) a7 a7 a7),(L.gen (B+4) a7 a7 a7).trans h];refine⟨?_,K1.trans ((K2.trans L).down a7)⟩;simp only[Emit.nM,aD,<-s9];grind
 .have hj:j=y.p.toNat:=a7;subst hj;simp only[go_sem,q0,q3,q4,E,e,af,p3];refine bJ aa rfl (Hq 21 14 (c:Int) (-1)) (B+43) G D H u _ _ c8 b0 o (by simp only[j7,(cu _ _).1,aJ,j8,l5];omega) (by simp_all[j7,aJ,j8,l5]) ?_;intro r g2 bn S2 K2;have cb:=(K2.gen G a7 ar.gd ar.gh).trans b0;have X:=(K2.fr (B+4) a7 a7 a7 a7).trans p4;have h:=K2.gen (B+4) a7 a7 a7;cases cv:y.word with|false=>rw[cv]at X hl hh;simp only[go_sem,q0,q4,X,h];refine⟨_,ai.refl _,?_⟩;simp only[go_sem];exact ar.pack S2 (K1.trans (K2.down a7)) (by simp[aD,gg,s9,aJ]) (by simp[aD,gg,s9,aJ]) rfl;|true=>
 rw[cv]at X hl hh;simp only[go_sem,q0,q4,X,h];refine bJ aa rfl (ql A 1 y.p a7) (B+43) G D H u _ _ c8 cb S2 ?_ ?_ ?_;.simp only[aD,aJ,Emit.ey,aE,j7,(cu _ _).1,j8,l5,B3]at hl|-;omega
 .simp_all[aD,aJ,Emit.ey,aE,j7,j8,l5,B3]
 intro r g3 b' S3 L;simp only[go_sem];refine⟨_,ai.refl _,?_⟩;simp only[go_sem];exact ar.pack S3 (K1.trans ((K2.trans L).down a7)) (by simp[aD,gg,s9,aJ,Emit.ey,aE]) (by simp[aD,gg,s9,aJ,Emit.ey,aE]) rfl
section
variable{k:bZ}{fs:List Src.CFn}{P:Emit.Plan}{f:Nat}{V:Int}
def XD(A:qj k fs P f V) a b n:ei 150 [.agg ((er ⟨1,a,b,n⟩).map .d)] (Emit.mK fs P f V ⟨1,a,b,n⟩) k:=by
 intro B G D H u code holes g ob ar j hl hh;have E:=ar.gB;have I:=ar.dB;have J:=ar.hB;refine hdM B [G,D,H] Tryz.func150 rfl [] ZN ar.top λO bc s0 w0=>?_;have L:∀k,(G=B+k)=False:=λk=>by grind
 have s:Emit.mK fs P f V ⟨1,a,b,n⟩=(aD (Emit.lY 1 n) (Emit.ey P f V 1 0)):=by simp[Emit.mK]
 rw[s]at hl hh|-;simp only[aD,aE,Emit.ey,j7,j8,l5]at hl hh;simp[go_sem,er];obtain⟨l,h⟩:∃x,nxC 266 (g (B+3))=x:=⟨_,rfl⟩;have p:dK B G D H g ob (upd g (B+3) l) (upd ob (B+3) (S [ag 1,ag a,ag b,.d (.int .u32 n)])):=⟨λi v _ _=>nu,λi v _ _ _=>nu⟩;have an:upd g (B+3) l G=u:=by simp[upd];rw[l4 a7];exact j
 rw[h];refine bJ aa rfl (Ol 1 n) (B+10) G D H u _ _ c8 an ((ar.up a7).upd a7 a7 a7 a7 _ _) a7 a7 ?_;intro r g1 y o K1;have b0:=(K1.gen G a7 ar.gd ar.gh).trans an;have c:y (B+3)=S [ag 1,ag a,ag b,.d (.int .u32 n)]:=(K1.fr (B+3) a7 a7 a7 a7).trans aa4;exact mF
def XE(A:qj k fs P f V) a b n:ei 153 [.agg ((er ⟨2,a,b,n⟩).map .d)] (Emit.mK fs P f V ⟨2,a,b,n⟩) k:=by
 intro B G D H u code holes g ob ar j hl hh;have E:=ar.gB;have I:=ar.dB;have J:=ar.hB;refine hdM B [G,D,H] Tryz.func153 rfl [] ZN ar.top λO bc s0 w0=>?_;have L:∀k,(G=B+k)=False:=λk=>by grind
 have s:Emit.mK fs P f V ⟨2,a,b,n⟩=(aD (aE 16 1 0 a) (Emit.ey P f V 1 0)):=by simp[Emit.mK]
 rw[s]at hl hh|-;simp only[aD,aE,Emit.ey,j7,j8,l5]at hl hh;simp[go_sem,er];obtain⟨l,h⟩:∃x,nxC 266 (g (B+3))=x:=⟨_,rfl⟩;have p:dK B G D H g ob (upd g (B+3) l) (upd ob (B+3) (S [ag 2,ag a,ag b,.d (.int .u32 n)])):=⟨λi v _ _=>nu,λi v _ _ _=>nu⟩;have an:upd g (B+3) l G=u:=by simp[upd];rw[l4 a7];exact j
 rw[h];refine bJ aa rfl (gw 16 1 0 a k) (B+10) G D H u _ _ c8 an ((ar.up a7).upd a7 a7 a7 a7 _ _) Z1 Z2 ?_;intro r g1 y o K1;have b0:=(K1.gen G a7 ar.gd ar.gh).trans an;have c:y (B+3)=S [ag 2,ag a,ag b,.d (.int .u32 n)]:=(K1.fr (B+3) a7 a7 a7 a7).trans aa4;exact mF
def XF(A:qj k fs P f V) a b n:ei 154 [.agg ((er ⟨3,a,b,n⟩).map .d)] (Emit.mK fs P f V ⟨3,a,b,n⟩) k:=by
 intro B G D H u code holes g ob ar s hl hh;have J:=ar.gB;have K:=ar.dB;have L:=ar.hB;refine hdM B [G,D,H] Tryz.func154 rfl [] ZN ar.top λO bc s0 w0=>?_;have W:∀k,(G=B+k)=False:=λk=>by grind
 have t:Emit.mK fs P f V ⟨3,a,b,n⟩=(aD (Emit.eN P f V 1 1) (aE 17 1 0 a)):=by simp[Emit.mK]
 rw[t]at hl hh|-;simp only[aD,aE,Emit.eN,j7,j8,l5]at hl hh;simp[go_sem,er];obtain⟨l,h⟩:∃x,nxC 266 (g (B+3))=x:=⟨_,rfl⟩;have p:dK B G D H g ob (upd g (B+3) l) (upd ob (B+3) (S [ag 3,ag a,ag b,.d (.int .u32 n)])):=⟨λi y _ _=>nu,λi y _ _ _=>nu⟩;have an:upd g (B+3) l G=u:=by simp[upd];rw[l4 a7];exact s
 rw[h];refine bJ aa rfl (nT A 1 1 a8) (B+10) G D H u _ _ c8 an ((ar.up a7).upd a7 a7 a7 a7 _ _) Z1 Z2 ?_;intro r j E o K1;simp[go_sem,(K1.fr (B+3) a7 a7 a7 a7).trans aa4,(K1.gen (B+3) a7 a7 a7).trans aa4];refine bJ aa rfl (gw 17 1 0 a k) (B+10) G D H u _ _ c8 ((K1.gen G a7 ar.gd ar.gh).trans an) o Z1 Z2 ?_;exact gH
def XG(A:qj k fs P f V) a b n:ei 156 [.agg ((er ⟨4,a,b,n⟩).map .d)] (Emit.mK fs P f V ⟨4,a,b,n⟩) k:=by
 intro B G D H u code holes g ob ar U hl hh;have c6:=ar.gB;have c7:=ar.dB;have dc:=ar.hB;refine hdM B [G,D,H] Tryz.func156 rfl [] ZN ar.top λO bc s0 w0=>?_;have n1:∀k,(G=B+k)=False:=λk=>by grind
 have W:Emit.mK fs P f V ⟨4,a,b,n⟩=(aD (Emit.eN P f V 1 1) (aD (aE 25 1 0 b) (aD (aE 16 1 1 a) (Emit.ey P f V 1 1)))):=by simp[Emit.mK]
 rw[W]at hl hh|-;simp only[aD,aE,Emit.eN,Emit.ey,j7,j8,l5]at hl hh;simp[go_sem,er];obtain⟨l,h⟩:∃x,nxC 266 (g (B+3))=x:=⟨_,rfl⟩;have p:dK B G D H g ob (upd g (B+3) l) (upd ob (B+3) (S [ag 4,ag a,ag b,.d (.int .u32 n)])):=⟨λi Z _ _=>nu,λi Z _ _ _=>nu⟩;have an:upd g (B+3) l G=u:=by simp[upd];rw[l4 a7];exact U
 rw[h];refine bJ aa rfl (nT A 1 1 a8) (B+16) G D H u _ _ c8 an ((ar.up a7).upd a7 a7 a7 a7 _ _) Z1 Z2 ?_;intro r v av o K1;have E:=(K1.gen G a7 ar.gd ar.gh).trans an;have c:av (B+3)=S [ag 4,ag a,ag b,.d (.int .u32 n)]:=(K1.fr (B+3) a7 a7 a7 a7).trans aa4;have e:v (B+3)=l:=(K1.gen (B+3) a7 a7 a7).trans aa4;simp[go_sem,c,e];refine bJ aa rfl (gw 25 1 0 b k) (B+16) G D H u _ _ c8 E o Z1 Z2 ?_;intro r I bn S2 K2;have K:=(K2.gen G a7 ar.gd ar.gh).trans E;simp[go_sem,(K2.fr (B+3) a7 a7 a7 a7).trans c,(K2.gen (B+3) a7 a7 a7).trans e];refine bJ aa rfl (gw 16 1 1 a k) (B+16) G D H u _ _ c8 K S2 Z1 Z2 ?_;intro r g3 b' S3 L;simp only[go_sem];refine bJ aa rfl (ql A 1 1 a8) (B+16) G D H u _ _ c8 ((L.gen G a7 ar.gd ar.gh).trans K) S3 Z1 Z2 ?_;exact hY
def XH(A:qj k fs P f V) a b n:ei 157 [.agg ((er ⟨5,a,b,n⟩).map .d)] (Emit.mK fs P f V ⟨5,a,b,n⟩) k:=by
 intro B G D H u code holes g ob ar U hl hh;have c6:=ar.gB;have c7:=ar.dB;have dc:=ar.hB;refine hdM B [G,D,H] Tryz.func157 rfl [] ZN ar.top λO bc s0 w0=>?_;have n1:∀k,(G=B+k)=False:=λk=>by grind
 have W:Emit.mK fs P f V ⟨5,a,b,n⟩=(aD (Emit.eN P f V 1 2) (aD (aE 25 1 0 b) (aD (Emit.eN P f V 2 1) (aE 17 2 1 a)))):=by simp[Emit.mK]
 rw[W]at hl hh|-;simp only[aD,aE,Emit.eN,j7,j8,l5]at hl hh;simp[go_sem,er];obtain⟨l,h⟩:∃x,nxC 266 (g (B+3))=x:=⟨_,rfl⟩;have p:dK B G D H g ob (upd g (B+3) l) (upd ob (B+3) (S [ag 5,ag a,ag b,.d (.int .u32 n)])):=⟨λi Z _ _=>nu,λi Z _ _ _=>nu⟩;have an:upd g (B+3) l G=u:=by simp[upd];rw[l4 a7];exact U
 rw[h];refine bJ aa rfl (nT A 1 2 a8) (B+16) G D H u _ _ c8 an ((ar.up a7).upd a7 a7 a7 a7 _ _) Z1 Z2 ?_;intro r v av o K1;have E:=(K1.gen G a7 ar.gd ar.gh).trans an;have c:av (B+3)=S [ag 5,ag a,ag b,.d (.int .u32 n)]:=(K1.fr (B+3) a7 a7 a7 a7).trans aa4;have e:v (B+3)=l:=(K1.gen (B+3) a7 a7 a7).trans aa4;simp[go_sem,c,e];refine bJ aa rfl (gw 25 1 0 b k) (B+16) G D H u _ _ c8 E o Z1 Z2 ?_;intro r I bn S2 K2;have K:=(K2.gen G a7 ar.gd ar.gh).trans E;simp only[go_sem];refine bJ aa rfl (nT A 2 1 a8) (B+16) G D H u _ _ c8 K S2 Z1 Z2 ?_;intro r g3 b' S3 L;simp[go_sem,(L.fr (B+3) a7 a7 a7 a7).trans ((K2.fr (B+3) a7 a7 a7 a7).trans c),(L.gen (B+3) a7 a7 a7).trans ((K2.gen (B+3) a7 a7 a7).trans e)];refine bJ aa rfl (gw 17 2 1 a k) (B+16) G D H u _ _ c8 ((L.gen G a7 ar.gd ar.gh).trans K) S3 Z1 Z2 ?_;exact hY
def XI(A:qj k fs P f V) a b n:ei 158 [.agg ((er ⟨6,a,b,n⟩).map .d)] (Emit.mK fs P f V ⟨6,a,b,n⟩) k:=by
 intro B G D H u code holes g ob ar U hl hh;have c6:=ar.gB;have c7:=ar.dB;have dc:=ar.hB;refine hdM B [G,D,H] Tryz.func158 rfl [] ZN ar.top λO bc s0 w0=>?_;have n1:∀k,(G=B+k)=False:=λk=>by grind
 have W:Emit.mK fs P f V ⟨6,a,b,n⟩=(aD (Emit.eN P f V 1 2) (aD (Emit.eN P f V 2 1) (aD (aE a 1 1 2) (Emit.ey P f V 1 2)))):=by simp[Emit.mK]
 rw[W]at hl hh|-;simp only[aD,aE,Emit.eN,Emit.ey,j7,j8,l5]at hl hh;simp[go_sem,er];obtain⟨l,h⟩:∃x,nxC 266 (g (B+3))=x:=⟨_,rfl⟩;have p:dK B G D H g ob (upd g (B+3) l) (upd ob (B+3) (S [ag 6,ag a,ag b,.d (.int .u32 n)])):=⟨λi Z _ _=>nu,λi Z _ _ _=>nu⟩;have an:upd g (B+3) l G=u:=by simp[upd];rw[l4 a7];exact U
 rw[h];refine bJ aa rfl (nT A 1 2 a8) (B+14) G D H u _ _ c8 an ((ar.up a7).upd a7 a7 a7 a7 _ _) Z1 Z2 ?_;intro r v av o K1;have E:=(K1.gen G a7 ar.gd ar.gh).trans an;simp only[go_sem];refine bJ aa rfl (nT A 2 1 a8) (B+14) G D H u _ _ c8 E o Z1 Z2 ?_;intro r I bn S2 K2;have K:=(K2.gen G a7 ar.gd ar.gh).trans E;simp[go_sem,(K2.fr (B+3) a7 a7 a7 a7).trans ((K1.fr (B+3) a7 a7 a7 a7).trans aa4),(K2.gen (B+3) a7 a7 a7).trans ((K1.gen (B+3) a7 a7 a7).trans aa4)];refine bJ aa rfl (gw a 1 1 2 k) (B+14) G D H u _ _ c8 K S2 Z1 Z2 ?_;intro r g3 b' S3 L;simp only[go_sem];refine bJ aa rfl (ql A 1 2 a8) (B+14) G D H u _ _ c8 ((L.gen G a7 ar.gd ar.gh).trans K) S3 Z1 Z2 ?_;exact hY
def XJ(A:qj k fs P f V) a b n:ei 159 [.agg ((er ⟨7,a,b,n⟩).map .d)] (Emit.mK fs P f V ⟨7,a,b,n⟩) k:=by
 intro B G D H u code holes g ob ar I hl hh;have c6:=ar.gB;have c7:=ar.dB;have dc:=ar.hB;refine hdM B [G,D,H] Tryz.func159 rfl [] ZN ar.top λO bc s0 w0=>?_;have n1:∀k,(G=B+k)=False:=λk=>by grind
 have J:Emit.mK fs P f V ⟨7,a,b,n⟩=(aD (Emit.eN P f V 1 1) (aD (aE 15 1 1 0) (Emit.ey P f V 1 1))):=by simp[Emit.mK]
 rw[J]at hl hh|-;simp only[aD,aE,Emit.eN,Emit.ey,j7,j8,l5]at hl hh;simp[go_sem,er];obtain⟨l,h⟩:∃x,nxC 266 (g (B+3))=x:=⟨_,rfl⟩;have p:dK B G D H g ob (upd g (B+3) l) (upd ob (B+3) (S [ag 7,ag a,ag b,.d (.int .u32 n)])):=⟨λi U _ _=>nu,λi U _ _ _=>nu⟩;have an:upd g (B+3) l G=u:=by simp[upd];rw[l4 a7];exact I
 rw[h];refine bJ aa rfl (nT A 1 1 a8) (B+10) G D H u _ _ c8 an ((ar.up a7).upd a7 a7 a7 a7 _ _) Z1 Z2 ?_;intro r v W o s;have y:=(s.gen G a7 ar.gd ar.gh).trans an;simp only[go_sem];refine bJ aa rfl (gw 15 1 1 0 k) (B+10) G D H u _ _ c8 y o Z1 Z2 ?_;intro r E Y Z t;simp only[go_sem];refine bJ aa rfl (ql A 1 1 a8) (B+10) G D H u _ _ c8 ((t.gen G a7 ar.gd ar.gh).trans y) Z Z1 Z2 ?_;intro r g3 b' S3 L;simp[go_sem];refine⟨_,ai.refl _,?_⟩;simp[go_sem];exact ar.pack S3 (p.trans (dK.down (s.trans (t.trans L)) a7)) adw adw rfl
def XK(A:qj k fs P f V) a b n:ei 160 [.agg ((er ⟨8,a,b,n⟩).map .d)] (Emit.mK fs P f V ⟨8,a,b,n⟩) k:=by
 intro B G D H u code holes g ob ar e hl j;have J:=ar.gB;have K:=ar.dB;have L:=ar.hB;refine hdM B [G,D,H] Tryz.func160 rfl [] ZN ar.top λO bc s0 w0=>?_;have s:∀k,(G=B+k)=False:=λk=>by grind
 have a1:=ar.oG;unfold bZ.cells at a1;rw[A.fn]at a1;have y:Emit.mK fs P f V ⟨8,a,b,n⟩=(aJ 18 0 f a):=by simp[Emit.mK]
 rw[y]at hl j|-;simp[go_sem,er];obtain⟨l,h⟩:∃x,nxC 266 (g (B+3))=x:=⟨_,rfl⟩;have p:dK B G D H g ob (upd g (B+3) l) (upd ob (B+3) (S [ag 8,ag a,ag b,.d (.int .u32 n)])):=⟨λi I _ _=>nu,λi I _ _ _=>nu⟩;rw[h];refine aZ c9 ?_;simp only[go_sem,s,a1,e];refine bJ aa rfl (Hq 18 0 f a) (B+12) G D H u _ _ c8 (by simp[upd];rw[l4 a7];exact e) ((ar.up a7).upd a7 a7 a7 a7 _ _) a7 a7 ?_;exact nf
def XL(A:qj k fs P f V) a b n:ei 162 [.agg ((er ⟨9,a,b,n⟩).map .d)] (Emit.mK fs P f V ⟨9,a,b,n⟩) k:=by
 intro B G D H u code holes g ob ar v hl hh;have K:=ar.gB;have L:=ar.dB;have U:=ar.hB;refine hdM B [G,D,H] Tryz.func162 rfl [] ZN ar.top λO bc s0 w0=>?_;have Y:∀k,(G=B+k)=False:=λk=>by grind
 have y:Emit.mK fs P f V ⟨9,a,b,n⟩=(aD (Emit.eN P f V 1 1) (aJ 19 1 f a)):=by simp[Emit.mK]
 rw[y]at hl hh|-;simp only[aD,aE,aJ,Emit.eN,j7,j8,l5]at hl hh;simp[go_sem,er];obtain⟨l,h⟩:∃x,nxC 266 (g (B+3))=x:=⟨_,rfl⟩;have p:dK B G D H g ob (upd g (B+3) l) (upd ob (B+3) (S [ag 9,ag a,ag b,.d (.int .u32 n)])):=⟨λi I _ _=>nu,λi I _ _ _=>nu⟩;have an:upd g (B+3) l G=u:=by simp[upd];rw[l4 a7];exact v
 rw[h];refine bJ aa rfl (nT A 1 1 a8) (B+14) G D H u _ _ c8 an ((ar.up a7).upd a7 a7 a7 a7 _ _) Z1 Z2 ?_;intro r j J o K1;have s:=(K1.gen G a7 ar.gd ar.gh).trans an;simp only[go_sem];refine aZ c9 ?_;have t:=o.oG;unfold bZ.cells at t;rw[A.fn]at t;simp[go_sem,t,s,(K1.fr (B+3) a7 a7 a7 a7).trans aa4,(K1.gen (B+3) a7 a7 a7).trans aa4];refine bJ aa rfl (Hq 19 1 f a) (B+14) G D H u _ _ c8 s o Z1 Z2 ?_;exact gH
def Ta(A:qj k fs P f V) a b n{c:Nat}{y}(e:a=(c:Int))(j:fs[c]?=S y):ei 163 [.agg ((er ⟨10,a,b,n⟩).map .d)] (Emit.mK fs P f V ⟨10,a,b,n⟩) k:=by
 intro B G D H u code holes g ob ar s hl t;have J:=ar.gB;have K:=ar.dB;have L:=ar.hB;refine hdM B [G,D,H] Tryz.func163 rfl [] ZN ar.top λO bc s0 w0=>?_;have W:∀k,(G=B+k)=False:=λk=>by grind
 have v:Emit.mK fs P f V ⟨10,a,b,n⟩=(Emit.xl fs P f V a):=by simp[Emit.mK]
 rw[v]at hl t|-;simp[go_sem,er];obtain⟨l,h⟩:∃x,nxC 266 (g (B+3))=x:=⟨_,rfl⟩;have p:dK B G D H g ob (upd g (B+3) l) (upd ob (B+3) (S [ag 10,ag a,ag b,.d (.int .u32 n)])):=⟨λi I _ _=>nu,λi I _ _ _=>nu⟩;rw[h];refine bJ aa rfl (XC A ⟨10,a,b,n⟩ e j) (B+7) G D H u _ _ c8 (by simp[upd];rw[l4 a7];exact s) ((ar.up a7).upd a7 a7 a7 a7 _ _) a7 a7 ?_;exact nf
def Tb(A:qj k fs P f V) a b n:ei 165 [.agg ((er ⟨11,a,b,n⟩).map .d)] (Emit.mK fs P f V ⟨11,a,b,n⟩) k:=by
 intro B G D H u code holes g ob ar e hl j;have y:=ar.gB;have E:=ar.dB;have I:=ar.hB;refine hdM B [G,D,H] Tryz.func165 rfl [] ZN ar.top λO bc s0 w0=>?_;have K:∀k,(G=B+k)=False:=λk=>by grind
 have s:Emit.mK fs P f V ⟨11,a,b,n⟩=(Emit.mJ fs P f V):=by simp[Emit.mK]
 rw[s]at hl j|-;simp[go_sem,er];obtain⟨l,h⟩:∃x,nxC 266 (g (B+3))=x:=⟨_,rfl⟩;have p:dK B G D H g ob (upd g (B+3) l) (upd ob (B+3) (S [ag 11,ag a,ag b,.d (.int .u32 n)])):=⟨λi v _ _=>nu,λi v _ _ _=>nu⟩;rw[h];refine bJ aa rfl (SY A) (B+6) G D H u _ _ c8 (by simp[upd];rw[l4 a7];exact e) ((ar.up a7).upd a7 a7 a7 a7 _ _) a7 a7 ?_;exact nf
def Tc(A:qj k fs P f V) a b n:ei 167 [.agg ((er ⟨12,a,b,n⟩).map .d)] (Emit.mK fs P f V ⟨12,a,b,n⟩) k:=by
 intro B G D H u code holes g ob ar s hl hh;have J:=ar.gB;have K:=ar.dB;have L:=ar.hB;refine hdM B [G,D,H] Tryz.func167 rfl [] ZN ar.top λO bc s0 w0=>?_;have W:∀k,(G=B+k)=False:=λk=>by grind
 have t:Emit.mK fs P f V ⟨12,a,b,n⟩=(aD (aE 23 1 0 0) (Emit.ey P f V 1 0)):=by simp[Emit.mK]
 rw[t]at hl hh|-;simp only[aD,aE,Emit.ey,j7,j8,l5]at hl hh;simp[go_sem,er];obtain⟨l,h⟩:∃x,nxC 266 (g (B+3))=x:=⟨_,rfl⟩;have p:dK B G D H g ob (upd g (B+3) l) (upd ob (B+3) (S [ag 12,ag a,ag b,.d (.int .u32 n)])):=⟨λi y _ _=>nu,λi y _ _ _=>nu⟩;have an:upd g (B+3) l G=u:=by simp[upd];rw[l4 a7];exact s
 rw[h];refine bJ aa rfl (gw 23 1 0 0 k) (B+8) G D H u _ _ c8 an ((ar.up a7).upd a7 a7 a7 a7 _ _) Z1 Z2 ?_;intro r j E o K1;simp only[go_sem];refine bJ aa rfl (ql A 1 0 a8) (B+8) G D H u _ _ c8 ((K1.gen G a7 ar.gd ar.gh).trans an) o Z1 Z2 ?_;exact gH
def Td(A:qj k fs P f V) a b n:ei 168 [.agg ((er ⟨13,a,b,n⟩).map .d)] (Emit.mK fs P f V ⟨13,a,b,n⟩) k:=by
 intro B G D H u code holes g ob ar s hl hh;have J:=ar.gB;have K:=ar.dB;have L:=ar.hB;refine hdM B [G,D,H] Tryz.func168 rfl [] ZN ar.top λO bc s0 w0=>?_;have W:∀k,(G=B+k)=False:=λk=>by grind
 have t:Emit.mK fs P f V ⟨13,a,b,n⟩=(aD (Emit.eN P f V 1 1) (aE 24 1 0 0)):=by simp[Emit.mK]
 rw[t]at hl hh|-;simp only[aD,aE,Emit.eN,j7,j8,l5]at hl hh;simp[go_sem,er];obtain⟨l,h⟩:∃x,nxC 266 (g (B+3))=x:=⟨_,rfl⟩;have p:dK B G D H g ob (upd g (B+3) l) (upd ob (B+3) (S [ag 13,ag a,ag b,.d (.int .u32 n)])):=⟨λi y _ _=>nu,λi y _ _ _=>nu⟩;have an:upd g (B+3) l G=u:=by simp[upd];rw[l4 a7];exact s
 rw[h];refine bJ aa rfl (nT A 1 1 a8) (B+8) G D H u _ _ c8 an ((ar.up a7).upd a7 a7 a7 a7 _ _) Z1 Z2 ?_;intro r j E o K1;simp only[go_sem];refine bJ aa rfl (gw 24 1 0 0 k) (B+8) G D H u _ _ c8 ((K1.gen G a7 ar.gd ar.gh).trans an) o Z1 Z2 ?_;exact gH
end
section
def Om:List C:=[ag 1,.d (.fn 150),ag 2,.d (.fn 153),ag 3,.d (.fn 154),ag 4,.d (.fn 156),ag 5,.d (.fn 157),ag 6,.d (.fn 158),ag 7,.d (.fn 159),ag 8,.d (.fn 160),ag 9,.d (.fn 162),ag 10,.d (.fn 163),ag 11,.d (.fn 165),ag 12,.d (.fn 167),ag 13,.d (.fn 168)]
def Hr{g}{ob} B:dS Tryz.prog 95 [] g ob (λr g' Y=>r=.one (.mp (B+1) (g' (B+1)) 3)/\Y (B+1)=S Om/\∀i,i<B\/B+3<=i->g' i=g i/\Y i=ob i) (λ_ _ _=>False):=by
 refine hdX B Tryz.func95 rfl [.tmp 0] λO bc s0 w0=>?_;have c:∀a b:Int,nD (.int .i64 a) (.int .i64 b)=decide (a=b):=λa b=>by rfl
 simp only[go_sem];iterate 13 (refine Cc aa aP rfl ?_;simp only[go_sem,mset,c,K7,T0,B4])
 refine⟨_,ai.refl _,?_⟩;simp only[go_sem];exact⟨rfl,rfl,λi d=>⟨nu,nu⟩⟩
structure Jl (fs:List Src.CFn) (x:Ins):Prop where
 op:1<=x.op/\x.op<=13
 c:x.op=10->∃(c:Nat)(y:Src.CFn),x.a=(c:Int)/\fs[c]?=some y
variable{k:bZ}{fs:List Src.CFn}{P:Emit.Plan}
def acj{f}{V}(A:qj k fs P f V){x}(h:Jl fs x):∃fn,mget Om (.int .i64 x.op)=S (.d (.fn fn))/\ei fn [.agg ((er x).map .d)] (Emit.mK fs P f V x) k:=by
 obtain⟨⟨U,Z⟩,e⟩:=h;obtain⟨op,a,b,n⟩:=x;simp only at U Z e;have:op=1\/op=2\/op=3\/op=4\/op=5\/op=6\/op=7\/op=8\/op=9\/op=10\/op=11\/op=12\/op=13:=a7;rcases this with rfl|rfl|rfl|rfl|rfl|rfl|rfl|rfl|rfl|rfl|rfl|rfl|rfl;.exact⟨150,rfl,XD A a b n⟩
 .exact⟨153,rfl,XE A a b n⟩
 .exact⟨154,rfl,XF A a b n⟩
 .exact⟨156,rfl,XG A a b n⟩
 .exact⟨157,rfl,XH A a b n⟩
 .exact⟨158,rfl,XI A a b n⟩
 .exact⟨159,rfl,XJ A a b n⟩
 .exact⟨160,rfl,XK A a b n⟩
 .exact⟨162,rfl,XL A a b n⟩
 .obtain⟨c,y,g,i⟩:=e rfl;exact⟨163,rfl,Ta A a b n g i⟩
 .exact⟨165,rfl,Tb A a b n⟩
 .exact⟨167,rfl,Tc A a b n⟩
 .exact⟨168,rfl,Td A a b n⟩
section
variable{O:Bs}{rd:Option Nat}{j:St->Am.Loc->List Deferred->World->Prop}
def Te{e}{g}(a6:bA O j){o}{s}{K}{c:Box K}{t:Nat}{f}{args}{tys}(ho:o.op=.call ⟨.value (.tmp t),args,tys⟩)(i:s.f t=.one (.d (.fn f))){xs}{w}(hw:ei f xs w k) b G D H u code holes(I:args.toList.map s.ev=aj G u 0::xs)(hg:s.gen G=u)(ar:gu b G D H k code holes s.gen s.obj)(hl:z code+(w (z code)).code.length<=100000000)(a:z holes+(w (z code)).holes.length<=100000000)(l:∀r g' Y,gu b G D H k (code++(w (z code)).code) (holes++(w (z code)).holes) g' Y->dK b G D H s.gen s.obj g' Y->K (St.put ⟨s.f,g',Y⟩ o.dst r)):bE (spF Tryz.prog rd O j g e) o s c:=by refine GG (L:=λ_ _ _=>False) a6 ho i ac9 (λ_ _ _ h=>h.elim) ?_;grind
end
def bZ.at(k:bZ)(f:Nat)(c:C):bZ:={k with d3:=ag (f:Nat),d4:=c}
structure EK (k:bZ) (fs:List Src.CFn) (P:Emit.Plan) (E Pl gE gP:Nat):Prop where
 s:k.c1=aw (fs.map sfD)ds:k.c2=aw (P.depths.map λo=>[ksD o])bk:k.c3=.d (ksD P.back)b:k.c4=.d (ksD P.base)e:k.d0=.osl E gE 1 0 fs.length
 p:k.d1=.osl Pl gP 1 0 fs.length
 dl:P.depths.length=fs.length
 bl:P.back.length=fs.length
 l:P.base.length=fs.length
 fz:fs.length<=1000000
 bz:∀x∈P.base,0<=x/\x<=1000000000000000
 dz:∀ds∈P.depths,∀d∈ds,-1<=d/\d<=1000000000
 pz:∀x∈fs,0<=x.p/\x.p<=1000000/\0<=x.first/\x.first<=1000000000000
 sz:∀x∈fs,x.p<=x.slots/\x.slots<=1000000
def EK.at{k}{fs}{P}{E Pl gE gP}(h:EK k fs P E Pl gE gP) f c:EK (k.at f c) fs P E Pl gE gP:=⟨h.s,h.ds,h.bk,h.b,h.e,h.p,h.dl,h.bl,h.l,h.fz,h.bz,h.dz,h.pz,h.sz⟩
def EK.toP{E Pl gE gP}(h:EK k fs P E Pl gE gP){f}{V}(a:f<z fs)(hd:-1<=V/\V<=1000000000):qj (k.at f (ag V)) fs P f V:=⟨h.s,h.ds,h.bk,h.b,rfl,rfl,a,h.dl,h.bl,h.l,h.fz,h.bz,hd,λx I=>by have:=h.pz x I;omega⟩
end
structure KY (B G D H E Pl gE gP M gM:Nat) (k:bZ) (fs:List Src.CFn) (P:Emit.Plan) (code:List ka) (holes:List mY) (ent:List Int) (plc:List C) (g:Nat->Nat) (ob:Obs):Prop where
 ar:gu B G D H k code holes g ob
 q:EK k fs P E Pl gE gP
 gE:g E=gE
 gP:g Pl=gP
 gM:g M=gM
 oE:ob E=some (icells ent)oP:ob Pl=some plc
 oM:ob M=some Om
 eB:E<B
 pB:Pl<B
 mB:M<B
 el:ent.length=fs.length
 pl:plc.length=fs.length
 d:[G,D,H,E,Pl,M].Nodup
def Oth(B G D H E Pl:Nat)(g:Nat->Nat)(ob:Obs)(g':Nat->Nat)(Y:Obs):Prop:=∀i,i<B->i≠G->i≠D->i≠H->i≠E->i≠Pl->g' i=g i/\Y i=ob i
variable{code:List ka}{holes:List mY}
def gu.re{B G D H}{k E}{g g'}{ob Y}(ar:gu B G D H k code holes g ob)(a:∀i,B<=i->Y i=N)(U:g' D=g D)(Z:g' H=g H)(d:Y G=S (E.cells D (g D) (z code) H (g H) (z holes)))(b:Y D=ob D)(c:Y H=ob H)(j:∀x∈E.all,og B x):gu B G D H E code holes g' Y:=⟨a,ar.gB,ar.dB,ar.hB,ar.gd,ar.gh,ar.dh,by grind,by grind[ar.oD],by grind[ar.oH],j⟩
def bZ.at_low{B}{k:bZ}{f}{c c'}(h:∀x∈(k.at f c).all,og B x)(a:og B c'):∀x∈(k.at f c').all,og B x:=λx I=>by simp only[bZ.all,bZ.at,A0,A9,D8]at I h;grind
def ack{ar}{G}{id}{ops}{s}{Q}{q:Box Q}(I:St->Prop)(a:I s)(h:∀f g ob,I ⟨f,g,ob⟩->nF ar G id ops ⟨f,g,ob⟩ q):nF ar G id ops s q:=h s.f s.gen s.obj a
def acm(B G D H E Pl gE gP M gM u:Nat)(k:bZ)(fs:List Src.CFn)(P:Emit.Plan)(code:List ka)(holes:List mY)(ent:List Int)(plc:List C)(g:Nat->Nat)(ob:Obs)(f:Nat)(W:Src.CFn)(K:St):Prop:=K.f 0=aj G u 0/\K.f 1=ae f/\K.f 2=.one (.mp M gM 3)/\K.f 6=aj (B+6) (K.gen (B+6)) 0/\K.obj (B+6)=S [ag W.p,ag W.slots,ag W.first,bO W.word,.d (xI (codeOf W.word W.body))]/\gu (B+122) G D H (k.at f k.d4) (code++(Emit.lz fs P f (z code)).code) (holes++(Emit.lz fs P f (z code)).holes) K.gen K.obj/\K.obj E=S (icells (ent.set f (z code)))/\K.gen E=gE/\K.obj Pl=S plc/\K.gen Pl=gP/\K.gen G=u/\Oth B G D H E Pl g ob K.gen K.obj
def Hs{B G D H E Pl gE gP M gM u}{k}{fs}{P}{ent}{plc}{g}{ob}(b2:KY B G D H E Pl gE gP M gM k fs P code holes ent plc g ob)(hg:g G=u){f}{W}{ds}(hf:fs[f]?=S W)(ar:P.depths[f]?=S ds){A}(cb:codeOf W.word W.body=A)(dk:z ds=z A)(hz:z A<=100000000)(an:∀x∈A,Jl fs x.1)(hl:∀j,j<=z A->z code+(Emit.iw fs P f A ds j (z code)).code.length<=100000000)(hh:∀j,j<=z A->z holes+(Emit.iw fs P f A ds j (z code)).holes.length<=100000000):dS Tryz.prog 97 [aj G u 0,ae f,.one (.mp M gM 3)] g ob (λ_ g' Y=>(∃c4,KY (B+122) G D H E Pl gE gP M gM (k.at f c4) fs P (code++(Emit.iw fs P f A ds (z A) (z code)).code) (holes++(Emit.iw fs P f A ds (z A) (z code)).holes) (ent.set f (z code)) (plc.set f (.osl (B+71) (g' (B+71)) 1 0 (z A))) g' Y)/\Y (B+71)=S (icells (Emit.placesOf fs P f A ds (z code)))/\g' G=u/\Oth B G D H E Pl g ob g' Y) (λ_ _ _=>False):=by
 have b3:f<z fs:=(l9.1 hf).1;have hQ:=b2.q;have c6:=b2.ar.gB;have c7:=b2.ar.dB;have dc:=b2.ar.hB;have h0:=b2.eB;have h7:=b2.pB;have e9:=b2.mB;have ad:=b2.d;simp only[Rc,A0,A9,D8,U8,M9,U0,P6]at ad;obtain⟨⟨w,Q,ef,ev,e'⟩,⟨cy,dp,eh,f'⟩,⟨ec,ek,gb⟩,⟨gi,gj⟩,gk⟩:=ad;refine hdX B Tryz.func97 rfl [] λO bc s0 w0=>?_;have ho:=b2.ar.oG;unfold bZ.cells at ho;rw[hQ.s,hQ.ds,hQ.bk,hQ.b,hQ.e,hQ.p]at ho;have dd:=hQ.fz;have cf:(0:Int)<=(f:Int):=a7;have az:(f:Int)<(z fs:Int):=a7;have a6:=b2.el;have cu:=b2.pl;have n1:∀k,(G=B+k)=False:=λk=>by grind
 have n2:∀k,(E=B+k)=False:=λk=>by grind
 have n3:∀k,(Pl=B+k)=False:=λk=>by grind
 have n4:∀k,(D=B+k)=False:=λk=>by grind
 have n5:∀k,(H=B+k)=False:=λk=>by grind
 have n6:(E=G)=False:=by simp[C5 ef]
 have n7:(Pl=G)=False:=by simp[C5 ev]
 have V:(G=E)=False:=by simp[ef]
 have b5:IntKind.i64.wrap ((z fs:Int)-1)=(z fs:Int)-1:=by rw[wrap_i64]<;>omega
 have e7:=b2.gE;have gl:=b2.gP;have gm:=b2.oE;simp only[go_sem,ho,hg,j6,cf,az,b3,hf,sfD,n1];refine aZ c9 ?_;have m1:∀k,(B+k=G)=False:=λk=>by grind
 have m2:∀k,(B+k=E)=False:=λk=>by grind
 have m3:∀k,(B+k=Pl)=False:=λk=>by grind
 have h:(D=G)=False:=by simp[C5 w]
 have gx:(D=E)=False:=by simp[dp]
 have fl:(H=G)=False:=by simp[C5 Q]
 have ha:(H=E)=False:=by simp[ec]
 have hb:(Pl=E)=False:=by simp[C5 gi]
 have gn:(E=Pl)=False:=by simp[gi]
 have hc:(G=Pl)=False:=by simp[ev]
 have hq:(S (iH code)).isSome=T:=rfl;have cz:=hQ.bl;obtain⟨bf,c⟩:=getq (show f<z P.back by omega);have cc:(f:Int)<(z P.back:Int):=a7;have b8:f<z P.back:=a7;have ca:=l8 hf;obtain⟨d',b6,bz,b1⟩:=hQ.pz W ca;obtain⟨t,a1⟩:=hQ.sz W ca;have b4:IntKind.i64.wrap (W.first+W.p)=W.first+W.p:=by rw[wrap_i64]<;>omega
 have b7:IntKind.i64.wrap (W.first+W.slots)=W.first+W.slots:=by rw[wrap_i64]<;>omega
 have ch:=hl 0 (LL _);have gr:=hh 0 (LL _);simp only[Emit.iw]at ch gr;have S0:∀(g':Nat->Nat)(Y:Obs),(∀i,B+122<=i->Y i=N)->g' D=g D->g' H=g H->Y D=ob D->Y H=ob H->Y G=S [k.c0,k.c1,k.c2,k.c3,k.c4,k.c5,.osl D (g D) 4 0 (z code),k.d0,k.d1,.osl H (g H) 3 0 (z holes),ag (f:Nat),k.d4]->gu (B+122) G D H (k.at f k.d4) code holes g' Y:=λg' Y U Z h3 h4 h5 h6=>by
  have SU:=b2.ar.up (B':=B+122) a7;refine⟨U,SU.gB,SU.dB,SU.hB,SU.gd,SU.gh,SU.dh,?_,by grind[SU.oD],by grind[SU.oH],λx I=>?_⟩;.rw[h6,Z,h3];rfl
  .have bs:=SU.low;simp only[bZ.all,bZ.at,A0,A9,D8]at I bs;rcases I with e|e|e|e|e|e|e|e|e|e;all_goals first|(subst e;trivial)|exact bs x (by simp[e])
 by_cases b':(f:Int)=(z fs:Int)-1;case' pos=>
  have e0:Emit.lz fs P f=gg:=s5 a7;simp only[go_sem,ho,hg,j6,cf,az,b3,hf,sfD,n1,n2,n4,n6,V,h,gx,fl,ha,e7,gm,a6,dA,b2.ar.oD,b5,w9 b'];refine⟨a7,?_⟩;refine ack (acm B G D H E Pl gE gP M gM u k fs P code holes ent plc g ob f W) ⟨c8,c8,c8,by simp only[go_sem],?_,?_,?_,?_,?_,?_,?_,λi hi U Z h3 h4 h5=>⟨?_,?_⟩⟩ ?_;.grind[upd]
  .rw[e0];simp only[gg,u7];refine S0 _ _ (λi hi=>?_) ?_ ?_ ?_ ?_ ?_;.exact nt (b2.ar.top i a7)
   .exact hP
   .exact hP
   .exact hP
   .exact hP
   .simp only[upd];rw[l4 ef,s5 trivial,hQ.s,hQ.ds,hQ.bk,hQ.b,hQ.e,hQ.p]
  .simp[upd,s5,kA]
  .exact nt (e7)
  .exact nt (b2.oP)
  .exact nt (gl)
  .exact nt (hg)
  .exact hP
  .exact hP
 case' neg=>
  have e0:Emit.lz fs P f=aD (aE 17 14 0 bf) (Emit.ku (W.first+W.p) (W.first+W.slots)):=by unfold Emit.lz;rw[l4 a7,hf,c];rfl
  simp only[go_sem,ho,hg,j6,cf,az,b3,hf,sfD,n1,n2,n4,n6,V,h,gx,fl,ha,e7,gm,a6,dA,b2.ar.oD,b5,b',c,cc,b8,ksD];refine⟨a7,?_⟩;rw[e0]at ch gr;simp only[aD,aE,j7,j8,l5,D2]at ch gr;refine bJ aa rfl (gw 17 14 0 bf (k.at f k.d4)) (B+122) G D H u code holes c8 ?_ (S0 _ _ (λi hi=>?_) ?_ ?_ ?_ ?_ ?_) ab5 (by simp only[aE,l5];omega) ?_;.exact nt (hg)
  .exact nt (b2.ar.top i a7)
  .exact hP
  .exact hP
  .exact hP
  .exact hP
  .simp only[upd];rw[l4 ef,s5 trivial,hQ.s,hQ.ds,hQ.bk,hQ.b,hQ.e,hQ.p];rfl
  intro r1 g1 av o K1;have b0:g1 G=u:=(K1.gen G a7 w Q).trans (nt (hg));have p6:av (B+6)=S [ag W.p,ag W.slots,ag W.first,bO W.word,.d (xI (codeOf W.word W.body))]:=(K1.fr (B+6) (by omega) (by omega) (by omega) (by omega)).trans (by grind[upd]);have g6:g1 (B+6)=nxC 150 (g (B+6)):=(K1.gen (B+6) a7 a7 a7).trans aa4;simp only[go_sem,p6,g6,b4,b7];refine bJ aa rfl (SZ (W.first+W.p) (W.first+W.slots) (by omega) (by omega) (by omega)) (B+122) G D H u _ _ abK b0 o (by simp only[aE,j7,j8,l5,D2];omega) (by simp_all[aE,j7,j8,l5,D2,u7]) ?_;intro r2 g2 bn S2 K2;have hr:=(K2.fr (B+6) a7 a7 a7 a7).trans p6;have hs:=(K2.gen (B+6) a7 a7 a7).trans g6;simp only[go_sem];refine ack (acm B G D H E Pl gE gP M gM u k fs P code holes ent plc g ob f W) ⟨c8,c8,c8,by simp only[go_sem,hs],hr,?_,?_,?_,?_,?_,(K2.gen G a7 w Q).trans b0,λi hi U Z h3 h4 h5=>⟨?_,?_⟩⟩ ?_;.simp_all[aD,s9]
  .refine(K2.fr E a7 (C5 ef) (C5 dp) (C5 ec)).trans ((K1.fr E a7 (C5 ef) (C5 dp) (C5 ec)).trans ?_);simp_all[upd,s5,kA]
  .refine(K2.gen E a7 (C5 dp) (C5 ec)).trans ((K1.gen E a7 (C5 dp) (C5 ec)).trans ?_);exact nt (e7)
  .refine(K2.fr Pl a7 (C5 ev) (C5 eh) (C5 ek)).trans ((K1.fr Pl a7 (C5 ev) (C5 eh) (C5 ek)).trans ?_);exact nt (b2.oP)
  .refine(K2.gen Pl a7 (C5 eh) (C5 ek)).trans ((K1.gen Pl a7 (C5 eh) (C5 ek)).trans ?_);exact nt (gl)
  .refine(K2.gen i a7 Z h3).trans ((K1.gen i a7 Z h3).trans ?_);exact hP
  .refine(K2.fr i a7 U Z h3).trans ((K1.fr i a7 U Z h3).trans ?_);exact hP
 all_goals
 clear ho S0;rintro fa g1 av⟨q0,q1,q2,q6,o6,o,cv,eo,bo,r,b0,O1⟩;simp only at q0 q1 q2 q6 o6 o cv eo bo r b0 O1;have ho:=o.oG;unfold bZ.cells at ho;rw[(hQ.at f k.d4).s,(hQ.at f k.d4).ds,(hQ.at f k.d4).bk,(hQ.at f k.d4).b,(hQ.at f k.d4).e,(hQ.at f k.d4).p]at ho;skip;refine cG aP mixed aa [B+71,Pl] [([0],[0],[],F),([63],[0],[],F),([64],[0],[],F),([65],[0],[],F),([1],[0],[],F),([6],[],[],F),([68],[],[],F),([69],[],[],F),([70],[],[0],F),([66,67],[],[],F),([72,71],[],[],T)] 2 rfl c9 rfl ZN ?_;simp only[go_sem];iterate 5 (refine au gdD (λ_ _ _ _ J=>by simp only[go_sem,q0,q1,q2,q6,b0,n1,n3,n7,ho,j6]at J|-;exact J) ?_)
 iterate 3 (refine au gdD (λ_ _ _ _ J=>by simp only[go_sem,q0,q1,q2,q6,o6,n1,n3,n7,ho,cb,j6]at J|-;exact J) ?_)
 refine cw (a:=0) (v:=eS (B+71) (nxC 4 (g1 (B+71))) 1 0 (z A)) (x:=nxC 4 (g1 (B+71))) (y:=S (icells (List.replicate (z A) 0))) A6 (λfa ga oa K' J=>?_) ?_;.simp only[go_sem,bm,n1,n3,n7]at J|-;refine⟨l7 _,a7,a7,?_⟩;simp_all[C.d,icells,rJ,P2]
 (refine au gdD (λ_ _ _ _ J=>by simp only[go_sem,q0,q1,q2,q6,bo,r,n1,n3,n7,cf,az,b3,cu]at J|-;exact J) ?_);refine cH A6 ?_;intro K' a';simp only[go_sem,n1,n3,n7,bo,r,cu];refine⟨a7,a' _ ?_⟩;clear a' K';simp only[go_sem,q0,q1,q2,q6,o6,n3,m3,cb,j6];have gv:List.replicate (z A) (0:Int)=(List.range 0).map (λj=>((z code+(Emit.iw fs P f A ds j (z code)).code.length:Nat):Int))++List.replicate (z A-0) 0:=b9;refine aF (λm K=>∃(j:Nat)(c4:C),m+j=z A/\K.f 0=aj G u 0/\K.f 1=ae f/\K.f 2=.one (.mp M gM 3)/\K.f 74=.one (.d (xI A))/\K.f 75=ae (z A)/\K.f 76=ae j/\gu (B+122) G D H (k.at f c4) (code++(Emit.iw fs P f A ds j (z code)).code) (holes++(Emit.iw fs P f A ds j (z code)).holes) K.gen K.obj/\K.gen G=u/\K.obj E=S (icells (ent.set f (z code)))/\K.gen E=gE/\K.obj Pl=S (plc.set f (.osl (B+71) (K.gen (B+71)) 1 0 (z A)))/\K.gen Pl=gP/\K.obj (B+71)=S (icells ((List.range j).map (λj=>((z code+(Emit.iw fs P f A ds j (z code)).code.length:Nat):Int))++List.replicate (z A-j) 0))/\Oth B G D H E Pl g ob K.gen K.obj) (z A) ?_ ?_
 .refine⟨0,k.d4,rfl,?_⟩;simp only[go_sem,q0,q1,q2,n1,n2,n3,m1,m2,m3,gn,b0,cv,eo,r];refine⟨o.to (λi hi=>nt (o.top i hi)) ?_ ?_ ?_ ?_ ?_,?_,λi hi U Z h3 h4 h5=>⟨?_,?_⟩⟩;.exact hP
  .exact hP
  .exact hP
  .exact hP
  .exact hP
  .rfl
  .exact nt ((O1 i hi U Z h3 h4 h5).1)
  .exact nt ((O1 i hi U Z h3 h4 h5).2)
 clear ho gv o cv eo bo r b0 O1 q0 q1 q2 q6 o6 e7 gl gm;clear fa g1 av;rintro m fa g1 av⟨j,c4,hm,q0,q1,q2,e3,e1,e5,o,b0,cv,eo,bo,r,e6,O1⟩;simp only at q0 q1 q2 e3 e1 e5 o b0 cv eo bo r e6 O1;by_cases af:j<z A;case neg=>have bd:¬(j:Int)<(z A:Int):=a7;obtain rfl:j=z A:=a7;simp only[go_sem,e1,e5,bd];refine⟨_,ai.refl _,?_⟩;simp only[go_sem];rw[K8,L6,u7]at e6;exact⟨⟨c4,⟨o,hQ.at f c4,eo,r,((O1 M e9 (C5 e') (C5 f') (C5 gb) (C5 gj) (C5 gk)).1).trans b2.gM,cv,bo,((O1 M e9 (C5 e') (C5 f') (C5 gb) (C5 gj) (C5 gk)).2).trans b2.oM,a7,a7,a7,by grind,by grind,b2.d⟩⟩,e6,b0,O1⟩
 have bd:(j:Int)<(z A:Int):=a7;have cx:(0:Int)<=(j:Int):=a7;obtain⟨⟨x,dx⟩,I⟩:∃y,A[j]?=S y:=⟨_,x9 af⟩;obtain⟨d,hd⟩:=getq (show j<z ds by omega);have fw:=hQ.dz ds (l8 ar) d (l8 hd);have e2:f<z P.depths:=by have:=hQ.dl;omega
 have fo:(f:Int)<(z P.depths:Int):=by have:=hQ.dl;omega
 have ft:j<z ds:=a7;have fu:(j:Int)<(z ds:Int):=a7;have cm:=ah (k:=j) a7;have hj:er x=[.int .i64 x.op,.int .i64 x.a,.int .i64 x.b,.int .u32 x.n]:=rfl;have ho:=o.oG;unfold bZ.cells at ho;rw[(hQ.at f c4).s,(hQ.at f c4).ds,(hQ.at f c4).bk,(hQ.at f c4).b,(hQ.at f c4).e,(hQ.at f c4).p]at ho;have hk:(plc.set f (.osl (B+71) (g1 (B+71)) 1 0 (z A)))[f]?=S (.osl (B+71) (g1 (B+71)) 1 0 (z A)):=by rw[E3,s5 rfl,s5 a7]
 simp only[go_sem,q0,q1,q2,e3,e1,e5,bd,cx,I,xI,j6,hj];have e4:((List.range j).map (λj=>((z code+(Emit.iw fs P f A ds j (z code)).code.length:Nat):Int))++List.replicate (z A-j) 0).length=z A:=by simp;omega
 obtain⟨L,hL⟩:∃L,(List.range j).map (λj=>((z code+(Emit.iw fs P f A ds j (z code)).code.length:Nat):Int))++List.replicate (z A-j) 0=L:=⟨_,rfl⟩;rw[hL]at e6 e4;have hq:∀l,(S (iH l)).isSome=T:=λ_=>rfl;refine aZ c9 ?_;obtain⟨hn,fm⟩:=O1 M e9 (C5 e') (C5 f') (C5 gb) (C5 gj) (C5 gk);rw[b2.gM]at hn;rw[b2.oM]at fm;have ht:∀k,(M=B+k)=False:=λk=>by grind
 have hv:(M=G)=False:=by simp[C5 e']
 have hp:L.set j ((code++(Emit.iw fs P f A ds j (z code)).code).length:Nat)=(List.range (j+1)).map (λj=>((z code+(Emit.iw fs P f A ds j (z code)).code.length:Nat):Int))++List.replicate (z A-(j+1)) 0:=by rw[<-hL,I2 _ _ b9,j6,List.length_range,K8,Rf,C2,s9];congr 1;obtain⟨X,hz⟩:∃X,z A-j=X+1:=⟨z A-j-1,a7⟩;rw[hz,show z A-(j+1)=X by omega,J9,L1,j7];rfl
 have e8:=bZ.at_low (c':=ag d) o.low trivial;by_cases et:0<=d
 .obtain⟨fn,al,hw⟩:=acj (hQ.toP b3 fw) (an _ (l8 I));simp only at al hw;have hU:Emit.iw fs P f A ds (j+1)=aD (Emit.iw fs P f A ds j) (Emit.mK fs P f d x):=by rw[Emit.iw,I,hd];simp only[et,B3]
  simp only[go_sem,q0,q1,q2,e3,e1,e5,ho,b0,bo,r,n1,n2,n3,n4,n5,m1,m2,m3,n7,h,fl,hb,gn,hc,hk,F9,cu,cf,az,b3,e6,dA,e4,cx,bd,af,o.oD,ar,hd,e2,fo,ft,fu,ksD,j6,setAt,kA,w9 et,ht,hv,hn,fm,al,xd,B6];refine⟨a7,?_⟩;refine Te aa rfl c8 hw (B+122) G D H u _ _ c8 ?_ (gu.re o (λi hi=>?_) ?_ ?_ ?_ ?_ ?_ e8) ?_ ?_ ?_;.exact nt (b0)
  .exact nt (o.top i hi)
  .exact hP
  .exact hP
  .exact Y8
  .exact hP
  .exact hP
  .have:=hl (j+1) a7;rw[hU]at this;simp only[aD,j7]at this|-;omega
  .have:=hh (j+1) a7;rw[hU]at this;simp only[aD,j7]at this|-;omega
  intro r2 g2 bn S2 K2;have hy:g2 (B+71)=g1 (B+71):=(K2.gen (B+71) a7 a7 a7).trans (nu);simp only[go_sem,e5,cm];refine ak (m-1) a7 ⟨j+1,ag d,a7,?_⟩;simp only[go_sem,q0,q1,q2,e3,e1,xI];refine⟨?_,(K2.gen G a7 w Q).trans ?_,(K2.fr E a7 (C5 ef) (C5 dp) (C5 ec)).trans ?_,(K2.gen E a7 (C5 dp) (C5 ec)).trans ?_,(K2.fr Pl a7 (C5 ev) (C5 eh) (C5 ek)).trans ?_,(K2.gen Pl a7 (C5 eh) (C5 ek)).trans ?_,(K2.fr (B+71) a7 a7 a7 a7).trans ?_,λi hi U Z h3 h4 h5=>⟨(K2.gen i a7 Z h3).trans ?_,(K2.fr i a7 U Z h3).trans ?_⟩⟩;.rw[hU];simp only[aD,<-s9];grind
  .exact nt (b0)
  .exact nt (cv)
  .exact nt (eo)
  .rw[hy];exact nt (bo)
  .exact nt (r)
  .simp only[upd];rw[l4 a7,s5 trivial,hp,Rf]
  .exact nt ((O1 i hi U Z h3 h4 h5).1)
  .exact nt ((O1 i hi U Z h3 h4 h5).2)
 .have hU:Emit.iw fs P f A ds (j+1)=aD (Emit.iw fs P f A ds j) gg:=by rw[Emit.iw,I,hd];simp only[et,B1]
  simp only[go_sem,q0,q1,q2,e3,e1,e5,ho,b0,bo,r,n1,n2,n3,n4,n5,m1,m2,m3,n7,h,fl,hb,gn,hc,hk,F9,cu,cf,az,b3,e6,dA,e4,cx,bd,af,o.oD,ar,hd,e2,fo,ft,fu,ksD,j6,setAt,kA,et];refine⟨a7,?_⟩;refine ak (m-1) a7 ⟨j+1,ag d,a7,?_⟩;simp only[go_sem,q0,q1,q2,e3,e1,xI,n1,n2,n3,m1,m2,m3,b0,cv,eo,r,n6,n7,bo,cm];refine⟨?_,?_,λi hi U Z h3 h4 h5=>⟨?_,?_⟩⟩
  .rw[hU];simp only[aD,gg,u7];refine gu.re o (λi hi=>?_) ?_ ?_ ?_ ?_ ?_ e8;.exact nt (o.top i hi)
   .exact hP
   .exact hP
   .exact Y8
   .exact hP
   .exact hP
  .rw[hp,Rf]
  .exact nt ((O1 i hi U Z h3 h4 h5).1)
  .exact nt ((O1 i hi U Z h3 h4 h5).2)
end
section
open Go Go.Am Go.Lower
open Go.Emit (Wr aE aJ aD vR gg jE fE)
section
structure Bl (fs:List Src.CFn) (P:Emit.Plan) (d:jE) (f:Nat):Prop where
 ok:∀x,fs[f]?=some x->∀i∈codeOf x.word x.body,Jl fs i.1
 dl:∀x ds,fs[f]?=some x->P.depths[f]?=some ds->ds.length=(codeOf x.word x.body).length
 X:∀x,fs[f]?=some x->(codeOf x.word x.body).length<=100000000
 l:∀x ds,fs[f]?=some x->P.depths[f]?=some ds->∀j,j<=(codeOf x.word x.body).length->d.code.length+(Emit.iw fs P f (codeOf x.word x.body) ds j d.code.length).code.length<=100000000
 h:∀x ds,fs[f]?=some x->P.depths[f]?=some ds->∀j,j<=(codeOf x.word x.body).length->d.holes.length+(Emit.iw fs P f (codeOf x.word x.body) ds j d.code.length).holes.length<=100000000
structure wo (B0 B G D H E Pl gE gP M gM:Nat) (k:bZ) (fs:List Src.CFn) (P:Emit.Plan) (d:jE) (a:List (Nat×Nat)) (g:Nat->Nat) (ob:Obs):Prop where
 b2:∃plc,KY B G D H E Pl gE gP M gM k fs P d.code d.holes d.ent plc g ob/\∀f id,(f,id)∈a->∃l,d.pls[f]?=some l/\plc[f]?=some (.osl id (g id) 1 0 l.length)/\ob id=some (icells l)/\B0<=id/\id<B
 pl:d.pls.length=fs.length
variable{fs:List Src.CFn}{P:Emit.Plan}
def Ht{d}{f}(h:z d.pls=z fs):z (fE fs P d f).pls=z fs:=by grind[fE]
def Cz fs P f A ds n:z (Emit.placesOf fs P f A ds n)=z A:=by simp[Emit.placesOf]
def zk{m B G D H E Pl gE gP M gM u}{k}{d}{a}{g}{ob}(X:wo m B G D H E Pl gE gP M gM k fs P d a g ob)(e:m<=B)(y:G<m/\D<m/\H<m/\E<m/\Pl<m)(hg:g G=u){f}(p:f<z fs)(ok:Bl fs P d f)(r:∀x∈a,x.1≠f):dS Tryz.prog 97 [aj G u 0,ae f,.one (.mp M gM 3)] g ob (λ_ g' Y=>(∃c4,wo m (B+122) G D H E Pl gE gP M gM (k.at f c4) fs P (fE fs P d f) (a++[(f,B+71)]) g' Y)/\g' G=u/\Oth B G D H E Pl g ob g' Y) (λ_ _ _=>False):=by
 obtain⟨⟨plc,b2,s⟩,t⟩:=X;obtain⟨W,n⟩:=getq p;obtain⟨ds,ar⟩:=getq (show f<z P.depths by grind[b2.q.dl]);refine(Hs b2 hg n ar rfl (ok.dl W ds n ar) (ok.X W n) (ok.ok W n) (ok.l W ds n ar) (ok.h W ds n ar)).mono ?_ (λ_ _ _ h=>h);rintro _ g' Y⟨⟨c4,i⟩,j,c,O⟩;have b:fE fs P d f=⟨d.code++(Emit.iw fs P f (codeOf W.word W.body) ds (z (codeOf W.word W.body)) (z d.code)).code,d.holes++(Emit.iw fs P f (codeOf W.word W.body) ds (z (codeOf W.word W.body)) (z d.code)).holes,d.ent.set f (z d.code),d.pls.set f (Emit.placesOf fs P f (codeOf W.word W.body) ds (z d.code))⟩:=by unfold fE;rw[n,ar]
 refine⟨⟨c4,⟨_,by rw[b];exact i,λf1 id o=>?_⟩,Ht t⟩,c,O⟩;rw[b];rcases C6.1 o with o|o;.obtain⟨l,U,Z,A,I,w⟩:=s f1 id o;have bz:f1≠f:=r _ o;obtain⟨o1,J⟩:=O id w a7 a7 a7 a7 a7;grind
 .obtain⟨rfl,rfl⟩:f1=f/\id=B+71:=by grind
  refine⟨Emit.placesOf fs P f1 (codeOf W.word W.body) ds (z d.code),by grind,?_,j,a7,a7⟩;simp_all[b2.pl,Cz]
end
def Jm:∀{l:List mY}{j:Nat}{h:mY},l[j]?=S h->((sS l).drop (j*3)).take 3=[ag h.1,ag h.2.1,ag h.2.2]|a::l,0,h,e=>by cases e;rfl;|a::l,j+1,h,e=>by have b:=Jm (l:=l) (j:=j) (h:=h) ZN;rw[show sS (a::l)=[C.d (.int .i64 a.1),ag a.2.1,ag a.2.2]++sS l by rfl,show (j+1)*3=3+j*3 by omega,List.drop_append,y8 b9,A3];grind
def tX(a:ka)(l:List ka):iH (a::l)=[C.d (.int .i64 a.1),ag a.2.1,ag a.2.2.1,ag a.2.2.2]++iH l:=c8
def tY:∀{l:List ka}{j:Nat}{x:ka}{v:Int},l[j]?=S x->(iH l).set (j*4+3) (ag v)=iH (l.set j (x.1,x.2.1,x.2.2.1,v))|a::l,0,x,v,e=>by cases e;rfl;|a::l,j+1,x,v,e=>by have b:=tY (l:=l) (j:=j) (x:=x) (v:=v) ZN;rw[tX,R8,tX,<-b,I2 _ _ ZN];grind
end
open Go Go.Am Go.Lower
open Go.Emit (Wr aE aJ aD vR gg jE fE)
attribute[local congr]ite_cc
section
variable{ar:Sp}{G:Nat->TI}
@[go_sem]def acn{dst}{ty}{ps}{b}{gd}{s}{K}{k:Box K}{a}{A}:opA ar G ⟨dst,.call ⟨.builtin .copy,a,A⟩,ty,ps,b,gd⟩ s k=bE ar ⟨dst,.call ⟨.builtin .copy,a,A⟩,ty,ps,b,gd⟩ s k:=B7 rfl rfl
end
def KY.up{B B' G D H E Pl gE gP M gM}{k}{fs}{P}{code}{holes}{ent}{plc}{g}{ob}(b2:KY B G D H E Pl gE gP M gM k fs P code holes ent plc g ob)(h:B<=B'):KY B' G D H E Pl gE gP M gM k fs P code holes ent plc g ob:=⟨b2.ar.up h,b2.q,b2.gE,b2.gP,b2.gM,b2.oE,b2.oP,b2.oM,by grind[b2.eB],by grind[b2.pB],by grind[b2.mB],b2.el,b2.pl,b2.d⟩
def wo.up{b B B' G D H E Pl gE gP M gM}{k}{fs}{P}{d}{a}{g}{ob}(X:wo b B G D H E Pl gE gP M gM k fs P d a g ob)(h:B<=B'):wo b B' G D H E Pl gE gP M gM k fs P d a g ob:=by obtain⟨⟨plc,b2,e⟩,c⟩:=X;exact⟨⟨plc,b2.up h,λf id i=>by grind⟩,c⟩
def wo.to{b B G D H E Pl gE gP M gM}{k}{fs}{P}{d}{a}{g g'}{ob Y}(X:wo b B G D H E Pl gE gP M gM k fs P d a g ob)(l:∀i,B<=i->Y i=N)(h:∀i,i=G\/i=D\/i=H\/i=E\/i=Pl\/i=M\/(b<=i/\i<B)->g' i=g i/\Y i=ob i):wo b B G D H E Pl gE gP M gM k fs P d a g' Y:=by obtain⟨⟨plc,b2,o⟩,m⟩:=X;have hD:=h D b9;have c:=h H b9;have e:=h E b9;have A:=h Pl b9;have j:=h M b9;refine⟨⟨plc,⟨b2.ar.to l hD.1 c.1 (h G b9).2 hD.2 c.2,b2.q,by grind[b2.gE],by grind[b2.gP],by grind[b2.gM],by grind[b2.oE],by grind[b2.oP],by grind[b2.oM],b2.eB,b2.pB,b2.mB,b2.el,b2.pl,b2.d⟩,λf id p=>?_⟩,m⟩;grind
variable{fs:List Src.CFn}{P:Emit.Plan}
def Bm{d}{f}:z d.code<=z (fE fs P d f).code:=by grind[fE]
def rz{fs}{P}:∀k,0<z (Emit.sR fs P k).code|0=>F3 b9 (Bm (d:=⟨[(1,15,0,1)],[],List.replicate (z fs) 0,List.replicate (z fs) []⟩))|k+1=>F3 (rz k) Bm
def qM(B n:Nat)(k:Nat):List (Nat×Nat):=(n-1,B+271)::(List.range k).map λf=>(f,B+471+200*f)
def Hu B n k:qM B n (k+1)=qM B n k++[(k,B+400+200*k+71)]:=by simp only[qM,Rf,C2,s7,x7,z6];grind
def On(d:jE)(n:Nat)(h:mY):Prop:=(0<=h.1/\h.1<(z d.code:Int))/\(0<=h.2.1/\h.2.1<(n:Int))/\(0<=h.2.2->∃l:List Int,d.pls[h.2.1.toNat]?=S l/\h.2.2<(z l:Int))
def Tf{B G D H E Pl gE gP u}{k}{g}{ob}(ar:gu B G D H k [] [] g ob)(q:EK k fs P E Pl gE gP)(hg:g G=u)(gk:g E=gE)(gl:g Pl=gP)(oE:ob E=S (icells (List.replicate (z fs) 0)))(oP:ob Pl=S (List.replicate (z fs) (.d .nsl)))(eB:E<B)(pB:Pl<B)(gm:[G,D,H,E,Pl].Nodup)(hn:0<z fs)(ok0:Bl fs P ⟨[(1,15,0,1)],[],List.replicate (z fs) 0,List.replicate (z fs) []⟩ (z fs-1))(okj:∀j,j<z fs-1->Bl fs P (Emit.sR fs P j) j)(hz:z (Emit.whole fs P).code<=100000000)(gn:z (Emit.whole fs P).holes<=100000000)(fw:∀h∈(Emit.whole fs P).holes,On (Emit.whole fs P) (z fs) h):dS Tryz.prog 58 [aj G u 0] g ob (λr g' Y=>r=eS (B+37) (g' (B+37)) 4 0 (z (Emit.whole fs P).code)/\Y (B+37)=S (iH (Emit.filled (Emit.whole fs P)))/\Oth B G D H E Pl g ob g' Y) (λ_ _ _=>False):=by
 have c6:=ar.gB;have c7:=ar.dB;have dc:=ar.hB;have ad:=gm;simp at ad;obtain⟨⟨w,Q,ef,ev⟩,⟨cy,dp,eh⟩,⟨ec,ek⟩,gi⟩:=ad;have dd:=q.fz;refine hdX B Tryz.func58 rfl [.tmp 2] λO bc s0 w0=>?_;have b5:IntKind.i64.wrap ((z fs:Int)-1)=((z fs-1:Nat):Int):=by rw[wrap_i64]<;>omega
 simp[go_sem];refine cN (L:=λ_ _ _=>False) aa rfl (by simp only[go_sem];exact Hr (B+100)) (λ_ _ _ h=>h.elim) ?_;rintro r g1 av⟨rfl,fm,cz⟩;have o:=(ar.up (B':=B+200) a7).to (λi hi=>by rw[(cz i a7).2];exact ar.top i a7) (cz D a7).1 (cz H a7).1 (cz G a7).2 (cz D a7).2 (cz H a7).2;have b0:=(cz G a7).1.trans hg;have ho:=o.oG;unfold bZ.cells at ho;rw[q.s,q.ds,q.bk,q.b,q.e,q.p]at ho;simp[go_sem,ho,b0,j6,b5];refine bJ aa rfl (gw 1 15 0 1 k) (B+200) G D H u [] [] c8 b0 o (by simp[aE]) (by simp[aE]) ?_;intro r g2 bn S2 K2;simp[A3,u7,aE]at S2;have X0:wo (B+102) (B+200) G D H E Pl gE gP (B+101) (g1 (B+101)) k fs P ⟨[(1,15,0,1)],[],List.replicate (z fs) 0,List.replicate (z fs) []⟩ [] g2 bn:=by
  refine⟨⟨List.replicate (z fs) (.d .nsl),⟨S2,q,?_,?_,K2.gen (B+101) a7 a7 a7,?_,?_,?_,a7,a7,a7,b9,b9,?_⟩,λf id hm=>by cases hm⟩,b9⟩;.exact(K2.gen E a7 (C5 dp) (C5 ec)).trans ((cz E a7).1.trans gk)
  .exact(K2.gen Pl a7 (C5 eh) (C5 ek)).trans ((cz Pl a7).1.trans gl)
  .exact(K2.fr E a7 (C5 ef) (C5 dp) (C5 ec)).trans ((cz E a7).2.trans oE)
  .exact(K2.fr Pl a7 (C5 ev) (C5 eh) (C5 ek)).trans ((cz Pl a7).2.trans oP)
  .exact(K2.fr (B+101) a7 a7 a7 a7).trans fm
  .simp;grind
 simp[go_sem];refine cN (L:=λ_ _ _=>False) aa rfl (by simp only[go_sem];exact zk (k:=k) X0 a7 ⟨a7,a7,a7,a7,a7⟩ ((K2.gen G a7 w Q).trans b0) (f:=z fs-1) a7 ok0 (λx I=>by cases I)) (λ_ _ _ h=>h.elim) ?_;rintro r g3 b'⟨⟨c4,X3⟩,y,O3⟩;have gr:=(O3 (B+101) a7 a7 a7 a7 a7 a7).1;simp[go_sem];refine aF (λm K=>∃(j:Nat)(kk:bZ),m+j=z fs-1/\K.f 0=aj G u 0/\K.f 3=.one (.mp (B+101) (g1 (B+101)) 3)/\K.f 23=ae (z fs-1:Nat)/\K.f 24=ae j/\K.gen G=u/\wo (B+102) (B+400+200*j) G D H E Pl gE gP (B+101) (g1 (B+101)) kk fs P (Emit.sR fs P j) (qM B (z fs) j) K.gen K.obj/\Oth B G D H E Pl g ob K.gen K.obj) (z fs-1) ?_ ?_;.refine⟨0,k.at (z fs-1) c4,rfl,?_⟩;simp[go_sem];refine⟨y,X3.up a7,λi hi U Z h3 h4 h5=>?_⟩;obtain⟨a1,a2⟩:=O3 i a7 U Z h3 h4 h5;obtain⟨b1,b2⟩:=cz i a7;exact⟨a1.trans ((K2.gen i a7 Z h3).trans b1),a2.trans ((K2.fr i a7 U Z h3).trans b2)⟩
 clear ho;rintro m fa g4 cd⟨j,kk,hm,q0,q3,c',c1,V,X4,O4⟩;simp only at q0 q3 c' c1 V X4 O4;by_cases af:j<z fs-1;case pos=>
  have bd:(j:Int)<((z fs-1:Nat):Int):=a7;have cm:=ah (k:=j) a7;have bz:∀x∈qM B (z fs) j,x.1≠j:=λx I=>by simp[qM,A0,E6,E0]at I;grind
  simp only[go_sem,q0,q3,c',c1,bd];refine cN (L:=λ_ _ _=>False) aa rfl (by simp only[go_sem,q0,q3];exact zk (k:=kk) X4 a7 ⟨a7,a7,a7,a7,a7⟩ V (f:=j) a7 (okj j af) bz) (λ_ _ _ h=>h.elim) ?_;rintro r g5 c0⟨⟨c5,X5⟩,t,O5⟩;simp only[go_sem,c1,cm];refine ak (m-1) a7 ⟨j+1,kk.at j c5,a7,?_⟩;simp[go_sem,q0,q3,c'];refine⟨t,?_,λi hi U Z h3 h4 h5=>?_⟩;.rw[Hu];exact X5.up a7
  .obtain⟨a1,a2⟩:=O5 i a7 U Z h3 h4 h5;obtain⟨b1,b2⟩:=O4 i hi U Z h3 h4 h5;grind
 obtain rfl:j=z fs-1:=a7;have bd:¬((z fs-1:Nat):Int)<((z fs-1:Nat):Int):=a7;have gx:Emit.sR fs P (z fs-1)=Emit.whole fs P:=rfl;rw[gx]at X4;obtain⟨W,hW⟩:∃W,Emit.whole fs P=W:=⟨_,rfl⟩;rw[hW]at X4 hz gn fw|-;have f':=X4;obtain⟨⟨plc,F4,e5⟩,cu⟩:=X4;have ho:=F4.ar.oG;unfold bZ.cells at ho;rw[F4.q.s,F4.q.ds,F4.q.bk,F4.q.b,F4.q.e,F4.q.p]at ho;have n1:∀k,(G=B+k)=False:=λk=>by grind
 have n2:∀k,(D=B+k)=False:=λk=>by grind
 simp only[go_sem,q0,q3,c',c1,bd,ho,V,n1];refine⟨by rw[F4.ar.oD];rfl,l7 _,a7,a7,?_⟩;obtain⟨gC,bf⟩:∃x,nxC (bm Tt 137+1) (g4 (B+37))=x:=⟨_,rfl⟩;rw[bf];refine GF (cells:=(List.replicate (z W.code) [C.d (.int .i64 0),C.d (.int .i64 0),C.d (.int .i64 0),C.d (.int .i64 0)]).flatten) (J:=iH W.code) (n:=z W.code) (sz:=4) (id:=B+37) (g:=gC) (c2:=D) (g2:=g4 D) aa aP rfl rfl c8 aa4 c8 (nu) rfl aa4 ?_ (nt (F4.ar.oD)) (kI _) (by rw[<-hW];exact rz _) ?_;.simp
 have n3:∀k,(H=B+k)=False:=λk=>by grind
 have n4:∀k,(E=B+k)=False:=λk=>by grind
 have n5:∀k,(Pl=B+k)=False:=λk=>by grind
 simp only[go_sem,q0,ho,V,n1,n2,n3];refine⟨by rw[F4.ar.oH];rfl,?_⟩;have e7:=kI W.code;obtain⟨k4,hb⟩:∃k4:bZ,EK k4 fs P E Pl gE gP/\wo (B+102) (B+400+200*(z fs-1)) G D H E Pl gE gP (B+101) (g1 (B+101)) k4 fs P W (qM B (z fs) (z fs-1)) g4 cd:=⟨kk,F4.q,f'⟩;refine aF (λm K=>∃j:Nat,m+j=z W.holes/\K.f 0=aj G u 0/\K.f 6=eS (B+37) gC 4 0 (z W.code)/\K.f 47=eS H (K.gen H) 3 0 (z W.holes)/\K.f 48=ae (z W.holes)/\K.f 49=ae j/\K.gen G=u/\K.gen (B+37)=gC/\K.obj (B+37)=S (iH ((W.holes.take j).foldl (Emit.fill W) W.code))/\wo (B+102) (B+400+200*(z fs-1)) G D H E Pl gE gP (B+101) (g1 (B+101)) kk fs P W (qM B (z fs) (z fs-1)) K.gen K.obj/\Oth B G D H E Pl g ob K.gen K.obj) (z W.holes) ?_ ?_
 .refine⟨0,rfl,?_⟩;simp only[go_sem,q0,n1,n2,n3,V,G8,P5];refine⟨f'.to (λi hi=>?_) (λi hi=>⟨?_,?_⟩),λi hi U Z h3 h4 h5=>⟨?_,?_⟩⟩;.exact nt (F4.ar.top i hi)
  .have:i≠B+37:=a7;exact hP
  .have:i≠B+37:=a7;exact hP
  .exact nt ((O4 i hi U Z h3 h4 h5).1)
  .exact nt ((O4 i hi U Z h3 h4 h5).2)
 clear ho hb k4;rintro m hj g5 c0⟨j,dz,p0,p6,d',eo,et,t,bl,dx,X5,O5⟩;simp only at p0 p6 d' eo et t bl dx X5 O5;have ga:=X5;obtain⟨⟨hf,F5,e8⟩,dk⟩:=X5;have ho:=F5.ar.oG;unfold bZ.cells at ho;rw[F5.q.s,F5.q.ds,F5.q.bk,F5.q.b,F5.q.e,F5.q.p]at ho;have e4:∀l:List mY,z (l.foldl (Emit.fill W) W.code)=z W.code:=λl=>by
  have:∀(l:List mY)(c:List ka),z (l.foldl (Emit.fill W) c)=z c:=by intro l;induction l with|nil=>simp;|cons a l ih=>intro c;rw[G5,ih];grind[Emit.fill]
  grind
 by_cases af:j<z W.holes;case pos=>
  have bd:(j:Int)<(z W.holes:Int):=a7;have cx:(0:Int)<=(j:Int):=a7;obtain⟨h,hh⟩:=getq af;have b4:=Jm hh;obtain⟨⟨al,ch⟩,⟨cf,az⟩,e6⟩:=fw h (l8 hh);have cm:=ah (k:=j) a7;have bo:=EI W.holes;obtain⟨hA,hF,A⟩:=h;simp only at b4 al ch cf az e6;obtain⟨a,rfl⟩:∃a:Nat,hA=(a:Int):=⟨hA.toNat,a7⟩;obtain⟨f,rfl⟩:∃f:Nat,hF=(f:Int):=⟨hF.toNat,a7⟩;obtain⟨a',e0⟩:∃c,(W.holes.take j).foldl (Emit.fill W) W.code=c:=⟨_,rfl⟩;have ca:z a'=z W.code:=by rw[<-e0];exact e4 _
  rw[e0]at dx;have gb:a<z a':=a7;have e1:(a:Int)<(z W.code:Int):=a7;have e2:a<z W.code:=a7;obtain⟨x,I⟩:∃x,a'[a]?=S x:=⟨_,x9 gb⟩;have b3:f<z fs:=a7;have a6:=F5.el;have dk:=F5.pl;obtain⟨e,he⟩:=getq (show f<z W.ent by omega);have e3:=kI a';have X:(W.holes.take (j+1)).foldl (Emit.fill W) W.code=a'.set a (x.1,x.2.1,x.2.2.1,Emit.place W ((a:Int),(f:Int),A)):=by rw[C1,hh,Option.toList,T2,e0];simp[G5,P5,Emit.fill,C0,I]
  have m1:∀k,(B+k=G)=False:=λk=>by grind
  have m2:∀k,(B+k=D)=False:=λk=>by grind
  have m4:∀k,(B+k=E)=False:=λk=>by grind
  have m5:∀k,(B+k=Pl)=False:=λk=>by grind
  have gd:=F5.oE;have gh:=F5.gE;have e9:=F5.oP;have e':=F5.gP;have fl:(f:Int)<(z fs:Int):=a7;have an:=tY (v:=e) I;simp only[go_sem,p0,p6,d',eo,et,bd,cx,af,F5.ar.oH,bo,b4];refine⟨a7,?_⟩;refine aZ c9 ?_;have bs:∀(v:Int),Emit.place W ((a:Int),(f:Int),A)=v->a'.set a (x.1,x.2.1,x.2.2.1,v)=(W.holes.take (j+1)).foldl (Emit.fill W) W.code:=λv hv=>by grind
  by_cases hp:0<=A
  .obtain⟨p,rfl⟩:∃p:Nat,A=(p:Int):=⟨A.toNat,a7⟩;obtain⟨l,hl,ft⟩:=e6 hp;rw[C0]at hl;obtain⟨id,b7⟩:∃id,(f,id)∈qM B (z fs) (z fs-1):=by
    by_cases e:f=z fs-1;.grind[qM]
    .exact⟨B+471+200*f,by simp only[qM,A0,E6,E0];grind⟩
   obtain⟨l',k1,k2,k3,k4,k5⟩:=e8 f id b7;rw[hl]at k1;cases k1;obtain⟨v,hv⟩:=getq (show p<z l by omega);have b6:(p:Int)<(z l:Int):=a7;have b8:p<z l:=a7;have cv:(0:Int)<=(p:Int):=a7;have i1:∀k,k<=100->(id=B+k)=False:=λk hk=>by grind
   have i8:=i1 8 a8;have hc:=i1 37 a8;have fo:(a'.set a (x.1,x.2.1,x.2.2.1,e))[a]?=S (x.1,x.2.1,x.2.2.1,e):=by rw[E3,s5 rfl,s5 gb]
   have cc:=tY (v:=v) fo;rw[List.set_set]at cc;have gj:=kI (a'.set a (x.1,x.2.1,x.2.2.1,e));have hd:Emit.place W ((a:Int),(f:Int),(p:Int))=v:=by simp[Emit.place,hp,B3,C0,hl,B6,hv]
   simp only[go_sem,p0,p6,ho,t,n1,n4,n5,m1,m2,m4,m5,gd,gh,e9,e',cf,fl,b3,a6,dk,dA,kz,he,dx,bl,al,e1,e2,e3,ca,setAt,an,w9 hp];refine⟨a7,?_⟩;refine aZ c9 ?_;simp only[go_sem,p0,p6,ho,t,n1,n4,n5,m1,m2,m4,m5,e9,e',cf,fl,b3,dk,dA,kz,al,e1,e2,gj,ca,F9,setAt,cc,k2,k3,i8,hc,b6,b8,cv,hv,bl];exact h2
  .have hd:Emit.place W ((a:Int),(f:Int),A)=e:=by simp[Emit.place,hp,B1,C0,he,B6]
   simp only[go_sem,p0,p6,ho,t,n1,n4,n5,m1,m2,m4,m5,gd,gh,e9,e',cf,fl,b3,a6,dk,dA,kz,he,dx,bl,al,e1,e2,e3,ca,setAt,an,hp];exact h2
 have bd:¬(j:Int)<(z W.holes:Int):=a7;have dh:j=z W.holes:=a7;rw[dh,E8]at dx;simp only[go_sem,p0,p6,d',eo,et,bd];refine⟨_,ai.refl _,?_⟩;simp[go_sem,bl];exact⟨rfl,dx,O5⟩
end Go.Proofs.YtfdbpgoicedpcaaGreatDoor.Low
namespace Go.Am
attribute[local congr]ite_cc
def Oo{P}{rd}{O}{b}{e}{f}(a6:bA O b){o}{s} d{K}{k:Box K}(hv:ai s d)(h:bE (spF P rd O b e f) o d k):bE (spF P rd O b e f) o s k:=by exact tz
end Go.Am
namespace Go.Proofs.YtfdbpgoicedpcaaGreatDoor.Low
open Go Go.Am Go.Lower
open Go.Emit (Wr aE aJ aD vR gg jE fE)
attribute[local congr]ite_cc
def rK(x:ka):Bool:=ir x.1 x.2.1 x.2.2.1 x.2.2.2
def oK(x:ka):Nat:=Asm.word x.1.toNat x.2.1.toNat x.2.2.1.toNat x.2.2.2.toNat
def Bn(fs:List Src.CFn)(P:Emit.Plan):AV:=if 32768<P.data then .tup [Fi [] 0,ae 2]else let c:=Emit.filled (Emit.whole fs P)
 if 16384<z c then .tup [Fi [] 0,ae 2]else if c.all rK then .tup [Fi (c.map oK) P.data,ae 0]else .tup [Fi [] 0,ae 2]
structure aco (w:Int) (fs:List Src.CFn) (P:Emit.Plan):Prop where
 n:0<fs.length
 dl:P.depths.length=fs.length
 bl:P.back.length=fs.length
 l:P.base.length=fs.length
 fz:fs.length<=1000000
 bz:∀x∈P.base,0<=x/\x<=1000000000000000
 dz:∀ds∈P.depths,∀d∈ds,-1<=d/\d<=1000000000
 pz:∀x∈fs,0<=x.p/\x.p<=1000000/\0<=x.first/\x.first<=1000000000000
 sz:∀x∈fs,x.p<=x.slots/\x.slots<=1000000
 d0:0<=P.data
 ok0:Bl fs P ⟨[(1,15,0,1)],[],List.replicate fs.length 0,List.replicate fs.length []⟩ (fs.length-1)okj:∀j,j<fs.length-1->Bl fs P (Emit.sR fs P j) j
 X:(Emit.whole fs P).code.length<=100000000
 zh:(Emit.whole fs P).holes.length<=100000000
 ho:∀h∈(Emit.whole fs P).holes,On (Emit.whole fs P) fs.length h
def EL d:∀(l:List mY)(c:List ka),z (l.foldl (Emit.fill d) c)=z c|[],c=>rfl|a::l,c=>by rw[G5,EL d l];unfold Emit.fill;grind
def EM:∀{l}{j}{x},l[j]?=S x->((iH l).drop (j*4)).take 4=KW x|a::l,0,x,e=>by cases e;rfl;|a::l,j+1,x,e=>by have b:=EM (l:=l) (j:=j) (x:=x) ZN;rw[tX,show (j+1)*4=4+j*4 by omega,List.drop_append,y8 b9,A3];grind
def wcells(l:List Nat):List C:=l.map λn=>.d (.int .u32 (n:Nat))
def Hv l:z (wcells l)=z l:=by simp[wcells]
def rL{s}{n}:uD s [.agg [.d .nsl,ag 0],ae n] (.tup [Fi [] 0,ae n]):=by refine⟨_,⟨Fi [] 0,_,rfl,⟨[iC [],.int .i64 0],rfl,λi c l=>?_,rfl⟩,_,_,rfl,⟨_,.d _,rfl⟩,rfl⟩,rfl⟩;match i,l with|0,l=>cases l;exact⟨_,rfl,.d _⟩;|1,l=>cases l;exact⟨_,rfl,.d _⟩
def afq{o}{w}{fs}{P}(ok:P.data<=32768->aco w fs P)(cu:aR Tryz.prog 57 [kX w fs] (·=Oi P.depths P.back P.base P.data)):cn Tryz.prog 4 o 33 [kX w fs] (·=Bn fs P):=by
 refine hdG Tryz.func33 rfl [.cell 2 35,.tmp 3] λO bc s0 w0 g=>?_;obtain⟨X,hz⟩:∃X,Bn fs P=X:=⟨_,rfl⟩;rw[hz];unfold Bn at hz;have b1:kX w fs=.agg [ag w,aw (fs.map sfD)]:=rfl;rw[b1]at cu|-;simp only[go_sem];refine lM aN rfl (by simp only[go_sem];exact cu) c8 ?_;rintro _ rfl;unfold Oi;by_cases hd:32768<P.data;.rw[s5 hd]at hz;subst hz;simp only[go_sem,hd];exact⟨_,rL,rfl⟩
 rw[l4 hd]at hz;have k:=ok a7;simp only[go_sem,hd];have dd:=k.fz;have b3:(List.replicate (z fs) [C.d .nsl]).flatten=List.replicate (z fs) (C.d .nsl):=rJ _ _;refine cG aP mixed aN [23,27,29] [([1],[0,1],[],F),([4],[0,1],[],F),([1],[1],[],F),([20],[1],[],F),([21],[1],[],F),([22],[1],[0],F),([1],[0],[],F),([24],[0],[],F),([25],[0],[],F),([26],[0],[1],F),([18,19,23,27],[],[],F),([28],[],[2],F),([29],[],[],T)] 3 rfl c9 rfl a8 ?_;simp only[go_sem];iterate 5 (refine au gdD (λ_ _ _ _ J=>by simp only[go_sem,j6]at J|-;exact J) ?_)
 refine cw (v:=eS 23 (nxC 4 (g 23)) 1 0 (z fs)) (x:=nxC 4 (g 23)) (y:=S (icells (List.replicate (z fs) 0))) A6 (λfa ga oa K' J=>?_) ?_;.simp only[go_sem,bm]at J|-;refine⟨l7 _,a7,a7,?_⟩;rw[show (List.replicate (z fs) [C.d (.int .i64 0)]).flatten=icells (List.replicate (z fs) 0) by rw[rJ,icells,P2]];exact J
 iterate 3 (refine au gdD (λ_ _ _ _ J=>by simp only[go_sem,j6]at J|-;exact J) ?_)
 refine cw (v:=eS 27 (nxC (bm Tt 132+1) (g 27)) 1 0 (z fs)) (x:=nxC (bm Tt 132+1) (g 27)) (y:=S (List.replicate (z fs) (.d .nsl))) A6 (λfa ga oa K' J=>?_) ?_;.simp only[go_sem]at J|-;grind
 (refine au gdD Z4 ?_);(refine cw gdD Z4 ?_);refine cH A6 ?_;intro K' a';simp only[go_sem];refine a' _ ?_;clear a' K';obtain⟨ad,az⟩:∃x,nxC 4 (g 23)=x:=⟨_,rfl⟩;obtain⟨al,bk⟩:∃x,nxC (bm Tt 132+1) (g 27)=x:=⟨_,rfl⟩;rw[az,bk];have b7:P.depths.map (λo=>[ksD o])=P.depths.map (λo=>[ksD o]):=rfl;simp only[go_sem];refine Oo aN _ ((dX (t:=5) (b:=200) (j:=6) (cells:=[ag w,aw (fs.map sfD),aw (P.depths.map λo=>[ksD o]),.d (ksD P.back),.d (ksD P.base),ag P.data,.d .nsl,.osl 23 ad 1 0 (z fs),.osl 27 al 1 0 (z fs),.d .nsl,ag 0,ag 0]) c8 c8 rfl a8).trans
 (dX (t:=5) (b:=201) (j:=9) (sz:=3) (cells:=[ag w,aw (fs.map sfD),aw (P.depths.map λo=>[ksD o]),.d (ksD P.back),.d (ksD P.base),ag P.data,.osl 200 (g 200+1) 4 0 0,.osl 23 ad 1 0 (z fs),.osl 27 al 1 0 (z fs),.d .nsl,ag 0,ag 0]) c8 c8 rfl a8)) ?_;simp only[St.claimAt];refine cN (L:=λ_ _ _=>False) (R:=λr g' Y=>r=eS 1037 (g' 1037) 4 0 (z (Emit.whole fs P).code)/\Y 1037=S (iH (Emit.filled (Emit.whole fs P)))/\∀i,i<10->g' i=(upd (upd (upd g 1 (nxC 88 (g 1))) 2 (nxC 36 (g 2))) 4 (nxC 135 (g 4))) i/\Y i=(upd (upd (upd (λ_=>N) 1 (S [C.d (D.int IntKind.i64 w),C.d (D.sl (List.map sfD fs))])) 2 (S [C.d D.nsl,C.d (D.int IntKind.i64 0)])) 4 (S [C.d (D.sl (P.depths.map λo=>[ksD o])),C.d (ksD P.back),C.d (ksD P.base),C.d (D.int IntKind.i64 P.data)])) i) aN rfl ?_ (λ_ _ _ h=>h.elim) ?_
 .simp only[go_sem];refine(Tf (B:=1000) (D:=200) (H:=201) (k:=⟨ag w,aw (fs.map sfD),aw (P.depths.map λo=>[ksD o]),.d (ksD P.back),.d (ksD P.base),ag P.data,.osl 23 ad 1 0 (z fs),.osl 27 al 1 0 (z fs),ag 0,ag 0⟩)
  ⟨λi hi=>?_,a8,a8,a8,a8,a8,a8,?_,?_,?_,?_⟩ ⟨rfl,rfl,rfl,rfl,rfl,rfl,k.dl,k.bl,k.l,k.fz,k.bz,k.dz,k.pz,k.sz⟩ ?_ ?_ ?_ ?_ ?_ a8 a8 a8 k.n k.ok0 k.okj k.X k.zh k.ho).mono ?_ (λ_ _ _ h=>h);.exact hP
  .rfl
  .rfl
  .rfl
  .intro x I;simp only[bZ.all,A0,A9,D8]at I;rcases I with e|e|e|e|e|e|e|e|e|e;all_goals (subst e;first|trivial|(show (23:Nat)<1000;decide)|(show (27:Nat)<1000;decide))
  .rfl
  .rfl
  .rfl
  .rfl
  .rfl
  rintro r g' Y⟨U,Z,h3⟩;refine⟨U,Z,λi hi=>?_⟩;obtain⟨a1,a2⟩:=h3 i a7 a7 a7 a7 a7 a7;refine⟨a1.trans ?_,a2.trans ?_⟩;.simp only[upd];grind
  .simp only[upd];grind
 rintro r g1 av⟨rfl,A,O1⟩;have e2:=O1 2 a8;have e4:=O1 4 a8;simp[upd]at e2 e4;obtain⟨e2,o2⟩:=e2;obtain⟨e4,o4⟩:=e4;clear O1;obtain⟨W,hW⟩:∃W,Emit.whole fs P=W:=⟨_,rfl⟩;rw[hW]at A hz;have b2:=k.X;rw[hW]at b2|-;obtain⟨c,hc⟩:∃c,Emit.filled W=c:=⟨_,rfl⟩;have bo:z W.code=z c:=by rw[<-hc];exact(EL W W.holes W.code).symm
 simp only[hc]at hz;rw[hc]at A;rw[bo]at b2|-;obtain⟨gC,bf⟩:∃x,g1 1037=x:=⟨_,rfl⟩;rw[bf];by_cases q:16384<z c;.rw[s5 q]at hz;subst hz;have hb:(16384:Int)<(z c:Int):=a7;simp only[go_sem,hb,bf,A,e2,o2];exact⟨_,rL,rfl⟩
 rw[l4 q]at hz;have hb:¬(16384:Int)<(z c:Int):=a7;simp only[go_sem,hb,bf,A];refine⟨l7 _,a7,a7,?_⟩;have b6:(List.replicate (z c) [C.d (.int .u32 0)]).flatten=wcells ((c.take 0).map oK++List.replicate (z c-0) 0):=by rw[rJ];simp[wcells]
 refine aF (λm K=>∃j:Nat,m+j=z c/\(c.take j).all rK=T/\K.f 2=aj 2 (K.gen 2) 0/\K.f 4=aj 4 (K.gen 4) 0/\K.f 7=eS 38 (K.gen 38) 1 0 (z c)/\K.f 39=eS 1037 gC 4 0 (z c)/\K.f 40=ae (z c)/\K.f 41=ae j/\K.gen 1037=gC/\K.obj 1037=S (iH c)/\K.obj 38=S (wcells ((c.take j).map oK++List.replicate (z c-j) 0))/\(∃x y,K.obj 2=S [x,y])/\K.obj 4=S [aw (P.depths.map λo=>[ksD o]),.d (ksD P.back),.d (ksD P.base),ag P.data]) (z c) ?_ ?_;.refine⟨0,rfl,rfl,?_⟩;simp only[go_sem,bf,A,e2,e4,o2,o4];grind
 clear e2 e4 o2 o4 A bf b6 az bk;rintro m fa g2 bn⟨j,hm,bs,q2,q4,q7,b0,an,ar,bf,A,p,⟨x0,y0,o2⟩,o4⟩;simp only at q2 q4 q7 b0 an ar bf A p o2 o4;have b5:(wcells ((c.take j).map oK++List.replicate (z c-j) 0)).length=z c:=by rw[Hv,j7,j6,E5,H3];omega
 by_cases af:j<z c;case neg=>obtain rfl:j=z c:=a7;have bd:¬(z c:Int)<(z c:Int):=a7;rw[E8]at bs p;rw[K8,L6,u7]at p;rw[s5 bs]at hz;subst hz;simp only[go_sem,q2,q4,q7,an,ar,bd,o2,o4];refine⟨_,⟨_,⟨Fi (c.map oK) P.data,_,rfl,⟨[iC (c.map oK),.int .i64 P.data],rfl,λi y hy=>?_,rfl⟩,_,_,rfl,⟨_,.d _,rfl⟩,rfl⟩,rfl⟩,rfl⟩;match i,hy with
 |0,hy=>
 cases hy;refine⟨_,rfl,fJ (cells:=wcells (c.map oK)) rfl (c.map oK) (λn=>[.int .u32 (n:Nat)]) ?_ ?_ abo (λ_ _=>rfl) b9⟩;.simp only[upd];exact p
 .unfold wcells;generalize c.map oK=l;induction l with|nil=>rfl;|cons b l ih=>grind
 |1,hy=>cases hy;exact⟨_,rfl,.d _⟩
 have bd:(j:Int)<(z c:Int):=a7;have cx:(0:Int)<=(j:Int):=a7;obtain⟨x,I⟩:∃x,c[j]?=S x:=⟨_,x9 af⟩;have b4:=EM I;unfold KW at b4;simp only[go_sem,b0,an,ar,bd,cx,bf,A,kI c,b4];refine⟨a7,?_⟩;refine kr rfl (by simp only[go_sem];exact Ni x.1 x.2.1 x.2.2.1 x.2.2.2) ?_;rintro _ rfl;cases V:rK x
 .have Q:ir x.1 x.2.1 x.2.2.1 x.2.2.2=F:=V;have a6:c.all rK=F:=by rw[Bool.eq_false_iff];intro h;rw[z7]at h;rw[h x (l8 I)]at V;cases V
  rw[a6]at hz;simp only[B4,B1]at hz;subst hz;simp only[go_sem,Q,B4,q2,o2];exact⟨_,rL,rfl⟩
 .have Q:ir x.1 x.2.1 x.2.2.1 x.2.2.2=T:=V;have u:(wcells ((c.take j).map oK++List.replicate (z c-j) 0)).set j (.d (.int .u32 (oK x:Nat)))=wcells ((c.take (j+1)).map oK++List.replicate (z c-(j+1)) 0):=by obtain⟨n,hn⟩:∃n,z c-j=n+1:=⟨z c-j-1,a7⟩;rw[hn,show z c-(j+1)=n by omega,C1,I,Option.toList,C2,s9];unfold wcells;rw[C2,I2 _ _ ZN];simp only[j6,E5,C2,s7,x7,J9];rw[show j-min j (z c)=0 by omega];rfl
  simp only[go_sem,Q,q7,p,b5,bd,cx];refine⟨a7,?_⟩;simp only[go_sem,ar,ah (k:=j) a7];refine ak (m-1) a7 ⟨j+1,a7,?_,?_⟩;.rw[C1,I,Option.toList,F7,bs];simp[V]
  simp only[go_sem,q2,q4,q7,b0,an,bf,A,o2,o4];exact⟨u▸rfl,_,_,rfl,rfl⟩
end Go.Proofs.YtfdbpgoicedpcaaGreatDoor.Low
namespace Go.Am
attribute[local congr]ite_cc
variable{ar:Sp}{s:St}{B:(Exit->St->Prop)->St->Prop}{Q:Exit->St->Prop}
def Jp{b:Box B}{q:Box Q} d(h:ar.vs s d)(J:Nat->St->Prop) n(c:J 0 d)(V:∀k f g a,k<=n->J k ⟨f,g,a⟩->B (nE (bx λe=>∃H d,H<n-k/\ar.vs e d/\∃E,H+E=n/\J E d) q) ⟨f,g,a⟩):uy ar b q s:=⟨λm K=>∃k,m+k=n/\J k K,⟨n,d,h,0,rfl,c⟩,λm K⟨k,U,Z⟩=>by have:=V k K.f K.gen K.obj a7 Z;rwa [show n-k=m by omega]at this⟩
def ez{b:Box B}{q:Box Q}(J:Nat->St->Prop) n(h0:J 0 s)(V:∀k f g ob,k<=n->J k ⟨f,g,ob⟩->B (nE (bx λs'=>∃H d,H<n-k/\ar.vs s' d/\∃E,H+E=n/\J E d) q) ⟨f,g,ob⟩)(hv:∀s,ar.vs s s:=by exactλs=>ai.refl s):uy ar b q s:=Jp s (hv s) J n h0 V
def cj{J:Nat->St->Prop}{n k}(h:k<n)(hJ:J (k+1) s)(hv:ar.vs s s:=by exact ai.refl _):∃H d,H<n-k/\ar.vs s d/\∃E,H+E=n/\J E d:=⟨n-(k+1),s,a7,hv,k+1,a7,hJ⟩
end Go.Am
namespace Go.Src
attribute [local congr] Go.Am.ite_cc
mutual
def inE:Ex->Prop
 |.mk _ _ _ _ kids=>z kids<=1000000000000000000/\uZ kids
def uZ:List Ex->Prop
 |[]=>True
 |e::l=>inE e/\uZ l
end
mutual
def inS:Stm->Prop
 |.mk _ _ e a el=>(z e<=1000000000000000000/\uZ e)/\(z a<=1000000000000000000/\ua a)/\(z el<=1000000000000000000/\ua el)
def ua:List Stm->Prop
 |[]=>True
 |e::l=>inS e/\ua l
end
def Ow:∀{l}{k:Nat}{e},uZ l->l[k]?=S e->inE e|_::_,0,_,h,he=>by cases he;exact h.1;|_::_,_+1,_,h,he=>Ow h.2 (by simpa using he)
def Ox:∀{l}{k:Nat}{e},ua l->l[k]?=S e->inS e|_::_,0,_,h,he=>by cases he;exact h.1;|_::_,_+1,_,h,he=>Ox h.2 (by simpa using he)
mutual
def qN:Ex->Int->Int->Int
 |.mk _ _ _ name kids,left,b=>if b<=0\/60<(z name:Int)then -1 else eJ kids (left-1) (b-1)
def eJ:List Ex->Int->Int->Int
 |[],left,_=>left
 |e::l,left,b=>if left<0 then left else eJ l (qN e left b) b
end
mutual
def qO:Stm->Int->Int->Int
 |.mk _ name e a el,left,b=>if b<=0\/60<(z name:Int)then -1 else ff el (ff a (eJ e (left-1) (b-1)) (b-1)) (b-1)
def ff:List Stm->Int->Int->Int
 |[],left,_=>left
 |e::l,left,b=>if left<0 then left else ff l (qO e left b) b
end
variable{left b:Int}
def Hw(h:left<0):∀l:List Ex,eJ l left b=left|[]=>rfl|e::l=>by rw[eJ,s5 h]
def qn(h:left<0):∀l:List Stm,ff l left b=left|[]=>rfl|e::l=>by rw[ff,s5 h]
mutual
theorem Oy:∀(e:Ex)(left b:Int),qN e left b<0\/qN e left b+szE e=left
 |.mk _ _ _ name kids,left,b=>by
   rw[qN,szE];split
   .omega
   .have:=wx kids (left-1) (b-1);omega
theorem wx:∀(l:List Ex)(left b:Int),eJ l left b<0\/eJ l left b+aO l=left
 |[],left,b=>by rw[eJ,aO];omega
 |e::l,left,b=>by
   rw[eJ,aO];split
   .omega
   .have:=Oy e left b
    by_cases h:(qN e left b)<0
    .rw[Hw h];omega
    .have:=wx l (qN e left b) b;omega
end
mutual
theorem Oz:∀(e:Stm)(left b:Int),qO e left b<0\/qO e left b+szS e=left
 |.mk _ name e a el,left,b=>by
   rw[qO,szS];split
   .omega
   .have U:=wx e (left-1) (b-1)
    by_cases h:(eJ e (left-1) (b-1))<0
    .rw[qn h,qn h];omega
    have Z:=sF a (eJ e (left-1) (b-1)) (b-1);by_cases c:(ff a (eJ e (left-1) (b-1)) (b-1))<0
    .rw[qn c];omega
    have d:=sF el (ff a (eJ e (left-1) (b-1)) (b-1)) (b-1);omega
theorem sF:∀(l:List Stm)(left b:Int),ff l left b<0\/ff l left b+aI l=left
 |[],left,b=>by rw[ff,aI];omega
 |e::l,left,b=>by
   rw[ff,aI];split
   .omega
   .have:=Oz e left b
    by_cases h:(qO e left b)<0
    .rw[qn h];omega
    .have:=sF l (qO e left b) b;omega
end
mutual
theorem OA:∀(e:Ex)(left b:Int),0<=left->-1<=qN e left b
 |.mk _ _ _ name kids,left,b,h=>by
   rw[qN];split
   .omega
   .exact wy kids _ _ a7
theorem wy:∀(l:List Ex)(left b:Int),-1<=left->-1<=eJ l left b
 |[],left,b,h=>by rw[eJ];exact h
 |e::l,left,b,h=>by
   rw[eJ];split
   .exact h
   .exact wy l _ _ (OA e _ _ a7)
end
mutual
theorem OB:∀(e:Stm)(left b:Int),0<=left->-1<=qO e left b
 |.mk _ name e a el,left,b,h=>by
   rw[qO];split
   .omega
   .exact wz el _ _ (wz a _ _ (wy e _ _ a7))
theorem wz:∀(l:List Stm)(left b:Int),-1<=left->-1<=ff l left b
 |[],left,b,h=>by rw[ff];exact h
 |e::l,left,b,h=>by
   rw[ff];split
   .exact h
   .exact wz l _ _ (OB e _ _ a7)
end
end Go.Src
namespace Go.Proofs.YtfdbpgoicedpcaaGreatDoor
open Go Go.Am Go.Asm
open Go.Src (Ex Stm szE aO szS aI inE uZ inS ua qN eJ qO ff)
attribute[local congr]ite_cc
def eO{H:Type}{l:List H}{k}{e}(h:l[k]?=S e):l.drop k=e::l.drop (k+1):=by obtain⟨U,rfl⟩:=l9.1 h;simp
def getD_at{H:Type}{f:H->List D}{l:List H}{k:Nat}{e}(h:l[k]?=S e):(l.map f)[k]?=S (f e):=by grind
def EU:∀al l left b,aO l<=al->z l<=1000000000000000000->uZ l->(-4000000000000000000<=left/\left<=1000000)->(0<=b/\b<=60)->aR Tryz.prog 61 [ea l,ae left,ae b] (·=ae (eJ l left b)):=by intro al;induction al using Nat.strongRecOn with|ind al x=>
 intro l left b A hl E bl u;refine hdP Tryz.func61 rfl [6] λg=>?_;obtain⟨X,v⟩:∃X,eJ l left b=X:=⟨_,rfl⟩;rw[v];unfold ea;simp only[go_sem];refine ez (λk K=>∃c:Int,eJ (l.drop k) c b=X/\(-4000000000000000000<=c/\c<=1000000)/\K.f 0=.one (aw (l.map exD))/\K.f 1=ae c/\K.f 2=ae b/\K.f 7=ae k) (z l) ⟨left,v,bl,?_⟩ ?_;.exact gO
 rintro k f G I hk⟨c,hc,L,q0,i,q2,q7⟩;simp only at q0 i q2 q7;have hw:=ah (k:=k) a7;by_cases af:k<z l;case neg=>have Q:¬(k:Int)<(z l:Int):=a7;rw[y8 a7,eJ]at hc;simp only[go_sem,q0,i,q7,Q,j6,hc]
 have Q:(k:Int)<(z l:Int):=a7;by_cases bk:0<=c;case neg=>rw[Src.Hw a7]at hc;subst hc;simp only[go_sem,q0,i,q7,Q,j6,bk]
 have o:IntKind.i64.wrap (c-1)=c-1:=wrap_i64 _ a7 a7;have w:IntKind.i64.wrap (b-1)=b-1:=wrap_i64 _ a7 a7;obtain⟨e,j⟩:=getq af;rw[eO j,eJ,l4 a7]at hc;have p:=Src.Ow E j;have az:=Src.vu (l8 j);obtain⟨kind,op,num,name,a⟩:=e;have y:exD (.mk kind op num name a)=[.int .i64 kind,.int .i64 op,.int .u32 num,.str name,.sl (a.map exD)]:=by simp only[exD,aL]
 have t:=getD_at (f:=exD) j;rw[y]at t;rw[qN]at hc;rw[szE]at az;rw[inE]at p;by_cases hd:b<=0;.rw[s5 (.inl hd),Src.Hw a7]at hc;simp only[go_sem,q0,i,q2,q7,Q,j6,bk,o,hd,<-hc]
 by_cases hn:60<(z name:Int);.rw[s5 (.inr hn),Src.Hw a7]at hc;simp only[go_sem,q0,i,q2,q7,Q,j6,bk,o,hd,t,hn,<-hc]
 rw[l4 a7]at hc;have ho:=Src.wx a (c-1) (b-1);have m:=Src.wy a (c-1) (b-1) a7;simp only[go_sem,q0,i,q2,q7,Q,j6,bk,o,w,hd,t,hn];refine cD rfl (by simp only[go_sem];exact x (aO a) a7 a (c-1) (b-1) (l7 _) p.1 p.2 a7 a7) ?_;exact Y0
end Go.Proofs.YtfdbpgoicedpcaaGreatDoor

