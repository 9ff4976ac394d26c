/- A part; no conditions. -/
import Derived.Test.YtfdbpgoicedpcaaGreatDoorPart11
set_option linter.all false
open List renaming length -> z
open Option renaming some -> S, none -> N
open Bool renaming true -> T, false -> F
set_option maxHeartbeats 64000000
set_option maxRecDepth 100000
namespace Go.Src
section
open Go.Asm (Str)
open Go.Lower (Sig within callee rE rEs rS rSs)
section
def sigs(fs:List Fn):Sig:=fs.map λf=>((z f.p:Int),f.word)
structure sN (fs:List Fn) (W:Int) (k:Nat) (g:Str->Option (Nat×Nat)) (pl:Str->Int×Int):Prop where
 no:pl []=(0,0)var:∀s kd n,g s=some (kd,n)->kd=1\/kd=2->within W (pl s).1 1/\(pl s).2=0
 arr:∀s n,g s=some (3,n)->1<=(pl s).2/\(pl s).2<=4096/\within W (pl s).1 (pl s).2
 fn:∀s n,g s=some (4,n)->n<k->(pl s).1=n/\(pl s).2=0/\∃f,fs[n]?=some f/\dD fs s=some f
variable{fs:List Fn}{W:Int}{k:Nat}{o i:Pl}{g:Str->Option (Nat×Nat)}
def Aa:∀l:List Ex,z (bR o i l)=z l:=λl=>by rw[nZ,j6]
def Ab:∀l:List Stm,z (cF o i l)=z l:=λl=>by rw[oe,j6]
def pA(H:sN fs W k g (cR o i)){name}{args}{w}(U:bT g k 4 name=T)(Z:iz g fs k 4 name args=T)(a:jm fs name=w):callee (sigs fs) k (cR o i name).1 args w/\(cR o i name).2=0:=by unfold bT at U;cases b:g name with|none=>grind;|some t=>obtain⟨j,n⟩:=t;rw[b]at U;simp only[show¬(4:Nat)=2 by decide,show¬(4:Nat)=3 by decide,B1,l6,L2,v8]at U;obtain⟨rfl,c⟩:=U;obtain⟨d,e,f,Y,h⟩:=H.fn name n b c;unfold iz at Z;rw[b]at Z;simp[c,Y]at Z;unfold jm at a;rw[h]at a;refine⟨⟨n,d,c,?_⟩,e⟩;grind[sigs]
mutual
theorem FV(H:sN fs W k g (cR o i)):∀(e:Ex)(q:Nat),dn q e=T->okE (λa b _=>bT g k a b) e=T->okE (λa b c=>iz g fs k a b c) e=T->eQ fs e≠0->rE W (sigs fs) k q (eR o i e)
 |.mk kind op num name kids,q,U,Z,s,v=>by
   rw[dn]at U;rw[okE]at Z s;rw[eQ]at v;simp only[l6,v8]at U Z s;obtain⟨j,d,x⟩:=U;rw[eR,rE];have p:(q:Int)<=24:=a7;have bd:=Aa (o:=o) (i:=i) kids;unfold Lower.okE;rw[bd];have l:kids=[]->rEs W (sigs fs) k (q+1) (bR o i kids):=λe=>by rw[e,bR,rEs];trivial
   have r:∀t,dL fs t kids=T->t≠0->rEs W (sigs fs) k (q+1) (bR o i kids):=λt B E=>by
    have:=qA H kids (q+1) t x Z.2 s.2 B E
    grind
   have u:name=[]->cR o i name=(0,0):=λe=>by rw[e];exact H.no
   unfold bV aq at d;by_cases k1:kind=1
   .grind
   by_cases G:kind=2
   .subst G
    simp at d;obtain⟨⟨⟨ho,a6⟩,w⟩,hl⟩:=d;have K:kids=[]:=by first|exact hl|exact P3.1 hl
    have m:=Z.1;simp only[B3]at m;unfold bT at m;cases f:g name with
    |none=>grind
    |some t=>
      obtain⟨y,n⟩:=t;rw[f]at m;simp at m;obtain⟨L,O⟩:=H.var name y n f m
      grind
   by_cases Q:kind=5
   .grind
   by_cases I:kind=3
   .subst I
    simp at d;obtain⟨⟨⟨ho,a6⟩,w⟩,hl⟩:=d;have m:=Z.1;simp at m;unfold bT at m;simp at v;cases f:g name with
    |none=>grind
    |some t=>
      obtain⟨y,n⟩:=t;rw[f]at m;simp at m;subst m;obtain⟨V,X,Y⟩:=H.arr name n f
      grind
   by_cases J:kind=4
   .subst J
    simp at d;obtain⟨⟨⟨ho,a6⟩,w⟩,hl⟩:=d;have m:=Z.1;have A:=s.1;simp at m A v;obtain⟨c1,c2⟩:=pA H m A v.1
    grind
   by_cases P:kind=6
   .grind
   grind
theorem qA(H:sN fs W k g (cR o i)):∀(l:List Ex)(q:Nat)(t:Int),bp q l=T->eP (λa b _=>bT g k a b) l=T->eP (λa b c=>iz g fs k a b c) l=T->dL fs t l=T->t≠0->rEs W (sigs fs) k q (bR o i l)
 |[],q,t,_,_,_,_,_=>by rw[bR,rEs];trivial
 |e::l,q,t,U,Z,d,f,j=>by
   rw[bp,l6]at U;rw[eP,l6]at Z d;rw[dL,l6,v8]at f;rw[bR,rEs];exact⟨FV H e q U.1 Z.1 d.1 a7,qA H l q t U.2 Z.2 d.2 f.2 j⟩
end
mutual
theorem FW{w:Bool}(H:sN fs W k g (cR o i)):∀(s:Stm)(q:Nat),dC q s=T->okS (λa b _=>bT g k a b) s=T->okS (λa b c=>iz g fs k a b c) s=T->lj fs w s=T->rS W (sigs fs) k w q (coreS o i s)
 |.mk kind name e E el,q,U,Z,l,B=>by
   rw[dC]at U;rw[okS]at Z l;rw[lj]at B;simp only[l6,v8]at U Z l B;obtain⟨⟨j,d,x⟩,L,a6⟩:=U;obtain⟨⟨⟨G,V⟩,bs⟩,y,r⟩:=B;rw[coreS,rS];have p:(q:Int)<=24:=a7;unfold Lower.okS;rw[Aa,Ab,Ab]
   have J:rEs W (sigs fs) k (q+1) (bR o i e):=by
    have:=qA H e (q+1) _ x Z.1.1.2 l.1.1.2 bs a7;simpa using this
   have K:rSs W (sigs fs) k w (q+1) (cF o i E):=by
    have:=ng H E (q+1) L Z.1.2 l.1.2 y;simpa using this
   have O:rSs W (sigs fs) k w (q+1) (cF o i el):=by
    have:=ng H el (q+1) a6 Z.2 l.2 r;simpa using this
   refine⟨?_,J,K,O⟩;have u:name=[]->cR o i name=(0,0):=λe=>by rw[e];exact H.no
   have f:bT g k 2 name=T->within W (cR o i name).1 1/\(cR o i name).2=0:=λh=>by
    unfold bT at h;cases v:g name with
    |none=>grind
    |some t=>
      obtain⟨I,n⟩:=t;rw[v]at h;simp at h;exact H.var name I n v h
   unfold cP aq at d;by_cases X:kind=1
   .grind
   by_cases Q:kind=2
   .subst Q
    simp at d;have m:=Z.1.1.1;simp at m;unfold bT at m;cases v:g name with
    |none=>grind
    |some t=>
      obtain⟨I,n⟩:=t;rw[v]at m;simp at m;subst m;obtain⟨Y,a2,a3⟩:=H.arr name n v
      grind
   by_cases k3:kind=3
   .grind
   by_cases k4:kind=4
   .grind
   by_cases k5:kind=5
   .grind
   by_cases P:kind=6
   .subst P
    simp at d;have m:=Z.1.1.1;have A:=l.1.1.1;simp at m A G;obtain⟨d1,d2⟩:=pA H m A G
    grind
   grind
theorem ng{w:Bool}(H:sN fs W k g (cR o i)):∀(l:List Stm)(q:Nat),bD q l=T->fp (λa b _=>bT g k a b) l=T->fp (λa b c=>iz g fs k a b c) l=T->bU fs w l=T->rSs W (sigs fs) k w q (cF o i l)
 |[],q,_,_,_,_=>by rw[cF,rSs];trivial
 |s::l,q,U,Z,d,e=>by
   rw[bD,l6]at U;rw[fp,l6]at Z d;rw[bU,l6]at e;rw[cF,rSs];exact⟨FW H s q U.1 Z.1 d.1 e.1,ng H l q U.2 Z.2 d.2 e.2⟩
end
end
section
def oO{H β b:Type} f(g:β->b)(l:List H):(l.mapIdx f).map g=l.mapIdx λi a=>g (f i a):=by apply N0;grind
def PD:∀l m w,gV l m w=((l.mapIdx λi n=>((n,w+i,0):Str×Int×Int)).reverse++m,w+z l)|[],m,w=>by simp[gV];|n::l,m,w=>by rw[gV,PD l,L9];grind
def PE:∀l m w,gA l m w=((l.mapIdx λi a=>((a.1,w+((l.take i).map (·.2)).sum,a.2))).reverse++m,w+(l.map (·.2)).sum)|[],m,w=>by simp[gA];|n::l,m,w=>by rw[gA,PE l,L9];grind
def VU:∀l j m,gF j l m=(l.mapIdx λi f=>((f.name,((j+i:Nat)),0):Str×Int×Int)).reverse++m|[],j,m=>by rfl;|n::l,j,m=>by rw[gF,VU l,L9];grind
def PF w:∀l j m,lP w j l m=(l.mapIdx λi n=>((n,w+((j+i:Nat)),0):Str×Int×Int)).reverse++m|[],j,m=>by rfl;|n::l,j,m=>by rw[lP,PF w l,L9];grind
def zQ enc s:∀n G,z G=n->cQ [] G=T->lV ((G.map λt=>(t.1,enc t.2)).reverse) s=(bb G s).map enc:=by intro n;induction n with|zero=>intro G b _;rw[P3.1 b];rfl;|succ n d=>
 intro G b L;obtain⟨l,t,rfl⟩:∃l t,G=l++[t]:=⟨G.dropLast,G.getLast ZN,(M7 _).symm⟩;rw[vv,l6]at L;have hl:z l=n:=by rw[j7]at b;simpa using b
 rw[C2,R5,oQ];simp only[s7,x7,List.reverse_cons,List.reverse_nil,A3,Q1,lV];by_cases a:t.1=s;.simp_all[bb]
 .rw[l4 a,d l hl L.1];grind[bb]
def ie(p:Prog)(n:Nat):Int:=z p.v+((p.a.take n).map (·.2)).sum
def nc(p:Prog)(n:Nat):Int:=((p.a[n]?).map (·.2)).getD 0
def mD(p:Prog)(w:Int)(t:Nat×Nat):Int×Int:=if t.1=3 then(ie p t.2,nc p t.2)else if t.1=1 then(w+t.2,0)else((t.2:Int),0)
def zR p w:(ay p).1=((bH p).map λt=>(t.1,mD p w t.2)).reverse:=by
 unfold ay bH;simp only;rw[VU,PE,PD];simp only[C2,R5,u7];congr 1;.simp_all[thF,oO,mD]
 .congr 1;.congr 1;apply N0;intro i;unfold thA;rw[A4,List.getElem?_mapIdx,List.getElem?_mapIdx];cases b:p.a[i]?with|none=>rfl;|some a=>simp[mD,ie,nc,b]
  simp_all[thV,oO,mD]
def AD p f w:lP (w+z f.p) 0 f.l (lP w 0 f.p [])=((bQ f).map λt=>(t.1,mD p w t.2)).reverse:=by
 unfold bQ;rw[PF,PF];simp only[C2,R5,u7];congr 1;.congr 1;unfold thL;rw[oO];grind[mD]
 .congr 1;unfold thL;rw[oO];congr 1
def vo p f w(U:cQ [] (bH p)=T)(Z:cQ [] (bQ f)=T) s:cR (ay p).1 (lP (w+z f.p) 0 f.l (lP w 0 f.p [])) s=((bG (bH p) (bQ f) s).map (mD p w)).getD (0,0):=by unfold cR bG;rw[zR p w,AD p f w,zQ _ s _ _ rfl U,zQ _ s _ _ rfl Z];grind
def BA s:∀fs j n,bb (fs.mapIdx λi f=>((f.name,4,j+i))) s=S (4,n)->∃m f,n=j+m/\fs[m]?=S f/\dD fs s=S f
 |[],j,n,h=>by simp[bb]at h;|f::fs,j,n,h=>by
  rw[L9]at h;simp only[bb,dD]at h|-;by_cases a:f.name=s;.simp_all
  .rw[l4 a]at h;have e:(fs.mapIdx λi f=>((f.name,4,j+(i+1)):Th))=fs.mapIdx λi f=>((f.name,4,(j+1)+i):Th):=by congr 1;funext i f;simp only[M8,true_and];omega
   rw[e]at h;obtain⟨m,g,U,Z,b⟩:=BA s fs (j+1) n h;exact⟨m+1,g,a7,Z,by grind⟩
variable{t:Th}{vs:List Str}{y:List (Str×Int)}
def PG{s}{k n}(h:(s,k,n)∈thA y):∃a,y[n]?=S a/\k=3:=by simp only[thA,I6]at h;obtain⟨i,b,e⟩:=h;cases e;simp_all
def PH{s}{k n}(h:(s,k,n)∈thV vs):n<z vs/\k=2:=by simp only[thV,I6]at h;grind
def YE(h:t∈thV vs):t.1∈vs:=by simp only[thV,I6]at h;grind
def YF(h:t∈thA y):∃a∈y,t.1=a.1:=by simp only[thA,I6]at h;grind
def YG{fs}(h:t∈thF fs):∃f∈fs,t.1=f.name:=by simp only[thF,I6]at h;grind
def PI{j}(h:t∈thL j vs):t.1∈vs:=by simp only[thL,I6]at h;grind
def fG:ba []=F:=c8
def PJ{p}{f}(V:ct p=T)(g:f∈p.f):bG (bH p) (bQ f) []=N:=by
 unfold ct at V;simp only[l6,z7]at V;obtain⟨⟨_,i⟩,j,e⟩:=V;have c:=e f g;unfold de at c;simp only[l6,z7]at c;unfold bG;have k:bb (bQ f) []=N:=by cases h:bb (bQ f) []with|none=>rfl;|some x=>
  exfalso;have b:=fk h;rcases C6.1 b with b|b;.have:=c.2.1.1 _ (PI b);simp_all[fG]
  .have:=c.2.1.2 _ (PI b);simp_all[fG]
 have l:bb (bH p) []=N:=by cases h:bb (bH p) []with|none=>rfl;|some x=>
  exfalso;have b:=fk h;rcases C6.1 b with b|b
  .rcases C6.1 b with b|b;.have:=i _ (YE b);simp_all[fG]
   .obtain⟨a,d,cb⟩:=YF b;have:=j a d;unfold fR at this;exact S5
  .obtain⟨a,d,cb⟩:=YG b;have:=e a d;unfold de at this;exact S5
 rw[k,l]
def qz o:∀l w(k:Nat) f,l[k]?=S f->∃w',w<=w'/\(eF o l w).1[k]?=S (pJ o f w')/\w'+(z f.p+z f.l)<=(eF o l w).2
 |[],w,k,f,h=>by simp at h;|g::l,w,0,f,h=>by
  simp at h;subst h;refine⟨w,C7 _,rfl,?_⟩;simp only[eF];have:∀(l:List Fn)(w:Int),w<=(eF o l w).2:=by intro l;induction l with|nil=>intro w;exact C7 _;|cons a l c=>grind[eF]
  grind;|g::l,w,k+1,f,h=>by
  obtain⟨w',U,Z,b⟩:=qz o l (w+(z g.p+z g.l)) k f ZN;refine⟨w',a7,?_,?_⟩;.simp_all[eF]
  grind[eF]
def BB o:∀l w,w<=(eF o l w).2|[],w=>C7 _|a::l,w=>by simp only[eF];have:=BB o l (w+(z a.p+z a.l));omega
def nY o:∀l w,z (eF o l w).1=z l|[],w=>rfl|a::l,w=>by simp only[eF,j8,nY o l]
theorem xz:∀(l:List (Str×Int)) n a,(∀x∈l,1<=x.2)->l[n]?=S a->((l.take n).map (·.2)).sum+a.2<=(l.map (·.2)).sum/\0<=((l.take n).map (·.2)).sum
 |[],n,a,_,h=>by simp at h;|x::l,0,a,b,h=>by
  simp at h;subst h;have:∀m:List (Str×Int),(∀x∈m,1<=x.2)->0<=(m.map (·.2)).sum:=by intro m e;induction m with|nil=>simp;|cons y m c=>grind
  grind;|x::l,n+1,a,b,h=>by have c:=xz l n a (λX d=>b X (by simp[d])) ZN;grind
theorem PK{p}{f}{k}{w W}(V:ct p=T)(U:cQ [] (bH p)=T)(Z:cQ [] (bQ f)=T)(G:f∈p.f)(ad:(ay p).2<=w)(hW:w+(z f.p+z f.l)<=W):sN p.f W k (bG (bH p) (bQ f)) (cR (ay p).1 (lP (w+z f.p) 0 f.l (lP w 0 f.p []))):=by
 have K:(ay p).2=z p.v+(p.a.map (·.2)).sum:=by unfold ay;simp only;rw[PE,PD];simp
 have H:∀a∈p.a,1<=a.2/\a.2<=4096:=by unfold ct at V;simp only[l6,z7]at V;intro a q;have:=V.2.1 a q;unfold fR at this;simp at this;omega
 have b:∀a∈p.a,1<=a.2:=λa q=>(H a q).1;have d:0<=(p.a.map (·.2)).sum:=by
  have:∀m:List (Str×Int),(∀x∈m,1<=x.2)->0<=(m.map (·.2)).sum:=by intro m o;induction m with|nil=>simp;|cons y m L=>grind
  exact this _ b
 have J:∀{s:Str}{t:Nat×Nat},bb (bQ f) s=S t->t.1=1/\t.2<z f.p+z f.l:=λ{s t}h=>by
  have o:=fk h;rcases C6.1 o with o|o;.have:=JH o;omega
  .have:=JH o;omega
 have E:∀{s:Str}{t:Nat×Nat},bb (bH p) s=S t->(t.1=2/\t.2<z p.v)\/(t.1=3/\∃a,p.a[t.2]?=S a)\/t.1=4:=λ{s t}h=>by
  have o:=fk h;rcases C6.1 o with o|o
  .rcases C6.1 o with o|o;.have:=PH o;omega
   .obtain⟨a,q,I⟩:=PG o;grind
  .exact .inr (.inr (PZ o).1)
 refine⟨?_,λs O n j I=>?_,λs n j=>?_,λs n j Q=>?_⟩;.rw[vo p f w U Z,PJ V G];rfl
 .rw[vo p f w U Z,j];simp only[A5,B6];unfold bG at j;cases r:bb (bQ f) s with|some t=>rw[r]at j;cases j;have:=J r;obtain⟨rfl,X⟩:=this;simp only[mD,show¬(1:Nat)=3 by decide,B1,B3];exact⟨⟨a7,a7,a7,a7⟩,trivial⟩;|none=>
  rw[r]at j;rcases E j with⟨u,A⟩|⟨u,_⟩|u;.subst u;simp only[mD,show¬(2:Nat)=3 by decide,show¬(2:Nat)=1 by decide,B1];exact⟨⟨a7,a7,a7,a7⟩,trivial⟩
  .omega
  omega
 .rw[vo p f w U Z,j];simp only[A5,B6];unfold bG at j;cases r:bb (bQ f) s with|some t=>grind;|none=>
  rw[r]at j;rcases E j with⟨u,A⟩|⟨_,a,q⟩|u;.omega
  .simp only[mD,B3,ie,nc,q,A5,B6];have B:=H a (l8 q);have Y:=xz p.a n a b q;exact⟨B.1,B.2,a7,a7,a7,a7⟩
  omega
 .rw[vo p f w U Z,j];simp only[A5,B6,mD,show¬(4:Nat)=3 by decide,show¬(4:Nat)=1 by decide,B1,true_and];unfold bG at j;cases r:bb (bQ f) s with|some t=>grind;|none=>rw[r]at j;unfold bH at j;rw[oQ]at j;cases c:bb (thV p.v++thA p.a) s with
 |some t=>
 rw[c]at j;cases j;have o:=fk c;rcases C6.1 o with o|o;.have:=(PH o).2;omega
 .obtain⟨_,_,h⟩:=PG o;omega;|none=>
 rw[c]at j;unfold thF at j;have e:(p.f.mapIdx λi f=>((f.name,4,i):Th))=p.f.mapIdx λi f=>((f.name,4,0+i):Th):=by congr 1;funext i f;simp
 rw[e]at j;obtain⟨m,g,e1,e2,e3⟩:=BA s p.f 0 n j;grind
end
def uh{H}{c}:∀{l}{j k}{x:H},ck c j l=T->l[k]?=S x->c (j+k) x=T|[],j,k,x,_,h=>by simp at h;|a::l,j,0,x,U,Z=>by simp_all[ck];|a::l,j,k+1,x,U,Z=>by rw[ck,l6]at U;have:=uh U.2 (k:=k) (x:=x) ZN;grind
variable{p:Prog}
def FA(h:bN p=0):ct p=T/\lh p=0/\uk p=0:=by grind[bN]
def FB(h:lh p=0)(hl:1<=z p.f):cQ [] (bH p)=T/\ck (mN p) 0 p.f=T/\ck (Da p) 0 p.f=T:=by grind[lh]
def HT(h:bN p=0){k}{x}(I:(ab p).f[k]?=S x):rSs (ab p).words (sigs p.f) k x.word 1 x.body:=by
 obtain⟨V,j,c⟩:=FA h;obtain⟨L,H,i⟩:=FB j (by unfold ct at V;simp at V;exact V.1.1.1);unfold ab at I|-;simp only at I|-;have l:k<z p.f:=by have:=(l9.1 I).1;rw[nY]at this;exact this
 obtain⟨f,b⟩:∃f,p.f[k]?=S f:=⟨_,x9 l⟩;obtain⟨m,U,Z,o⟩:=qz (ay p).1 p.f (ay p).2 k f b;rw[I]at Z;cases Z;have e:=l8 b;have a:=uh H b;have d:=uh i b;rw[D2]at a d;unfold mN at a;rw[l6]at a;have Y:de f=T:=by unfold ct at V;simp only[l6,z7]at V;exact V.2.2 f e
 have g:bD 1 f.body=T:=by unfold de at Y;simp only[l6]at Y;exact Y.2.2
 have n:bU p.f f.word f.body=T:=by
  unfold uk at c;split at c;.cases c
  .grind
 unfold pJ;simp only;have:=ng (PK (k:=k) V L a.1 e U a7) f.body 1 g a.2 d n;omega
end
open Go.Lower (cE cEs cAO lU cS cSs one mC ke leave jS ifC uc codeOf)
mutual
def cnE:Lower.Ex->Nat
 |.mk _ _ _ _ _ kids=>vp kids+1
def vp:List Lower.Ex->Nat
 |[]=>0
 |e::l=>cnE e+vp l
end
mutual
def cnS:Lower.Stm->Nat
 |.mk _ _ _ e a el=>vp e+sW a+sW el+1
def sW:List Lower.Stm->Nat
 |[]=>0
 |s::l=>cnS s+sW l
end
mutual
theorem PL(o i:Pl):∀e:Ex,cnE (eR o i e)=szE e
 |.mk kind op num name kids=>by rw[eR,cnE,szE,wG o i kids]
theorem wG(o i:Pl):∀l:List Ex,vp (bR o i l)=aO l
 |[]=>by rfl
 |e::l=>by rw[bR,vp,aO,PL o i e,wG o i l]
end
mutual
theorem PM(o i:Pl):∀e:Stm,cnS (coreS o i e)=szS e
 |.mk kind name e a el=>by rw[coreS,cnS,szS,wG,sL o i a,sL o i el]
theorem sL(o i:Pl):∀l:List Stm,sW (cF o i l)=aI l
 |[]=>by rfl
 |e::l=>by rw[cF,sW,aI,PM o i e,sL o i l]
end
def one_le{kind op num slot size d}:z (Lower.one kind op num slot size d)<=1:=by grind[Lower.one]
def PN{kind d}:z (ke kind d)<=1:=by grind[ke]
mutual
theorem PO:∀(e:Lower.Ex)(at':Nat)(d:Int),z (cE at' d e)<=6*cnE e
 |.mk kind op num slot size kids,at',d=>by
   rw[cE,cnE];split
   .exact YH kids at' d kind
   .rw[j7]
    have:=wv kids at' d;have:=one_le (kind:=kind) (op:=op) (num:=num) (slot:=slot) (size:=size) (d:=d+z kids);omega
theorem wv:∀(l:List Lower.Ex)(at':Nat)(d:Int),z (cEs at' d l)<=6*vp l
 |[],at',d=>by rw[cEs];simp
 |e::l,at',d=>by
   rw[cEs,vp,j7];have:=PO e at' d;have:=wv l (at'+z (cE at' d e)) (d+1);omega
theorem YH:∀(l:List Lower.Ex)(at':Nat)(d kind:Int),z (cAO at' d kind l)<=6*(vp l+1)
 |[],at',d,kind=>by rw[cAO];simp
 |e::l,at',d,kind=>by
   rw[cAO,vp];unfold mC;simp only[j7,j8,l5];have U:=PO e at' d;have Z:=JE l (at'+z (cE at' d e)+z (ke kind d)+3) d;have a:=PN (kind:=kind) (d:=d);omega
theorem JE:∀(l:List Lower.Ex)(at':Nat)(d:Int),z (lU at' d l)<=6*vp l
 |[],at',d=>by rw[lU];simp
 |e::l,at',d=>by
   rw[lU,vp];have:=PO e at' d;omega
end
def FC{w}:z (leave w)<=2:=by grind[leave]
def Uz{w}{kind slot size}{n}:z (uc w kind slot size n)<=2:=by unfold uc;have:=FC (w:=w);grind
mutual
theorem acP(w:Bool):∀(s:Lower.Stm)(at':Nat),z (cS w at' s)<=6*cnS s
 |.mk kind slot size e a el,at'=>by
   rw[cS,cnS];split
   .unfold jS
    simp only[j7,j8,l5];have U:=JE e at' 0;have Z:=rH w a (at'+z (lU at' 0 e)+1);omega
   .rw[j7]
    have U:=wv e at' 0;split
    .unfold ifC
     split
     .simp only[j7,j8,l5]
      have Z:=rH w a (at'+z (cEs at' 0 e)+1);have b:=rH w el (at'+z (cEs at' 0 e)+1+(cSs w (at'+z (cEs at' 0 e)+1) a).length+1);omega
     .simp only[j8]
      have Z:=rH w a (at'+z (cEs at' 0 e)+1);omega
    .have:=Uz (w:=w) (kind:=kind) (slot:=slot) (size:=size) (n:=z e)
     omega
theorem rH(w:Bool):∀(l:List Lower.Stm)(at':Nat),z (cSs w at' l)<=6*sW l
 |[],at'=>by rw[cSs];simp
 |e::l,at'=>by
   rw[cSs,sW,j7];have:=acP w e at';have:=rH w l (at'+z (cS w at' e));omega
end
def ZJ w l:z (codeOf w l)<=6*sW l+2:=by unfold codeOf;rw[j7];have:=rH w l 0;have:=FC (w:=w);omega
def UA{H:Type}(f:H->Nat):∀{l:List H}{x},x∈l->f x<=(l.map f).sum
 |a::l,x,h=>by
  simp only[s7,H2];rcases A0.1 h with rfl|h;.omega
  .have:=UA f h;omega
def FD o:∀l w,((eF o l w).1.map λx=>sW x.body).sum=(l.map λf=>aI f.body).sum|[],w=>rfl|f::l,w=>by simp only[eF,s7,H2,FD o l];grind[pJ,sL]
end Go.Src
namespace Go.Proofs.YtfdbpgoicedpcaaGreatDoor
section
open Go Go.Am Go.Asm
open Go.Src (Ex Stm szE aO szS aI Pl lV cR eR bR coreS cF nZ oe)
attribute[local congr]ite_cc
section
mutual
def cxD:Lower.Ex->List D
 |.mk kind op num slot size kids=>[.int .i64 kind,.int .i64 op,.int .u32 num,.int .i64 slot,.int .i64 size,.sl (Ez kids)]
def Ez:List Lower.Ex->List (List D)
 |[]=>[]
 |e::l=>cxD e::Ez l
end
def rF:∀l:List Lower.Ex,Ez l=l.map cxD|[]=>by rfl;|e::l=>by simp[Ez,rF l]
def Jg e:z (cxD e)=6:=by cases e;rfl
mutual
def csD:Lower.Stm->List D
 |.mk kind slot size e a el=>[.int .i64 kind,.int .i64 slot,.int .i64 size,.sl (Ez e),.sl (uU a),.sl (uU el)]
def uU:List Lower.Stm->List (List D)
 |[]=>[]
 |e::l=>csD e::uU l
end
def rG:∀l:List Lower.Stm,uU l=l.map csD|[]=>by rfl;|e::l=>by simp[uU,rG l]
def Jh e:z (csD e)=6:=by cases e;rfl
def Ay(l:List Lower.Ex):AV:=.one (aw (l.map cxD))
def wi(l:List Lower.Stm):AV:=.one (aw (l.map csD))
def plD(t:Int×Int):List D:=[.int .i64 t.1,.int .i64 t.2]
def uV(M:List C)(m:Pl):Prop:=∀s:Str,mget M (.str s)=(lV m s).map λt=>.d (.iptr (plD t))
def uV.put{M}{m}(h:uV M m)(a:Str) t:uV (mset M (.str a) (.d (.iptr (plD t)))) ((a,t)::m):=λs=>by
 rw[se];simp only[nD,lV];by_cases b:a=s;.grind
 .simp only[b,K7,B4,B1];exact h s
structure NV (lo li:Pl) (io ii go gi:Nat) (g:Nat->Nat) (ob:Obs):Prop where
 mo:∃M,ob io=some M/\uV M lo
 mi:∃M,ob ii=some M/\uV M li
 go:g io=go
 gi:g ii=gi
def NV.mono{lo li}{io ii go gi B}{g g'}{ob Y}(h:NV lo li io ii go gi g ob)(ho:io<B)(hi:ii<B)(a:∀i,i<B->g' i=g i/\Y i=ob i):NV lo li io ii go gi g' Y where
 mo:=by grind[h.mo]
 mi:=by grind[h.mi]
 go:=by grind[h.go]
 gi:=by grind[h.gi]
def NW(io ii go gi:Nat):AV:=.agg [.mp io go 208,.mp ii gi 208]
def Ji(lo li:Pl)(io ii go gi:Nat)(f:FuncId)(xs:List AV)(r:AV):Prop:=∀(B:Nat)(g:Nat->Nat)(ob:Obs),io<B->ii<B->(∀i,B<=i->ob i=N)->NV lo li io ii go gi g ob->dS Tryz.prog f (NW io ii go gi::xs) g ob (λq a Y=>a=g/\Y=ob/\q=r) (λ_ _ _=>False)
section
variable{O:Bs}{rd:Option Nat}{c:St->Am.Loc->List Deferred->World->Prop}
def tT{a}{d}(a6:bA O c){o}{s}{K}{k:Box K}{f}{args}{tys}(ho:o.op=.call ⟨.value (.func f),args,tys⟩){xs}{r}{lo li}{io ii go gi}(V:Ji lo li io ii go gi f xs r)(I:args.toList.map s.ev=NW io ii go gi::xs) b(U:io<b)(Z:ii<b)(bl:∀i,b<=i->s.obj i=N)(E:NV lo li io ii go gi s.gen s.obj)(j:K (s.put o.dst r)):bE (spF Tryz.prog rd O c d a) o s k:=by refine cN (L:=λ_ _ _=>False) a6 ho (by rw[I];exact V b s.gen s.obj U Z bl E) (λ_ _ _ h=>h.elim) ?_;simp_all
end
variable{lo li:Pl}{io ii go gi:Nat}
def NX(e:Str):Ji lo li io ii go gi 92 [sv e] (.agg ((plD (cR lo li e)).map .d)):=by
 intro B g ob U Z hB E;obtain⟨⟨u,l,mo⟩,⟨v,oi,mi⟩,j,f⟩:=E;unfold NW;refine hdM B [] Tryz.func92 rfl [.cell 4 127] b9 hB λO bc s0 w0=>?_;have n1:∀k,(io=B+k)=False:=λk=>by grind
 have n2:∀k,(ii=B+k)=False:=λk=>by grind
 have a:=mi e;have o:=mo e;unfold cR;cases n:lV li e with|some t=>rw[n]at a;simp only[A5,plD]at a;simp only[go_sem,n2,f,oi,C3,a];exact uo;|none=>rw[n]at a;simp only[G7]at a;cases b:lV lo e with|some t=>rw[b]at o;simp only[A5,plD]at o;simp only[go_sem,n1,n2,f,j,oi,D0,C3,a,l,o];exact uo;|none=>rw[b]at o;simp only[G7]at o;simp only[go_sem,n1,n2,f,j,oi,D0,C3,a,l,o];refine⟨_,ai.refl _,?_⟩;simp only[go_sem];exact bS.nil (λi hi=>⟨nu,nu⟩) ⟨_,_,rfl,KL (plD (0,0)),rfl⟩ ⟨rfl,rfl,rfl⟩
def cxC(l:List Lower.Ex):List C:=l.flatMap λa=>(cxD a).map .d
def Sr l:z (cxC l)=z l*6:=by induction l with|nil=>rfl;|cons a l b=>simp only[cxC,A8,j7,j6,Jg,j8]at b|-;omega
def Ss l m:cxC (l++m)=cxC l++cxC m:=by simp[cxC]
def Su e:cxC [e]=(cxD e).map .d:=by simp[cxC]
def csC(l:List Lower.Stm):List C:=l.flatMap λa=>(csD a).map .d
def Sv l:z (csC l)=z l*6:=by induction l with|nil=>rfl;|cons a l b=>simp only[csC,A8,j7,j6,Jh,j8]at b|-;omega
def Sw l m:csC (l++m)=csC l++csC m:=by simp[csC]
def Sx e:csC [e]=(csD e).map .d:=by simp[csC]
def Bh{H β:Type}{f:H->β}{l:List H}{k}{x}(h:l[k]?=S x):(l.take (k+1)).map f=(l.take k).map f++[f x]:=by rw[C1,h,I8,C2];rfl
def Sy:∀al l,aO l<=al->al<=1000000000->Ji lo li io ii go gi 93 [ea l] (Ay (bR lo li l)):=by intro al;induction al using Nat.strongRecOn with|ind al V=>
 intro l an hN B g ob U Z hB E;rw[nZ];unfold NW;refine hdM B [] Tryz.func93 rfl [.tmp 4] b9 hB λO bc s0 w0=>?_;have b4:=Src.PS l;unfold ea;simp only[go_sem,j6];refine mq _ (sd (t:=5) (id:=B+36) (sz:=6) c8) (λm K=>∃k:Nat,m+k=z l/\K.f 2=aj (B+2) (K.gen (B+2)) 0/\K.f 5=eS (B+36) (K.gen (B+36)) 6 0 k/\K.f 9=.one (aw (l.map exD))/\K.f 10=ae (z l)/\K.f 11=ae k/\K.obj (B+2)=S [.mp io go 208,.mp ii gi 208]/\K.obj (B+36)=S (cxC ((l.take k).map (eR lo li)))/\(∀j,j<B->K.gen j=g j/\K.obj j=ob j)/\(∀j,B+39<=j->K.obj j=N)) (z l) ?_ ?_;.exact S1
 rintro m f g1 av⟨k,hk,q2,o,G,I,A,o2,b,fr,ar⟩;simp only at q2 o G I A o2 b fr ar;have hw:=ah (k:=k) a7;by_cases W:k<z l;case neg=>have Q:¬(k:Int)<(z l:Int):=a7;obtain rfl:k=z l:=a7;rw[s6 (l7 _)]at b;simp only[go_sem,o,I,A,Q];refine⟨_,ai.refl _,?_⟩;simp only[go_sem];exact bS.nil fr ⟨_,_,rfl,.one (iM a7 rfl (l.map (eR lo li)) cxD b rfl (λa _=>Jg a) b9),rfl⟩ ⟨rfl,rfl,rfl⟩
 have Q:(k:Int)<(z l:Int):=a7;have bk:(0:Int)<=(k:Int):=a7;obtain⟨e,he⟩:=getq W;have H:=Src.vu (l8 he);obtain⟨kind,op,num,name,n⟩:=e;rw[szE]at H;have hE:exD (.mk kind op num name n)=[.int .i64 kind,.int .i64 op,.int .u32 num,.str name,.sl (n.map exD)]:=by simp only[exD,aL]
 simp only[go_sem,q2,G,I,A,o2,Q,bk,he,hE];refine tT aa rfl (NX name) c8 (B+39) a7 a7 (λi hi=>nt (ar i a7)) ((E.mono U Z fr).mono U Z λi hi=>⟨nu,nu⟩) ?_;obtain⟨u,bz⟩:∃x,cR lo li name=x:=⟨_,rfl⟩;rw[bz];have r:eR lo li (.mk kind op num name n)=.mk kind op num u.1 u.2 (bR lo li n):=by rw[eR,bz]
 unfold plD;simp only[go_sem];refine cG aP mixed aa [B+35,B+36] [([5],[0],[],F),([7],[],[],F),([20],[],[],F),([7],[],[],F),([22],[],[],F),([7],[],[],F),([24],[],[],F),([8],[],[],F),([26],[],[],F),([8],[],[],F),([28],[],[],F),([2],[],[],F),([7],[],[],F),([31],[],[],F),([30,32],[],[],F),([21,23,25,27,29,33],[],[],F),([34],[],[0],F),([19,35],[],[1],F),([36],[],[],T)] 2 rfl c9 rfl b9 ?_;simp only[go_sem];iterate 10 (refine au gdD (λ_ _ _ _ J=>by simp only[go_sem,o]at J|-;exact J) ?_)
 iterate 4 (refine au gdD (λ_ _ _ _ J=>by simp only[go_sem,q2,o2]at J|-;exact J) ?_)
 apply au (v:=Ay (bR lo li n));case hg=>exact A6
 case U=>intro fa ga oa K' J;simp only[go_sem,Ay]at J|-;refine tT aa rfl (V (aO n) a7 n (l7 _) a7) c8 (B+39) a7 a7 (λi hi=>nt (ar i a7)) ((E.mono U Z fr).mono U Z λi hi=>⟨nu,nu⟩) ?_;unfold Ay;exact h9
 (refine au gdD (λ_ _ _ _ J=>by simp only[go_sem,Ay]at J|-;exact J) ?_);(refine cw gdD aa7 ?_);have L:=Sr ((l.take k).map (eR lo li));have Y:z ((l.take k).map (eR lo li))=k:=by rw[j6,E5];omega
 rw[Y]at L;refine cw (v:=eS (B+36) (nxC (apC 259 (g1 (B+36)) 0) (g1 (B+36))) 6 0 (k+1)) (x:=nxC (apC 259 (g1 (B+36)) 0) (g1 (B+36))) (y:=S (cxC ((l.take k).map (eR lo li)++[eR lo li (.mk kind op num name n)]))) A6 (λfa ga oa K' J=>?_) ?_
 .have e1:List.take (k*6) (cxC ((l.take k).map (eR lo li)))++(cxD (eR lo li (.mk kind op num name n))).map .d=cxC ((l.take k).map (eR lo li)++[eR lo li (.mk kind op num name n)]):=by rw[s6 a7,Ss,Su]
  rw[r]at e1;simp only[cxD,rF,s7,x7]at e1;rw[r]at J;simp only[go_sem,bm,b,L]at J|-;exact V0
 exact n9
end
variable{lo li:Pl}{io ii go gi:Nat}
def SA:∀(al:Nat)(l:List Stm),aI l<=al->al<=1000000000->Ji lo li io ii go gi 56 [eU l] (wi (cF lo li l)):=by intro al;induction al using Nat.strongRecOn with|ind al ih=>
 intro l an hN B g ob U Z hB E;rw[oe];unfold NW;refine hdM B [] Tryz.func56 rfl [.tmp 4] b9 hB λO bc s0 w0=>?_;have b4:=Src.PT l;unfold eU;simp only[go_sem,j6];refine mq _ (sd (t:=5) (id:=B+40) (sz:=6) c8) (λm K=>∃k:Nat,m+k=z l/\K.f 2=aj (B+2) (K.gen (B+2)) 0/\K.f 5=eS (B+40) (K.gen (B+40)) 6 0 k/\K.f 9=.one (aw (l.map smD))/\K.f 10=ae (z l)/\K.f 11=ae k/\K.obj (B+2)=S [.mp io go 208,.mp ii gi 208]/\K.obj (B+40)=S (csC ((l.take k).map (coreS lo li)))/\(∀j,j<B->K.gen j=g j/\K.obj j=ob j)/\(∀j,B+43<=j->K.obj j=N)) (z l) ?_ ?_;.exact S1
 rintro m f g1 av⟨k,hk,q2,u,G,I,A,o2,b,fr,ar⟩;simp only at q2 u G I A o2 b fr ar;have hw:=ah (k:=k) a7;by_cases af:k<z l;case neg=>have Q:¬(k:Int)<(z l:Int):=a7;obtain rfl:k=z l:=a7;rw[s6 (l7 _)]at b;simp only[go_sem,u,I,A,Q];refine⟨_,ai.refl _,?_⟩;simp only[go_sem,u];exact bS.nil fr (q:=[wi (l.map (coreS lo li))]) ⟨_,_,rfl,.one (iM a7 rfl (l.map (coreS lo li)) csD b rfl (λa _=>Jh a) b9),rfl⟩ ⟨rfl,rfl,rfl⟩
 have Q:(k:Int)<(z l:Int):=a7;have bk:(0:Int)<=(k:Int):=a7;obtain⟨e,he⟩:=getq af;have H:=Src.nd (l8 he);obtain⟨kind,name,n,o,el⟩:=e;rw[szS]at H;have hE:smD (.mk kind name n o el)=[.int .i64 kind,.str name,.sl (n.map exD),.sl (o.map smD),.sl (el.map smD)]:=by simp only[smD,aL,dy]
 have L:=ih (aI o) a7 o (l7 _) a7;have a6:=ih (aI el) a7 el (l7 _) a7;have c:=Sy (lo:=lo) (li:=li) (io:=io) (ii:=ii) (go:=go) (gi:=gi) (aO n) n (l7 _) a7;simp only[go_sem,q2,u,G,I,A,o2,Q,bk,he,hE];refine tT aa rfl (NX name) c8 (B+43) a7 a7 (λi hi=>nt (ar i a7)) ((E.mono U Z fr).mono U Z λi hi=>⟨nu,nu⟩) ?_;obtain⟨ps,bz⟩:∃x,cR lo li name=x:=⟨_,rfl⟩;rw[bz];have r:coreS lo li (.mk kind name n o el)=.mk kind ps.1 ps.2 (bR lo li n) (cF lo li o) (cF lo li el):=by rw[coreS,bz]
 unfold plD;simp only[go_sem];refine cG aP mixed aa [B+39,B+40] [([5],[0],[],F),([7],[],[],F),([20],[],[],F),([8],[],[],F),([22],[],[],F),([8],[],[],F),([24],[],[],F),([2],[],[],F),([7],[],[],F),([27],[],[],F),([26,28],[],[],F),([2],[],[],F),([7],[],[],F),([31],[],[],F),([30,32],[],[],F),([2],[],[],F),([7],[],[],F),([35],[],[],F),([34,36],[],[],F),([21,23,25,29,33,37],[],[],F),([38],[],[0],F),([19,39],[],[1],F),([40],[],[],T)] 2 rfl c9 rfl b9 ?_;simp only[go_sem];iterate 10 (refine au gdD (λ_ _ _ _ J=>by simp only[go_sem,q2,u,o2]at J|-;exact J) ?_)
 apply au (v:=Ay (bR lo li n));case hg=>exact A6
 case U=>intro V ga W K' J;simp only[go_sem,Ay]at J|-;refine tT aa rfl c c8 (B+43) a7 a7 (λi hi=>nt (ar i a7)) ((E.mono U Z fr).mono U Z λi hi=>⟨nu,nu⟩) ?_;unfold Ay;exact h9
 iterate 3 (refine au gdD (λ_ _ _ _ J=>by simp only[go_sem,q2,u,o2]at J|-;exact J) ?_)
 apply au (v:=wi (cF lo li o));case hg=>exact A6
 case U=>intro V ga W K' J;simp only[go_sem,wi]at J|-;refine tT aa rfl L c8 (B+43) a7 a7 (λi hi=>nt (ar i a7)) ((E.mono U Z fr).mono U Z λi hi=>⟨nu,nu⟩) ?_;unfold wi;exact h9
 iterate 3 (refine au gdD (λ_ _ _ _ J=>by simp only[go_sem,q2,u,o2]at J|-;exact J) ?_)
 apply au (v:=wi (cF lo li el));case hg=>exact A6
 case U=>intro V ga W K' J;simp only[go_sem,wi]at J|-;refine tT aa rfl a6 c8 (B+43) a7 a7 (λi hi=>nt (ar i a7)) ((E.mono U Z fr).mono U Z λi hi=>⟨nu,nu⟩) ?_;unfold wi;exact h9
 (refine au gdD (λ_ _ _ _ J=>by simp only[go_sem,Ay,wi]at J|-;exact J) ?_);(refine cw gdD aa7 ?_);have bo:=Sv ((l.take k).map (coreS lo li));have Y:z ((l.take k).map (coreS lo li))=k:=by rw[j6,E5];omega
 rw[Y]at bo;refine cw (a:=1) (v:=eS (B+40) (nxC (apC 185 (g1 (B+40)) 0) (g1 (B+40))) 6 0 (k+1)) (x:=nxC (apC 185 (g1 (B+40)) 0) (g1 (B+40))) (y:=S (csC ((l.take k).map (coreS lo li)++[coreS lo li (.mk kind name n o el)]))) A6 (λV ga W K' J=>?_) ?_
 .have e1:List.take (k*6) (csC ((l.take k).map (coreS lo li)))++(csD (coreS lo li (.mk kind name n o el))).map .d=csC ((l.take k).map (coreS lo li)++[coreS lo li (.mk kind name n o el)]):=by rw[s6 a7,Sw,Sx]
  rw[r]at e1;simp only[csD,rF,rG,s7,x7]at e1;rw[r]at J;simp only[go_sem,bm,b,bo]at J|-;exact V0
 exact n9
end
section
open Go Go.Am Go.Asm
open Go.Src (Ex Stm szE aO szS aI Pl lV cR gV gA gF ay lP)
attribute[local congr]ite_cc
def dropq{H:Type}{l:List H}{k}{x}(h:l[k]?=S x):l.drop k=x::l.drop (k+1):=by have a:=(l9.1 h).1;simp_all[B8]
def KP{g}{ob}{p}(az:szP p<=1000000)(H:∀a∈p.a,0<=a.2/\a.2<=4096):dS Tryz.prog 55 [cK p] g ob (λr g' Y=>r=.tup [.one (.mp 1012 (g' 1012) 208),ae (ay p).2]/\(0<=(ay p).2/\(ay p).2<=1000000+4096*1000000)/\(∃M,Y 1012=S M/\uV M (ay p).1)/\∀i,i<1000\/1100<=i->g' i=g i/\Y i=ob i) (λ_ _ _=>False):=by
 refine hdX 1000 Tryz.func55 rfl [.tmp 2,.tmp 3] λO bc s0 w0=>?_;obtain⟨vs,u,fs⟩:=p;unfold szP at az;simp only at az H;obtain⟨d,e⟩:∃L,ay ⟨vs,u,fs⟩=L:=⟨_,rfl⟩;obtain⟨L,q⟩:∃L,ay ⟨vs,u,fs⟩=L:=⟨_,rfl⟩;rw[q];unfold ay at q;unfold cK kG;simp only[go_sem,j6];refine aF (λm K=>∃(k:Nat)(J:Pl)(w:Int),m+k=z vs/\gV (vs.drop k) J w=gV vs [] 0/\0<=w/\w<=k/\K.f 1=aj 1001 (K.gen 1001) 0/\K.f 4=.one (.mp 1012 (K.gen 1012) 208)/\K.f 5=ae w/\K.obj 1001=S (jK ⟨vs,u,fs⟩)/\(∃M,K.obj 1012=S M/\uV M J)/\K.f 14=.one (aw (vs.map λs=>[.str s]))/\K.f 15=ae (z vs)/\K.f 16=ae k/\∀i,i<1000\/1100<=i->K.gen i=g i/\K.obj i=ob i) (z vs) ?_ ?_;.refine⟨0,[],0,rfl,c8,a7,a7,?_⟩;simp only[go_sem];exact⟨rfl,⟨[],rfl,λs=>rfl⟩,λi hi=>⟨nu,nu⟩⟩
 rintro m f g1 av⟨k,J,w,V,l,Z,b4,o,j,n,o1,⟨M,oM,W⟩,G,b,E,fr⟩;simp only at o j n o1 oM G b E fr;have A:=ah (k:=k) a7;by_cases I:k<z vs
 .have Q:(k:Int)<(z vs:Int):=a7;have bk:(0:Int)<=(k:Int):=a7;have b7:IntKind.i64.wrap (w+1)=w+1:=by rw[wrap_i64]<;>omega
  obtain⟨v,t⟩:=getq I;rw[dropq t,gV]at l;have al:=W.put v (w,0);unfold plD at al;simp only[go_sem,j,n,G,b,E,Q,bk,t,oM,b7,A];refine ak (m-1) a7 ⟨k+1,_,_,a7,l,a7,a7,?_⟩;simp only[go_sem,o,j,G,b,o1];grind
 have Q:¬(k:Int)<(z vs:Int):=a7;obtain rfl:k=z vs:=a7;rw[E9,gV]at l;rw[<-l]at q;have B:=o1;unfold jK kG at o1;simp only[s7,x7]at o1;simp only[go_sem,o,o1,b,E,Q,j6];refine aF (λm K=>∃(k:Nat)(U:Pl)(y:Int),m+k=z u/\gA (u.drop k) U y=gA u J w/\0<=y/\y<=1000000+4096*k/\K.f 1=aj 1001 (K.gen 1001) 0/\K.f 4=.one (.mp 1012 (K.gen 1012) 208)/\K.f 5=ae y/\K.obj 1001=S (jK ⟨vs,u,fs⟩)/\(∃M,K.obj 1012=S M/\uV M U)/\K.f 28=.one (aw (u.map arD))/\K.f 29=ae (z u)/\K.f 30=ae k/\∀i,i<1000\/1100<=i->K.gen i=g i/\K.obj i=ob i) (z u) ?_ ?_;.refine⟨0,J,w,rfl,c8,Z,a7,?_⟩;simp only[go_sem,o,j,n,o1];grind
 clear o j n o1 B oM G b E fr W M A I Q V Z b4 l;rintro m f g1 av⟨k,U,y,V,l,Z,b4,o,j,n,o1,⟨M,oM,W⟩,G,b,E,fr⟩;simp only at o j n o1 oM G b E fr;have A:=ah (k:=k) a7;by_cases I:k<z u
 .have Q:(k:Int)<(z u:Int):=a7;have bk:(0:Int)<=(k:Int):=a7;obtain⟨⟨v,X⟩,t⟩:=getq I;have hz:=H _ (l8 t);simp only at hz;have b7:IntKind.i64.wrap (y+X)=y+X:=by rw[wrap_i64]<;>omega
  rw[dropq t,gA]at l;simp only at l;have al:=W.put v (y,X);unfold plD at al;simp only[go_sem,j,n,G,b,E,Q,bk,t,arD,oM,b7,A];refine ak (m-1) a7 ⟨k+1,_,_,a7,l,a7,a7,?_⟩;simp only[go_sem,o,j,G,b,o1];grind
 have Q:¬(k:Int)<(z u:Int):=a7;obtain rfl:k=z u:=a7;rw[E9,gA]at l;rw[<-l]at q;have B:=o1;unfold jK kG at o1;simp only[s7,x7]at o1;simp only[go_sem,o,o1,b,E,Q,j6];refine aF (λm K=>∃(k:Nat)(c:Pl),m+k=z fs/\gF k (fs.drop k) c=gF 0 fs U/\K.f 4=.one (.mp 1012 (K.gen 1012) 208)/\K.f 5=ae y/\(∃M,K.obj 1012=S M/\uV M c)/\K.f 47=.one (aw (fs.map fnD))/\K.f 48=ae (z fs)/\K.f 49=ae k/\∀i,i<1000\/1100<=i->K.gen i=g i/\K.obj i=ob i) (z fs) ?_ ?_;.refine⟨0,U,rfl,c8,?_⟩;simp only[go_sem,j,n];grind
 clear o j n o1 B oM G b E fr W M A I Q V l;rintro m f g1 av⟨k,c,V,l,j,n,⟨M,oM,W⟩,G,b,E,fr⟩;simp only at j n oM G b E fr;by_cases I:k<z fs;.have Q:(k:Int)<(z fs:Int):=a7;have bk:(0:Int)<=(k:Int):=a7;obtain⟨x,t⟩:=getq I;rw[dropq t,gF]at l;have al:=W.put x.name ((k:Int),0);unfold plD at al;simp only[go_sem,j,n,G,b,E,Q,bk,t,fnD,oM,ah (k:=k) a7];refine ak (m-1) a7 ⟨k+1,_,a7,l,?_⟩;simp only[go_sem,j,n,G,b];grind
 have Q:¬(k:Int)<(z fs:Int):=a7;obtain rfl:k=z fs:=a7;rw[E9,gF]at l;rw[<-l]at q;subst q;simp only[go_sem,j,n,b,E,Q];refine⟨_,ai.refl _,?_⟩;simp only[go_sem];exact⟨rfl,⟨Z,a7⟩,⟨M,oM,W⟩,fr⟩
end
open Go Go.Am Go.Asm
open Go.Src (Ex Stm szE aO szS aI Pl lV cR gV gA gF ay lP CFn Core pJ eF ab kL cF bN ct)
attribute[local congr]ite_cc
def cfD(x:CFn):List D:=[.int .i64 x.p,.int .i64 x.slots,.int .i64 x.first,.bool x.word,.sl (x.body.map csD)]
def tg(c:Core):AV:=.agg [ag c.words,aw (c.f.map cfD)]
def cfC(l:List CFn):List C:=l.flatMap λa=>(cfD a).map .d
def SC(l:List CFn):z (cfC l)=z l*5:=by induction l with|nil=>rfl;|cons a l b=>simp only[cfC,A8,j7,j6,cfD,j8,l5]at b|-;omega
def SD(l m:List CFn):cfC (l++m)=cfC l++cfC m:=by simp[cfC]
def SE(e:CFn):cfC [e]=(cfD e).map .d:=c8
def Xr{o:cM}(ho:mL o)(p:Src.Prog)(az:szP p<=1000000):cn Tryz.prog 4 o 30 [cK p] (·=.tup [tg (kL p).1,ae ((kL p).2:Nat)]):=by
 refine hdG Tryz.func30 rfl [.cell 2 80,.tmp 3] λO bc s0 w0 g=>?_;have P:cK p=.agg [aw (p.v.map λs=>[.str s]),aw (p.a.map arD),aw (p.f.map fnD)]:=rfl;obtain⟨X,hz⟩:∃X,kL p=X:=⟨_,rfl⟩;rw[hz];unfold kL at hz;have hS:=Sq ho p a7;rw[P]at hS|-;simp only[go_sem];refine dm rfl abY ?_;rintro _ rfl;by_cases hs:bN p=0;case neg=>rw[s5 hs]at hz;subst hz;have bf:¬((bN p:Nat):Int)=0:=a7;simp only[go_sem,bf];exact⟨_,⟨_,⟨_,_,rfl,uT [.int .i64 0,.nsl],_,_,rfl,mn _,rfl⟩,rfl⟩,rfl⟩
 rw[l4 (by simp[hs])]at hz;have V:ct p=T:=by
  unfold bN at hs;split at hs;.cases hs
  .grind
 have H:∀a∈p.a,0<=a.2/\a.2<=4096:=by unfold ct at V;simp only[l6,z7]at V;intro a ha;have:=V.2.1 a ha;exact x5
 simp only[go_sem,hs];refine cN aN rfl (by simp only[go_sem];rw[<-P];exact KP az H) ?_ ?_;.simp
 rintro r g1 av⟨rfl,⟨ad,b4⟩,⟨M,oM,W⟩,fr⟩;have e1:=fr 1 (.inl a8);have e2:=fr 2 (.inl a8);simp[upd]at e1 e2;have ar:∀j,1100<=j->av j=N:=λj hj=>by rw[(fr j (.inr a7)).2];(try simp only[upd]);grind
 clear fr;unfold ab at hz;obtain⟨om,cm⟩:∃x,(ay p).1=x:=⟨_,rfl⟩;obtain⟨cu,cf⟩:∃x,(ay p).2=x:=⟨_,rfl⟩;rw[cm,cf]at hz;rw[cm]at W;rw[cf]at ad b4|-;obtain⟨b2,hF⟩:∃b2,eF om p.f cu=b2:=⟨_,rfl⟩;rw[hF]at hz;unfold szP at az;simp only[go_sem,e1.1,e1.2,j6];refine mq _ (dX (t:=7) (o:=7) (b:=95) (j:=1) (sz:=5) (off:=0) (cells:=[ag 0,.d .nsl]) c8 c8 rfl a8) (λm K=>∃(k:Nat)(w:Int)(q:List CFn),m+k=z p.f/\(q++(eF om (p.f.drop k) w).1,(eF om (p.f.drop k) w).2)=b2/\z q=k/\0<=w/\w<=5000000000+1000000*k/\K.f 2=aj 2 (K.gen 2) 0/\K.f 5=.one (.mp 1012 (K.gen 1012) 208)/\K.f 7=aj 7 (K.gen 7) 0/\K.f 28=.one (aw (p.f.map fnD))/\K.f 29=ae (z p.f)/\K.f 30=ae k/\K.f 6=ae w/\K.obj 2=S [ag 0,.d .nsl]/\K.obj 7=S [ag 0,.osl 95 (K.gen 95) 5 0 (z q)]/\K.obj 95=S (cfC q)/\(∃M,K.obj 1012=S M/\uV M om)/\(∀j,1100<=j->K.obj j=N)) (z p.f) ?_ ?_;.refine⟨0,cu,[],rfl,by grind,rfl,ad,a7,?_⟩;simp only[St.claimAt];simp only[go_sem,e2.1,e2.2];exact⟨rfl,⟨M,oM,W⟩,λj hj=>nt (ar j hj)⟩
 clear e1 e2 ar oM W M hF;rintro m f g1 av⟨k,w,q,hk,b',b1,cx,cy,q2,q5,q7,Y,u,B,q6,o2,o7,an,⟨M,oM,W⟩,ar⟩;simp only at q2 q5 q7 Y u B q6 o2 o7 an oM ar;have Z:=ah (k:=k) a7;by_cases af:k<z p.f
 .have Q:(k:Int)<(z p.f:Int):=a7;have bk:(0:Int)<=(k:Int):=a7;obtain⟨x,he⟩:=getq af;have e:=lZ (p:=p) (l8 he);unfold szP at e;have a1:fnD x=[.str x.name,.sl (x.p.map λs=>[.str s]),.sl (x.l.map λs=>[.str s]),.bool x.word,.sl (x.body.map smD)]:=rfl;have cb:IntKind.i64.wrap ((z x.p:Int)+(z x.l:Int))=((z x.p+z x.l:Nat):Int):=by rw[wrap_i64]<;>omega
  rw[dropq he,eF]at b';simp only at b';simp only[go_sem,q5,Y,u,B,Q,bk,he,a1,j6,cb];refine aF (λm2 K=>∃(n:Nat)(pm:Pl),m2+n=z x.p/\lP w n (x.p.drop n) pm=lP w 0 x.p []/\K.f 45=.one (aw (x.p.map λs=>[.str s]))/\K.f 46=ae (z x.p)/\K.f 47=ae n/\K.f 9=aj 9 (K.gen 9) 0/\K.f 10=aj 10 (K.gen 10) 0/\K.f 11=ae ((z x.p+z x.l:Nat):Int)/\K.obj 9=S ((fnD x).map .d)/\K.obj 10=S [.mp 1012 (K.gen 1012) 208,.mp 35 (K.gen 35) 208]/\(∃M,K.obj 35=S M/\uV M pm)/\K.f 2=aj 2 (K.gen 2) 0/\K.f 5=.one (.mp 1012 (K.gen 1012) 208)/\K.f 7=aj 7 (K.gen 7) 0/\K.f 28=.one (aw (p.f.map fnD))/\K.f 29=ae (z p.f)/\K.f 30=ae k/\K.f 6=ae w/\K.obj 2=S [ag 0,.d .nsl]/\K.obj 7=S [ag 0,.osl 95 (K.gen 95) 5 0 (z q)]/\K.obj 95=S (cfC q)/\(∃M,K.obj 1012=S M/\uV M om)/\(∀j,1100<=j->K.obj j=N)) (z x.p) ?_ ?_;.refine⟨0,[],rfl,c8,?_⟩;simp only[go_sem,q2,q5,q7,Y,u,B,q6,o2,o7,an];exact⟨rfl,⟨[],rfl,λs=>rfl⟩,⟨M,oM,W⟩,λj hj=>nt (ar j hj)⟩
  clear q2 q5 q7 Y u B q6 o2 o7 an oM ar W M;rintro m2 f g1 av⟨n,pm,hn,cc,a6,E,L,G,I,A,o9,bz,⟨M2,bl,ca⟩,q2,q5,q7,Y,u,B,q6,o2,o7,an,⟨M,oM,W⟩,ar⟩;simp only at a6 E L G I A o9 bz bl q2 q5 q7 Y u B q6 o2 o7 an oM ar;have b8:=ah (k:=n) a7;by_cases bs:n<z x.p
  .have h:(n:Int)<(z x.p:Int):=a7;have bn:(0:Int)<=(n:Int):=a7;obtain⟨v,b6⟩:=getq bs;have b7:IntKind.i64.wrap (w+(n:Int))=w+n:=by rw[wrap_i64]<;>omega
   rw[dropq b6,lP]at cc;have al:=ca.put v (w+n,0);unfold plD at al;simp only[go_sem,a6,E,L,h,bn,b6,I,bz,bl,q6,b7,b8];refine ak (m2-1) a7 ⟨n+1,_,a7,cc,?_⟩;simp only[go_sem,q2,q5,q7,Y,u,B,q6,o2,o7,an,a6,E,G,I,A,o9,bz];grind
  have h:¬(n:Int)<(z x.p:Int):=a7;obtain rfl:n=z x.p:=a7;rw[E9,lP]at cc;have cd:=o9;rw[a1]at cd;simp only[s7,x7]at cd;simp only[go_sem,G,cd,E,L,h,j6];refine aF (λm2 K=>∃(n:Nat)(bd:Pl),m2+n=z x.l/\lP (w+z x.p) n (x.l.drop n) bd=lP (w+z x.p) 0 x.l pm/\K.f 61=.one (aw (x.l.map λs=>[.str s]))/\K.f 62=ae (z x.l)/\K.f 63=ae n/\K.f 9=aj 9 (K.gen 9) 0/\K.f 10=aj 10 (K.gen 10) 0/\K.f 11=ae ((z x.p+z x.l:Nat):Int)/\K.obj 9=S ((fnD x).map .d)/\K.obj 10=S [.mp 1012 (K.gen 1012) 208,.mp 35 (K.gen 35) 208]/\(∃M,K.obj 35=S M/\uV M bd)/\K.f 2=aj 2 (K.gen 2) 0/\K.f 5=.one (.mp 1012 (K.gen 1012) 208)/\K.f 7=aj 7 (K.gen 7) 0/\K.f 28=.one (aw (p.f.map fnD))/\K.f 29=ae (z p.f)/\K.f 30=ae k/\K.f 6=ae w/\K.obj 2=S [ag 0,.d .nsl]/\K.obj 7=S [ag 0,.osl 95 (K.gen 95) 5 0 (z q)]/\K.obj 95=S (cfC q)/\(∃M,K.obj 1012=S M/\uV M om)/\(∀j,1100<=j->K.obj j=N)) (z x.l) ?_ ?_;.refine⟨0,pm,rfl,c8,?_⟩;simp only[go_sem,q2,q5,q7,Y,u,B,q6,o2,o7,an,G,I,A,o9,bz];grind
  clear q2 q5 q7 Y u B q6 o2 o7 an oM ar W M a6 E L G I A o9 cd bz bl ca M2 b8 bs h hn;rintro m2 f g1 av⟨n,bd,hn,b0,a6,E,L,G,I,A,o9,bz,⟨M2,bl,ca⟩,q2,q5,q7,Y,u,B,q6,o2,o7,an,⟨M,oM,W⟩,ar⟩;simp only at a6 E L G I A o9 bz bl q2 q5 q7 Y u B q6 o2 o7 an oM ar;have b8:=ah (k:=n) a7;rw[a1]at o9;simp only[s7,x7]at o9;by_cases bs:n<z x.l
  .have h:(n:Int)<(z x.l:Int):=a7;have bn:(0:Int)<=(n:Int):=a7;obtain⟨v,b6⟩:=getq bs;have cv:IntKind.i64.wrap (w+(z x.p:Int))=w+z x.p:=by rw[wrap_i64]<;>omega
   have b7:IntKind.i64.wrap (w+(z x.p:Int)+(n:Int))=w+z x.p+n:=by rw[wrap_i64]<;>omega
   rw[dropq b6,lP]at b0;have al:=ca.put v (w+z x.p+n,0);unfold plD at al;simp only[go_sem,a6,E,L,h,bn,b6,G,o9,j6,I,bz,bl,q6,cv,b7,b8];refine ak (m2-1) a7 ⟨n+1,_,a7,b0,?_⟩;simp only[go_sem,q2,q5,q7,Y,u,B,q6,o2,o7,an,a6,E,G,I,A,o9,bz,a1,s7,x7];grind
  have h:¬(n:Int)<(z x.l:Int):=a7;obtain rfl:n=z x.l:=a7;rw[E9,lP]at b0;rw[cc]at b0;have b3:=SA (lo:=om) (li:=bd) (io:=1012) (ii:=35) (go:=g1 1012) (gi:=g1 35) (aI x.body) x.body (l7 _) a7;simp only[go_sem,E,L,h];refine cG aP mixed aN [94,95,7] [([7],[0],[],F),([80],[0],[],F),([9],[],[],F),([82],[],[],F),([83],[],[],F),([11],[],[],F),([6],[],[],F),([9],[],[],F),([87],[],[],F),([10],[],[],F),([9],[],[],F),([90],[],[],F),([89,91],[],[],F),([84,85,86,88,92],[],[],F),([93],[],[0],F),([81,94],[],[1],F),([7],[],[],F),([96,95],[],[],T)] 3 rfl c9 rfl a8 ?_;simp only[go_sem];iterate 12 (refine au gdD (λ_ _ _ _ J=>by simp only[go_sem,q7,o7,G,o9,A,q6,I,bz,j6]at J|-;exact J) ?_)
  apply au (v:=wi (cF om bd x.body));case hg=>exact A6
  case U=>intro fa ga oa K' J;simp only[go_sem,wi]at J|-;refine tT aN rfl b3 c8 1100 a8 a8 (λi hi=>nt (ar i a7)) ⟨⟨M,oM,W⟩,⟨M2,bl,ca⟩,rfl,rfl⟩ ?_;unfold wi;exact h9
  (refine au gdD (λ_ _ _ _ J=>by simp only[go_sem,wi]at J|-;exact J) ?_);(refine cw gdD aa7 ?_);have bo:=SC q;have ch:pJ om x w=⟨z x.p,((z x.p+z x.l:Nat):Int),w,x.word,cF om bd x.body⟩:=by unfold pJ;rw[<-b0];rfl
  refine cw (a:=1) (v:=eS 95 (nxC (apC 131 (g1 95) 0) (g1 95)) 5 0 (z q+1)) (x:=nxC (apC 131 (g1 95) 0) (g1 95)) (y:=S (cfC (q++[pJ om x w]))) A6 (λfa ga oa K' J=>?_) ?_
  .have e1:List.take (z q*5) (cfC q)++(cfD (pJ om x w)).map .d=cfC (q++[pJ om x w]):=by rw[s6 a7,SD,SE]
   rw[ch]at e1 J;simp only[cfD,s7,x7]at e1;simp only[go_sem,bm,an,bo]at J|-;exact V0
  (refine au gdD (λ_ _ _ _ J=>by simp only[go_sem,q7,o7]at J|-;exact J) ?_);refine cH A6 ?_;intro K' a';simp only[go_sem,q7,o7];refine a' _ ?_;clear a' K';have b5:IntKind.i64.wrap (w+((z x.p+z x.l:Nat):Int))=w+((z x.p:Int)+(z x.l:Int)):=by rw[wrap_i64]<;>omega
  simp only[go_sem,q6,A,B,b5,Z];refine ak (m-1) a7 ⟨k+1,w+((z x.p:Int)+(z x.l:Int)),q++[pJ om x w],a7,by grind,by grind,a7,a7,?_⟩;simp only[go_sem,q2,q5,q7,Y,u,o2,j7,j8,l5];grind
 have Q:¬(k:Int)<(z p.f:Int):=a7;obtain rfl:k=z p.f:=a7;rw[E9,eF]at b';simp only[u7]at b';subst b';simp only at hz;by_cases hw:32768<w;.rw[s5 hw]at hz;subst hz;simp only[go_sem,u,B,Q,q6,hw,q2,o2];exact⟨_,⟨_,⟨_,_,rfl,uT [.int .i64 0,.nsl],_,_,rfl,mn _,rfl⟩,rfl⟩,rfl⟩
 rw[l4 hw]at hz;subst hz;simp only[go_sem,u,B,Q,q6,hw,q2,o2,q7,o7];refine⟨_,⟨_,⟨_,_,rfl,⟨[.int .i64 w,.sl (q.map cfD)],rfl,λi c hc=>?_,rfl⟩,_,_,rfl,mn _,rfl⟩,rfl⟩,rfl⟩;match i,hc with
 |0,hc=>cases hc;exact⟨_,rfl,.d _⟩;|1,hc=>
 cases hc;refine⟨_,rfl,fJ (s:=⟨_,_,_⟩) rfl q cfD ?_ rfl (λa _ y hy=>?_) (λ_ _=>rfl) rfl⟩;.simp[upd];exact an
 .simp only[cfD,A0,A9,D8]at hy;rcases hy with rfl|rfl|rfl|rfl|rfl<;>rfl
end Go.Proofs.YtfdbpgoicedpcaaGreatDoor
namespace Go.Proofs.YtfdbpgoicedpcaaGreatDoor.Low
section
open Go Go.Am Go.Lower
mutual
def pD:Ex->Nat
 |.mk _ _ _ _ _ kids=>lQ kids
def lQ:List Ex->Nat
 |[]=>0
 |e::l=>1+pD e+lQ l
end
def qi:∀l:List Ex,lQ l=z l+(l.map pD).sum|[]=>by rfl;|e::l=>by simp only[lQ,qi l,j8,s7,H2];omega
def tU(l:List Ex)(k:Nat):Nat:=z l+((l.take k).map pD).sum
def KT(l:List Ex)(k:Nat):tU l k<=lQ l:=by
 rw[qi,tU];conv=>rhs;rw[<-G3 k l]
 grind
def EC{l:List Ex}{k:Nat}{e:Ex}(h:l[k]?=S e):tU l (k+1)=tU l k+pD e:=by simp only[tU,C1,h,I8,C2,O8,s7,x7,H2,UL];omega
mutual
def qL:Stm->Nat
 |.mk _ _ _ e a el=>lQ e+iR a+iR el
def iR:List Stm->Nat
 |[]=>0
 |e::l=>1+qL e+iR l
end
def tV:∀l:List Stm,iR l=z l+(l.map qL).sum|[]=>by rfl;|e::l=>by simp only[iR,tV l,j8,s7,H2];omega
def Hl(l:List Stm)(k:Nat):Nat:=z l+((l.take k).map qL).sum
def SN(l:List Stm)(k:Nat):Hl l k<=iR l:=by
 rw[tV,Hl];conv=>rhs;rw[<-G3 k l]
 grind
def KU{l:List Stm}{k:Nat}{e:Stm}(h:l[k]?=S e):Hl l (k+1)=Hl l k+qL e:=by simp only[Hl,C1,h,I8,C2,O8,s7,x7,H2,UL];omega
def NZ(l:List Stm):z (uU l)=z l:=by rw[rG,j6]
end
section
open Go Go.Am Go.Lower
attribute[local congr]ite_cc
section
def CA(x:Ins):List C:=[ag x.op,ag x.a,ag x.b,.d (.int .u32 x.n)]
def iI(l:List Ins):List C:=l.flatMap CA
def ZF:iI []=[]:=rfl
def tZ x l:iI (x::l)=CA x++iI l:=rfl
def KZ a b:iI (a++b)=iI a++iI b:=by simp[iI]
def kJ:∀l:List Ins,z (iI l)=z l*4|[]=>rfl|x::l=>by rw[tZ,j7,kJ l];simp only[CA,j8,l5];omega
def Bo:∀pre x post n,(iI (pre++x::post)).set (z pre*4+1) (ag n)=iI (pre++{x with a:=n}::post)|[],x,post,n=>rfl|y::pre,x,post,n=>by rw[z6,tZ,z6,tZ,<-Bo pre x post n];rw[I2 _ _ (by simp only[CA,j8,l5];omega)];congr 2;simp only[CA,j8,l5];omega
variable{word:Bool}{code:List Ins}{g0 g:Nat->Nat}{b ob:Obs}{s:St}{K K2 G B:Nat}{k:List Nat}{R:AV->(Nat->Nat)->Obs->Prop}{f:Nat->AV}{args:Array Operand}{tys:Array TypeId}{K':St->Prop}
def rk(p:Nat->Bool):ai s ⟨s.f,s.gen,λi=>if p i=T then N else s.obj i⟩:=by refine vE (λi=>p i=T) rfl (λi=>.inl rfl) (λi m a=>?_);grind
def cB(p:Nat->Bool)(h:R (sY s.f k) s.gen (λi=>if p i=T then N else s.obj i)):Dr k R .normal s:=⟨_,rk p,h⟩
def kD(p:Nat->Bool)(h:R (sY s.f k) s.gen (λi=>if p i=T then N else s.obj i)):Dr k R .ret s:=⟨_,rk p,h⟩
structure Tape (G B:Nat) (word:Bool) (code:List Ins) (g:Nat->Nat) (ob:Obs):Prop where t:ob G=some [bO word,.osl B (g B) 4 0 code.length]b:ob B=some (iI code)ne:G≠B
def Tape.same{G B}{g g'}{ob Y}(h:Tape G B word code g ob)(hg:g' B=g B)(U:Y G=ob G)(Z:Y B=ob B):Tape G B word code g' Y:=⟨by rw[U,hg];exact h.t,by rw[Z];exact h.b,h.ne⟩
structure ER (K G B:Nat) (word:Bool) (code:List Ins) (g:Nat->Nat) (ob:Obs) (g':Nat->Nat) (Y:Obs):Prop where
 tape:Tape G B word code g' Y
 gen:∀i,i<K->i≠B->g' i=g i
 obj:∀i,i≠G->i≠B->Y i=ob i
def iu(f:FuncId)(rest:List AV)(a:Bool->Nat->List Ins):Prop:=∀(K G B:Nat)(word:Bool)(code:List Ins)(g:Nat->Nat)(ob:Obs)(H:Nat),Tape G B word code g ob->g G=H->G<K->B<K->(∀i,K<=i->ob i=N)->z code+(a word (z code)).length<=1000000000->iK Tryz.prog f (aj G H 0::rest) g ob (λr c Y=>r=uv/\ER K G B word (code++a word (z code)) g ob c Y)
def acp{G B V H gV n}{code xs}{g}{ob}(e:Tape G B word code g ob)(E:g G=H)(j:ob V=S (iI xs))(al:g V=gV)(hn:z xs=n)(hT:V≠G)(hB:V≠B)(hl:z code+z xs<=1000000000):iK Tryz.prog 174 [aj G H 0,eS V gV 4 0 n] g ob (λr g' Y=>r=uv/\Tape G B word (code++xs) g' Y/\(∀i,i≠B->g' i=g i)/\∀i,i≠G->i≠B->Y i=ob i):=by
 refine hdF 0 Tryz.func174 rfl [] ?_;obtain⟨U,Z,a⟩:=e;subst E al hn;simp only[go_sem,U,Z,j,a,kJ];refine⟨l7 _,l7 _,⟨a8,a7⟩,⟨_,ai.refl _,rfl,⟨?_,?_,a⟩,λi d=>?_,λi d l=>?_⟩⟩;.simp[upd]
 .simp_all[upd,C5,s6,kJ,KZ]
 .simp[upd,l4 d]
 simp_all[upd]
structure Prog (K K2 G B:Nat) (word:Bool) (code:List Ins) (g0:Nat->Nat) (b:Obs) (g:Nat->Nat) (ob:Obs):Prop where
 tape:Tape G B word code g ob
 gen:∀i,i<K->i≠B->g i=g0 i
 obj:∀i,i<K->i≠G->i≠B->ob i=b i
 top:∀i,K2<=i->ob i=none
 tk:G<K
 bk:B<K
 kk:K<=K2
def Prog.start{g}{ob}(h:Tape G B word code g ob)(hT:G<K)(hB:B<K)(J:∀i,K<=i->ob i=N)(a:K<=K2):Prog K K2 G B word code g ob g ob:=⟨h,λ_ _ _=>rfl,λ_ _ _ _=>rfl,λi c=>J i a7,hT,hB,a⟩
def Prog.fin(h:Prog K K2 G B word code g0 b g ob)(J:∀i,K<=i->b i=N):ER K G B word code g0 b g (λi=>if decide (K<=i)=T then N else ob i):=by
 refine⟨h.tape.same rfl ?_ ?_,h.gen,λi U Z=>?_⟩;.grind[h.tk]
 .grind[h.bk]
 .by_cases a:K<=i;.grind
  .simp[a];exact h.obj i a7 U Z
def Prog.new{K K2 G B V x}{y}(h:Prog K K2 G B word code g0 b g ob)(U:K<=V)(Z:V<K2):Prog K K2 G B word code g0 b (upd g V x) (upd ob V y):=by
 have d:¬G=V:=by have:=h.tk;omega
 have hB:¬B=V:=by have:=h.bk;omega
 refine⟨h.tape.same (by simp[upd,hB]) (by simp[upd,d]) (by simp[upd,hB]),λi a c=>?_,λi a e c=>?_,λi a=>?_,h.tk,h.bk,h.kk⟩;.simp[upd,l4 (show¬i=V by omega)];exact h.gen i a c
 .simp[upd,l4 (show¬i=V by omega)];exact h.obj i a e c
 .simp[upd,l4 (show¬i=V by omega)];exact h.top i a
def Prog.genT(h:Prog K K2 G B word code g0 b g ob):g G=g0 G:=h.gen G h.tk h.tape.ne
def dG{K K2 G B V H gV n} xs(h:Prog K K2 G B word code g0 b g ob){o}{k:Box K'}{Bs}(ho:o.op=.call ⟨.value (.func 174),args,tys⟩)(E:g0 G=H)(U:K<=V)(Z:V<K2)(p:z xs=n)(q:args.toList.map (St.ev ⟨f,upd g V gV,upd ob V (S (iI xs))⟩)=[aj G H 0,eS V gV 4 0 n])(hl:z code+z xs<=1000000000)(u:∀g' Y,Prog K K2 G B word (code++xs) g0 b g' Y->(∀i,i≠B->i≠V->g' i=g i)->(∀i,i≠G->i≠B->i≠V->Y i=ob i)->K' (St.put ⟨f,g',Y⟩ o.dst uv)):bE (spB Tryz.prog Bs) o ⟨f,upd g V gV,upd ob V (S (iI xs))⟩ k:=by
 have c:=h.new (x:=gV) (y:=S (iI xs)) U Z;refine cY ho (R:=λr g' Y=>r=uv/\Tape G B word (code++xs) g' Y/\(∀i,i≠B->g' i=upd g V gV i)/\∀i,i≠G->i≠B->Y i=upd ob V (S (iI xs)) i) ?_ ?_;.rw[q];exact acp c.tape (c.genT.trans E) (by simp[upd]) (by simp[upd]) p (by have:=h.tk;omega) (by have:=h.bk;omega) hl
 .rintro _ g' Y⟨rfl,t,m,j⟩;refine u g' Y ⟨t,λi d a=>?_,λi d e a=>?_,λi d=>?_,h.tk,h.bk,h.kk⟩ (λi a l=>?_) (λi e a l=>?_);.rw[m i a];exact c.gen i d a
  .rw[j i e a];exact c.obj i d e a
  .have:=h.tk;have:=h.bk;rw[j i a7 a7];exact c.top i d
  .rw[m i a];simp[upd,l4 l]
  .rw[j i e a];simp[upd,l4 l]
def cL{K K2 G B H}{j}{rest}{a}(n:iu j rest a)(h:Prog K K2 G B word code g0 b g ob){o}{k:Box K'}{Bs}(ho:o.op=.call ⟨.value (.func j),args,tys⟩)(E:g0 G=H)(p:args.toList.map (St.ev ⟨f,g,ob⟩)=aj G H 0::rest)(hl:z code+(a word (z code)).length<=1000000000)(q:∀g' Y,Prog K K2 G B word (code++a word (z code)) g0 b g' Y->(∀i,i<K2->i≠B->g' i=g i)->(∀i,i≠G->i≠B->Y i=ob i)->K' (St.put ⟨f,g',Y⟩ o.dst uv)):bE (spB Tryz.prog Bs) o ⟨f,g,ob⟩ k:=by
 have U:=h.tk;have Z:=h.bk;have u:=h.kk;refine cY ho (R:=λr g' Y=>r=uv/\ER K2 G B word (code++a word (z code)) g ob g' Y) ?_ ?_;.rw[p];exact n K2 G B word code g ob H h.tape (h.genT.trans E) a7 a7 h.top hl
 .rintro _ g' Y⟨rfl,t,l,e⟩;refine q g' Y ⟨t,λi c d=>?_,λi c m d=>?_,λi c=>?_,U,Z,u⟩ l e;.rw[l i a7 d];exact h.gen i c d
  .rw[e i m d];exact h.obj i c m d
  .rw[e i a7 a7];exact h.top i c
def Jo:iu 100 [] (λword _=>(leave word).map Prod.fst):=by intro K G B word code g ob H d E o u J hl;have e:=Prog.start (K2:=K+14) d o u J a7;refine hdF K Tryz.func100 rfl [] ?_;have U:=d.t;cases word with|false=>simp only[go_sem,U,E];refine dG [⟨11,0,0,0⟩] e rfl E a7 a7 rfl rfl (by exact hl) ?_;intro l n a _ _;simp only[go_sem];refine cB (λi=>decide (K<=i)) ?_;exact⟨rfl,a.fin J⟩;|true=>have m:z code+2<=1000000000:=hl;simp only[go_sem,U,E];refine dG [⟨1,0,0,0⟩] e rfl E a7 a7 rfl rfl ZN ?_;intro l n a _ _;simp only[go_sem];refine dG [⟨11,0,0,0⟩] a rfl E a7 a7 rfl rfl ZN ?_;intro p q j _ _;rw[s9]at j;simp only[go_sem];refine cB (λi=>decide (K<=i)) ?_;exact⟨rfl,j.fin J⟩
def Tm{G B I J H l O}{pre post}{x}{g}{ob}(e:Tape G B word (pre++x::post) g ob)(E:g G=H)(j:ob I=S [.ptr G H 0])(h:g I=l)(n:ob J=S [ag (z pre)])(b:g J=O)(hl:z (pre++x::post)<=1000000000):iK Tryz.prog 237 [aj I l 0,aj J O 0] g ob (λr g' Y=>r=uv/\g'=g/\Tape G B word (pre++{x with a:=(z (pre++x::post))}::post) g Y/\∀i,i≠B->Y i=ob i):=by
 refine hdF 0 Tryz.func237 rfl [] ?_;obtain⟨U,Z,d⟩:=e;subst E h b;simp only[go_sem];refine cJ c9 ?_;have o:z pre<z (pre++x::post):=by simp only[j7,j8];omega
 simp only[go_sem,U,Z,j,n,kJ,o];refine⟨a7,_,ai.refl _,rfl,rfl,⟨?_,?_,d⟩,λi p=>by simp[upd,p]⟩;.simp_all[upd]
 simp_all[upd,Bo]
structure ES (I J:Nat) (G H at':Nat) (g:Nat->Nat) (ob:Obs) (v:AV):Prop where v:v=.one (.clo 237 [.ptr I (g I) 0,.ptr J (g J) 0])i:ob I=some [.ptr G H 0]j:ob J=some [ag at']
def ES.same{I J G H at'}{g g'}{ob Y}{v}(h:ES I J G H at' g ob v)(U:g' I=g I)(Z:g' J=g J)(a:Y I=ob I)(c:Y J=ob J):ES I J G H at' g' Y v:=⟨by grind[h.v],by rw[a];exact h.i,by grind[h.j]⟩
def XN{K G B H}{op}{g}{ob}(a:Tape G B word code g ob)(E:g G=H)(o:G<K)(u:B<K)(J:∀i,K<=i->ob i=N)(hl:z code+1<=1000000000):iK Tryz.prog 221 [aj G H 0,ae op] g ob (λr g' Y=>ES (K+2) (K+5) G H (z code) g' Y r/\Tape G B word (code++[⟨op,0,0,0⟩]) g' Y/\(∀i,i<K->i≠B->g' i=g i)/\(∀i,i<K->i≠G->i≠B->Y i=ob i)/\∀i,K+6<=i->Y i=N):=by
 refine hdF K Tryz.func221 rfl [4] ?_;have Q:¬G=K+2:=a7;have X:¬B=K+2:=a7;have cv:Prog K (K+17) G B word code g ob (upd (upd g (K+2) (nxC 276 (g (K+2)))) (K+5) (nxC 4 (g (K+5)))) (upd (upd (upd ob (K+2) (S [.ptr G H 0])) (K+5) (S [ag 0])) (K+5) (S [ag (z code)])):=by
  have:=(((Prog.start (K2:=K+17) a o u J a7).new (V:=K+2) (x:=nxC 276 (g (K+2))) (y:=S [.ptr G H 0]) a7 a7).new (V:=K+5) (x:=nxC 4 (g (K+5))) (y:=S [ag 0]) a7 a7).new (V:=K+5) (x:=(upd (upd g (K+2) (nxC 276 (g (K+2)))) (K+5) (nxC 4 (g (K+5)))) (K+5)) (y:=S [ag (z code)]) a7 a7;have e:∀(f:Nat->Nat)(i:Nat),upd f i (f i)=f:=λf i=>by grind[upd]
  rw[e]at this;exact this
 simp only[go_sem,a.t,a.b,E,Q,X];refine dG [⟨op,0,0,0⟩] cv rfl E a7 a7 rfl rfl (by exact hl) ?_;intro l n d p q;have v:l (K+2)=nxC 276 (g (K+2)):=by rw[p _ a7 a7];simp[upd]
 have A:l (K+5)=nxC 4 (g (K+5)):=by rw[p _ a7 a7];simp[upd]
 have e3:n (K+2)=S [.ptr G H 0]:=by rw[q _ a7 a7 a7];simp[upd]
 have e4:n (K+5)=S [ag (z code)]:=by rw[q _ a7 a7 a7];simp[upd]
 simp only[go_sem];refine kD (λi=>decide (K+6<=i)) ?_;refine⟨⟨?_,?_,?_⟩,d.tape.same rfl ?_ ?_,d.gen,λi I hT hB=>?_,λi I=>?_⟩;.simp only[go_sem,sY,v,A]
 .simp[e3]
 .simp[e4]
 .grind
 .grind
 .simp[show¬K+6<=i by omega];exact d.obj i I hT hB
 grind
end
section
variable{word:Bool}{g0 g:Nat->Nat}{b ob:Obs}{code:List Ins}{f:Nat->AV}{args:Array Operand}{tys:Array TypeId}{K':St->Prop}{op num slot size:Int}
def Prog.more{K K2 L G B}(h:Prog K K2 G B word code g0 b g ob)(a:K2<=L):Prog K L G B word code g0 b g ob:=⟨h.tape,h.gen,h.obj,λi c=>h.top i a7,h.tk,h.bk,by grind[h.kk]⟩
structure Open (I J G H at' l O:Nat) (g:Nat->Nat) (ob:Obs):Prop where
 gi:g I=l
 gj:g J=O
 i:ob I=some [.ptr G H 0]j:ob J=some [ag at']
def Open.same{I J G H at' l O}{g g'}{ob Y}(h:Open I J G H at' l O g ob)(U:g' I=g I)(Z:g' J=g J)(a:Y I=ob I)(c:Y J=ob J):Open I J G H at' l O g' Y:=⟨U.trans h.gi,Z.trans h.gj,a.trans h.i,c.trans h.j⟩
def kK{K K2 G B H}{op}(h:Prog K K2 G B word code g0 b g ob){o}{k:Box K'}{Bs}(ho:o.op=.call ⟨.value (.func 221),args,tys⟩)(E:g0 G=H)(n:args.toList.map (St.ev ⟨f,g,ob⟩)=[aj G H 0,ae op])(hl:z code+1<=1000000000)(p:∀g' Y l O,Prog K (K2+6) G B word (code++[⟨op,0,0,0⟩]) g0 b g' Y->Open (K2+2) (K2+5) G H (z code) l O g' Y->(∀i,i<K2->i≠B->g' i=g i)->(∀i,i<K2->i≠G->i≠B->Y i=ob i)->K' (St.put ⟨f,g',Y⟩ o.dst (.one (.clo 237 [.ptr (K2+2) l 0,.ptr (K2+5) O 0])))):bE (spB Tryz.prog Bs) o ⟨f,g,ob⟩ k:=by
 have U:=h.tk;have Z:=h.bk;have s:=h.kk;refine cY ho (R:=λr g' Y=>ES (K2+2) (K2+5) G H (z code) g' Y r/\Tape G B word (code++[⟨op,0,0,0⟩]) g' Y/\(∀i,i<K2->i≠B->g' i=g i)/\(∀i,i<K2->i≠G->i≠B->Y i=ob i)/\∀i,K2+6<=i->Y i=N) ?_ ?_;.rw[n];exact XN h.tape (h.genT.trans E) a7 a7 h.top hl
 .rintro _ g' Y⟨⟨rfl,l2,m⟩,t,d,e,q⟩;refine p g' Y _ _ ⟨t,λi c a=>?_,λi c j a=>?_,q,U,Z,a7⟩ ⟨rfl,rfl,l2,m⟩ d e;.rw[d i a7 a];exact h.gen i c a
  .rw[e i a7 j a];exact h.obj i c j a
def jt{K K2 G B H I J l O t:Nat}{pre post}{x}(h:Prog K K2 G B word (pre++x::post) g0 b g ob)(u:Open I J G H (z pre) l O g ob){o}{k:Box K'}{Bs}(ho:o.op=.call ⟨.value (.tmp t),args,tys⟩)(E:g0 G=H)(hf:f t=.one (.clo 237 [.ptr I l 0,.ptr J O 0]))(n:args.toList.map (St.ev ⟨f,g,ob⟩)=[])(hl:z (pre++x::post)<=1000000000)(hk:∀Y,Prog K K2 G B word (pre++{x with a:=(z (pre++x::post))}::post) g0 b g Y->(∀i,i≠B->Y i=ob i)->K' (St.put ⟨f,g,Y⟩ o.dst uv)):bE (spB Tryz.prog Bs) o ⟨f,g,ob⟩ k:=by
 have Z:=h.bk;have h3:=h.kk;refine LV ho hf (R:=λr g' Y=>r=uv/\g'=g/\Tape G B word (pre++{x with a:=(z (pre++x::post):Int)}::post) g Y/\∀i,i≠B->Y i=ob i) ?_ ?_;.rw[n];exact Tm h.tape (h.genT.trans E) u.i u.gi u.j u.gj hl
 .rintro _ g' Y⟨rfl,rfl,t,q⟩;refine hk Y ⟨t,h.gen,λi hi p d=>?_,λi hi=>?_,h.tk,Z,h3⟩ q;.rw[q i d];exact h.obj i hi p d
  .rw[q i a7];exact h.top i hi
def aY e:z (cxD e)=6:=by cases e;rfl
abbrev ipE(e:Ex):AV:=.one (.d (.iptr (cxD e)))
abbrev dt(d:Int)(e:Ex):Bool->Nat->List Ins:=λ_ at'=>(cE at' d e).map Prod.fst
def ET{H}(f:Nat->H) i:upd f i (f i)=f:=by funext j;simp only[upd];grind
def La{a b}{d}(ha:iu 220 [ipE a] (dt d a))(hb:iu 220 [ipE b] (dt d b)):iu 236 [ipE (.mk 8 op num slot size [a,b])] (dt d (.mk 8 op num slot size [a,b])):=by
 intro K G B word code g ob H W E o u J hl;have bd:z code+((cE (z code) d a).length+4+(cE (z code+(cE (z code) d a).length+1+3) d b).length+2)<=1000000000:=by have:(dt d (.mk 8 op num slot size [a,b]) word (z code)).length=_:=rfl;simp only[dt,cE,cAO,mC,ke,lU,j6,B3,R6,j7,j8,l5]at hl;simp only[D4,Nat.reduceAdd]at hl|-;omega
 refine hdF K Tryz.func236 rfl [] ?_;have b8:=((Prog.start (K2:=K+50) W o u J a7).new (V:=K+4) (x:=nxC 266 (g (K+4))) (y:=S [ag 0,ag 0,ag 0,.d (.int .u32 0)]) a7 a7).new (V:=K+4) (x:=(upd g (K+4) (nxC 266 (g (K+4)))) (K+4)) (y:=S (CA ⟨7,0,0,0⟩)) a7 a7;rw[ET]at b8;have hE:cxD (.mk 8 op num slot size [a,b])=[.int .i64 8,.int .i64 op,.int .u32 num,.int .i64 slot,.int .i64 size,.sl [cxD a,cxD b]]:=by simp[cxD,Ez]
 unfold ipE;rw[hE];simp only[go_sem,aY];refine cL ha b8 rfl E rfl ZN ?_;intro g1 av p1 q1 r1;have L:av (K+4)=S [ag 7,ag 0,ag 0,.d (.int .u32 0)]:=by rw[r1 _ a7 a7];simp[upd,CA]
 have g4:g1 (K+4)=nxC 266 (g (K+4)):=by rw[q1 _ a7 a7];simp[upd]
 simp only[go_sem,L,g4];refine dG [⟨7,0,0,0⟩] p1 rfl E a7 a7 rfl rfl ZN ?_;intro g2 bn p2 q2 r2;have L:bn (K+4)=S [ag 7,ag 0,ag 0,.d (.int .u32 0)]:=by rw[r2 _ a7 a7 a7];exact L
 have g4:g2 (K+4)=nxC 266 (g (K+4)):=by rw[q2 _ a7 a7];exact g4
 simp only[go_sem];refine kK p2 rfl E rfl ZN ?_;intro g3 b' q r p3 o1 q3 r3;have L:b' (K+4)=S [ag 7,ag 0,ag 0,.d (.int .u32 0)]:=by rw[r3 _ a7 a7 a7];exact L
 have g4:g3 (K+4)=nxC 266 (g (K+4)):=by rw[q3 _ a7 a7];exact g4
 simp only[go_sem];refine dG [⟨1,0,0,0⟩] p3 rfl E a7 a7 rfl rfl ZN ?_;intro c cd p4 q4 r4;have L:cd (K+4)=S [ag 7,ag 0,ag 0,.d (.int .u32 0)]:=by rw[r4 _ a7 a7 a7];exact L
 have g4:c (K+4)=nxC 266 (g (K+4)):=by rw[q4 _ a7 a7];exact g4
 simp only[go_sem];refine kK p4 rfl E rfl ZN ?_;intro g5 c0 b1 b2 p5 Q q5 P;have L:c0 (K+4)=S [ag 7,ag 0,ag 0,.d (.int .u32 0)]:=by rw[P _ a7 a7 a7];exact L
 have g4:g5 (K+4)=nxC 266 (g (K+4)):=by rw[q5 _ a7 a7];exact g4
 simp only[go_sem];rw[s9,s9]at p5;have j:(code++dt d a word (z code)++[(⟨7,0,0,0⟩:Ins)]).length=z code+(cE (z code) d a).length+1:=by simp only[dt,j7,j6,j8,l5]
 have m:(code++dt d a word (z code)++[(⟨7,0,0,0⟩:Ins)]++(⟨9,0,0,0⟩:Ins)::[⟨1,0,0,0⟩,⟨8,0,0,0⟩]).length=z code+(cE (z code) d a).length+1+3:=by rw[j7,j];rfl
 have e7:(code++dt d a word (z code)++[(⟨7,0,0,0⟩:Ins)]++(⟨9,0,0,0⟩:Ins)::[⟨1,0,0,0⟩]).length=z code+(cE (z code) d a).length+1+2:=by rw[j7,j];rfl
 refine jt (post:=[⟨1,0,0,0⟩,⟨8,0,0,0⟩]) p5 ((o1.same (q4 _ a7 a7) (q4 _ a7 a7) (r4 _ a7 a7 a7) (r4 _ a7 a7 a7)).same (q5 _ a7 a7) (q5 _ a7 a7) (P _ a7 a7 a7) (P _ a7 a7 a7)) rfl E rfl rfl a7 ?_;intro v p6 r6;have L:v (K+4)=S [ag 7,ag 0,ag 0,.d (.int .u32 0)]:=by rw[r6 _ a7];exact L
 have Q:=Q.same rfl rfl (r6 _ a7) (r6 _ a7);rw[m]at p6;generalize hX:code++dt d a word (z code)++[(⟨7,0,0,0⟩:Ins)]=X at*;have ar:(X++(⟨9,((z code+(cE (z code) d a).length+1+3:Nat):Int),0,0⟩:Ins)::[⟨1,0,0,0⟩,⟨8,0,0,0⟩]).length=z code+(cE (z code) d a).length+1+3:=by rw[j7,j];rfl
 simp only[go_sem,aY];refine cL hb p6 rfl E rfl ZN ?_;intro l ad p7 q7 r7;rw[ar]at p7;have L:ad (K+4)=S [ag 7,ag 0,ag 0,.d (.int .u32 0)]:=by rw[r7 _ a7 a7];exact L
 have g4:l (K+4)=nxC 266 (g (K+4)):=by rw[q7 _ a7 a7];exact g4
 have Q:=Q.same (q7 _ a7 a7) (q7 _ a7 a7) (r7 _ a7 a7) (r7 _ a7 a7);simp[go_sem,L,g4];refine dG [⟨7,0,0,0⟩,⟨7,0,0,0⟩] p7 rfl E a7 a7 rfl rfl ZN ?_;intro s h k q8 n;have Q:=Q.same (q8 _ a7 a7) (q8 _ a7 a7) (n _ a7 a7 a7) (n _ a7 a7 a7);have k:Prog K (K+50+6+6) G B word ((X++[⟨9,((z code+(cE (z code) d a).length+1+3:Nat):Int),0,0⟩,⟨1,0,0,0⟩])++⟨8,0,0,0⟩::(dt d b word (z code+(cE (z code) d a).length+1+3)++[⟨7,0,0,0⟩,⟨7,0,0,0⟩])) g ob s h:=by have:=k;exact sa
 have bc:(X++[(⟨9,((z code+(cE (z code) d a).length+1+3:Nat):Int),0,0⟩:Ins),(⟨1,0,0,0⟩:Ins)]).length=z (X++[(⟨9,0,0,0⟩:Ins)]++[(⟨1,0,0,0⟩:Ins)]):=b9;have f:((X++[(⟨9,((z code+(cE (z code) d a).length+1+3:Nat):Int),0,0⟩:Ins),⟨1,0,0,0⟩])++(⟨8,0,0,0⟩:Ins)::(dt d b word (z code+(cE (z code) d a).length+1+3)++[⟨7,0,0,0⟩,⟨7,0,0,0⟩])).length=z code+(cE (z code) d a).length+1+3+(cE (z code+(cE (z code) d a).length+1+3) d b).length+2:=by simp only[j7,j8,l5,j,dt,j6];omega
 rw[<-bc]at Q;simp[go_sem];refine jt k Q rfl E rfl rfl a7 ?_;intro w p r9;rw[f]at p;simp[go_sem];refine cB (λi=>decide (K<=i)) ?_;refine⟨rfl,?_⟩;have e:code++dt d (.mk 8 op num slot size [a,b]) word (z code)=(X++[(⟨9,((z code+(cE (z code) d a).length+1+3:Nat):Int),0,0⟩:Ins),⟨1,0,0,0⟩])++⟨8,((z code+(cE (z code) d a).length+1+3+(cE (z code+(cE (z code) d a).length+1+3) d b).length+2:Nat):Int),0,0⟩::(dt d b word (z code+(cE (z code) d a).length+1+3)++[⟨7,0,0,0⟩,⟨7,0,0,0⟩]):=by rw[<-hX];simp[dt,cE,cAO,mC,ke,lU]
 rw[e];exact p.fin J
def Lb{a b}{d}(ha:iu 220 [ipE a] (dt d a))(hb:iu 220 [ipE b] (dt d b)):iu 236 [ipE (.mk 9 op num slot size [a,b])] (dt d (.mk 9 op num slot size [a,b])):=by
 intro K G B word code g ob H W E o u J hl;have bd:z code+((cE (z code) d a).length+3+(cE (z code+(cE (z code) d a).length+3) d b).length+2)<=1000000000:=by have:(dt d (.mk 9 op num slot size [a,b]) word (z code)).length=_:=rfl;simp only[dt,cE,cAO,mC,ke,lU,j6,show¬(9:Int)=8 by decide,B1,B3,Q4,j7,j8,l5]at hl;simp only[D4,J3,Nat.reduceAdd]at hl|-;omega
 refine hdF K Tryz.func236 rfl [] ?_;have b8:=((Prog.start (K2:=K+50) W o u J a7).new (V:=K+4) (x:=nxC 266 (g (K+4))) (y:=S [ag 0,ag 0,ag 0,.d (.int .u32 0)]) a7 a7).new (V:=K+4) (x:=(upd g (K+4) (nxC 266 (g (K+4)))) (K+4)) (y:=S (CA ⟨7,0,0,0⟩)) a7 a7;rw[ET]at b8;have hE:cxD (.mk 9 op num slot size [a,b])=[.int .i64 9,.int .i64 op,.int .u32 num,.int .i64 slot,.int .i64 size,.sl [cxD a,cxD b]]:=by simp[cxD,Ez]
 unfold ipE;rw[hE];simp only[go_sem,aY];refine cL ha b8 rfl E rfl ZN ?_;intro g1 av p1 q1 r1;have L:av (K+4)=S [ag 7,ag 0,ag 0,.d (.int .u32 0)]:=by rw[r1 _ a7 a7];simp[upd,CA]
 have g4:g1 (K+4)=nxC 266 (g (K+4)):=by rw[q1 _ a7 a7];simp[upd]
 simp only[go_sem];refine kK p1 rfl E rfl ZN ?_;intro g3 b' q r p3 o1 q3 r3;have L:b' (K+4)=S [ag 7,ag 0,ag 0,.d (.int .u32 0)]:=by rw[r3 _ a7 a7 a7];exact L
 have g4:g3 (K+4)=nxC 266 (g (K+4)):=by rw[q3 _ a7 a7];exact g4
 simp only[go_sem];refine dG [⟨1,0,0,1⟩] p3 rfl E a7 a7 rfl rfl ZN ?_;intro c cd p4 q4 r4;have L:cd (K+4)=S [ag 7,ag 0,ag 0,.d (.int .u32 0)]:=by rw[r4 _ a7 a7 a7];exact L
 have g4:c (K+4)=nxC 266 (g (K+4)):=by rw[q4 _ a7 a7];exact g4
 simp only[go_sem];refine kK p4 rfl E rfl ZN ?_;intro g5 c0 b1 b2 p5 Q q5 P;have L:c0 (K+4)=S [ag 7,ag 0,ag 0,.d (.int .u32 0)]:=by rw[P _ a7 a7 a7];exact L
 have g4:g5 (K+4)=nxC 266 (g (K+4)):=by rw[q5 _ a7 a7];exact g4
 simp only[go_sem];rw[s9,s9]at p5;have j:(code++dt d a word (z code)).length=z code+(cE (z code) d a).length:=by simp only[dt,j7,j6]
 have m:(code++dt d a word (z code)++(⟨9,0,0,0⟩:Ins)::[⟨1,0,0,1⟩,⟨8,0,0,0⟩]).length=z code+(cE (z code) d a).length+3:=by rw[j7,j];rfl
 have e7:(code++dt d a word (z code)++(⟨9,0,0,0⟩:Ins)::[⟨1,0,0,1⟩]).length=z code+(cE (z code) d a).length+2:=by rw[j7,j];rfl
 refine jt (post:=[⟨1,0,0,1⟩,⟨8,0,0,0⟩]) p5 ((o1.same (q4 _ a7 a7) (q4 _ a7 a7) (r4 _ a7 a7 a7) (r4 _ a7 a7 a7)).same (q5 _ a7 a7) (q5 _ a7 a7) (P _ a7 a7 a7) (P _ a7 a7 a7)) rfl E rfl rfl a7 ?_;intro v p6 r6;have L:v (K+4)=S [ag 7,ag 0,ag 0,.d (.int .u32 0)]:=by rw[r6 _ a7];exact L
 have Q:=Q.same rfl rfl (r6 _ a7) (r6 _ a7);rw[m]at p6;generalize hX:code++dt d a word (z code)=X at*;have ar:(X++(⟨9,((z code+(cE (z code) d a).length+3:Nat):Int),0,0⟩:Ins)::[⟨1,0,0,1⟩,⟨8,0,0,0⟩]).length=z code+(cE (z code) d a).length+3:=by rw[j7,j];rfl
 simp only[go_sem,aY];refine cL hb p6 rfl E rfl ZN ?_;intro l ad p7 q7 r7;rw[ar]at p7;have L:ad (K+4)=S [ag 7,ag 0,ag 0,.d (.int .u32 0)]:=by rw[r7 _ a7 a7];exact L
 have g4:l (K+4)=nxC 266 (g (K+4)):=by rw[q7 _ a7 a7];exact g4
 have Q:=Q.same (q7 _ a7 a7) (q7 _ a7 a7) (r7 _ a7 a7) (r7 _ a7 a7);simp[go_sem,L,g4];refine dG [⟨7,0,0,0⟩,⟨7,0,0,0⟩] p7 rfl E a7 a7 rfl rfl ZN ?_;intro s h k q8 n;have Q:=Q.same (q8 _ a7 a7) (q8 _ a7 a7) (n _ a7 a7 a7) (n _ a7 a7 a7);have k:Prog K (K+50+6+6) G B word ((X++[⟨9,((z code+(cE (z code) d a).length+3:Nat):Int),0,0⟩,⟨1,0,0,1⟩])++⟨8,0,0,0⟩::(dt d b word (z code+(cE (z code) d a).length+3)++[⟨7,0,0,0⟩,⟨7,0,0,0⟩])) g ob s h:=by have:=k;exact sa
 have bc:(X++[(⟨9,((z code+(cE (z code) d a).length+3:Nat):Int),0,0⟩:Ins),(⟨1,0,0,1⟩:Ins)]).length=z (X++[(⟨9,0,0,0⟩:Ins)]++[(⟨1,0,0,1⟩:Ins)]):=b9;have f:((X++[(⟨9,((z code+(cE (z code) d a).length+3:Nat):Int),0,0⟩:Ins),⟨1,0,0,1⟩])++(⟨8,0,0,0⟩:Ins)::(dt d b word (z code+(cE (z code) d a).length+3)++[⟨7,0,0,0⟩,⟨7,0,0,0⟩])).length=z code+(cE (z code) d a).length+3+(cE (z code+(cE (z code) d a).length+3) d b).length+2:=by simp only[j7,j8,l5,j,dt,j6];omega
 rw[<-bc]at Q;simp[go_sem];refine jt k Q rfl E rfl rfl a7 ?_;intro w p r9;rw[f]at p;simp[go_sem];refine cB (λi=>decide (K<=i)) ?_;refine⟨rfl,?_⟩;have e:code++dt d (.mk 9 op num slot size [a,b]) word (z code)=(X++[(⟨9,((z code+(cE (z code) d a).length+3:Nat):Int),0,0⟩:Ins),⟨1,0,0,1⟩])++⟨8,((z code+(cE (z code) d a).length+3+(cE (z code+(cE (z code) d a).length+3) d b).length+2:Nat):Int),0,0⟩::(dt d b word (z code+(cE (z code) d a).length+3)++[⟨7,0,0,0⟩,⟨7,0,0,0⟩]):=by rw[<-hX];simp only[dt,cE,cAO,mC,ke,lU,show¬(9:Int)=8 by decide,B1,B3,Q4,C2,s7,x7,s9,z6,A3,l5,J3]
 rw[e];exact p.fin J
end
def zl:∀(l:List Ex) k e at' d,l[k]?=S e->cEs at' d (l.take (k+1))=cEs at' d (l.take k)++cE (at'+z (cEs at' d (l.take k))) (d+k) e|[],k,e,at',d,h=>by simp at h;|x::l,0,e,at',d,h=>by grind[cEs];|x::l,k+1,e,at',d,h=>by have b:=zl l k e (at'+z (cE at' d x)) (d+1) (by simpa using h);rw[D5,D5,cEs,cEs,b,s9,j7,D4];grind
def wv l k at' d:z (cEs at' d (l.take k))<=z (cEs at' d l):=by
 have:∀(l:List Ex)(k at':Nat)(d:Int),z (cEs at' d (l.take k))<=z (cEs at' d l):=by intro l;induction l with|nil=>simp;|cons x l a=>intro k at' d;cases k with|zero=>simp[cEs];|succ k=>simp_all[cEs]
 grind
def uY{w}{ps}{f}{q}:∀{l}{k:Nat}{e},rEs w ps f q l->l[k]?=S e->rE w ps f q e|[],k,e,_,h=>by simp at h;|x::l,0,e,V,h=>by grind[rEs];|x::l,k+1,e,V,h=>by rw[rEs]at V;exact uY V.2 (by simpa using h)
def pE{l}{k:Nat}{e}(h:l[k]?=S e):pD e<lQ l:=by have Z:=EC h;have a:=KT l (k+1);have b:=(l9.1 h).1;grind[tU]
def XP{w}{ps}{fi}:∀al e q d,pD e<=al->al<=1000000000000->rE w ps fi q e->iu 220 [ipE e] (dt d e):=by intro al;induction al using Nat.strongRecOn with|ind al U=>
 intro e q d hN b3 V;obtain⟨kind,op,num,slot,size,L⟩:=e;have az:pD (.mk kind op num slot size L)=lQ L:=rfl;rw[rE]at V;obtain⟨an,y⟩:=V;have hE:cxD (.mk kind op num slot size L)=[.int .i64 kind,.int .i64 op,.int .u32 num,.int .i64 slot,.int .i64 size,.sl (L.map cxD)]:=by simp only[cxD,rF]
 intro K G B word code g ob H ht E o u J hl;have W:=Prog.start (K2:=K+107) ht o u J a7;refine hdF K Tryz.func220 rfl [] ?_;unfold ipE;rw[hE];by_cases r:kind=8\/kind=9
 .have ad:z L=2:=by
   rcases r with rfl|rfl;.obtain⟨_,_,_,_,_,h⟩:=an;omega
   .obtain⟨_,_,_,_,_,h⟩:=an;omega
  obtain⟨a,b,rfl⟩:∃a b,L=[a,b]:=by match L,ad with|[a,b],_=>simp
  have ha:=U (pD a) (by have:=pE (l:=[a,b]) (k:=0) rfl;omega) a (q+1) d (l7 _) (by have:=pE (l:=[a,b]) (k:=0) rfl;omega) (uY (k:=0) y rfl);have hb:=U (pD b) (by have:=pE (l:=[a,b]) (k:=1) rfl;omega) b (q+1) d (l7 _) (by have:=pE (l:=[a,b]) (k:=1) rfl;omega) (uY (k:=1) y rfl);rcases r with rfl|rfl;.simp only[go_sem];refine cL (La ha hb) W rfl E c8 hl ?_;exact rb
  .simp only[go_sem];refine cL (Lb ha hb) W rfl E c8 hl ?_;exact rb
 .have h8:¬kind=8:=λh=>r (.inl h);have m:¬kind=9:=λh=>r (.inr h);have A:cE (z code) d (.mk kind op num slot size L)=cEs (z code) d L++one kind op num slot size (d+z L):=by rw[cE,l4 r]
  have cd:z code+(cEs (z code) d L).length+(one kind op num slot size (d+z L)).length<=1000000000:=by have:(dt d (.mk kind op num slot size L) word (z code)).length=_:=rfl;simp only[dt,A,j6,j7]at hl;omega
  simp only[go_sem,h8,m,j6];refine fU (λn s=>∃k:Nat,n+k=z L/\s.f 0=aj G H 0/\s.f 1=.one (.d (.iptr [.int .i64 kind,.int .i64 op,.int .u32 num,.int .i64 slot,.int .i64 size,.sl (L.map cxD)]))/\s.f 24=ae (z L)/\s.f 25=ae k/\Prog K (K+107) G B word (code++(cEs (z code) d (L.take k)).map Prod.fst) g ob s.gen s.obj) (z L) ?_ ?_;.refine⟨0,rfl,?_⟩;rw[G8,cEs,x7,u7];simp only[go_sem];exact W
  .rintro n f g1 av⟨k,hk,f0,f1,c,j,p1⟩;simp only at f0 f1 c j p1;have bo:z L<=lQ L:=by rw[qi];omega
   by_cases O:k<z L
   .obtain⟨e,Q⟩:=getq O;have P:=pE Q;have X:=zl L k e (z code) d Q;have bl:=wv L (k+1) (z code) d;have a1:(code++(cEs (z code) d (L.take k)).map Prod.fst).length=z code+(cEs (z code) d (L.take k)).length:=by rw[j7,j6]
    simp only[go_sem,f0,f1,c,j,O,Q,aY];refine cL (U (pD e) a7 e (q+1) (d+k) (l7 _) a7 (uY y Q)) p1 rfl E rfl ZN ?_;intro g2 bn p2 q2 r2;rw[a1]at p2;simp only[go_sem,j,ah (k:=k) a7];refine fD (n-1) a7 ⟨k+1,a7,?_⟩;simp only[go_sem,f0,f1,c];grind
   .have b0:k=z L:=a7;subst b0;rw[E8]at p1;have a1:(code++(cEs (z code) d L).map Prod.fst).length=z code+(cEs (z code) d L).length:=by rw[j7,j6]
    have bs:∀(x:Ins),one kind op num slot size (d+z L)=[(x,d+z L)]->∀Z Y,Prog K (K+107) G B word (code++(cEs (z code) d L).map Prod.fst++[x]) g ob Z Y->ER K G B word (code++dt d (.mk kind op num slot size L) word (z code)) g ob Z (λi=>if decide (K<=i)=T then N else Y i):=by
     intro x I Z Y t;have:code++dt d (.mk kind op num slot size L) word (z code)=code++(cEs (z code) d L).map Prod.fst++[x]:=by simp only[dt,A,I,C2,s7,x7,s9]
     rw[this];exact t.fin J
    obtain⟨_,_,_,_,_,h⟩:=an;have v:kind=1\/kind=2\/kind=3\/kind=4\/kind=5\/kind=6\/kind=7:=by rcases h with⟨h|h,_⟩|⟨h,_⟩|⟨h,_⟩|⟨h,_⟩|⟨h,_⟩|⟨h,_⟩|⟨h|h,_⟩<;>omega
    have p:(one kind op num slot size (d+z L)).length=1:=by rcases v with rfl|rfl|rfl|rfl|rfl|rfl|rfl<;>rfl
    rcases v with rfl|rfl|rfl|rfl|rfl|rfl|rfl;.simp only[go_sem,f0,f1,c,j,O];refine dG [⟨1,0,0,num⟩] p1 rfl E a7 a7 rfl rfl ZN ?_;exact hV
    .simp only[go_sem,f0,f1,c,j,O];refine dG [⟨2,slot,0,0⟩] p1 rfl E a7 a7 rfl rfl ZN ?_;exact hV
    .simp only[go_sem,f1,c,j,O];refine iU aP mixed [K+73] [([0],[0],[],F),([1],[],[],F),([64],[],[],F),([65],[],[],F),([66],[],[],F),([1],[],[],F),([68],[],[],F),([69],[],[],F),([70],[],[],F),([67,71],[],[],F),([72],[],[0],F),([63,73],[],[],T)] 1 c9 rfl b9 ?_;simp only[go_sem];iterate 10 (refine aX (λ_ _ _ _ J=>by simp only[go_sem,f0,f1]at J|-;exact J) ?_)
     (refine dJ adq ?_);apply dQ;intro K' a';simp only[go_sem];refine dG [⟨4,slot,size,0⟩] p1 rfl E a7 a7 rfl rfl ZN ?_;intro g2 bn p2 q2 r2;refine a' _ ?_;simp only[go_sem];refine cB (λi=>decide (K<=i)) ?_;exact⟨rfl,bs _ rfl _ _ p2⟩
    .simp only[go_sem,f0,f1,c,j,O];refine dG [⟨10,slot,0,0⟩] p1 rfl E a7 a7 rfl rfl ZN ?_;exact hV
    .simp only[go_sem,f0,f1,c,j,O];refine dG [⟨12,0,0,0⟩] p1 rfl E a7 a7 rfl rfl ZN ?_;exact hV
    .simp only[go_sem,f0,f1,c,j,O];refine dG [⟨6,op,0,0⟩] p1 rfl E a7 a7 rfl rfl ZN ?_;exact hV
    .simp only[go_sem,f0,f1,c,j,O];refine dG [⟨7,0,0,0⟩] p1 rfl E a7 a7 rfl rfl ZN ?_;exact hV
section
abbrev ipS(s:Stm):AV:=.one (.d (.iptr (csD s)))
abbrev slS(l:List Stm):AV:=.one (aw (uU l))
abbrev tq(s:Stm):Bool->Nat->List Ins:=λword at'=>(cS word at' s).map Prod.fst
abbrev ep(l:List Stm):Bool->Nat->List Ins:=λword at'=>(cSs word at' l).map Prod.fst
def ED{word}:∀(l:List Stm) k e at',l[k]?=S e->cSs word at' (l.take (k+1))=cSs word at' (l.take k)++cS word (at'+z (cSs word at' (l.take k))) e|[],k,e,at',h=>by simp at h;|x::l,0,e,at',h=>by grind[cSs];|x::l,k+1,e,at',h=>by have b:=ED (word:=word) l k e (at'+z (cS word at' x)) (by simpa using h);rw[D5,D5,cSs,cSs,b,s9,j7,D4]
def rH{word}:∀l k at',z (cSs word at' (l.take k))<=z (cSs word at' l):=by intro l;induction l with|nil=>simp;|cons x l a=>intro k at';cases k with|zero=>simp[cSs];|succ k=>simp_all[cSs]
def xT{w}{ps}{f}{word}{q}:∀{l}{k:Nat}{e},rSs w ps f word q l->l[k]?=S e->rS w ps f word q e|[],k,e,_,h=>by simp at h;|x::l,0,e,V,h=>by grind[rSs];|x::l,k+1,e,V,h=>by rw[rSs]at V;exact xT V.2 (by simpa using h)
variable{l:List Stm}
def rI{k:Nat}{e}(h:l[k]?=S e):qL e<iR l:=by have Z:=KU h;have a:=SN l (k+1);have b:=(l9.1 h).1;grind[Hl]
def kW e:z (csD e)=6:=by cases e;rfl
def zi(x:iR l<=1000000000000)(q:∀(k:Nat) e,l[k]?=S e->iu 173 [ipS e] (tq e)):iu 99 [slS l] (ep l):=by
 intro K G B word code g ob H r E o u J hl;refine hdF K Tryz.func99 rfl [] ?_;unfold slS;rw[rG];simp only[go_sem,j6];refine fU (λn s=>∃k:Nat,n+k=z l/\s.f 0=aj G H 0/\s.f 1=.one (aw (l.map csD))/\s.f 6=ae (z l)/\s.f 7=ae k/\Prog K (K+16) G B word (code++(cSs word (z code) (l.take k)).map Prod.fst) g ob s.gen s.obj) (z l) ?_ ?_;.refine⟨0,rfl,?_⟩;rw[G8,cSs,x7,u7];simp only[go_sem];exact (Prog.start (K2:=K+16) r o u J a7)
 .rintro n f y A⟨k,I,f0,f1,f6,a,b⟩;simp only at f0 f1 f6 a b;have L:z l<=iR l:=by rw[tV];omega
  by_cases d:k<z l
  .obtain⟨e,j⟩:=getq d;have X:=ED (word:=word) l k e (z code) j;have bl:=rH (word:=word) l (k+1) (z code);have a1:(code++(cSs word (z code) (l.take k)).map Prod.fst).length=z code+(cSs word (z code) (l.take k)).length:=by rw[j7,j6]
   simp only[go_sem,f0,f1,f6,a,d,j,kW];refine cL (q k e j) b rfl E rfl ZN ?_;intro Q U v V W;rw[a1]at v;simp only[go_sem,a,ah (k:=k) a7];refine fD (n-1) a7 ⟨k+1,a7,?_⟩;simp only[go_sem,f0,f1,f6];grind
  .have w:k=z l:=a7;subst w;rw[E8]at b;simp only[go_sem,f6,a,d];refine cB (λi=>decide (K<=i)) ?_;exact⟨rfl,b.fin J⟩
def SP{slot size}{c}{a el}(Q:iu 220 [ipE c] (dt 0 c))(L:iu 99 [slS a] (ep a)):iu 219 [ipS (.mk 5 slot size [c] a el)] (tq (.mk 5 slot size [c] a el)):=by
 intro K G B word code g ob H d E o u J hl;have W:(tq (.mk 5 slot size [c] a el) word (z code))=(jS (z code) (cE (z code) 0 c) (λr=>cSs word r a)).map Prod.fst:=by simp only[tq,cS,B3,lU]
 have bd:z code+((cE (z code) 0 c).length+1+(cSs word (z code+(cE (z code) 0 c).length+1) a).length+1)<=1000000000:=by simp only[W,jS,j6,j7,j8,l5]at hl;omega
 refine hdF K Tryz.func219 rfl [] ?_;have X:csD (.mk 5 slot size [c] a el)=[.int .i64 5,.int .i64 slot,.int .i64 size,.sl [cxD c],.sl (uU a),.sl (uU el)]:=by simp only[csD,Ez]
 unfold ipS;rw[X];simp only[go_sem,d.t,d.b,E,aY];refine cL Q (Prog.start (K2:=K+33) d o u J a7) rfl E rfl ZN ?_;intro g1 av p1 q1 r1;have j:(code++dt 0 c word (z code)).length=z code+(cE (z code) 0 c).length:=by simp only[dt,j7,j6]
 generalize hA:code++dt 0 c word (z code)=A at*;simp only[go_sem];refine kK p1 rfl E rfl a7 ?_;intro g2 bn l O p2 o1 q2 r2;have m:z (A++[(⟨9,0,0,0⟩:Ins)])=z code+(cE (z code) 0 c).length+1:=by rw[j7,j];rfl
 simp only[go_sem];refine cL L p2 rfl E rfl ZN ?_;intro g3 b' n p q;rw[m]at n;simp only[go_sem];refine dG [⟨8,z code,0,0⟩] n rfl E a7 a7 rfl rfl ZN ?_;intro g4 v k x y;have k:Prog K (K+33+6) G B word (A++(⟨9,0,0,0⟩:Ins)::(ep a word (z code+(cE (z code) 0 c).length+1)++[(⟨8,z code,0,0⟩:Ins)])) g ob g4 v:=by have:=k;exact sa
 have f:(A++(⟨9,0,0,0⟩:Ins)::(ep a word (z code+(cE (z code) 0 c).length+1)++[(⟨8,z code,0,0⟩:Ins)])).length=z code+(cE (z code) 0 c).length+1+(cSs word (z code+(cE (z code) 0 c).length+1) a).length+1:=by simp only[j7,j8,l5,j,ep,j6];omega
 simp only[go_sem];refine jt k ((o1.same (p _ a7 a7) (p _ a7 a7) (q _ a7 a7) (q _ a7 a7)).same (x _ a7 a7) (x _ a7 a7) (y _ a7 a7 a7) (y _ a7 a7 a7)) rfl E rfl rfl a7 ?_;intro c0 I P;rw[f]at I;simp only[go_sem];refine cB (λi=>decide (K<=i)) ?_;refine⟨rfl,?_⟩;have e:code++tq (.mk 5 slot size [c] a el) word (z code)=A++(⟨9,((z code+(cE (z code) 0 c).length+1+(cSs word (z code+(cE (z code) 0 c).length+1) a).length+1:Nat):Int),0,0⟩:Ins)::(ep a word (z code+(cE (z code) 0 c).length+1)++[(⟨8,z code,0,0⟩:Ins)]):=by rw[W,<-hA];simp only[dt,ep,jS,C2,s7,x7,s9]
 rw[e];exact I.fin J
end
def Xv{w}{ps}{fi}{fw}:∀al s q,qL s<=al->al<=100000000000->rS w ps fi fw q s->iu 173 [ipS s] (tq s):=by intro al;induction al using Nat.strongRecOn with|ind al ih=>
 intro s q hN b3 V;obtain⟨kind,slot,size,e,th,el⟩:=s;have az:qL (.mk kind slot size e th el)=lQ e+iR th+iR el:=rfl;rw[rS]at V;obtain⟨an,bk,b7,Z⟩:=V;have L:=zi a7 λk s hs=>ih (qL s) ab8 s (q+1) (l7 _) ab8 (xT b7 hs);have b5:∀(k:Nat)(x:Ex)(d:Int),e[k]?=S x->iu 220 [ipE x] (dt d x):=λk x d I=>XP (pD x) x (q+1) d (l7 _) (by have:=pE I;omega) (uY bk I);have hE:csD (.mk kind slot size e th el)=[.int .i64 kind,.int .i64 slot,.int .i64 size,.sl (e.map cxD),.sl (uU th),.sl (uU el)]:=by simp only[csD,rF]
 intro K G B word code g ob H ht E o u J hl;have hp:=Prog.start (K2:=K+120) ht o u J a7;refine hdF K Tryz.func173 rfl [] ?_;unfold ipS;rw[hE];by_cases h5:kind=5
 .subst h5;have hn:z e=1:=by obtain⟨_,_,_,_,_,h⟩:=an;rcases h with⟨h,_⟩|⟨h,_⟩|⟨_,h⟩|⟨h,_⟩|⟨h,_⟩<;>omega
  obtain⟨c,rfl⟩:∃c,e=[c]:=by match e,hn with|[c],_=>simp
  simp only[go_sem];refine cL (SP (b5 0 c 0 rfl) L) hp rfl E c8 hl ?_;exact rb
 .generalize a:(if kind=4 then ifC (z code+(cEs (z code) 0 e).length) (λr=>cSs word r th) (!el.isEmpty) (λr=>cSs word r el)else uc word kind slot size (z e))=rest;have W:tq (.mk kind slot size e th el) word (z code)=(cEs (z code) 0 e).map Prod.fst++rest.map Prod.fst:=by simp only[tq,cS,l4 h5,C2,a]
  have bd:z code+(cEs (z code) 0 e).length+z rest<=1000000000:=by simp only[W,j6,j7]at hl;omega
  simp only[go_sem,h5,j6];refine fU (λn s=>∃k:Nat,n+k=z e/\s.f 0=aj G H 0/\s.f 1=.one (.d (.iptr [.int .i64 kind,.int .i64 slot,.int .i64 size,.sl (e.map cxD),.sl (uU th),.sl (uU el)]))/\s.f 19=ae (z e)/\s.f 20=ae k/\Prog K (K+120) G B word (code++(cEs (z code) 0 (e.take k)).map Prod.fst) g ob s.gen s.obj) (z e) ?_ ?_;.refine⟨0,rfl,?_⟩;rw[G8,cEs,x7,u7];simp only[go_sem];exact hp
  .rintro n f g1 av⟨k,hk,f0,f1,b,p,p1⟩;simp only at f0 f1 b p p1;have bo:z e<=lQ e:=by rw[qi];omega
   by_cases af:k<z e
   .obtain⟨x,I⟩:=getq af;have X:=zl e k x (z code) 0 I;have bl:=wv e (k+1) (z code) 0;have a1:(code++(cEs (z code) 0 (e.take k)).map Prod.fst).length=z code+(cEs (z code) 0 (e.take k)).length:=by rw[j7,j6]
    simp only[go_sem,f0,f1,b,p,af,I,aY];refine cL (b5 k x (0+k) I) p1 rfl E rfl ZN ?_;intro g2 bn p2 q2 r2;rw[a1]at p2;simp only[go_sem,p,ah (k:=k) a7];refine fD (n-1) a7 ⟨k+1,a7,?_⟩;simp only[go_sem,f0,f1,b];grind
   .have b0:k=z e:=a7;subst b0;rw[E8]at p1;have j:(code++(cEs (z code) 0 e).map Prod.fst).length=z code+(cEs (z code) 0 e).length:=by rw[j7,j6]
    have bs:∀g' Y K2,Prog K K2 G B word (code++(cEs (z code) 0 e).map Prod.fst++rest.map Prod.fst) g ob g' Y->ER K G B word (code++tq (.mk kind slot size e th el) word (z code)) g ob g' (λi=>if decide (K<=i)=T then N else Y i):=by
     intro g' Y K2 t;have:code++tq (.mk kind slot size e th el) word (z code)=code++(cEs (z code) 0 e).map Prod.fst++rest.map Prod.fst:=by rw[W,s9]
     rw[this];exact t.fin J
    generalize code++(cEs (z code) 0 e).map Prod.fst=A at*;have hk:kind=1\/kind=2\/kind=3\/kind=6\/kind=7\/kind=4:=by obtain⟨_,_,_,_,_,h⟩:=an;rcases h with⟨h,_⟩|⟨h,_⟩|⟨h|h|h,_⟩|⟨h,_⟩|⟨h,_⟩<;>omega
    rcases hk with rfl|rfl|rfl|rfl|rfl|rfl;.obtain rfl:[(⟨3,slot,0,0⟩,(z e:Int))]=rest:=a;simp only[go_sem,f0,f1,b,p,af];refine dG [⟨3,slot,0,0⟩] p1 rfl E a7 a7 rfl rfl (by rw[j];exact bd) ?_;exact ic
    .obtain rfl:[(⟨5,slot,size,0⟩,(z e:Int))]=rest:=a;simp only[go_sem,f1,b,p,af];refine iU aP mixed [K+58] [([0],[0],[],F),([1],[],[],F),([49],[],[],F),([50],[],[],F),([51],[],[],F),([1],[],[],F),([53],[],[],F),([54],[],[],F),([55],[],[],F),([52,56],[],[],F),([57],[],[0],F),([48,58],[],[],T)] 1 c9 rfl b9 ?_;simp only[go_sem];iterate 10 (refine aX (λ_ _ _ _ J=>by simp only[go_sem,f0,f1]at J|-;exact J) ?_)
     (refine dJ adq ?_);apply dQ;intro K' a';simp only[go_sem];refine dG [⟨5,slot,size,0⟩] p1 rfl E a7 a7 rfl rfl (by rw[j];exact bd) ?_;intro g2 bn p2 q2 r2;refine a' _ ?_;simp only[go_sem];refine cB (λi=>decide (K<=i)) ?_;exact⟨rfl,bs _ _ _ p2⟩
    .obtain rfl:[(⟨13,0,0,0⟩,(z e:Int))]=rest:=a;simp only[go_sem,f0,f1,b,p,af];refine dG [⟨13,0,0,0⟩] p1 rfl E a7 a7 rfl rfl (by rw[j];exact bd) ?_;exact ic
    .obtain rfl:[(⟨10,slot,0,0⟩,(z e:Int))]=rest:=a;simp only[go_sem,f0,f1,b,p,af];refine dG [⟨10,slot,0,0⟩] p1 rfl E a7 a7 rfl rfl (by rw[j];exact bd) ?_;exact ic
    .by_cases hz:0<z e
     .obtain rfl:[(⟨11,0,0,0⟩,(z e:Int))]=rest:=by rw[<-a];unfold uc;grind
      simp only[go_sem,f0,f1,b,p,af,j6,Int.natCast_pos,hz];refine dG [⟨11,0,0,0⟩] p1 rfl E a7 a7 rfl rfl (by rw[j];exact bd) ?_;exact ic
     .obtain rfl:leave word=rest:=by rw[<-a];unfold uc;grind
      simp only[go_sem,f0,f1,b,p,af,j6,Int.natCast_pos,hz];refine cL Jo p1 rfl E rfl ZN ?_;exact ic
    .simp only[B3]at a;cases U:el with|nil=>
 subst U;obtain rfl:(⟨9,(z A+1+(cSs word (z A+1) th).length:Nat),0,0⟩,1)::cSs word (z A+1) th=rest:=by rw[<-a,<-j];rfl
 have bd:z A+(1+(cSs word (z A+1) th).length)<=1000000000:=by rw[j8,<-j]at bd;omega
 have m:z (A++[(⟨9,0,0,0⟩:Ins)])=z A+1:=by rw[j7];rfl
 simp only[go_sem,f0,f1,b,p,af];refine kK p1 rfl E rfl a7 ?_;intro g2 bn l O p2 o1 q2 r2;simp only[go_sem,f0,f1];refine cL L p2 rfl E rfl ZN ?_;intro g3 b' p3 q3 r3;rw[m]at p3;have p3:Prog K (K+120+6) G B word (A++(⟨9,0,0,0⟩:Ins)::ep th word (z A+1)) g ob g3 b':=by have:=p3;exact sa
 simp only[go_sem,f1,uU,l5];refine jt p3 (o1.same (q3 _ a7 a7) (q3 _ a7 a7) (r3 _ a7 a7) (r3 _ a7 a7)) rfl E rfl rfl ZN ?_;intro cd p4 r4;simp only[go_sem];refine kD (λi=>decide (K<=i)) ?_;refine⟨rfl,bs _ _ (K+120+6) ?_⟩;grind;|cons y Q=>
 rw[<-U];have bz:el.isEmpty=F:=by rw[U];rfl
 have b4:0<z el:=by rw[U];simp
 have bf:¬(z el:Int)=0:=a7;obtain rfl:(⟨9,(z A+1+(cSs word (z A+1) th).length+1:Nat),0,0⟩,1)::(cSs word (z A+1) th++(⟨8,(z A+1+(cSs word (z A+1) th).length+1+(cSs word (z A+1+(cSs word (z A+1) th).length+1) el).length:Nat),0,0⟩,0)::cSs word (z A+1+(cSs word (z A+1) th).length+1) el)=rest:=by rw[<-a,<-j,bz];rfl
 have bd:z A+(1+(cSs word (z A+1) th).length+1+(cSs word (z A+1+(cSs word (z A+1) th).length+1) el).length)<=1000000000:=by simp only[j8,j7,<-j]at bd;omega
 have m:z (A++[(⟨9,0,0,0⟩:Ins)])=z A+1:=by rw[j7];rfl
 simp only[go_sem,f0,f1,b,p,af];refine kK p1 rfl E rfl a7 ?_;intro g2 bn l O p2 o1 q2 r2;simp only[go_sem,f0,f1];refine cL L p2 rfl E rfl ZN ?_;intro g3 b' p3 q3 r3;rw[m]at p3;have o1:=o1.same (q3 _ a7 a7) (q3 _ a7 a7) (r3 _ a7 a7) (r3 _ a7 a7);have e7:(A++[(⟨9,0,0,0⟩:Ins)]++ep th word (z A+1)).length=z A+1+(cSs word (z A+1) th).length:=by rw[j7,m];simp only[ep,j6]
 simp only[go_sem,f0,f1,NZ,bf];refine kK p3 rfl E rfl a7 ?_;intro g4 cd b1 b2 p4 o2 q4 r4;have o1:=o1.same (q4 _ a7 a7) (q4 _ a7 a7) (r4 _ a7 a7 a7) (r4 _ a7 a7 a7);have p4:Prog K (K+120+6+6) G B word (A++(⟨9,0,0,0⟩:Ins)::(ep th word (z A+1)++[(⟨8,0,0,0⟩:Ins)])) g ob g4 cd:=by have:=p4;exact sa
 have ar:(A++(⟨9,0,0,0⟩:Ins)::(ep th word (z A+1)++[(⟨8,0,0,0⟩:Ins)])).length=z A+1+(cSs word (z A+1) th).length+1:=by simp only[j7,j8,l5,ep,j6];omega
 simp only[go_sem];refine jt p4 o1 rfl E rfl rfl a7 ?_;intro c0 p5 P;rw[ar]at p5;have o2:=o2.same rfl rfl (P _ a7) (P _ a7);have bc:(A++(⟨9,((z A+1+(cSs word (z A+1) th).length+1:Nat):Int),0,0⟩:Ins)::(ep th word (z A+1)++[(⟨8,0,0,0⟩:Ins)])).length=z A+1+(cSs word (z A+1) th).length+1:=by simp only[j7,j8,l5,ep,j6];omega
 simp only[go_sem,f0,f1];refine cL (zi a7 λk s hs=>ih (qL s) ab8 s (q+1) (l7 _) ab8 (xT Z hs)) p5 rfl E rfl ZN ?_;intro g6 v p6 q6 r6;rw[bc]at p6;have o2:=o2.same (q6 _ a7 a7) (q6 _ a7 a7) (r6 _ a7 a7) (r6 _ a7 a7);have p6:Prog K (K+120+6+6) G B word ((A++(⟨9,((z A+1+(cSs word (z A+1) th).length+1:Nat):Int),0,0⟩:Ins)::ep th word (z A+1))++(⟨8,0,0,0⟩:Ins)::ep el word (z A+1+(cSs word (z A+1) th).length+1)) g ob g6 v:=by have:=p6;exact sa
 have b6:(A++(⟨9,((z A+1+(cSs word (z A+1) th).length+1:Nat):Int),0,0⟩:Ins)::ep th word (z A+1)).length=(A++[(⟨9,0,0,0⟩:Ins)]++ep th word (z A+1)).length:=b9;have ca:((A++(⟨9,((z A+1+(cSs word (z A+1) th).length+1:Nat):Int),0,0⟩:Ins)::ep th word (z A+1))++(⟨8,0,0,0⟩:Ins)::ep el word (z A+1+(cSs word (z A+1) th).length+1)).length=z A+1+(cSs word (z A+1) th).length+1+(cSs word (z A+1+(cSs word (z A+1) th).length+1) el).length:=by simp only[j7,j8,ep,j6];omega
 rw[<-b6]at o2;simp only[go_sem];refine jt p6 o2 rfl E rfl rfl a7 ?_;intro ad p7 r7;rw[ca]at p7;simp only[go_sem];refine cB (λi=>decide (K<=i)) ?_;refine⟨rfl,bs _ _ (K+120+6+6) ?_⟩;grind
def Bj(fs:List Src.CFn):Nat:=(fs.map λx=>iR x.body).sum
def uW(fs:List Src.CFn)(k:Nat):Nat:=Bj (fs.take k)
def Hm fs k:uW fs k<=Bj fs:=by
 conv=>rhs;rw[<-G3 k fs]
 simp only[uW,Bj,C2,O8];omega
variable{w:Int}{ps:Sig}{fs:List Src.CFn}{x:Src.CFn}
def Cy{k}(h:fs[k]?=S x):uW fs (k+1)=uW fs k+iR x.body:=by simp only[uW,Bj,C1,h,I8,C2,O8,s7,x7,H2,UL];omega
def er(x:Ins):List D:=[.int .i64 x.op,.int .i64 x.a,.int .i64 x.b,.int .u32 x.n]
abbrev xI(l:Lower.Code):D:=.sl ((l.map Prod.fst).map er)
def SQ{fi}{a}{l}{q}(c:iR l<=100000000000)(V:rSs w ps fi a q l):iu 99 [slS l] (ep l):=zi a7 λk s hs=>Xv (qL s) s q (l7 _) ab8 (xT V hs)
def Xw{fi}{n}(V:rSs w ps fi n 1 x.body)(q:iR x.body<=100000000000)(hl:z (codeOf x.word x.body)<=1000000000):aR Tryz.prog 60 [.agg ((cfD x).map .d)] (·=.one (.d (xI (codeOf x.word x.body)))):=by
 refine hdP Tryz.func60 rfl [2] λg=>?_;have G:z (cSs x.word 0 x.body)+z (leave x.word)<=1000000000:=by rw[codeOf,j7]at hl;exact hl
 simp only[go_sem,cfD];refine Il _ (dX (t:=3) (b:=20) (j:=1) (sz:=4) rfl rfl rfl a8) ?_;simp only[St.claimAt];have r:Prog 21 21 3 20 x.word [] (upd (upd (upd g 1 (nxC 132 (g 1))) 3 (nxC 197 (g 3))) 20 (g 20+1)) _ _ _:=Prog.start (ob:=upd (upd (upd (upd (upd (λ_=>N) 1 (S [ag x.p,ag x.slots,ag x.first,bO x.word,aw (x.body.map csD)])) 3 (S [bO F,.d .nsl])) 3 (S [bO x.word,.d .nsl])) 3 (S [bO x.word,.osl 20 (g 20+1) 4 0 0])) 20 (S []))
  ⟨c8,c8,a8⟩ a8 a8 abO (l7 _);refine cL (SQ q V) r rfl c8 (by simp only[slS,rG];rfl) ZN ?_;intro I av u v J;have a1:([]++ep x.body x.word (z ([]:List Ins))).length=z (cSs x.word 0 x.body):=by simp only[ep,A3,j6,l5]
 simp only[go_sem];refine cL Jo u rfl c8 rfl ZN ?_;intro A bn k E K;have e:[]++ep x.body x.word (z ([]:List Ins))++(leave x.word).map Prod.fst=(codeOf x.word x.body).map Prod.fst:=by simp only[ep,codeOf,A3,C2,l5]
 rw[e]at k;have g3:A 3=nxC 197 (g 3):=by rw[E 3 a8 a8,v 3 a8 a8];simp[upd]
 simp only[go_sem,k.tape.t,g3];refine⟨_,⟨_,fJ rfl ((codeOf x.word x.body).map Prod.fst) er k.tape.b c8 (λa _ y l=>?_) (λ_ _=>rfl) (j6 _),rfl⟩,rfl⟩;simp only[er,A0,A9,D8]at l;rcases l with rfl|rfl|rfl|rfl<;>rfl
def sfD(x:Src.CFn):List D:=[.int .i64 x.p,.int .i64 x.slots,.int .i64 x.first,.bool x.word,xI (codeOf x.word x.body)]
def kX(w:Int)(fs:List Src.CFn):AV:=.agg [ag w,aw (fs.map sfD)]
def SS x:z (sfD x)=5:=rfl
def VM(fs:List Src.CFn):Prop:=∀x∈fs,z (codeOf x.word x.body)<=1000000000
def Xx(X:Bj fs<=100000000000)(hF:z fs<=1000000)(m:VM fs)(V:∀k x,fs[k]?=S x->rSs w ps k x.word 1 x.body):aR Tryz.prog 34 [tg ⟨w,fs⟩] (·=kX w fs):=by
 refine hdR Tryz.func34 rfl [.cell 2 87] λg=>?_;unfold tg;simp only[go_sem,j6];refine Ds _ (dX (t:=3) (b:=30) (j:=1) (sz:=5) rfl rfl rfl a8) (λn s=>∃k:Nat,n+k=z fs/\s.f 2=aj 2 (s.gen 2) 0/\s.f 3=aj 3 (s.gen 3) 0/\s.f 10=.one (aw (fs.map cfD))/\s.f 11=ae (z fs)/\s.f 12=ae k/\s.obj 2=S [ag 0,.d .nsl]/\s.obj 3=S [ag w,.osl 30 (s.gen 30) 5 0 k]/\s.obj 30=S ((fs.take k).flatMap λx=>(sfD x).map .d)) (z fs) ?_ ?_;.refine⟨0,rfl,?_⟩;simp only[St.claimAt];simp only[go_sem,J2];try rfl
 .clear g;rintro n f g ob⟨k,hk,q,f3,e,r,h,v,o3,p⟩;simp only at q f3 e r h v o3 p;have K:∀l:List Src.CFn,z (l.flatMap λx=>(sfD x).map C.d)=z l*5:=by intro l;induction l with|nil=>rfl;|cons a l L=>simp only[A8,j7,L,j6,SS,j8];omega
  by_cases B:k<z fs
  .obtain⟨x,I⟩:=getq B;have u:iR x.body<=100000000000:=by have Z:=Cy I;have h3:=Hm fs (k+1);omega
   have Y:z (fs.take k)=k:=by rw[E5];omega
   simp only[go_sem,e,r,h,B,I,cfD];refine iU aP mixed [29,30,3] [([3],[0],[],F),([16],[0],[],F),([5],[],[],F),([18],[],[],F),([5],[],[],F),([20],[],[],F),([5],[],[],F),([22],[],[],F),([5],[],[],F),([24],[],[],F),([5],[],[],F),([26],[],[],F),([19,21,23,25,27],[],[],F),([28],[],[0],F),([17,29],[],[1],F),([3],[],[],F),([31,30],[],[],T)] 3 c9 rfl a8 ?_;simp only[go_sem];iterate 11 (refine aX (λ_ _ _ _ J=>by simp only[go_sem,f3,o3]at J|-;exact J) ?_)
   apply aX;.intro O ga Q G J;simp only[go_sem]at J|-;refine AH rfl (Xw (V k x I) u (m x (l8 I))) c8 ?_;exact sT
   (refine aX abG ?_);(refine dJ abG ?_);apply dJ
   .intro O ga Q G J;simp only[go_sem,p,K,Y]at J|-;refine⟨?_,?_,J⟩;.omega
    .exact⟨a8,a7⟩
   (refine aX abG ?_);apply dQ;intro G U;simp only[go_sem,o3];refine U _ ?_;simp only[go_sem,h,ah (k:=k) a7];refine fD (n-1) a7 ⟨k+1,a7,?_⟩;simp only[go_sem,q,f3,e,r,v];rw[C1,I,O7,s6 ZN];rfl
  .have W:k=z fs:=a7;subst W;simp only[go_sem,q,f3,r,h,v,o3,B];rw[E8]at p;refine⟨_,⟨[.int .i64 w,.sl (fs.map sfD)],rfl,λi c A=>?_,rfl⟩,rfl⟩;match i,A with
 |0,A=>cases A;exact⟨_,rfl,.d _⟩;|1,A=>
 cases A;refine⟨_,rfl,fJ rfl fs sfD ?_ rfl (λa _ y H=>?_) (λ_ _=>rfl) rfl⟩;.grind[upd]
 .simp only[sfD,A0,A9,D8]at H;rcases H with rfl|rfl|rfl|rfl|rfl<;>rfl
end
section
open Go Go.Am Go.Lower
open Go.Src (cnE vp cnS sW ab bN)
mutual
theorem Oa:∀e:Ex,pD e+1=cnE e
 |.mk _ _ _ _ _ kids=>by rw[pD,cnE,wm kids]
theorem wm:∀l:List Ex,lQ l=vp l
 |[]=>by rfl
 |e::l=>by rw[lQ,vp,<-Oa e,wm l];omega
end
mutual
theorem Ob:∀e:Stm,qL e+1=cnS e
 |.mk _ _ _ e a el=>by rw[qL,cnS,wm e,sD a,sD el]
theorem sD:∀l:List Stm,iR l=sW l
 |[]=>by rfl
 |e::l=>by rw[iR,sW,<-Ob e,sD l];omega
end
def xm(l:List Src.Fn):(l.map λf=>Src.aI f.body).sum<=(l.map λf=>z f.p+z f.l+Src.aI f.body).sum:=by induction l with|nil=>simp;|cons a l b=>grind
def SV{p:Src.Prog}(h:bN p=0)(az:szP p<=1000000):aR Tryz.prog 34 [tg (ab p)] (·=kX (ab p).words (ab p).f):=by
 unfold szP at az;have a:=Src.FD (Src.ay p).1 p.f (Src.ay p).2;have b:=xm p.f;have e:((ab p).f.map λx=>sW x.body).sum<=1000000:=by unfold ab;simp only;omega
 refine Xx (ps:=Src.sigs p.f) ?_ ?_ ?_ (λk x I=>Src.HT h I);.unfold Bj;rw[show (λx:Src.CFn=>iR x.body)=λx=>sW x.body from funext λx=>sD x.body];omega
 .rw[Src.nY];omega
 .intro x I;have U:=Src.ZJ x.word x.body;have Z:=Src.UA (λx:Src.CFn=>sW x.body) I;omega
end
open Go Go.Am Go.Lower
attribute[local congr]ite_cc
section
variable{x:Ins}
def EE{ps:Sig}{word:Bool}{r:Int×Int}(h:takes ps word x=S r):x.op=1\/x.op=2\/x.op=3\/x.op=4\/x.op=5\/x.op=6\/x.op=7\/x.op=8\/x.op=9\/x.op=10\/x.op=11\/x.op=12\/x.op=13:=by unfold takes at h;grind
def ksD(l:List Int):D:=.sl (l.map λk=>[.int .i64 k])
def Xy{at':Nat}(l:at'<=1000000000):aR Tryz.prog 149 [.agg ((er x).map .d),ae at'] (·=.one (.d (ksD (next x at')))):=by
 refine hdP Tryz.func149 rfl [4] λg=>?_;obtain⟨op,a,b,n⟩:=x;have j:=ah (k:=at') a7;by_cases i:op=8;.subst i;simp only[go_sem,er];exact⟨_,⟨_,fJ (s:=⟨_,_,_⟩) rfl [a] (λk=>[.int .i64 k]) c8 rfl abo (λ_ _=>rfl) rfl,rfl⟩,rfl⟩
 by_cases m:op=9;.subst m;simp only[go_sem,er,j];exact⟨_,⟨_,fJ (s:=⟨_,_,_⟩) rfl [((at'+1:Nat):Int),a] (λk=>[.int .i64 k]) c8 rfl abo (λ_ _=>rfl) rfl,rfl⟩,rfl⟩
 by_cases H:op=11;.subst H;simp only[go_sem,er];rfl
 .simp only[go_sem,er,i,m,H,j];have e:next ⟨op,a,b,n⟩ at'=[((at'+1:Nat):Int)]:=by simp[next,i,m,H]
  rw[e];exact⟨_,⟨_,fJ (s:=⟨_,_,_⟩) rfl [((at'+1:Nat):Int)] (λk=>[.int .i64 k]) c8 rfl abo (λ_ _=>rfl) rfl,rfl⟩,rfl⟩
def SW(fs:List Src.CFn):Sig:=fs.map λx=>(x.p,x.word)
def xU(b:Bool):aR Tryz.prog 218 [bv b] (·=ae (if b then 1 else 0)):=by refine hdP Tryz.func218 rfl [2] λg=>?_;cases b<;>(simp only[go_sem])
def Oc{w:Int}{fs:List Src.CFn}{f:Nat}{W:Src.CFn}(hf:fs[f]?=S W){t p d:Int}(h:takes (SW fs) W.word x=S (t,p))(E:0<=t)(c:t<=d)(hd:d<=1000000000)(H:x.op=11->d=t):aR Tryz.prog 148 [kX w fs,ae f,.agg ((er x).map .d),ae d] (·=.tup [ae (if x.op=11 then 0 else d-t+p),bv T]):=by
 refine hdP Tryz.func148 rfl [8,9] λg=>?_;have u:=EE h;obtain⟨op,a,b,n⟩:=x;have v:f<z fs:=(l9.1 hf).1;unfold kX;simp only at u H;have j:IntKind.i64.wrap (d-t)=d-t:=by rw[wrap_i64]<;>omega
 have e:IntKind.i64.wrap (d-t+0)=d-t+0:=by rw[wrap_i64]<;>omega
 have i:IntKind.i64.wrap (d-t+1)=d-t+1:=by rw[wrap_i64]<;>omega
 rcases u with rfl|rfl|rfl|rfl|rfl|rfl|rfl|rfl|rfl|rfl|rfl|rfl|rfl;all_goals try (obtain⟨rfl,rfl⟩:_=t/\_=p:=by simpa[takes]using h)
 .simp only[go_sem,er,j,e,i,c]
 .simp only[go_sem,er,j,e,i,c]
 .simp only[go_sem,er,j,e,i,c]
 .simp only[go_sem,er,j,e,i,c]
 .simp only[go_sem,er,j,e,i,c]
 .simp only[go_sem,er,j,e,i,c]
 .simp only[go_sem,er,j,e,i,c]
 .simp only[go_sem,er,j,e,i,c]
 .simp only[go_sem,er,j,e,i,c]
 .by_cases l:a<0;.simp[takes,l]at h
  .obtain⟨k,rfl⟩:∃k:Nat,a=(k:Int):=⟨a.toNat,a7⟩;simp only[takes,SW,l,B1,C0,A4,Option.map_map]at h;cases o:fs[k]?with
 |none=>simp[o]at h;|some y=>have r:k<z fs:=(l9.1 o).1;have K:¬z fs<=k:=a7;have a1:(k:Int)<(z fs:Int):=a7;have s:¬(z fs:Int)<=(k:Int):=a7;have bk:(0:Int)<=(k:Int):=a7;cases hw:y.word with|false=>
  obtain⟨rfl,rfl⟩:y.p=t/\(0:Int)=p:=by grind
  have q:¬y.p<0:=a7;simp only[go_sem,er,o,r,K,a1,s,bk,l,hw,sfD,j6,q];refine eu aP mixed c9 ?_;simp only[go_sem,er,o,r,K,a1,s,bk,l,hw,sfD,j6,q];refine bF rfl (xU F) (dj rfl) rfl ?_;simp only[go_sem,er,o,r,K,a1,s,bk,l,hw,sfD,j6,q,j,e,c,B4];|true=>
  obtain⟨rfl,rfl⟩:y.p=t/\(1:Int)=p:=by grind
  have q:¬y.p<0:=a7;simp only[go_sem,er,o,r,K,a1,s,bk,l,hw,sfD,j6,q];refine eu aP mixed c9 ?_;simp only[go_sem,er,o,r,K,a1,s,bk,l,hw,sfD,j6,q];refine bF rfl (xU T) (dj rfl) rfl ?_;simp only[go_sem,er,o,r,K,a1,s,bk,l,hw,sfD,j6,q,j,i,c]
 .have A:=H rfl;have B:(0:Int)<=(f:Int):=a7;have az:(f:Int)<(z fs:Int):=a7;cases hw:W.word with|false=>
  obtain⟨rfl,rfl⟩:(0:Int)=t/\(0:Int)=p:=by simpa[takes,hw]using h
  simp only[go_sem,er,hf,B,az,v,sfD,j6,hw];refine ja rfl (xU F) c8 ?_;rintro _ rfl;simp only[go_sem,w9 A,B4];|true=>
  obtain⟨rfl,rfl⟩:(1:Int)=t/\(0:Int)=p:=by simpa[takes,hw]using h
  simp only[go_sem,er,hf,B,az,v,sfD,j6,hw];refine ja rfl (xU T) c8 ?_;rintro _ rfl;simp only[go_sem,w9 A]
 .simp only[go_sem,er,j,e,i,c]
 .simp only[go_sem,er,j,e,i,c]
end
def icells(l:List Int):List C:=l.map λk=>ag k
def dA l:z (icells l)=z l:=by simp[icells]
def kz l(k:Nat):(icells l)[k]?=(l[k]?).map λk=>ag k:=by simp[icells]
def kA l k v:(icells l).set k (ag v)=icells (l.set k v):=by simp[icells]
def nS a b:icells (a++b)=icells a++icells b:=by simp[icells]
structure xn (G D:Nat) (l:List Int) (g:Nat->Nat) (ob:Obs):Prop where t:ob G=some [.osl D (g D) 1 0 l.length]d:∃r:List Int,ob D=some (icells (l++r))
variable{l:List Int}{B G D:Nat}{g:Nat->Nat}{ob:Obs}{H:Nat}
def Xz(hB:∀i,B<=i->ob i=N)(hT:G<B)(h:xn G D l g ob)(E:g G=H):dS Tryz.prog 146 [aj G H 0] g ob (λr g' Y=>g'=g/\Y=ob/\r=ae (z l)) (λ_ _ _=>False):=by refine hdM B [] Tryz.func146 rfl [.tmp 2] b9 hB λO bc s0 w0=>?_;obtain⟨U,r,Z⟩:=h;simp only[go_sem,U,Z,E];refine⟨_,ai.refl _,?_⟩;simp only[go_sem];exact bS.nil (λi a=>⟨rfl,rfl⟩) ⟨_,_,rfl,.one (.d _),rfl⟩ ⟨rfl,rfl,rfl⟩
def Hn{B}:∀c∈icells l,og B c:=λc a=>by obtain⟨x,_,rfl⟩:=E6.1 a;trivial
def Od{x}(hB:∀i,B<=i->ob i=N)(hT:G<B)(hD:D<B)(a:G≠D)(h:xn G D l g ob)(E:g G=H)(hl:z l<=1000000000):dS Tryz.prog 145 [aj G H 0,ae x] g ob (λ_ g' Y=>xn G D (l++[x]) g' Y/\(∀i,i≠D->g' i=g i)/\∀i,i≠G->i≠D->Y i=ob i) (λ_ _ _=>False):=by
 refine hdM B [G,D] Tryz.func145 rfl [] ZN hB λO bc s0 w0=>?_;obtain⟨U,r,Z⟩:=h;have o:∀k,(G=B+k)=False:=λk=>by grind
 have q:∀k,(D=B+k)=False:=λk=>by grind
 have s:(G=D)=False:=by simp[a]
 have j:(D=G)=False:=by simp[C5 a]
 simp only[go_sem,o,q,s,U,Z,E,dA,j7,bm];refine⟨a7,⟨a8,a7⟩,?_⟩;refine⟨_,ai.refl _,?_⟩;simp only[go_sem];refine⟨⟨λi d hn=>?_,λi d n b=>?_⟩,[],rfl,⟨?_,?_⟩,λi d=>?_,λi d J=>?_⟩;.exact X1
 .simp only[A0,A9,D8]at d;rcases d with rfl|rfl;.simp[upd]at b;subst b;intro c b;rw[C8.1 b];exact hD
  .simp[upd,j]at b;subst b;intro c b;rcases C6.1 b with b|b;.exact Hn c (N4 b)
   .rw[C8.1 b];trivial
 .simp[kS,iA,upd]
 .simp_all[iA,upd,icells]
 .exact Lm
 grind[iA]
def ach{x}(hB:∀i,B<=i->ob i=N)(hT:G<B)(hD:D<B)(a:G≠D)(h:xn G D (l++[x]) g ob)(E:g G=H)(hl:z l<=1000000000):dS Tryz.prog 147 [aj G H 0] g ob (λr g' Y=>r=ae x/\xn G D l g' Y/\g'=g/\∀i,i≠G->Y i=ob i) (λ_ _ _=>False):=by
 refine hdM B [G] Tryz.func147 rfl [.tmp 2] ZN hB λO bc s0 w0=>?_;obtain⟨U,r,Z⟩:=h;have q:∀k,(G=B+k)=False:=λk=>by grind
 have s:(G=D)=False:=by simp[a]
 have o:(D=G)=False:=by simp[C5 a]
 have t:z (l++[x])=z l+1:=b9;rw[t]at U;have u:IntKind.i64.wrap (((z l+1:Nat):Int)-1)=(z l:Int):=by rw[wrap_i64]<;>omega
 have v:(l++[x]++r)[z l]?=S x:=b9;have w:(0:Int)<=(z l:Int):=a7;simp only[go_sem,U,Z,E,u,kz,v,w];refine⟨a7,a7,a7,?_⟩;refine⟨_,ai.refl _,?_⟩;simp only[go_sem];refine⟨⟨λi b hn=>?_,λi b n j=>?_⟩,[ae x],⟨_,_,rfl,.one (.d _),rfl⟩,rfl,⟨?_,x::r,?_⟩,Cu (λi b=>rfl),λi b=>?_⟩;.have U:i≠G:=λe=>hn ac3;exact⟨nu,nu⟩
 .simp only[A0,A9,D8]at b;subst b;simp[upd]at j;subst j;intro c j;rw[C8.1 j];exact hD
 .simp_all[Cu,iA,upd]
 .simp_all[iA]
 .simp[iA,b]
end Go.Proofs.YtfdbpgoicedpcaaGreatDoor.Low
namespace Go.Emit
open Go.Lower (Ins Code codeOf takes next Inv left)
def visit(A:Lower.Code):List Int->List Int×List Nat->List Int×List Nat|[],st=>st|y::l,st=>visit A l (if (st.1[y.toNat]?.getD 0)<0 then(st.1.set y.toNat (((A[y.toNat]?).map Prod.snd).getD 0),st.2++[y.toNat])else st)
def search(A:Lower.Code):Nat->List Int×List Nat->List Int|0,st=>st.1|n+1,st=>match st.2.getLast? with|none=>st.1|some a=>match A[a]?with|none=>st.1|some x=>search A n (visit A (next x.1 a) (st.1,st.2.dropLast))
def bX(A:Lower.Code):List Int:=search A (z A) ((List.replicate (z A) (-1)).set 0 0,[0])
def GR A n out:search A n (out,[])=out:=by cases n<;>rfl
def DV A n out c a{x}(h:A[a]?=S x):search A (n+1) (out,c++[a])=search A n (visit A (next x.1 a) (out,c)):=by grind[search]
variable{l:List Int}{out:List Int}{c:List Nat}
def yN{A}{y}{u d}(h:out[y.toNat]?=S u)(L:u<0)(hd:(A[y.toNat]?).map Prod.snd=S d):visit A (y::l) (out,c)=visit A l (out.set y.toNat d,c++[y.toNat]):=by simp only[visit,h,hd,B6,L,B3]
def yO{A}{y}{u}(h:out[y.toNat]?=S u)(L:¬u<0):visit A (y::l) (out,c)=visit A l (out,c):=by simp only[visit,h,B6,L,B1]
def deepest(l:List Int)(d:Int):Int:=l.foldl max d
def uO a l d:deepest (a::l) d=deepest l (max d a):=rfl
def fe(n:Nat):Nat->List (List Int)->Int->List Int×List Int×Int|_,[],w=>([],[],w)|k,o::l,w=>let b:=if k+1=n then w else w+1
 let r:=fe n (k+1) l (b+deepest o 0)
 (w::r.1,b::r.2.1,r.2.2)
structure Plan where
 depths:List (List Int)back:List Int
 base:List Int
 data:Int
def dY(w:Int)(fs:List Src.CFn):Plan:=let ds:=fs.map λx=>bX (codeOf x.word x.body)
 let r:=fe (z fs) 0 ds w
 ⟨ds,r.1,r.2.1,r.2.2⟩
def DW n:∀l k w o,fe n k (l++[o]) w=let r:=fe n k l w
 let b:=if k+z l+1=n then r.2.2 else r.2.2+1
 (r.1++[r.2.2],r.2.1++[b],b+deepest o 0)|[],k,w,o=>by rfl;|a::l,k,w,o=>by simp only[z6,fe,DW n l,j8];grind
def yP n:∀l k w,z (fe n k l w).1=z l/\z (fe n k l w).2.1=z l|[],k,w=>by simp[fe];|a::l,k,w=>by simp only[fe,j8];exact⟨by rw[(yP n l _ _).1],by rw[(yP n l _ _).2]⟩
abbrev MI:=Int×Int×Int×Int
abbrev Ho:=Int×Int×Int
structure Wr where
 code:List MI
 holes:List Ho
def gg:Nat->Wr:=λ_=>⟨[],[]⟩
def aE(op a b c:Int):Nat->Wr:=λ_=>⟨[(op,a,b,c)],[]⟩
def aJ(op a f pl:Int):Nat->Wr:=λn=>⟨[(op,a,0,0)],[((n:Int),f,pl)]⟩
def aD(x y:Nat->Wr):Nat->Wr:=λn=>⟨(x n).code++(y (n+z (x n).code)).code,(x n).holes++(y (n+z (x n).code)).holes⟩
def vR:List (Nat->Wr)->Nat->Wr|[]=>gg|[x]=>x|x::y::l=>aD x (vR (y::l))
def eN(P:Plan)(f:Nat)(V reg a:Int):Nat->Wr:=aE 16 reg 0 ((P.base[f]?).getD 0+V-a)
def ey(P:Plan)(f:Nat)(V reg a:Int):Nat->Wr:=aE 17 reg 0 ((P.base[f]?).getD 0+V-a)
def hi16(n:Int):Int:=(n/65536+9223372036854775808)%18446744073709551616-9223372036854775808
def lY(reg n:Int):Nat->Wr:=if 65535<n then aD (aE 1 reg 0 (n%65536)) (aE 2 reg 0 (hi16 n))else aE 1 reg 0 (n%65536)
def mJ(fs:List Src.CFn)(P:Plan)(f:Nat)(V:Int):Nat->Wr:=if f+1=z fs then aE 26 0 0 0 else let back:=aD (aE 16 14 0 ((P.back[f]?).getD 0)) (aE 22 14 0 0)
 if ((fs[f]?).map (·.word)).getD F then aD (eN P f V 1 1) back else back
def kU(a:Int):Nat->Nat->Wr|0=>gg|k+1=>aD (kU a k) (aE 17 0 0 (a+k))
def ku(a b:Int):Nat->Wr:=if b-a<=6 then kU a (b-a).toNat elseλn=>⟨[(1,1,0,a),(1,2,0,b),(17,0,1,0),(4,1,1,15),(14,3,1,2),(20,3,0,(n:Int)+2)],[]⟩
def nM(P:Plan)(f:Nat)(V u first:Int):Nat->Nat->Wr|0=>gg|k+1=>aD (nM P f V u first k) (aD (eN P f V 1 (u-k)) (aE 17 1 0 (first+k)))
def xl(fs:List Src.CFn)(P:Plan)(f:Nat)(V a:Int):Nat->Wr:=match fs[a.toNat]?with|none=>gg|some y=>aD (nM P f V y.p y.first y.p.toNat) (aD (aJ 21 14 a (-1)) (if y.word then ey P f V 1 y.p else gg))
def mK(fs:List Src.CFn)(P:Plan)(f:Nat)(V:Int)(x:Ins):Nat->Wr:=if x.op=1 then aD (lY 1 x.n) (ey P f V 1 0)else if x.op=2 then aD (aE 16 1 0 x.a) (ey P f V 1 0)else if x.op=3 then aD (eN P f V 1 1) (aE 17 1 0 x.a)else if x.op=4 then aD (eN P f V 1 1) (aD (aE 25 1 0 x.b) (aD (aE 16 1 1 x.a) (ey P f V 1 1)))else if x.op=5 then aD (eN P f V 1 2) (aD (aE 25 1 0 x.b) (aD (eN P f V 2 1) (aE 17 2 1 x.a)))else if x.op=6 then aD (eN P f V 1 2) (aD (eN P f V 2 1) (aD (aE x.a 1 1 2) (ey P f V 1 2)))else if x.op=7 then aD (eN P f V 1 1) (aD (aE 15 1 1 0) (ey P f V 1 1))else if x.op=8 then aJ 18 0 f x.a else if x.op=9 then aD (eN P f V 1 1) (aJ 19 1 f x.a)else if x.op=10 then xl fs P f V x.a else if x.op=11 then mJ fs P f V else if x.op=12 then aD (aE 23 1 0 0) (ey P f V 1 0)else if x.op=13 then aD (eN P f V 1 1) (aE 24 1 0 0)else gg
def lz(fs:List Src.CFn)(P:Plan)(f:Nat):Nat->Wr:=if f+1=z fs then gg else match fs[f]?with|none=>gg|some y=>aD (aE 17 14 0 ((P.back[f]?).getD 0)) (ku (y.first+y.p) (y.first+y.slots))
def iw(fs:List Src.CFn)(P:Plan)(f:Nat)(A:Lower.Code)(ds:List Int):Nat->Nat->Wr|0=>lz fs P f|k+1=>aD (iw fs P f A ds k) (match A[k]?,ds[k]?with|some x,S d=>if 0<=d then mK fs P f d x.1 else gg|_,_=>gg)
def placesOf(fs:List Src.CFn)(P:Plan)(f:Nat)(A:Lower.Code)(ds:List Int)(n:Nat):List Int:=(List.range (z A)).map λk=>((n+z (iw fs P f A ds k n).code:Nat):Int)
structure jE where
 code:List MI
 holes:List Ho
 ent:List Int
 pls:List (List Int)
def fE(fs:List Src.CFn)(P:Plan)(d:jE)(f:Nat):jE:=match fs[f]?,P.depths[f]?with|some y,S ds=>let A:=codeOf y.word y.body
 let w:=iw fs P f A ds (z A) (z d.code)
 ⟨d.code++w.code,d.holes++w.holes,d.ent.set f (z d.code),d.pls.set f (placesOf fs P f A ds (z d.code))⟩|_,_=>d
def start(fs:List Src.CFn)(P:Plan):jE:=fE fs P ⟨[(1,15,0,1)],[],List.replicate (z fs) 0,List.replicate (z fs) []⟩ (z fs-1)
def sR(fs:List Src.CFn)(P:Plan):Nat->jE|0=>start fs P|k+1=>fE fs P (sR fs P k) k
def whole(fs:List Src.CFn)(P:Plan):jE:=sR fs P (z fs-1)
def place(d:jE)(h:Ho):Int:=if 0<=h.2.2 then(((d.pls[h.2.1.toNat]?).getD [])[h.2.2.toNat]?).getD 0 else(d.ent[h.2.1.toNat]?).getD 0
def fill(d:jE)(code:List MI)(h:Ho):List MI:=match code[h.1.toNat]?with|some x=>code.set h.1.toNat (x.1,x.2.1,x.2.2.1,place d h)|none=>code
def filled(d:jE):List MI:=d.holes.foldl (fill d) d.code
end Go.Emit

