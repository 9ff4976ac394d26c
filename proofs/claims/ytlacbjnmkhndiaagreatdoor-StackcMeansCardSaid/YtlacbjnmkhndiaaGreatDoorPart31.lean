/- A part of the proof; no conditions. -/
import Derived.Test.YtlacbjnmkhndiaaGreatDoorPart30
set_option linter.unusedSimpArgs false
set_option linter.unusedVariables false
set_option linter.defProp false
open List renaming length -> z
open Option renaming some -> S, none -> N
open Bool renaming true -> T, false -> F
set_option maxHeartbeats 64000000
set_option maxRecDepth 100000
namespace Go.Src
section
attribute [local congr] Go.Am.ite_cc
open Go.Asm (Str)
def uE(p:Prog)(i:Nat)(f:Fn)(x:Us):Bool:=
 !(decide (x.2.1=1/\(du p f x.1).1≠1/\(du p f x.1).1≠2)||decide (x.2.1=3/\(du p f x.1).1≠3)||decide (x.2.1=4/\((du p f x.1).1≠4\/(i:Int)<=(du p f x.1).2)))
def fT(p:Prog)(i:Nat)(f:Fn):Bool:=dU (iB f)&&(gU f.body).all (uE p i f)
def rQ(p:Prog)(f:Fn)(x:Us):Bool:=if x.2.1=4 then(match p.funcs[(du p f x.1).2.toNat]? with|some g=>decide ((z g.params:Int)=x.2.2)|none=>T)else T
def vy(x:Us):Prop:=(x.2.1=1\/x.2.1=3\/x.2.1=4)/\0<=x.2.2
def OW(kind:Int)(name:Str)(n:Nat):∀x∈us1 kind name n,vy x:=by
 unfold us1
 (repeat' split)<;>simp[vy]
def OX(kind:Int)(name:Str)(n:Nat):∀x∈us2 kind name n,vy x:=by
 unfold us2
 (repeat' split)<;>simp[vy]
mutual
theorem OY:∀(e:Ex),∀x∈usE e,vy x
 |.mk kind _ _ name kids=>by rw[usE];exact I9.2 ⟨OW _ _ _,xy kids⟩
theorem xy:∀(l:List Ex),∀x∈ll l,vy x
 |[]=>λ_ h=>by rw[ll]at h;cases h
 |e::l=>by rw[ll];exact I9.2 ⟨OY e,xy l⟩
end
mutual
theorem OZ:∀(e:Stm),∀x∈usS e,vy x
 |.mk kind name e a el=>by rw[usS];exact I9.2 ⟨I9.2 ⟨I9.2 ⟨OX _ _ _,xy e⟩,qJ a⟩,qJ el⟩
theorem qJ:∀(l:List Stm),∀x∈gU l,vy x
 |[]=>λ_ h=>by rw[gU]at h;cases h
 |e::l=>by rw[gU];exact I9.2 ⟨OZ e,qJ l⟩
end
def pU{A:Type}{p q:A->Bool}:∀{l:List A},(∀x∈l,p x=q x)->l.all p=l.all q
 |[],_=>rfl
 |a::l,h=>by rw[E9,E9,h a a8,pU λx I=>h x We]
def KY(p:Prog)(i:Nat)(f:Fn)(x:Us)(h:vy x):uE p i f x=vU (λk n _=>bj (aQ (aO p) (aV f)) i k n) x:=by
 unfold uE vU bj;simp only;rw[zF];generalize aQ (aO p) (aV f) x.1=r;cases r with
 |none=>rcases h.1 with e|e|e<;>simp[e]
 |some y=>
   obtain⟨a,b⟩:=y;simp only;have U:((a:Int)=1↔a=1)/\((a:Int)=2↔a=2)/\((a:Int)=3↔a=3)/\((a:Int)=4↔a=4)/\((i:Int)<=(b:Int)↔¬b<i):=a7;simp only[ne_eq,U];rcases h.1 with e|e|e<;>rw[e]<;>by_cases c:a=1<;>by_cases d:a=2<;>by_cases E:a=3<;>by_cases g:a=4<;>by_cases j:b<i<;>simp[asK,c,d,E,g,j]<;>omega
def Es(p:Prog)(i:Nat)(f:Fn):fT p i f=jw p i f:=by
 unfold fT jw;rw[Bu,qQ,pU λx I=>KY p i f x (qJ _ x I)]
def KZ(p:Prog)(i:Nat)(f:Fn)(x:Us)(h:vy x)(b:uE p i f x=T):rQ p f x=vU (λk n a=>eP (aQ (aO p) (aV f)) p.funcs i k n a) x:=by
 unfold uE at b;unfold rQ vU eP;simp only;rw[zF]at b|-;generalize aQ (aO p) (aV f) x.1=r at b|-;cases r with
 |none=>rcases h.1 with e|e|e<;>simp[e]at b|-
 |some y=>
   simp only at b|-;rcases h.1 with e|e|e
   .simp[e,asK]
   .simp[e,asK]
   .have U:y.1=4/\y.2<i:=by
     rw[e]at b;simp at b;omega
    have c:=h.2;rw[l8 e,l8 ⟨by rw[e];rfl,U.1,U.2⟩];simp only[B3];cases p.funcs[y.2]? with
    |none=>rfl
    |some g=>simp only;rw[N5,B4,I3];omega
def HD(p:Prog):Nat:=
 if (dU (ea p) && bp (fT p) 0 p.funcs)=F then 4
 else match p.funcs.getLast? with
  |none=>0
  |some f=>if (p.funcs.all λf=>(gU f.body).all (rQ p f))=T/\f.name=Np/\f.params=[]/\f.word=F then 0 else 1
def my{A:Type}{c d:Nat->A->Bool}:∀(l:List A)(i:Nat),(∀k x,l[k]?=S x->c (i+k) x=d (i+k) x)->bp c i l=bp d i l
 |[],_,_=>rfl
 |a::l,i,h=>by
   have b:=my (c:=c) (d:=d) l (i+1) λk x I=>by
    have:=h (k+1) x Wk
    rwa [show i+(k+1)=i+1+k by omega]at this
   rw[bp,bp,show c i a=d i a from h 0 a rfl,b]
def wv{A:Type}{c:Nat->A->Bool}:∀{l:List A}{i k:Nat}{x:A},bp c i l=T->l[k]?=S x->c (i+k) x=T
 |a::l,i,0,x,h,I=>by cases I;rw[bp,s5]at h;exact h.1
 |a::l,i,k+1,x,h,I=>by
   rw[bp,s5]at h;rw[show i+(k+1)=i+1+k by omega];exact wv h.2 Wk
def qK{A:Type}{c:A->Bool}:∀(l:List A)(i:Nat),bp (λ_=>c) i l=l.all c
 |[],_=>rfl
 |a::l,i=>by rw[bp,E9,qK l]
def QA(p:Prog):HD p=iZ p:=by
 unfold HD iZ;rw[Bv,show bp (jw p) 0 p.funcs=bp (fT p) 0 p.funcs from my _ _ λk x _=>(Es p _ x).symm];by_cases a:(dU (ea p)&&bp (fT p) 0 p.funcs)=F
 .rw[l8 a,l8 a]
 rw[j8 a,j8 a]
 have a:bp (fT p) 0 p.funcs=T:=by
  have:(dU (ea p)&&bp (fT p) 0 p.funcs)=T:=by simpa using a
  exact(s5 _ _▸this).2
 have e:(p.funcs.all λf=>(gU f.body).all (rQ p f))=bp (xN p) 0 p.funcs:=by
  rw[<-qK _ 0];refine my _ _ λk x I=>?_;unfold xN;rw[qQ];have b:=wv a I;unfold fT at b;rw[s5,y8]at b;exact pU λy c=>KZ p (0+k) x y (qJ _ y c) (b.2 y c)
 rw[e];cases p.funcs.getLast?<;>rfl
end
end Go.Src
namespace Go.Proofs.YtlacbjnmkhndiaaGreatDoor
section
attribute [local congr] Go.Am.ite_cc
open Go Go.Am Go.Asm
open Go.Src (aL dU iB ea du Us gU uE rQ fT bp aD)
section
structure Sm (p:Src.Prog):Prop where
 v:p.vars.length<=100000
 a:p.arrays.length<=100000
 f:p.funcs.length<=100000
 fs:∀f∈p.funcs,(f.params.length<=100000/\f.locals.length<=100000)/\aD f.body<=100000
variable{o:cF}
def La(p:Src.Prog)(hp:Sm p):bP Tryz.prog 1 o 63 [bS p] (·=bv (dU (ea p)&&bp (fT p) 0 p.funcs)):=by
 refine hdG Tryz.func63 rfl [.tmp 2] λO bn s0 w0 g=>?_;obtain⟨X,hz⟩:∃X,(dU (ea p)&&bp (fT p) 0 p.funcs)=X:=⟨_,rfl⟩
 rw[hz];obtain⟨pv,pa,pf,B⟩:=hp;have hG:=rR p a7 a7 a7;have hF:=λi fn hi s=>HP (o:=o) p a7 a7 a7 i fn hi (by have:=(B fn (l6 hi)).1.1;omega) (by have:=(B fn (l6 hi)).1.2;omega) s;have az:z (ea p)<=300000:=by simp[ea];omega
 rw[bK]at hG hF|-;simp only[go_sem];refine ip rfl Xq ?_;rintro _ rfl;simp only[go_sem];refine ip rfl (by simp only[go_sem];exact zE (ea p) a7) ?_;rintro _ rfl;cases hu:dU (ea p)
 .obtain rfl:X=F:=by rw[<-hz,hu];rfl
  exact hx
 rw[hu,x6]at hz;clear hu;simp only[go_sem];refine dD (λk K=>bp (fT p) k (p.funcs.drop k)=X/\K.f 1=.one (.ptr 1 (K.gen 1) 0)/\K.obj 1=S [.d (.sl (p.vars.map λs=>[.str s])),.d (.sl (p.arrays.map arD)),.d (.sl (p.funcs.map fnD))]/\K.f 3=iv .i64 k) (z p.funcs) ⟨hz,?_⟩ ?_
 .exact hx
 rintro k f g1 av hk ⟨Z,q1,o1,l⟩;simp only at q1 o1 l;have hw:=ac (k:=k) a7;by_cases af:k<z p.funcs
 case neg=>
  have Q:¬(k:Int)<(z p.funcs:Int):=a7;rw[y9 a7,bp]at Z;subst Z;simp only[go_sem,q1,o1,l,Q,j6]
 have Q:(k:Int)<(z p.funcs:Int):=a7;obtain⟨fn,hs⟩:=getq af;have hg:=getD_at (f:=fnD) hs;have a6:fnD fn=[.str fn.name,.sl (fn.params.map λs=>[.str s]),.sl (fn.locals.map λs=>[.str s]),.bool fn.word,.sl (fn.body.map smD)]:=rfl;rw[a6]at hg;obtain⟨⟨i1,u⟩,i3⟩:=B fn (l6 hs);have hF:=hF k fn hs;have hN:=CP (o:=o) fn a7 a7;have hU:=HR (o:=o) (aD fn.body) fn.body (l7 _) a7;have ad:z (iB fn)<=200000:=by simp[iB];omega
 have Y:=Src.uJ fn.body;rw[uG]at hN;unfold eS at hU;rw[de hs,bp]at Z;unfold fT at Z;simp only[go_sem,q1,o1,l,Q,j6,hg];refine cG rfl Wd ?_;rintro _ rfl;simp only[go_sem];refine ip rfl (by simp only[go_sem];exact zE (iB fn) a7) ?_;rintro _ rfl;cases hu:dU (iB fn)
 .obtain rfl:X=F:=by rw[<-Z,hu];rfl
  exact hx
 rw[hu,x6]at Z;simp only[go_sem,q1,o1,l,hg];refine cG rfl (by simp only[go_sem];exact hU) ?_;rintro _ rfl;unfold qN;obtain⟨E,al⟩:∃E,gU fn.body=E:=⟨_,rfl⟩
 rw[al]at Z Y|-;obtain⟨y,hy⟩:∃y,E.all (uE p k fn)=y:=⟨_,rfl⟩
 rw[hy]at Z;simp only[go_sem];refine dD (λj K=>(E.drop j).all (uE p k fn)=y/\K.f 1=.one (.ptr 1 (K.gen 1) 0)/\K.obj 1=S [.d (.sl (p.vars.map λs=>[.str s])),.d (.sl (p.arrays.map arD)),.d (.sl (p.funcs.map fnD))]/\K.f 3=iv .i64 k/\K.f 4=.one (.d (.sl (E.map usD)))/\K.f 5=iv .i64 j) (z E) ⟨hy,?_⟩ ?_
 .simp only[go_sem,q1,o1,l]
 clear q1 o1 l;rintro j f g1 av hj ⟨hd,q1,o1,l,H,L⟩;simp only at q1 o1 l H L;have cu:=ac (k:=j) a7;by_cases G:j<z E
 case neg=>
  have bd:¬(j:Int)<(z E:Int):=a7;rw[y9 a7]at hd;obtain rfl:y=T:=hd.symm;rw[x6]at Z;simp only[go_sem,H,L,bd,j6,l,hw];refine bN af ⟨Z,?_⟩;exact SW
 have bd:(j:Int)<(z E:Int):=a7;obtain⟨x,I⟩:=getq G;obtain⟨U,h2⟩:=cQ hd I;have t:=getD_at (f:=usD) I;have w:usD x=[.str x.1,.int .i64 x.2.1,.int .i64 x.2.2]:=rfl;rw[w]at t;have b:uE p k fn x=F->X=F:=λe=>by rw[<-Z,h2 e,A7]
 have hF:=hF x.1;unfold uE at U b;obtain⟨A,hA⟩:∃A,(du p fn x.1).1=A:=⟨_,rfl⟩
 obtain⟨n,hn⟩:∃n,(du p fn x.1).2=n:=⟨_,rfl⟩
 obtain⟨s,a,c⟩:=x;simp only at hA hn hF U b t;rw[hA,hn]at U b hF;simp only[go_sem,H,L,bd,j6];refine bY aA mixed aE [] [([1],[],[],F),([3],[],[],F),([4],[],[],F),([5],[],[],F),([43,44],[],[],F),([45],[],[],F),([46],[],[],F),([41,42,47],[],[],F),([48],[],[],F),([40],[],[],F),([40],[],[],F),([49],[],[],F),([50],[],[],T)] 0 rfl c8 rfl b9 ?_;simp only[go_sem]
 iterate 7 (apply aj;(case hg=>first|exact x9|exact⟨_,rfl,by decide,rfl⟩);(case U=>intro fa ga oa K' J;simp only[go_sem,q1,o1,l,H,L,t]at J|-;exact J))
 refine aj (v:=.tup [iv .i64 A,iv .i64 n]) x9 (λfa ga oa K' J=>?_) ?_
 .exact U3
 iterate 4 (apply aj;(case hg=>first|exact x9|exact⟨_,rfl,by decide,rfl⟩);(case U=>intro fa ga oa K' J;simp only[go_sem]at J|-;exact J))
 refine bZ x9 ?_;intro K' a';simp only[go_sem];refine a' _ ?_;clear a' K';have b4:(a=1/\A=1)\/(a=1/\A=2)\/(a=3/\A=3)\/(a=4/\A=4/\¬(k:Int)<=n)\/(¬a=1/\¬a=3/\¬a=4)\/(a=1/\¬A=1/\¬A=2)\/(a=3/\¬A=3)\/(a=4/\¬A=4)\/(a=4/\A=4/\(k:Int)<=n):=a7;rcases b4 with h|h|h|h|h|h|h|h|h
 iterate 5
  .simp only[go_sem,q1,o1,l,H,L,t,h,cu]
   refine bN G ⟨U (by simp[h]),?_⟩;simp only[go_sem,q1,o1,l,H]
 iterate 4
  .obtain rfl:=b (by simp[h])
   simp only[go_sem,q1,o1,l,H,L,t,h]
def Br{A:Type}{l:List A}{a:A}(h:l[z l-1]?=S a):l.getLast?=S a:=by rw[NA];exact h
def Et(p:Src.Prog)(hp:Sm p)(c:bp (fT p) 0 p.funcs=T)(a:Src.Fn)(bf:p.funcs[z p.funcs-1]?=S a):
  bP Tryz.prog 1 o 64 [bS p] (·=bv (decide ((p.funcs.all λf=>(gU f.body).all (rQ p f))=T/\a.name=Src.Np/\a.params=[]/\a.word=F))):=by
 refine hdG Tryz.func64 rfl [.tmp 2] λO bn s0 w0 g=>?_;obtain⟨X,hz⟩:∃X,decide ((p.funcs.all λf=>(gU f.body).all (rQ p f))=T/\a.name=Src.Np/\a.params=[]/\a.word=F)=X:=⟨_,rfl⟩
 rw[hz];obtain⟨pv,pa,pf,B⟩:=hp;have hF:=λi fn hi s=>HP (o:=o) p a7 a7 a7 i fn hi (by have:=(B fn (l6 hi)).1.1;omega) (by have:=(B fn (l6 hi)).1.2;omega) s;rw[bK]at hF|-;obtain⟨q,hq⟩:∃q,(p.funcs.all λf=>(gU f.body).all (rQ p f))=q:=⟨_,rfl⟩
 rw[hq]at hz;simp only[go_sem];refine dD (λk K=>((p.funcs.drop k).all λf=>(gU f.body).all (rQ p f))=q/\K.f 1=.one (.ptr 1 (K.gen 1) 0)/\K.obj 1=S [.d (.sl (p.vars.map λs=>[.str s])),.d (.sl (p.arrays.map arD)),.d (.sl (p.funcs.map fnD))]/\K.f 3=iv .i64 k) (z p.funcs) ⟨hq,?_⟩ ?_
 .exact hx
 rintro k f g1 av hk ⟨Z,q1,o1,q3⟩;simp only at q1 o1 q3;have hw:=ac (k:=k) a7;by_cases af:k<z p.funcs
 case neg=>
  have Q:¬(k:Int)<(z p.funcs:Int):=a7;rw[y9 a7]at Z;rw[show q=T from Z.symm]at hz;have az:0<z p.funcs:=by have:=(l5.1 bf).1;omega
  have b4:IntKind.i64.wrap ((z p.funcs:Int)-1)=((z p.funcs-1:Nat):Int):=by rw[wrap_i64]<;>omega
  have hg:=getD_at (f:=fnD) bf;have a6:fnD a=[.str a.name,.sl (a.params.map λs=>[.str s]),.sl (a.locals.map λs=>[.str s]),.bool a.word,.sl (a.body.map smD)]:=rfl;rw[a6]at hg;have cz:Src.Np=[109,97,105,110]:=rfl;rw[cz]at hz;have dc:(0:Int)<=((z p.funcs-1:Nat):Int):=a7;simp only[go_sem,q1,o1,q3,Q,j6,b4,hg];by_cases e1:a.name=[109,97,105,110]
  case neg=>
   obtain rfl:X=F:=by rw[<-hz];simp[e1]
   simp only[go_sem,e1]
  by_cases e2:a.params=[]
  case neg=>
   obtain rfl:X=F:=by rw[<-hz];simp[e2]
   have:¬(z a.params:Int)=0:=λe=>e2 (y7 a7);simp only[go_sem,e1,j6,this]
  cases e3:a.word
  .obtain rfl:X=T:=by rw[<-hz];simp[e1,e2,e3]
   simp only[go_sem,e1,e2]
  .obtain rfl:X=F:=by rw[<-hz];simp[e3]
   simp only[go_sem,e1,e2]
 have Q:(k:Int)<(z p.funcs:Int):=a7;obtain⟨fn,hs⟩:=getq af;have hg:=getD_at (f:=fnD) hs;have a6:fnD fn=[.str fn.name,.sl (fn.params.map λs=>[.str s]),.sl (fn.locals.map λs=>[.str s]),.bool fn.word,.sl (fn.body.map smD)]:=rfl;rw[a6]at hg;obtain⟨⟨i1,u⟩,i3⟩:=B fn (l6 hs);have hF:=hF k fn hs;have hU:=HR (o:=o) (aD fn.body) fn.body (l7 _) a7;have Y:=Src.uJ fn.body;have an:=Src.qJ fn.body;have bo:=Src.wv c hs;unfold fT at bo;rw[s5,y8,C7]at bo;have bo:=bo.2;unfold eS at hU;obtain⟨b1,b2⟩:=cQ Z hs;simp only[go_sem,q1,o1,q3,Q,j6,hg];refine cG rfl (by simp only[go_sem];exact hU) ?_;rintro _ rfl;unfold qN;obtain⟨us,al⟩:∃us,gU fn.body=us:=⟨_,rfl⟩
 rw[al]at b1 b2 Y an bo|-;obtain⟨y,hy⟩:∃y,us.all (rQ p fn)=y:=⟨_,rfl⟩
 rw[hy]at b1 b2;simp only[go_sem];refine dD (λj K=>(us.drop j).all (rQ p fn)=y/\K.f 1=.one (.ptr 1 (K.gen 1) 0)/\K.obj 1=S [.d (.sl (p.vars.map λs=>[.str s])),.d (.sl (p.arrays.map arD)),.d (.sl (p.funcs.map fnD))]/\K.f 3=iv .i64 k/\K.f 4=.one (.d (.sl (us.map usD)))/\K.f 5=iv .i64 j) (z us) ⟨hy,?_⟩ ?_
 .simp only[go_sem,q1,o1,q3]
 clear q1 o1 q3;rintro j f g1 av hj ⟨hd,q1,o1,q3,q4,q5⟩;simp only at q1 o1 q3 q4 q5;have cu:=ac (k:=j) a7;by_cases G:j<z us
 case neg=>
  have bd:¬(j:Int)<(z us:Int):=a7;rw[y9 a7]at hd;simp only[go_sem,q4,q5,bd,j6,q3,hw];refine bN af ⟨b1 hd.symm,?_⟩;exact SW
 have bd:(j:Int)<(z us:Int):=a7;obtain⟨x,I⟩:=getq G;obtain⟨U,h2⟩:=cQ hd I;have t:=getD_at (f:=usD) I;have h:=l6 I;have ar:=an x h;have L:=bo x h;have w:usD x=[.str x.1,.int .i64 x.2.1,.int .i64 x.2.2]:=rfl;rw[w]at t;have hF:=hF x.1;unfold rQ at U h2;unfold uE at L;by_cases e4:x.2.1=4
 case neg=>
  rw[j8 e4]at U;simp only[go_sem,q1,o1,q3,q4,q5,bd,j6,t,e4,cu];refine bN G ⟨U rfl,?_⟩;simp only[go_sem,q1,o1,q3,q4]
 rw[l8 e4]at U h2;obtain⟨A,hA⟩:∃A,(du p fn x.1).1=A:=⟨_,rfl⟩
 obtain⟨n,hn⟩:∃n,(du p fn x.1).2=n:=⟨_,rfl⟩
 have W:=Src.zF p fn x.1
 have bk:0<=n/\n<z p.funcs:=by
  rw[hA,hn,e4]at L;simp at L;refine⟨?_,a7⟩;rw[<-hn,W];cases V:Src.aQ (Src.aO p) (Src.aV fn) x.1 with
  |none=>
    rw[W,V]at hA;simp only at hA;omega
  |some r=>simp
 rw[hn]at U h2;rw[hA,hn]at hF;obtain⟨m,rfl⟩:∃m:Nat,n=(m:Int):=⟨n.toNat,a7⟩
 rw[B3]at U h2;obtain⟨b,P⟩:=getq (l:=p.funcs) (k:=m) a7;rw[P]at U h2;simp only at U h2;have H:=getD_at (f:=fnD) P;have a6:fnD b=[.str b.name,.sl (b.params.map λs=>[.str s]),.sl (b.locals.map λs=>[.str s]),.bool b.word,.sl (b.body.map smD)]:=rfl;rw[a6]at H;simp only[go_sem,q1,o1,q3,q4,q5,bd,j6,t,e4];refine bY aA mixed aE [] [([1],[],[],F),([3],[],[],F),([4],[],[],F),([5],[],[],F),([38,39],[],[],F),([40],[],[],F),([41],[],[],F),([36,37,42],[],[],F),([43],[],[],F),([35],[],[],F),([35],[],[],F),([44],[],[],F),([45],[],[],T)] 0 rfl c8 rfl b9 ?_;simp only[go_sem]
 iterate 7 (apply aj;(case hg=>first|exact x9|exact⟨_,rfl,by decide,rfl⟩);(case U=>intro fa ga oa K' J;simp only[go_sem,q1,o1,q3,q4,q5,t]at J|-;exact J))
 refine aj (v:=.tup [iv .i64 A,iv .i64 m]) x9 (λfa ga oa K' J=>?_) ?_
 .exact U3
 iterate 4 (apply aj;(case hg=>first|exact x9|exact⟨_,rfl,by decide,rfl⟩);(case U=>intro fa ga oa K' J;simp only[go_sem]at J|-;exact J))
 refine bZ x9 ?_;intro K' a';simp only[go_sem];refine a' _ ?_;clear a' K';simp only[go_sem];refine aF c8 ?_;have E:(0:Int)<=(m:Int):=a7;by_cases e5:(z b.params:Int)=x.2.2
 .simp only[go_sem,q1,o1,q3,q4,q5,t,H,E,j6,e5,cu]
  refine bN G ⟨U (C9 e5),?_⟩;simp only[go_sem,q1,o1,q3,q4]
 .have ad:y=F:=h2 (A4 e5)
  rw[b2 ad]at hz;obtain rfl:X=F:=by rw[<-hz];simp
  simp only[go_sem,q1,o1,q3,q4,q5,t,H,E,j6,e5]
def HF(p:Src.Prog)(hp:Sm p)(U:1<=z p.funcs):bP Tryz.prog 1 o 40 [bS p] (·=iv .i64 (Src.iZ p:Nat)):=by
 refine hdG Tryz.func40 rfl [.tmp 2] λO bn s0 w0 g=>?_;rw[<-Src.QA];have hN:=La (o:=o) p hp;obtain⟨a,d⟩:=getq (l:=p.funcs) (k:=z p.funcs-1) a7;have j:=λh=>Et (o:=o) p hp h a d;obtain⟨X,b⟩:∃X,Src.HD p=X:=⟨_,rfl⟩
 rw[b];unfold Src.HD at b;rw[Br d]at b;rw[bK]at hN j|-;simp only[go_sem];refine cG rfl Wd ?_;rintro _ rfl;by_cases hb:(dU (ea p)&&bp (fT p) 0 p.funcs)=F
 .rw[l8 hb]at b
  subst b;simp only[go_sem,hb]
 rw[j8 hb]at b;have hb:(dU (ea p)&&bp (fT p) 0 p.funcs)=T:=by simpa using hb
 have j:=j (s5 _ _▸hb).2;simp only[go_sem,hb];refine cG rfl (by simp only[go_sem];exact j) ?_;rintro _ rfl;by_cases h:(p.funcs.all λf=>(gU f.body).all (rQ p f))=T/\a.name=Src.Np/\a.params=[]/\a.word=F
 .simp only[l8 h]at b
  subst b;simp only[go_sem,C9 h]
 .simp only[j8 h]at b
  subst b;simp only[go_sem,A4 h]
end
end
end Go.Proofs.YtlacbjnmkhndiaaGreatDoor
namespace Go.Src
section
attribute [local congr] Go.Am.ite_cc
open Go.Asm (Str)
section
def mz:∀(fs:List Fn)(k:Nat)(s:Str),cn fs s=if aL k (fs.map (·.name)) s<0 then N else fs[(aL k (fs.map (·.name)) s).toNat-k]?
 |[],_,_=>rfl
 |f::l,k,s=>by
   rw[cn,l9,aL];by_cases h:f.name=s
   .rw[l8 h,l8 h,j8 a7,show ((k:Int).toNat-k)=0 by omega];rfl
   .rw[j8 h,j8 h,mz l (k+1)]
    have:=iM (l.map (·.name)) (k+1) s;split
    .rfl
    .rename_i a
     rw[show (aL (k+1) (l.map (·.name)) s).toNat-k=((aL (k+1) (l.map (·.name)) s).toNat-(k+1))+1 by omega,s9]
def qL(fs:List Fn)(s:Str):Int:=aL 0 (fs.map (·.name)) s
variable{fs:List Fn}
def QB{s:Str}(h:qL fs s<0):cn fs s=N:=(mz fs 0 s).trans (l8 h)
def QC{s:Str}(h:¬qL fs s<0):∃(k:Nat)(f:Fn),qL fs s=(k:Int)/\fs[k]?=S f/\cn fs s=S f:=by
 have c:=iM (fs.map (·.name)) 0 s;rw[j6]at c;unfold qL at h|-;obtain⟨k,a⟩:∃k:Nat,aL 0 (fs.map (·.name)) s=(k:Int):=⟨(aL 0 (fs.map (·.name)) s).toNat,a7⟩
 have b:k<z fs:=a7;refine⟨k,fs[k],a,v8 b,?_⟩;rw[mz fs 0,j8 h,a];simp[b]
end
end
end Go.Src
namespace Go.Proofs.YtlacbjnmkhndiaaGreatDoor
section
attribute [local congr] Go.Am.ite_cc
open Go Go.Am Go.Asm
open Go.Src (Ex Stm szE bc szS aD qL cn fJ fV cq lp bU dg cA ja bh)
section
def mA(p:Src.Prog)(hf:z p.funcs<=1000000)(s:Str):ax Tryz.prog 98 [bS p,sv s] (·=iv .i64 (qL p.funcs s)):=by
 refine hdP Tryz.func98 rfl [4] λg=>?_;unfold qL;obtain⟨X,i⟩:∃X,Src.aL 0 (p.funcs.map (·.name)) s=X:=⟨_,rfl⟩
 rw[i,bK];simp only[go_sem];refine dD (λk K=>Src.aL k ((p.funcs.drop k).map (·.name)) s=X/\K.f 2=.one (.ptr 2 (K.gen 2) 0)/\K.obj 2=S [.d (.sl (p.vars.map λs=>[.str s])),.d (.sl (p.arrays.map arD)),.d (.sl (p.funcs.map fnD))]/\K.f 1=sv s/\K.f 5=iv .i64 k) (z p.funcs) ⟨i,?_⟩ ?_
 .exact hx
 rintro k f x y A ⟨Z,a,e,l,o⟩;simp only at a e l o;have v:=ac (k:=k) a7;by_cases t:k<z p.funcs
 case neg=>
  have Q:¬(k:Int)<(z p.funcs:Int):=a7;rw[y9 a7]at Z;have i:X = -1:=Z.symm;simp only[go_sem,a,e,o,Q,j6,i]
 have Q:(k:Int)<(z p.funcs:Int):=a7;obtain⟨fn,u⟩:=getq t;have r:=getD_at (f:=fnD) u;have w:fnD fn=[.str fn.name,.sl (fn.params.map λs=>[.str s]),.sl (fn.locals.map λs=>[.str s]),.bool fn.word,.sl (fn.body.map smD)]:=rfl;rw[w]at r;rw[de u,l9,Src.aL]at Z;by_cases hn:fn.name=s
 .rw[l8 hn]at Z
  subst Z;simp only[go_sem,a,e,l,o,Q,j6,r,hn]
 .rw[j8 hn]at Z
  simp only[go_sem,a,e,l,o,Q,j6,r,hn,v];refine bN t ⟨Z,?_⟩;simp only[go_sem,a,e,l]
section
variable{s:St}{p:Src.Prog}
def xz{x:Str}:dC s [.agg [.d (.sl (p.vars.map λs=>[.str s])),.d (.sl (p.arrays.map arD)),.d (.sl (p.funcs.map fnD))],sv x] [bS p,sv x]:=⟨_,_,rfl,ux (iH p),_,_,rfl,⟨_,.d _,rfl⟩,rfl⟩
def xA{x:List (List D)}:dC s [.agg [.d (.sl (p.vars.map λs=>[.str s])),.d (.sl (p.arrays.map arD)),.d (.sl (p.funcs.map fnD))],.one (.d (.sl x))] [bS p,.one (.d (.sl x))]:=⟨_,_,rfl,ux (iH p),_,_,rfl,⟨_,.d _,rfl⟩,rfl⟩
end
def sx{fs:List Src.Fn}:∀l:List Ex,cq fs l=l.all (fV fs)
 |[]=>by simp[cq]
 |e::l=>by simp[cq,sx l]
def nQ{fs:List Src.Fn}:∀l:List Stm,bU fs l=l.all (lp fs)
 |[]=>by simp[bU]
 |e::l=>by simp[bU,nQ l]
def zA{fs:List Src.Fn}{t:Int}:∀l:List Ex,cA fs t l=l.all λe=>decide (dg fs e=t)
 |[]=>by simp[cA]
 |e::l=>by simp[cA,zA l]
def sy{fs:List Src.Fn}{w:Bool}:∀l:List Stm,bh fs w l=l.all (ja fs w)
 |[]=>by simp[bh]
 |e::l=>by simp[bh,sy l]
def Lb(p:Src.Prog)(hf:z p.funcs<=1000000):∀(al:Nat)(l:List Ex),bc l<=al->al<=1000000000->ax Tryz.prog 99 [bS p,eb l] (·=bv (cq p.funcs l)):=by
 intro al
 induction al using Nat.strongRecOn with
 |ind al E=>
 intro l L i;refine hdP Tryz.func99 rfl [4] λg=>?_;obtain⟨X,x⟩:∃X,cq p.funcs l=X:=⟨_,rfl⟩
 rw[x,bK];rw[sx]at x;have bl:=Src.IF l;unfold eb;simp only[go_sem];refine dD (λk K=>(l.drop k).all (fV p.funcs)=X/\K.f 2=.one (.ptr 2 (K.gen 2) 0)/\K.obj 2=S [.d (.sl (p.vars.map λs=>[.str s])),.d (.sl (p.arrays.map arD)),.d (.sl (p.funcs.map fnD))]/\K.f 1=.one (.d (.sl (l.map exD)))/\K.f 5=iv .i64 k) (z l) ⟨x,?_⟩ ?_
 .exact hx
 rintro k f O Y hk ⟨Z,t,u,q1,q5⟩;simp only at t u q1 q5;have G:=ac (k:=k) a7;by_cases A:k<z l
 case neg=>
  exact ys
 have Q:(k:Int)<(z l:Int):=a7;obtain⟨e,y⟩:=getq A;obtain⟨U,r⟩:=cQ Z y;have az:=Src.LU (l6 y);have v:=getD_at (f:=exD) y;obtain⟨kind,op,num,name,o⟩:=e;rw[szE]at az;rw[fV]at U r;have I:exD (.mk kind op num name o)=[.int .i64 kind,.int .i64 op,.int .u32 num,.str name,.sl (o.map exD)]:=by simp only[exD,aK]
 rw[I]at v;have J:=E (bc o) a7 o (l7 _) a7;unfold eb at J;simp only[go_sem,q1,q5,Q,j6];refine cO aA mixed c8 ?_;by_cases w:kind=4
 case' pos=>
  rw[l8 w]at U r;simp only[go_sem,q1,t,u,q5,v,Q,w];refine aP rfl (mA p hf name) W2 rfl ?_;by_cases hn:qL p.funcs name<0
  .obtain rfl:=r (by rw[Src.QB hn];rfl)
   simp only[go_sem,hn]
  obtain⟨_,_,_,_,H⟩:=Src.QC hn;rw[H,C6,x6]at U r;simp only[go_sem,q1,t,u,q5,v,Q,hn]
 case' neg=>
  rw[j8 w,x6]at U r;simp only[go_sem,q1,t,u,q5,v,Q,w]
 all_goals refine aP rfl J W3 rfl ?_
 all_goals cases a:cq p.funcs o
 all_goals simp only[go_sem,a,q5,G]
 any_goals exact(r a).symm
 all_goals refine bN A ⟨U a,?_⟩
 all_goals simp only[go_sem,t,u,q1]
def xB(p:Src.Prog)(hf:z p.funcs<=1000000):∀(al:Nat)(l:List Stm),aD l<=al->al<=1000000000->ax Tryz.prog 65 [bS p,eS l] (·=bv (bU p.funcs l)):=by
 intro al
 induction al using Nat.strongRecOn with
 |ind al A=>
 intro l hN i;refine hdP Tryz.func65 rfl [4] λg=>?_;obtain⟨X,x⟩:∃X,bU p.funcs l=X:=⟨_,rfl⟩
 rw[x,bK];rw[nQ]at x;have bl:=Src.IG l;unfold eS;simp only[go_sem];refine dD (λk K=>(l.drop k).all (lp p.funcs)=X/\K.f 2=.one (.ptr 2 (K.gen 2) 0)/\K.obj 2=S [.d (.sl (p.vars.map λs=>[.str s])),.d (.sl (p.arrays.map arD)),.d (.sl (p.funcs.map fnD))]/\K.f 1=.one (.d (.sl (l.map smD)))/\K.f 5=iv .i64 k) (z l) ⟨x,?_⟩ ?_
 .exact hx
 rintro k f g1 av hk ⟨Z,r,t,q1,q5⟩;simp only at r t q1 q5;have O:=ac (k:=k) a7;by_cases E:k<z l
 case neg=>
  exact ys
 have Q:(k:Int)<(z l:Int):=a7;obtain⟨e,y⟩:=getq E;obtain⟨U,o⟩:=cQ Z y;have az:=Src.LV (l6 y);have u:=getD_at (f:=smD) y;obtain⟨kind,name,e,v,el⟩:=e;rw[szS]at az;rw[lp]at U o;have I:smD (.mk kind name e v el)=[.int .i64 kind,.str name,.sl (e.map exD),.sl (v.map smD),.sl (el.map smD)]:=by simp only[smD,aK,dQ]
 rw[I]at u;have G:=Lb p hf (bc e) e (l7 _) a7;have H:=A (aD v) a7 v (l7 _) a7;have L:=A (aD el) a7 el (l7 _) a7;unfold eb at G;unfold eS at H L;simp only[go_sem,q1,q5,Q,j6];refine cO aA mixed c8 ?_;by_cases w:kind=6
 case' pos=>
  rw[l8 w]at U o;simp only[go_sem,q1,r,t,q5,u,Q,w];refine aP rfl (mA p hf name) W2 rfl ?_;by_cases hn:qL p.funcs name<0
  .obtain rfl:=o (by rw[Src.QB hn];rfl)
   simp only[go_sem,hn]
  obtain⟨_,_,_,_,Y⟩:=Src.QC hn;rw[Y,C6,x6]at U o;simp only[go_sem,q1,r,t,q5,u,Q,hn]
 case' neg=>
  rw[j8 w,x6]at U o;simp only[go_sem,q1,r,t,q5,u,Q,w]
 all_goals refine aP rfl G W3 rfl ?_
 all_goals cases a:cq p.funcs e
 all_goals simp only[go_sem,a,q1,r,t,q5,u,Q]
 any_goals exact(o (by rw[a];rfl)).symm
 all_goals refine aP rfl H W3 rfl ?_
 all_goals cases c:bU p.funcs v
 all_goals simp only[go_sem,c,q1,r,t,q5,u,Q]
 any_goals exact(o (by rw[a,c];rfl)).symm
 all_goals refine aP rfl L W3 rfl ?_
 all_goals cases b:bU p.funcs el
 all_goals simp only[go_sem,b,q5,O]
 any_goals exact(o (by rw[a,c,b];rfl)).symm
 all_goals refine bN E ⟨U (by rw[a,c,b];rfl),?_⟩
 all_goals simp only[go_sem,r,t,q1]
end
section
variable{fs:List Src.Fn}
def HG{s:Str}(h:qL fs s<0):fJ fs s=F:=by unfold fJ;rw[Src.QB h]
def Pa(p:Src.Prog)(hf:z p.funcs<=1000000)(kind op num:Int)(name:Str)(kids:List Ex)(hW:ax Tryz.prog 101 [bS p,eb kids] (·=bv (cA p.funcs 1 kids)))(hB:ax Tryz.prog 100 [bS p,eb kids] (·=bv (cA p.funcs 2 kids))):
  ax Tryz.prog 162 [bS p,exV (.mk kind op num name kids)] (·=iv .i64 (dg p.funcs (.mk kind op num name kids))):=by
 refine hdP Tryz.func162 rfl [4] λg=>?_;have j:exV (.mk kind op num name kids)=.agg [.d (.int .i64 kind),.d (.int .i64 op),.d (.int .u32 num),.d (.str name),.d (.sl (kids.map exD))]:=by simp only[exV,exD,aK,l9,w9]
 have hN:=mA p hf name;obtain⟨X,hz⟩:∃X,dg p.funcs (.mk kind op num name kids)=X:=⟨_,rfl⟩
 rw[hz,j];rw[dg]at hz;unfold eb at hW hB;rw[bK]at hW hB hN|-;have hk:kind=1\/kind=2\/kind=5\/kind=3\/kind=4\/kind=6\/kind=7\/kind=8\/kind=9\/(¬kind=1/\¬kind=2/\¬kind=3/\¬kind=4/\¬kind=5/\¬kind=6/\¬kind=7/\¬kind=8/\¬kind=9):=a7;rcases hk with rfl|rfl|rfl|rfl|rfl|rfl|rfl|rfl|rfl|⟨n,o,q,t,u,P,v,x,l⟩
 iterate 3
  .obtain rfl:X=1:=by rw[<-hz];simp
   simp only[go_sem]
 .simp only[go_sem]
  refine bJ rfl W4 ?_;rintro _ rfl;cases hw:cA p.funcs 1 kids
  .exact S6
  .obtain rfl:X=1:=by rw[<-hz,hw];simp
   exact hx
 .simp only[go_sem]
  refine bJ rfl Wd ?_;rintro _ rfl;by_cases hn:qL p.funcs name<0
  .obtain rfl:X=0:=by rw[<-hz,HG hn];simp
   simp only[go_sem,show ¬0<=qL p.funcs name by omega]
  obtain⟨k,fn,hk,Y,y⟩:=Src.QC hn;have e:=getD_at (f:=fnD) Y;have A:fnD fn=[.str fn.name,.sl (fn.params.map λs=>[.str s]),.sl (fn.locals.map λs=>[.str s]),.bool fn.word,.sl (fn.body.map smD)]:=rfl;rw[A]at e;have G:fJ p.funcs name=fn.word:=by unfold fJ;rw[y]
  rw[G]at hz;have i:(0:Int)<=(k:Int):=a7;cases b:fn.word
  .obtain rfl:X=0:=by rw[<-hz,b];simp
   simp only[go_sem,hk,i,e,b]
  simp only[go_sem,hk,i,e,b];refine bJ rfl W4 ?_;rintro _ rfl;cases hw:cA p.funcs 1 kids
  .exact S6
  .obtain rfl:X=1:=by rw[<-hz,hw,b];simp
   exact hx
 .simp only[go_sem]
  refine bJ rfl W4 ?_;rintro _ rfl;cases hw:cA p.funcs 1 kids
  .exact S6
  by_cases a:op=14
  .obtain rfl:X=2:=by rw[<-hz,hw,a];simp
   simp only[go_sem,a]
  by_cases w:op=15
  .obtain rfl:X=2:=by rw[<-hz,hw,w];simp
   simp only[go_sem,w]
  obtain rfl:X=1:=by rw[<-hz,hw];simp[a,w]
  simp only[go_sem,a,w]
 iterate 3
  .simp only[go_sem]
   refine bJ rfl WH ?_;rintro _ rfl;cases hw:cA p.funcs 2 kids
   .exact S6
   .obtain rfl:X=2:=by rw[<-hz,hw];simp
    exact hx
 .obtain rfl:X=0:=by rw[<-hz,l8 a7]
  simp only[go_sem,n,o,q,t,u,P,v,x,l]
def Lc(p:Src.Prog)(hf:z p.funcs<=1000000):∀(al:Nat)(l:List Ex),bc l<=al->al<=1000000000->ax Tryz.prog 101 [bS p,eb l] (·=bv (cA p.funcs 1 l))/\ax Tryz.prog 100 [bS p,eb l] (·=bv (cA p.funcs 2 l)):=by
 intro al
 induction al using Nat.strongRecOn with
 |ind al O=>
 intro l hN i;have bl:=Src.IF l
 have H:∀(k:Nat)(e:Ex),l[k]?=S e->ax Tryz.prog 162 [bS p,exV e] (·=iv .i64 (dg p.funcs e)):=λk e w=>by
  have az:=Src.LU (l6 w);obtain⟨kind,op,num,name,o⟩:=e;rw[szE]at az;have:=O (bc o) a7 o (l7 _) a7;exact Pa p hf kind op num name o this.1 this.2
 unfold eb;rw[bK]at H|-;constructor
 case' left=>
  refine hdP Tryz.func101 rfl [4] λg=>?_;obtain⟨t,u⟩:∃t:Int,t=1:=⟨_,rfl⟩
  rw[show cA p.funcs 1 l=cA p.funcs t l by rw[u]]
 case' right=>
  refine hdP Tryz.func100 rfl [4] λg=>?_;obtain⟨t,u⟩:∃t:Int,t=2:=⟨_,rfl⟩
  rw[show cA p.funcs 2 l=cA p.funcs t l by rw[u]]
 all_goals obtain⟨X,y⟩:∃X,cA p.funcs t l=X:=⟨_,rfl⟩
 all_goals rw[y]
 all_goals rw[zA]at y
 all_goals simp only[go_sem]
 all_goals refine dD (λk K=>((l.drop k).all λe=>decide (dg p.funcs e=t))=X/\K.f 2=.one (.ptr 2 (K.gen 2) 0)/\K.obj 2=S [.d (.sl (p.vars.map λs=>[.str s])),.d (.sl (p.arrays.map arD)),.d (.sl (p.funcs.map fnD))]/\K.f 1=.one (.d (.sl (l.map exD)))/\K.f 5=iv .i64 k) (z l) ⟨y,Vy⟩ ?_
 all_goals rintro k f g1 av hk ⟨Z,A,E,q1,q5⟩
 all_goals simp only at A E q1 q5
 all_goals have Y:=ac (k:=k) a7
 all_goals
  by_cases I:k<z l
  rotate_left
  .exact ys
  have Q:(k:Int)<(z l:Int):=a7;obtain⟨e,w⟩:=getq I;obtain⟨U,h2⟩:=cQ Z w;have L:=getD_at (f:=exD) w;have h:=H k e w;have G:∃a b c d x,exD e=[.int .i64 a,.int .i64 b,.int .u32 c,.str d,.sl x]:=by cases e;exact⟨_,_,_,_,_,by rw[exD]⟩
  obtain⟨a,b,c,d,x,G⟩:=G;unfold exV at h;rw[G]at h L;simp only[go_sem,q1,q5,Q,j6];refine jn c8 ?_;simp only[go_sem,q1,A,E,q5,Q,L];refine bJ rfl (by simp only[go_sem];exact h) ?_;rintro _ rfl;by_cases v:dg p.funcs e=t
  .rw[u]at v
   simp only[go_sem,v,q5,Y];refine bN I ⟨U (C9 (by rw[v,u])),?_⟩;simp only[go_sem,A,E,q1]
  .obtain rfl:=h2 (A4 v)
   rw[u]at v;simp only[go_sem,v]
def Ts{kind:Int}{e:List Ex}:cA fs (if kind=4\/kind=5 then 2 else 1) e=if kind=4\/kind=5 then cA fs 2 e else cA fs 1 e:=by split<;>rfl
def Pb(p:Src.Prog)(hf:z p.funcs<=1000000)(w:Bool):∀(al:Nat)(l:List Stm),aD l<=al->al<=1000000000->bU p.funcs l=T->ax Tryz.prog 66 [bS p,bv w,eS l] (·=bv (bh p.funcs w l)):=by
 intro al
 induction al using Nat.strongRecOn with
 |ind al ih=>
 intro l hN i a;refine hdP Tryz.func66 rfl [6] λg=>?_;obtain⟨X,hz⟩:∃X,bh p.funcs w l=X:=⟨_,rfl⟩
 rw[hz,bK];rw[sy]at hz;rw[nQ,y8]at a;have bl:=Src.IG l;unfold eS;simp only[go_sem];refine dD (λk K=>(l.drop k).all (ja p.funcs w)=X/\K.f 3=.one (.ptr 3 (K.gen 3) 0)/\K.obj 3=S [.d (.sl (p.vars.map λs=>[.str s])),.d (.sl (p.arrays.map arD)),.d (.sl (p.funcs.map fnD))]/\K.f 1=bv w/\K.f 2=.one (.d (.sl (l.map smD)))/\K.f 7=iv .i64 k) (z l) ⟨hz,?_⟩ ?_
 .exact hx
 rintro k f g1 av hk ⟨Z,o,B,t,x,A⟩;simp only at o B t x A;have hw:=ac (k:=k) a7;by_cases af:k<z l
 case neg=>
  have Q:¬(k:Int)<(z l:Int):=a7;rw[y9 a7]at Z;obtain rfl:X=T:=Z.symm;simp only[go_sem,x,A,Q,j6]
 have Q:(k:Int)<(z l:Int):=a7;obtain⟨e,he⟩:=getq af;obtain⟨U,u⟩:=cQ Z he;have az:=Src.LV (l6 he);have a:=a e (l6 he);have hg:=getD_at (f:=smD) he;obtain⟨kind,name,e,H,el⟩:=e;rw[szS]at az;rw[lp]at a;simp only[s5]at a;rw[ja,Ts]at U u;have I:smD (.mk kind name e H el)=[.int .i64 kind,.str name,.sl (e.map exD),.sl (H.map smD),.sl (el.map smD)]:=by simp only[smD,aK,dQ]
 rw[I]at hg;obtain⟨hW,hB⟩:=Lc p hf (bc e) e (l7 _) a7;have hT:=ih (aD H) a7 H (l7 _) a7 a.2.1;have hL:=ih (aD el) a7 el (l7 _) a7 a.2.2;have hN:=mA p hf name;rw[bK]at hW hB hT hL;unfold eb at hW hB;unfold eS at hT hL;obtain⟨y,O⟩:∃y,(if kind=4\/kind=5 then cA p.funcs 2 e else cA p.funcs 1 e)=y:=⟨_,rfl⟩
 rw[O]at U u;have ad:y=F->X=F:=λe=>u (by rw[e];simp);by_cases k4:kind=4
 case' pos=>
  rw[l8 (.inl k4)]at O;simp only[go_sem,x,o,B,A,Q,j6,hg,k4];refine bJ rfl WH ?_;rintro _ rfl;rw[O];have P:¬kind=6:=a7
 case' neg=>
  by_cases k5:kind=5
  case' pos=>
   rw[l8 (.inr k5)]at O;simp only[go_sem,x,o,B,A,Q,j6,hg,k5];refine bJ rfl WH ?_;rintro _ rfl;rw[O];have P:¬kind=6:=a7
  case' neg=>
   rw[j8 a7]at O;simp only[go_sem,x,o,B,A,Q,j6,hg,k4,k5];refine bJ rfl W4 ?_;rintro _ rfl;rw[O];by_cases P:kind=6
   case pos=>
    cases y
    .obtain rfl:=ad rfl
     exact hx
    simp only[go_sem];refine cO aA mixed c8 ?_;have b:(cn p.funcs name).isSome=T:=by have:=a.1.1;rwa [l8 P]at this
    have hn:¬qL p.funcs name<0:=λh=>by rw[Src.QB h]at b;cases b
    obtain⟨m,fn,hm,Y,hs⟩:=Src.QC hn;have cb:=getD_at (f:=fnD) Y;have a6:fnD fn=[.str fn.name,.sl (fn.params.map λs=>[.str s]),.sl (fn.locals.map λs=>[.str s]),.bool fn.word,.sl (fn.body.map smD)]:=rfl;rw[a6]at cb;have G:fJ p.funcs name=fn.word:=by unfold fJ;rw[hs]
    have E:(0:Int)<=(m:Int):=a7;rw[G]at U u;cases bz:fn.word
    case true=>
     obtain rfl:=u (by simp[bz,P]);simp only[go_sem,P,o,B];refine aP rfl hN W2 rfl ?_;simp only[go_sem,hm,E,cb,bz]
    simp only[go_sem,P,o,B];refine aP rfl hN W2 rfl ?_;simp only[go_sem,hm,E,cb,bz,P,t,o,B];refine bJ rfl VT ?_;rintro _ rfl;cases v:bh p.funcs w H
    .obtain rfl:=u (by simp[v])
     exact hx
    simp only[go_sem,t,o,B];refine bJ rfl VU ?_;rintro _ rfl;cases hl:bh p.funcs w el
    .obtain rfl:=u (by simp[hl])
     exact hx
    simp only[go_sem,A,hw];refine bN af ⟨U (by simp[v,hl,bz,P]),?_⟩;simp only[go_sem,o,B,t,x]
 all_goals
  cases y
  .obtain rfl:=ad rfl
   exact hx
  simp only[go_sem];refine cO aA mixed c8 ?_;by_cases L:kind=7
  rotate_left
  .simp only[go_sem,P,L,t,o,B]
   refine bJ rfl VT ?_;rintro _ rfl;cases v:bh p.funcs w H
   .obtain rfl:=u (by simp[v])
    exact hx
   simp only[go_sem,t,o,B];refine bJ rfl VU ?_;rintro _ rfl;cases hl:bh p.funcs w el
   .obtain rfl:=u (by simp[hl])
    exact hx
   simp only[go_sem,A,hw];refine bN af ⟨U (by simp[v,hl,P,L]),?_⟩;simp only[go_sem,o,B,t,x]
  by_cases a':0<(z e:Int)
  rotate_left
  .have bs:¬0<z e:=a7
   simp only[go_sem,P,L,t,o,B,j6,a'];refine bJ rfl VT ?_;rintro _ rfl;cases v:bh p.funcs w H
   .obtain rfl:=u (by simp[v])
    exact hx
   simp only[go_sem,t,o,B];refine bJ rfl VU ?_;rintro _ rfl;cases hl:bh p.funcs w el
   .obtain rfl:=u (by simp[hl])
    exact hx
   simp only[go_sem,A,hw];refine bN af ⟨U (by simp[v,hl,L,bs]),?_⟩;simp only[go_sem,o,B,t,x]
  cases j:w
  .have bs:0<z e:=a7
   obtain rfl:=u (by simp[L,bs,j]);simp only[go_sem,P,L,t,o,B,j6,a',j]
   all_goals (exfalso;omega)
  .rw[j]at hT hL t U u
   simp only[go_sem,P,L,t,o,B,j6,a',j];refine bJ rfl VT ?_;rintro _ rfl;cases v:bh p.funcs T H
   .obtain rfl:=u (by simp[j,v])
    exact hx
   simp only[go_sem,t,o,B];refine bJ rfl VU ?_;rintro _ rfl;cases hl:bh p.funcs T el
   .obtain rfl:=u (by simp[j,hl])
    exact hx
   simp only[go_sem,A,hw];refine bN af ⟨U (by simp[v,hl,L,j]),?_⟩;simp only[go_sem,o,B,t,x]
def HH(p:Src.Prog)(hp:Sm p):ax Tryz.prog 41 [bS p] (·=iv .i64 (Src.qd p:Nat)):=by
 refine hdP Tryz.func41 rfl [2] λg=>?_;obtain⟨X,i⟩:∃X,Src.qd p=X:=⟨_,rfl⟩
 rw[i];unfold Src.qd at i;obtain⟨Y,pa,pf,B⟩:=hp;have J:=λ(f:Src.Fn)(hf:f∈p.funcs)=>xB p a7 (aD f.body) f.body (l7 _) (by have:=(B f hf).2;omega);have y:=λ(f:Src.Fn)(hf:f∈p.funcs)=>Pb p a7 f.word (aD f.body) f.body (l7 _) (by have:=(B f hf).2;omega);unfold eS at J y;rw[bK]at J y|-;obtain⟨q,u⟩:∃q,(p.funcs.all λf=>bU p.funcs f.body)=q:=⟨_,rfl⟩
 have b:q=F->X=4:=λe=>by rw[<-i,u,l8 e]
 simp only[go_sem];refine dD (λk K=>((p.funcs.drop k).all λf=>bU p.funcs f.body)=q/\K.f 1=.one (.ptr 1 (K.gen 1) 0)/\K.obj 1=S [.d (.sl (p.vars.map λs=>[.str s])),.d (.sl (p.arrays.map arD)),.d (.sl (p.funcs.map fnD))]/\K.f 3=iv .i64 k) (z p.funcs) ⟨u,?_⟩ ?_
 .exact hx
 rintro k f I L hk ⟨Z,q1,o1,o⟩;simp only at q1 o1 o;have x:=ac (k:=k) a7;by_cases t:k<z p.funcs
 .have Q:(k:Int)<(z p.funcs:Int):=a7
  obtain⟨fn,l⟩:=getq t;have v:=getD_at (f:=fnD) l;have A:fnD fn=[.str fn.name,.sl (fn.params.map λs=>[.str s]),.sl (fn.locals.map λs=>[.str s]),.bool fn.word,.sl (fn.body.map smD)]:=rfl;rw[A]at v;obtain⟨U,E⟩:=cQ Z l;simp only[go_sem,q1,o1,o,Q,j6];refine jn c8 ?_;simp only[go_sem,q1,o1,o,Q,v];refine bJ rfl (by simp only[go_sem];exact J fn (l6 l)) ?_;rintro _ rfl;cases a:bU p.funcs fn.body
  .obtain rfl:=b (E a)
   exact hx
  .simp only[go_sem,o,x]
   refine bN t ⟨U a,?_⟩;exact SW
 have Q:¬(k:Int)<(z p.funcs:Int):=a7;rw[y9 a7]at Z;have G:q=T:=Z.symm;rw[u,j8 (by rw[G];decide)]at i;rw[G,y8]at u;clear Z hk t x b;simp only[go_sem,q1,o1,o,Q,j6];obtain⟨r,V⟩:∃r,(p.funcs.all λf=>bh p.funcs f.word f.body)=r:=⟨_,rfl⟩
 rw[V]at i;refine dD (λk K=>((p.funcs.drop k).all λf=>bh p.funcs f.word f.body)=r/\K.f 1=.one (.ptr 1 (K.gen 1) 0)/\K.obj 1=S [.d (.sl (p.vars.map λs=>[.str s])),.d (.sl (p.arrays.map arD)),.d (.sl (p.funcs.map fnD))]/\K.f 4=iv .i64 k) (z p.funcs) ⟨V,?_⟩ ?_
 .exact SW
 clear Q q1 o1 o;rintro k f I L hk ⟨Z,q1,o1,w⟩;simp only at q1 o1 w;have x:=ac (k:=k) a7;by_cases t:k<z p.funcs
 .have Q:(k:Int)<(z p.funcs:Int):=a7
  obtain⟨fn,l⟩:=getq t;have v:=getD_at (f:=fnD) l;have A:fnD fn=[.str fn.name,.sl (fn.params.map λs=>[.str s]),.sl (fn.locals.map λs=>[.str s]),.bool fn.word,.sl (fn.body.map smD)]:=rfl;rw[A]at v;have H:=l6 l;obtain⟨U,E⟩:=cQ Z l;simp only[go_sem,q1,o1,w,Q,j6];refine jn c8 ?_;simp only[go_sem,q1,o1,w,Q,v];refine bJ rfl (by simp only[go_sem];exact y fn H (u fn H)) ?_;rintro _ rfl;cases a:bh p.funcs fn.word fn.body
  .rw[l8 (E a)]at i
   subst i;exact hx
  .simp only[go_sem,w,x]
   refine bN t ⟨U a,?_⟩;exact SW
 have Q:¬(k:Int)<(z p.funcs:Int):=a7;rw[y9 a7]at Z;have O:r=T:=Z.symm;rw[j8 (by rw[O];decide)]at i;subst i;simp only[go_sem,q1,o1,w,Q,j6]
def Sm.inP{p:Src.Prog}(h:Sm p)(b:∀f∈p.funcs,Src.pR f.body):Src.InP p:=⟨by have:=h.v;omega,by have:=h.a;omega,by have:=h.f;omega,λf hf=>by
 have:=h.fs f hf;have:=Src.IG f.body;exact⟨⟨a7,a7⟩,a7,b f hf⟩⟩
def Ld{o:cF}(p:Src.Prog)(hp:Sm p)(i:∀f∈p.funcs,Src.pR f.body):bP Tryz.prog 1 o 16 [bS p] (·=iv .i64 (Src.aX p:Nat)):=by
 refine hdG Tryz.func16 rfl [.tmp 2] λO bn s0 w0 g=>?_;obtain⟨X,a⟩:∃X,Src.aX p=X:=⟨_,rfl⟩
 rw[a];unfold Src.aX at a;have hR:=HO p (hp.inP i);have hT:=HH p hp;have d:=λh=>HF (o:=o) p hp h;rw[bK]at hR hT d|-;simp only[go_sem];refine ip rfl Xo ?_;rintro _ rfl;cases V:Src.dX p
 .rw[l8 V]at a
  subst a;exact hx
 rw[j8 (by rw[V];decide)]at a;have U:1<=z p.funcs:=by unfold Src.dX at V;simp at V;exact V.1.1.1
 simp only[go_sem];refine cG rfl (by simp only[go_sem];exact d U) ?_;rintro _ rfl;by_cases b:Src.iZ p=0
 .rw[j8 (by simp[b])]at a
  subst a;simp only[go_sem,b];refine ip rfl VT ?_;rintro _ rfl;exact hx
 .rw[l8 b]at a
  subst a;have e:¬(Src.iZ p:Int)=0:=a7;simp only[go_sem,e]
end
end
end Go.Proofs.YtlacbjnmkhndiaaGreatDoor
namespace Go.Src
section
attribute [local congr] Go.Am.ite_cc
def uF(p:Prog):Bool:=(p.funcs.all λf=>decide (z f.params+z f.locals<=40))&&(decide ((p.arrays.map (·.2)).sum<=4096)&&(decide (z p.vars<=40)&&decide (z p.vars+z p.arrays+z p.funcs+(p.funcs.map λf=>z f.params+z f.locals+aD f.body).sum<=200)))
end
end Go.Src
namespace Go.Proofs.YtlacbjnmkhndiaaGreatDoor
section
attribute [local congr] Go.Am.ite_cc
open Go Go.Am Go.Asm
open Go.Src (Ex Stm szE bc szS aD)
def xC:∀(al:Nat)(l:List Ex),bc l<=al->al<=1000000000->ax Tryz.prog 102 [eb l] (·=iv .i64 (bc l:Nat)):=by
 intro al
 induction al using Nat.strongRecOn with
 |ind al w=>
 intro l y i;refine hdP Tryz.func102 rfl [2] λg=>?_;have bl:=Src.IF l;unfold eb;simp only[go_sem,j6];refine dD (λk K=>∃c:Nat,c+bc (l.drop k)=bc l+z (l.drop k)/\K.f 0=.one (.d (.sl (l.map exD)))/\K.f 3=iv .i64 (c:Nat)/\K.f 4=iv .i64 k) (z l) ⟨z l,by simp;omega,?_⟩ ?_
 .exact hx
 rintro k f A E hk ⟨c,Z,q0,p,o⟩;simp only at q0 p o;have x:=ac (k:=k) a7;by_cases u:k<z l
 case neg=>
  have Q:¬(k:Int)<(z l:Int):=a7;rw[y9 a7,bc]at Z;have Z:c=bc l:=by simpa using Z
  simp only[go_sem,q0,p,o,Q,j6,Z]
 have Q:(k:Int)<(z l:Int):=a7;obtain⟨e,t⟩:=getq u;have az:=Src.LU (l6 t);have v:=getD_at (f:=exD) t;obtain⟨kind,op,num,name,a⟩:=e;rw[de t,bc,szE,j9]at Z;rw[szE]at az;have I:exD (.mk kind op num name a)=[.int .i64 kind,.int .i64 op,.int .u32 num,.str name,.sl (a.map exD)]:=by simp only[exD,aK]
 rw[I]at v;have J:=w (bc a) a7 a (l7 _) a7;have X:=Src.IF (l.drop (k+1));have b:IntKind.i64.wrap ((c:Int)+(bc a:Nat))=((c+bc a:Nat):Int):=by rw[wrap_i64]<;>omega
 unfold eb at J;simp only[go_sem,q0,p,o,Q,j6,v];refine bJ rfl (by simp only[go_sem];exact J) ?_;rintro _ rfl;simp only[go_sem,b,o,x];refine bN u ⟨c+bc a,a7,?_⟩;exact UP
def xD:∀(al:Nat)(l:List Stm),aD l<=al->al<=1000000000->ax Tryz.prog 67 [eS l] (·=iv .i64 (aD l:Nat)):=by
 intro al
 induction al using Nat.strongRecOn with
 |ind al u=>
 intro l H i;refine hdP Tryz.func67 rfl [2] λg=>?_;have bl:=Src.IG l;unfold eS;simp only[go_sem,j6];refine dD (λk K=>∃c:Nat,c+aD (l.drop k)=aD l+z (l.drop k)/\K.f 0=.one (.d (.sl (l.map smD)))/\K.f 3=iv .i64 (c:Nat)/\K.f 4=iv .i64 k) (z l) ⟨z l,by simp;omega,?_⟩ ?_
 .exact hx
 rintro k f L O U ⟨c,Z,q0,p,o⟩;simp only at q0 p o;have A:=ac (k:=k) a7;by_cases v:k<z l
 case neg=>
  have Q:¬(k:Int)<(z l:Int):=a7;rw[y9 a7,aD]at Z;have Z:c=aD l:=by simpa using Z
  simp only[go_sem,q0,p,o,Q,j6,Z]
 have Q:(k:Int)<(z l:Int):=a7;obtain⟨e,t⟩:=getq v;have az:=Src.LV (l6 t);have r:=getD_at (f:=smD) t;obtain⟨kind,name,e,a,el⟩:=e;rw[de t,aD,szS,j9]at Z;rw[szS]at az;have I:smD (.mk kind name e a el)=[.int .i64 kind,.str name,.sl (e.map exD),.sl (a.map smD),.sl (el.map smD)]:=by simp only[smD,aK,dQ]
 rw[I]at r;have w:=xC (bc e) e (l7 _) a7;have x:=u (aD a) a7 a (l7 _) a7;have y:=u (aD el) a7 el (l7 _) a7;have X:=Src.IG (l.drop (k+1));have a1:IntKind.i64.wrap ((c:Int)+(bc e:Nat))=((c+bc e:Nat):Int):=by rw[wrap_i64]<;>omega
 have G:IntKind.i64.wrap (((c+bc e:Nat):Int)+(aD a:Nat))=((c+bc e+aD a:Nat):Int):=by rw[wrap_i64]<;>omega
 have E:IntKind.i64.wrap (((c+bc e+aD a:Nat):Int)+(aD el:Nat))=((c+bc e+aD a+aD el:Nat):Int):=by rw[wrap_i64]<;>omega
 unfold eb at w;unfold eS at x y;simp only[go_sem,q0,p,o,Q,j6];refine cO aA mixed c8 ?_;simp only[go_sem,q0,p,o,Q,r];refine aP rfl w WT rfl ?_;simp only[go_sem,q0,o,Q,r,a1];refine aP rfl x WT rfl ?_;simp only[go_sem,q0,o,Q,r,G];refine aP rfl y WT rfl ?_;simp only[go_sem,E,o,A];refine bN v ⟨c+bc e+aD a+aD el,a7,?_⟩;exact UP
def lk(p:Src.Prog):szP p=z p.vars+z p.arrays+z p.funcs+(p.funcs.map λf=>z f.params+z f.locals+aD f.body).sum:=rfl
def HI{f:Src.Fn->Nat}{l:List Src.Fn}{k:Nat}{x:Src.Fn}(h:l[k]?=S x):((l.drop k).map f).sum=f x+((l.drop (k+1)).map f).sum:=by rw[de h,l9,D9]
def Pc(p:Src.Prog)(i:szP p<=1000000):ax Tryz.prog 42 [bS p] (·=iv .i64 (szP p:Nat)):=by
 refine hdP Tryz.func42 rfl [2] λg=>?_;rw[lk]at i|-;obtain⟨X,l⟩:∃X,z p.vars+z p.arrays+z p.funcs+(p.funcs.map λf=>z f.params+z f.locals+aD f.body).sum=X:=⟨_,rfl⟩
 rw[l]at i|-;have v:IntKind.i64.wrap ((z p.vars:Int)+(z p.arrays:Int))=((z p.vars+z p.arrays:Nat):Int):=by rw[wrap_i64]<;>omega
 have b2:IntKind.i64.wrap (((z p.vars+z p.arrays:Nat):Int)+(z p.funcs:Int))=((z p.vars+z p.arrays+z p.funcs:Nat):Int):=by rw[wrap_i64]<;>omega
 rw[bK];simp only[go_sem,j6,v,b2];refine dD (λk K=>∃c:Nat,c+((p.funcs.drop k).map λf=>z f.params+z f.locals+aD f.body).sum=X/\K.f 1=.one (.ptr 1 (K.gen 1) 0)/\K.obj 1=S [.d (.sl (p.vars.map λs=>[.str s])),.d (.sl (p.arrays.map arD)),.d (.sl (p.funcs.map fnD))]/\K.f 3=iv .i64 (c:Nat)/\K.f 4=iv .i64 k) (z p.funcs) ⟨_,l,?_⟩ ?_
 .exact hx
 rintro k f A G H ⟨c,Z,q1,o1,e,a⟩;simp only at q1 o1 e a;have w:=ac (k:=k) a7;by_cases o:k<z p.funcs
 case neg=>
  have Q:¬(k:Int)<(z p.funcs:Int):=a7;rw[y9 a7]at Z;have Z:c=X:=by simpa using Z
  simp only[go_sem,q1,o1,e,a,Q,j6,Z]
 have Q:(k:Int)<(z p.funcs:Int):=a7;obtain⟨fn,r⟩:=getq o;have t:=getD_at (f:=fnD) r;have x:fnD fn=[.str fn.name,.sl (fn.params.map λs=>[.str s]),.sl (fn.locals.map λs=>[.str s]),.bool fn.word,.sl (fn.body.map smD)]:=rfl;rw[x]at t;rw[HI r]at Z;have u:=xD (aD fn.body) fn.body (l7 _) a7;unfold eS at u;have a1:IntKind.i64.wrap ((c:Int)+(z fn.params:Int))=((c+z fn.params:Nat):Int):=by rw[wrap_i64]<;>omega
 have y:IntKind.i64.wrap (((c+z fn.params:Nat):Int)+(z fn.locals:Int))=((c+z fn.params+z fn.locals:Nat):Int):=by rw[wrap_i64]<;>omega
 have E:IntKind.i64.wrap (((c+z fn.params+z fn.locals:Nat):Int)+(aD fn.body:Nat))=((c+z fn.params+z fn.locals+aD fn.body:Nat):Int):=by rw[wrap_i64]<;>omega
 simp only[go_sem,q1,o1,e,a,Q,j6];refine cO aA mixed c8 ?_;simp only[go_sem,q1,o1,e,a,Q,t,j6,a1,y];refine aP rfl u WT rfl ?_;simp only[go_sem,E,a,w];refine bN o ⟨c+z fn.params+z fn.locals+aD fn.body,a7,?_⟩;exact SW
def Eu{l:List (Str×Int)}{k:Nat}{x:Str×Int}(h:l[k]?=S x):((l.drop k).map (·.2)).sum=x.2+((l.drop (k+1)).map (·.2)).sum:=by rw[de h,l9,D9]
def HJ:∀{l:List (Str×Int)},(∀a∈l,0<=a.2)->0<=(l.map (·.2)).sum
 |[],_=>by simp
 |a::l,h=>by
   have:=HJ (l:=l) λx I=>h x We;have:=h a a8;simp only[l9,D9];omega
def Le(p:Src.Prog)(hp:szP p<=1000000)(L:∀a∈p.arrays,0<=a.2)(i:(p.arrays.map (·.2)).sum<=1000000000000):ax Tryz.prog 17 [bS p] (·=bv (Src.uF p)):=by
 refine hdP Tryz.func17 rfl [2] λg=>?_;have hS:=Pc p hp;rw[lk]at hp hS;obtain⟨X,o⟩:∃X,Src.uF p=X:=⟨_,rfl⟩
 rw[o];unfold Src.uF at o;obtain⟨al,O⟩:∃al,z p.vars+z p.arrays+z p.funcs+(p.funcs.map λf=>z f.params+z f.locals+aD f.body).sum=al:=⟨_,rfl⟩
 rw[O]at o hp hS;obtain⟨W,hW⟩:∃W,(p.arrays.map (·.2)).sum=W:=⟨_,rfl⟩
 rw[hW]at o i;rw[bK]at hS|-;simp only[go_sem];refine dD (λk K=>∃c:Int,c+((p.arrays.drop k).map (·.2)).sum=W/\0<=c/\K.f 1=.one (.ptr 1 (K.gen 1) 0)/\K.obj 1=S [.d (.sl (p.vars.map λs=>[.str s])),.d (.sl (p.arrays.map arD)),.d (.sl (p.funcs.map fnD))]/\K.f 3=iv .i64 c/\K.f 4=iv .i64 k) (z p.arrays) ⟨0,by simpa using hW,b9,?_⟩ ?_
 .exact hx
 rintro k f Y av hk ⟨c,Z,bd,q1,o1,t,G⟩;simp only at q1 o1 t G;have H:=ac (k:=k) a7;by_cases w:k<z p.arrays
 .have Q:(k:Int)<(z p.arrays:Int):=a7
  obtain⟨a,u⟩:=getq w;have y:=getD_at (f:=arD) u;have A:arD a=[.str a.1,.int .i64 a.2]:=rfl;rw[A]at y;rw[Eu u]at Z;have h0:=L a (l6 u);have U:=HJ (l:=p.arrays.drop (k+1)) λx I=>L x (L9 I);have b:IntKind.i64.wrap (c+a.2)=c+a.2:=wrap_i64 _ a7 a7;simp only[go_sem,q1,o1,t,G,Q,j6,y,b,H];refine bN w ⟨c+a.2,a7,a7,?_⟩;exact SW
 have Q:¬(k:Int)<(z p.arrays:Int):=a7;rw[y9 a7]at Z;have Z:c=W:=by simpa using Z
 subst Z;clear hk w H;simp only[go_sem,q1,o1,t,G,Q,j6];obtain⟨r,V⟩:∃r,(p.funcs.all λf=>decide (z f.params+z f.locals<=40))=r:=⟨_,rfl⟩
 rw[V]at o;refine dD (λk K=>((p.funcs.drop k).all λf=>decide (z f.params+z f.locals<=40))=r/\K.f 1=.one (.ptr 1 (K.gen 1) 0)/\K.obj 1=S [.d (.sl (p.vars.map λs=>[.str s])),.d (.sl (p.arrays.map arD)),.d (.sl (p.funcs.map fnD))]/\K.f 3=iv .i64 c/\K.f 5=iv .i64 k) (z p.funcs) ⟨V,?_⟩ ?_
 .simp only[go_sem,q1,o1,t]
 clear Q q1 o1 t G;rintro k f Y av hk ⟨hd,q1,o1,t,v⟩;simp only at q1 o1 t v;have H:=ac (k:=k) a7;by_cases w:k<z p.funcs
 .have Q:(k:Int)<(z p.funcs:Int):=a7
  obtain⟨fn,u⟩:=getq w;have y:=getD_at (f:=fnD) u;have a6:fnD fn=[.str fn.name,.sl (fn.params.map λs=>[.str s]),.sl (fn.locals.map λs=>[.str s]),.bool fn.word,.sl (fn.body.map smD)]:=rfl;rw[a6]at y;obtain⟨U,h2⟩:=cQ hd u;have hm:=kf (l6 u);rw[lk,O]at hm;have b:IntKind.i64.wrap ((z fn.params:Int)+(z fn.locals:Int))=((z fn.params+z fn.locals:Nat):Int):=by rw[wrap_i64]<;>omega
  simp only[go_sem,q1,o1,v,Q,j6];refine jn c8 ?_;by_cases j:(40:Int)<((z fn.params+z fn.locals:Nat):Int)
  .obtain rfl:X=F:=by rw[<-o,h2 (A4 a7)];rfl
   simp only[go_sem,q1,o1,v,Q,y,j6,b,j]
  .simp only[go_sem,q1,o1,v,Q,y,j6,b,j,H]
   refine bN w ⟨U (C9 a7),?_⟩;simp only[go_sem,q1,o1,t]
 have Q:¬(k:Int)<(z p.funcs:Int):=a7;rw[y9 a7]at hd;rw[show r=T from hd.symm,x6]at o;by_cases E:c<=4096
 case neg=>
  obtain rfl:X=F:=by rw[<-o,A4 E];rfl
  simp only[go_sem,q1,o1,t,v,Q,j6,E]
 rw[C9 E,x6]at o;by_cases hv:(z p.vars:Int)<=40
 case neg=>
  obtain rfl:X=F:=by rw[<-o,A4 (show ¬z p.vars<=40 by omega)];rfl
  simp only[go_sem,q1,o1,t,v,Q,j6,E,hv]
 rw[C9 (show z p.vars<=40 by omega),x6]at o;simp only[go_sem,q1,o1,t,v,Q,j6,E,hv];refine bJ rfl W0 ?_;rintro _ rfl;have e:decide ((al:Int)<=200)=X:=by rw[<-o];congr 1;exact propext ⟨λh=>by omega,λh=>by omega⟩
 simp only[go_sem,e]
end
end Go.Proofs.YtlacbjnmkhndiaaGreatDoor
namespace Go.Src
section
open Go.Asm (Str)
open Go.Mach (applyN)
structure Sg where
 out:Str
 rd:Nat
 tk:Nat
def Sg.tick(G:Sg):Sg:=⟨G.out,G.rd,G.tk+1⟩
def yz(inp:Str)(k:Nat):Nat:=match inp[k]? with|some x=>x.toNat|none=>256
def vV(inp:Str)(k:Nat):Nat:=match inp[k]? with|some _=>k+1|none=>k
end
end Go.Src
namespace Go.Proofs.YtlacbjnmkhndiaaGreatDoor
section
attribute [local congr] Go.Am.ite_cc
open Go Go.Am Go.Asm
open Go.Src (aL iB ea du)
section
def HT(f:FuncId)(xs:List AV)(v:AV):Prop:=
 ∀(B:Nat)(g:Nat->Nat)(a:Obs),(∀i,B<=i->a i=N)->fX Tryz.prog f xs g a (λr b Y=>r=v/\b=g/\Y=a)
variable{s:St}{B:Nat}
section
variable{O:Bs}{rd:Option Nat}{c:St->Am.Loc->List Deferred->World->Prop}
def oU(a6:aY O c){o:Oper}{K:St->Prop}{k:Box K}{f:FuncId}{args:Array Operand}{tys:Array TypeId}(ho:o.op=.call ⟨.value (.func f),args,tys⟩){xs:List AV}{v:AV}(h:HT f xs v)
 (I:args.toList.map s.ev=xs)(bk:∀i,B<=i->s.obj i=N){a:Nat}{b:ff}(d:K (St.put s o.dst v)):bm (spF Tryz.prog rd O c a b) o s k:=
 dj a6 ho (by rw[I];exact h B s.gen s.obj bk) (by rintro _ _ _ ⟨rfl,rfl,rfl⟩;exact d)
end
def rU{g:Nat->Nat}{ob:Obs}{j rs:List AV}{v:AV}(hf:dY B s j rs)(hv:pack rs=v)(h:∀i,i<B->s.gen i=g i/\s.obj i=ob i:=by (intro i hi;constructor<;>((try simp only[upd]);(repeat rw[j8 (by omega)])))):bi B [] g ob (λr g' Y=>r=v/\g'=g/\Y=ob) s j:=
 ⟨⟨λi hi _=>h i hi,λi hi=>(by cases hi)⟩,rs,hf,hv,yn,yo⟩
def qR{a b:Int}:dY B s [iv .i64 a,iv .i64 b] [iv .i64 a,iv .i64 b]:=⟨_,_,rfl,.one (.d _),_,_,rfl,.one (.d _),rfl⟩
def Ln(f:Src.Fn)(U:z f.params<=1000000)(k:z f.locals<=1000000):HT 26 [fnV f] (jh (iB f)):=by
 intro B g ob hf;refine cM.toR (hdM B [] Tryz.func26 rfl [.tmp 2] a8 hf λO bn s0 w0=>?_);rw[uG];simp only[go_sem];refine bY aA mixed aa [B+3] [([],[],[0],F),([1],[0],[],F),([4],[0],[],F),([3,5],[],[0],F),([1],[0],[],F),([7],[0],[],F),([6,8],[],[0],F),([9],[],[],T)] 1 rfl c8 rfl a8 ?_;simp only[go_sem]
 (apply bF;(case hg=>first|exact x9|exact⟨_,rfl,by decide,rfl⟩);(case U=>intro b ga d a J;simp only[go_sem]at J|-;exact J))
 iterate 2 (apply aj;(case hg=>first|exact x9|exact⟨_,rfl,by decide,rfl⟩);(case U=>intro b ga d a J;simp only[go_sem]at J|-;exact J))
 (apply bF;(case hg=>exact x9);(case U=>intro b ga d a J;simp only[go_sem,lN,j6]at J|-;exact⟨nR _,⟨b9,a7⟩,J⟩))
 iterate 2 (apply aj;(case hg=>first|exact x9|exact⟨_,rfl,by decide,rfl⟩);(case U=>intro b ga d a J;simp only[go_sem]at J|-;exact J))
 (apply bF;(case hg=>exact x9);(case U=>intro b ga d a J;simp only[go_sem,lN,j6]at J|-;exact⟨a7,nR _,⟨b9,a7⟩,J⟩))
 refine bZ x9 ?_;intro a e;simp only[go_sem];refine e _ ?_;clear e a;simp only[go_sem];refine⟨_,ae.refl _,?_⟩;simp only[go_sem];exact rU (GZ (l:=iB f) a7 Vy (by simp only[go_sem];simp[iB,jH,s6]) (by simp[iB])) rfl
def uM(p:Src.Prog)(hv:z p.vars<=1000000)(o:z p.arrays<=1000000)(hf:z p.funcs<=1000000)(i:Nat)(fn:Src.Fn)(hi:p.funcs[i]?=S fn)(U:z fn.params<=1000000)(q:z fn.locals<=1000000)(s:Str):
  HT 97 [bS p,iv .i64 i,sv s] (.tup [iv .i64 (du p fn s).1,iv .i64 (du p fn s).2]):=by
 intro B g ob ar;refine cM.toR (hdM B [] Tryz.func97 rfl [.tmp 6,.tmp 7] a8 ar λO bn s0 w0=>?_);have x:=(l5.1 hi).1;have h:(i:Int)<(z p.funcs:Int):=a7;have l:=getD_at (f:=fnD) hi;have t:fnD fn=[.str fn.name,.sl (fn.params.map λs=>[.str s]),.sl (fn.locals.map λs=>[.str s]),.bool fn.word,.sl (fn.body.map smD)]:=rfl;rw[t]at l;have n:=Ln fn U q;have y:z (iB fn)<=2000000:=by simp[iB];omega
 have az:z (ea p)<=3000000:=by simp[ea];omega
 have hG:=rR p hv o hf;rw[uG]at n;rw[bK]at hG|-;simp only[go_sem,h,j6,l];refine oU aa rfl n Vy (B:=B+58) (λi hi=>by (try simp only[upd]);(repeat rw[j8 (by omega)]);exact ar i (by omega)) ?_;simp only[go_sem];refine DH rfl (by simp only[go_sem];exact qM (iB fn) s a7) ?_;rintro _ rfl;unfold du;obtain⟨k,hk⟩:∃k,aL 0 (iB fn) s=k:=⟨_,rfl⟩
 rw[hk];by_cases d:0<=k
 .simp only[go_sem,d]
  exact Lm
 rw[j8 d];simp only[go_sem,d];refine DH rfl Xq ?_;rintro _ rfl;simp only[go_sem];refine DH rfl (by simp only[go_sem];exact qM (ea p) s a7) ?_;rintro _ rfl;have u:=Src.iM (ea p) 0 s;obtain⟨k,hk⟩:∃k,aL 0 (ea p) s=k:=⟨_,rfl⟩
 rw[hk]at u|-;by_cases hn:k<0
 .simp only[go_sem,hn]
  exact Lm
 by_cases a:k<(z p.vars:Int)
 .simp only[go_sem,hn,a,j6]
  exact Lm
 have e:IntKind.i64.wrap (k-(z p.vars:Int))=k-z p.vars:=wrap_i64 _ a7 a7;by_cases b:k-(z p.vars:Int)<(z p.arrays:Int)
 .simp only[go_sem,hn,a,j6,e,b]
  exact Lm
 have w:IntKind.i64.wrap (k-(z p.vars:Int)-(z p.arrays:Int))=k-z p.vars-z p.arrays:=wrap_i64 _ a7 a7;simp only[go_sem,hn,a,j6,e,b];refine aF c8 ?_;simp only[go_sem,e,w,j6];refine⟨_,ae.refl _,?_⟩;simp only[go_sem];exact rU (qR) (by rw[j8 hn,j8 a,j8 b];rfl)
end
end
end Go.Proofs.YtlacbjnmkhndiaaGreatDoor
