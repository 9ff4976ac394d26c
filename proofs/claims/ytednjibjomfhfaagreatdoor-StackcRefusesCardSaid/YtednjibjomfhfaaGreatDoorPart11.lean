/- A part of the proof; no conditions. -/
import Derived.Test.YtednjibjomfhfaaGreatDoorPart10
set_option linter.all false
open List renaming length -> z
open Option renaming some -> S, none -> N
open Bool renaming true -> T, false -> F
set_option maxHeartbeats 64000000
set_option maxRecDepth 100000
namespace Go.Proofs.YtednjibjomfhfaaGreatDoor
section
open Go Go.Am Go.Asm
open Go.Src (Th aP bW bA bC bw)
attribute[local congr]ite_cc
section
variable{g:Nat->Nat}{ob:Obs}{M:List C}{B:Nat}{l:List Th}{s:St}{R:AV->(Nat->Nat)->Obs->Prop}{Q q:List AV}
def bD.nil(h:∀i,i<B->s.gen i=g i/\s.obj i=ob i)(hf:fT B s Q q)(V:R (pack q) g ob):bD B [] g ob R s Q:=
 ⟨⟨λi a _=>h i a,λ_ h=>by simp at h⟩,q,hf,by rw[HM,HN];exact V⟩
def Gk(xs:List D):yu B s (.agg (xs.map .d)) (.agg (xs.map .d)):=.agg a8 λi c a=>by
 rw[y7]at a;cases b:xs[i]? with
 |none=>rw[b]at a;cases a
 |some x=>rw[b]at a;cases a;exact⟨_,rfl,.d x⟩
def thD(t:Nat×Nat):List D:=[.int .i64 (t.1:Nat),.int .i64 (t.2:Nat)]
def jf(M:List C)(l:List Th):Prop:=∀s:Str,mget M (.str s)=(aP l s).map λt=>.d (.iptr (thD t))
def ly(M:List C):Prop:=∀c∈M,∃x,c=.d x
def lz{k x:D}:∀{M:List C},ly M->ly (mset M k (.d x))
 |.d E::c::r,h=>by
   simp only[mset];split
   .intro y a
    rcases y9.1 a with rfl|a
    .exact⟨_,rfl⟩
    rcases y9.1 a with rfl|a
    .exact⟨_,rfl⟩
    .exact h y (by simp[a])
   .intro y a
    rcases y9.1 a with rfl|a
    .exact⟨_,rfl⟩
    rcases y9.1 a with rfl|a
    .exact h y a8
    .exact lz (M:=r) (λX b=>h X (by simp[b])) y a
 |[],h=>by simp[mset,ly]
 |[.d E],h=>by simp[mset,ly]
 |.osl _ _ _ _ _::_,h=>by obtain⟨x,I⟩:=h _ (I6 ..);cases I
 |.ptr _ _ _::_,h=>by obtain⟨x,I⟩:=h _ (I6 ..);cases I
 |.mp _ _ _::_,h=>by obtain⟨x,I⟩:=h _ (I6 ..);cases I
 |.clo _ _::_,h=>by obtain⟨x,I⟩:=h _ (I6 ..);cases I
 |.lsl _::_,h=>by obtain⟨x,I⟩:=h _ (I6 ..);cases I
 |.raw _::_,h=>by obtain⟨x,I⟩:=h _ (I6 ..);cases I
def ly.low(h:ly M):∀c∈M,nX B c:=λc a=>by obtain⟨x,rfl⟩:=h c a;trivial
def jf.put{V:Str}{t:Nat×Nat}(h:jf M l)(b:aP l V=N):jf (mset M (.str V) (.d (.iptr (thD t)))) (l++[(V,t)]):=λs=>by
 rw[pG,Src.lX];simp only[kE,aP];by_cases a:V=s
 .subst a
  rw[b];simp
 .simp only[a,K7,A3,B8]
  rw[h s];cases aP l s<;>rfl
def jf.old{V:Str}{t x:Nat×Nat}(h:jf M l)(b:aP l V=S x):jf M (l++[(V,t)]):=λs=>by
 rw[h s,Src.lX];cases a:aP l s with
 |some y=>rfl
 |none=>
   simp only[aP];rw[j8 (by rintro rfl;rw[b]at a;cases a)]
def yY{an:List Nat}{g g':Nat->Nat}(h:∀i∈an,g' i=g i):jT an g g'=g:=by
 funext i;unfold jT;split
 .exact h i j0
 .rfl
def IH{a b:Nat}{ob Z:Obs}:fM [a,b] ob Z=upd (upd ob a (Z a)) b (Z b):=by
 funext i;simp only[fM,upd,y9,A4,E7];by_cases U:i=b
 .subst U;simp
 .by_cases Y:i=a
  .subst Y;simp[U]
  .simp[U,Y]
def sQ(x:Option (Nat×Nat)):AV:=match x with|some t=>.agg ((thD t).map .d)|none=>.agg [.d (.int .i64 0),.d (.int .i64 (-1))]
def Qv{B io ii go gi:Nat}{l o:List C}{lo li:List Th}(hB:∀i,B<=i->ob i=N)(m:io<B)(bd:ii<B)(ho:ob io=S l)(hi:ob ii=S o)(mo:jf l lo)(mi:jf o li)(V:Str)(ad:g io=go)(bf:g ii=gi):
  fv Tryz.prog 135 [.agg [.mp io go 208,.mp ii gi 208],sv V] g ob (λr g' Z=>g'=g/\Z=ob/\r=sQ (bw lo li V)) (λ_ _ _=>False):=by
 subst ad bf;refine hdM B [] Tryz.func135 rfl [.cell 4 237] a8 hB λO bo s0 w0=>?_;have Q:∀k,(io=B+k)=False:=λk=>by simp;omega
 have n2:∀k,(ii=B+k)=False:=λk=>by simp;omega
 have c:∀i,i<B->g i=g i/\ob i=ob i:=λ_ _=>⟨rfl,rfl⟩
 have a:=mi V;have b:=mo V;unfold bw;cases d:aP li V with
 |some t=>
   rw[d]at a;simp only[z8,thD]at a;simp only[go_sem,Q,n2,hi,D3,C0,a];exact p8
 |none=>
   rw[d]at a;simp only[Hk]at a;cases e:aP lo V with
   |some t=>
     rw[e]at b;simp only[z8,thD]at b;simp only[go_sem,Q,n2,hi,D3,C0,a,ho,b];exact p8
   |none=>
     rw[e]at b;simp only[Hk]at b;simp only[go_sem,Q,n2,hi,D3,C0,a,ho,b];refine⟨_,ae.refl _,?_⟩;simp only[go_sem,Q,n2];exact bD.nil (λi hi=>⟨by (try simp only[upd]);(repeat rw[j8 (by omega)]);first|done|rfl|exact(c i hi).1,by (try simp only[upd]);(repeat rw[j8 (by omega)]);first|done|rfl|exact(c i hi).2⟩) (q:=[sQ N]) ⟨_,_,rfl,Gk [.int .i64 0,.int .i64 (-1)],rfl⟩ ⟨rfl,rfl,rfl⟩
def bD.two{B a b:Nat}{m n:List C}(h:∀i,i<B->i≠a->i≠b->s.gen i=g i/\s.obj i=ob i)(t:s.gen a=g a)(X:s.gen b=g b)(p:s.obj a=S m)(f:s.obj b=S n)
 (j:∀c∈m,nX B c)(U:∀c∈n,nX B c)(hf:fT B s Q q)(V:R (pack q) g (upd (upd ob a (S m)) b (S n))):bD B [a,b] g ob R s Q:=by
 refine⟨⟨λi d r=>h i d (λe=>r Yj) (λe=>r Yj),λi d o k=>?_⟩,q,hf,?_⟩
 .simp only[y9,A4,E7]at d
  rcases d with rfl|rfl
  .rw[p]at k;cases k;exact j
  .rw[f]at k;cases k;exact U
 .rw[yY (λi d=>by simp only[y9,A4,E7]at d;rcases d with rfl|rfl<;>assumption),IH,p,f]
  exact V
def Gl{x:D}:∀c∈[C.d x],nX B c:=λc a=>by rw[C6.1 a];trivial
def UQ(o r:Nat)(l:List Th)(V:Str)(t:Nat×Nat)(u:Bool)(g:Nat->Nat)(ob:Obs)(g':Nat->Nat)(Z:Obs):Prop:=
 g'=g/\∃J,jf J (l++[(V,t)])/\ly J/\Z=upd (upd ob o (S J)) r (S [.d (.bool (u&&(aP l V).isNone))])
def vV{B o y r:Nat}{u:Bool}(hB:∀i,B<=i->ob i=N)(U:o<B)(Y:y<B)(v:r<B)(P:o≠y)(c:o≠r)(e:y≠r)(hm:ob o=S M)(j:ob y=S [.mp o (g o) 208])(a:ob r=S [.d (.bool u)])
 (mo:jf M l)(hd:ly M)(V:Str)(t:Nat×Nat):
  fv Tryz.prog 198 [sv V,.agg ((thD t).map .d),kJ (.ptr y (g y) 0),kJ (.ptr r (g r) 0)] g ob (λ_ g' Z=>UQ o r l V t u g ob g' Z) (λ_ _ _=>False):=by
 refine hdM B [o,r] Tryz.func198 rfl [] (by simp[U,v]) hB λO bo s0 w0=>?_;have Q:∀k,(o=B+k)=False:=λk=>by simp;omega
 have n2:∀k,(y=B+k)=False:=λk=>by simp;omega
 have n3:∀k,(r=B+k)=False:=λk=>by simp;omega
 have b:=mo V;unfold thD;cases hf:aP l V with
 |some x=>
   exact j9
 |none=>
   rw[hf]at b;simp only[Hk]at b;simp only[go_sem,Q,n2,n3,kJ,j,hm,D3,C0,b,a];refine⟨_,ae.refl _,?_⟩;simp only[go_sem];refine bD.two (m:=mset M (.str V) (.d (.iptr (thD t)))) (n:=[.d (.bool u)]) (λi hi ha hb=>⟨by (try simp only[upd]);(repeat rw[j8 (by omega)]),by (try simp only[upd]);(repeat rw[j8 (by omega)])⟩) (by (try simp only[upd]);(repeat rw[j8 (by omega)])) (by (try simp only[upd]);(repeat rw[j8 (by omega)])) (by simp[upd,thD]) (by simp only[upd];rw[j8 (A9 c)];(repeat rw[j8 (by omega)]);exact a) (lz hd).low Gl (q:=[]) rfl ⟨rfl,_,mo.put hf,lz hd,by rw[hf];simp⟩
def AR{B o y r:Nat}{u:Bool}(hB:∀i,B<=i->ob i=N)(U:o<B)(Y:y<B)(t:r<B)(P:o≠y)(c:o≠r)(e:y≠r)(hm:ob o=S M)(j:ob y=S [.mp o (g o) 208])(a:ob r=S [.d (.bool u)])
 (mo:jf M l)(hd:ly M)(V:Str)(k:Nat):
  fv Tryz.prog 199 [sv V,iv .i64 (k:Nat),kJ (.ptr y (g y) 0),kJ (.ptr r (g r) 0)] g ob (λ_ g' Z=>UQ o r l V (1,k) u g ob g' Z) (λ_ _ _=>False):=by
 refine hdM B [o,r] Tryz.func199 rfl [] (by simp[U,t]) hB λO bo s0 w0=>?_;have Q:∀k,(o=B+k)=False:=λk=>by simp;omega
 have n2:∀k,(y=B+k)=False:=λk=>by simp;omega
 have n3:∀k,(r=B+k)=False:=λk=>by simp;omega
 have b:=mo V;cases hf:aP l V with
 |some x=>
   exact j9
 |none=>
   rw[hf]at b;simp only[Hk]at b;simp only[go_sem,Q,n2,n3,kJ,j,hm,D3,C0,b,a];refine⟨_,ae.refl _,?_⟩;simp only[go_sem];refine bD.two (m:=mset M (.str V) (.d (.iptr (thD (1,k))))) (n:=[.d (.bool u)]) (λi hi ha hb=>⟨by (try simp only[upd]);(repeat rw[j8 (by omega)]),by (try simp only[upd]);(repeat rw[j8 (by omega)])⟩) (by (try simp only[upd]);(repeat rw[j8 (by omega)])) (by (try simp only[upd]);(repeat rw[j8 (by omega)])) (by simp[upd,thD]) (by simp only[upd];rw[j8 (A9 c)];(repeat rw[j8 (by omega)]);exact a) (lz hd).low Gl (q:=[]) rfl ⟨rfl,_,mo.put hf,lz hd,by rw[hf];simp⟩
end
end
section
open Go Go.Am Go.Asm
open Go.Src (Th aP bW bA bC bw thV thA thF thL)
attribute[local congr]ite_cc
section
def kl{a β:Type}{f:Nat->a->β}{l:List a}{k:Nat}{x:a}(h:l[k]?=S x):(l.take (k+1)).mapIdx f=(l.take k).mapIdx f++[f k x]:=by
 have b:=(l8.1 h).1;rw[B4,h,I7,List.mapIdx_concat,C2,Nat.min_eq_left a6]
structure GlI (B:Nat) (l:List Th) (g:Nat->Nat) (ob:Obs) (f:Nat) (p:List C) (K:St):Prop where
 f1:K.f 1=.one (.ptr (B+1) (K.gen (B+1)) 0)
 f4:K.f 4=.one (.ptr (B+4) (K.gen (B+4)) 0)
 f5:K.f 5=.one (.ptr (B+5) (K.gen (B+5)) 0)
 f6:K.f 6=.one (.clo f [.ptr (B+4) (K.gen (B+4)) 0,.ptr (B+5) (K.gen (B+5)) 0])
 o1:K.obj (B+1)=some p
 o5:K.obj (B+5)=some [.d (.bool (bW [] l))]
 fr:∀i,i<B\/B+100<=i->K.gen i=g i/\K.obj i=ob i
def GlR(o B:Nat)(l:List Th)(g:Nat->Nat)(ob:Obs)(r:AV)(g':Nat->Nat)(Z:Obs):Prop:=
 r=.tup [.one (.mp o (g' o) 208),bv (bW [] l)]/\(∃M,Z o=S M/\jf M l/\ly M)/\∀i,i<B\/B+100<=i->g' i=g i/\Z i=ob i
def kn{l:List Th}{t:Th}:bW [] (l++[t])=(bW [] l&&(aP l t.1).isNone):=by rw[Src.sf];rfl
variable{g:Nat->Nat}
def Gm{ob:Obs}{p:Src.Prog}(b:∀i,1100<=i->ob i=N)(bc:szP p<=1000000000):
  fv Tryz.prog 131 [cn p] g ob (GlR 1013 1000 (bA p) g ob) (λ_ _ _=>False):=by
 refine hdX 1000 Tryz.func131 rfl [.tmp 2,.tmp 3] λO bo s0 w0=>?_;obtain⟨vs,u,fs⟩:=p;unfold szP at bc;simp only at bc;obtain⟨L,hL⟩:∃L,bA ⟨vs,u,fs⟩=L:=⟨_,rfl⟩
 rw[hL];unfold bA at hL;simp only at hL;unfold cn je;simp only[go_sem,j5];refine aq (λm K=>∃k:Nat,m+k=z vs/\GlI 1000 (thV (vs.take k)) g ob 198 (iu ⟨vs,u,fs⟩) K/\K.obj 1004=S [.mp 1013 (K.gen 1013) 208]/\(∃M,K.obj 1013=S M/\jf M (thV (vs.take k))/\ly M)/\K.f 16=.one (.d (.sl (vs.map λs=>[.str s])))/\K.f 17=iv .i64 (z vs)/\K.f 18=iv .i64 k) (z vs) ?_ ?_
 .exact Mo
 rintro m f n ad ⟨k,hk,⟨q1,q4,q5,q6,o1,o5,fr⟩,o4,⟨M,oM,I,q⟩,A,e,a⟩;simp only[Nat.reduceAdd]at q1 q4 q5 q6 o1 o5 fr o4 oM A e a;have G:=ab (k:=k) a6;by_cases af:k<z vs
 .have H:(k:Int)<(z vs:Int):=a6
  have an:(0:Int)<=(k:Int):=a6;obtain⟨v,he⟩:=getq af;simp only[go_sem,q6,A,e,a,H,an,he];refine ba (f:=198) (bf:=[.ptr 1004 (n 1004) 0,.ptr 1005 (n 1005) 0]) aa rfl Xz (by simp only[go_sem];exact vV (B:=1100) (o:=1013) (y:=1004) (r:=1005) (λi hi=>by rw[(fr i a6).2];exact b i hi) a7 a7 a7 a7 a7 a7 oM o4 o5 I q v (2,k)) ?_ ?_
  .exact kb
  rintro _ g' Z ⟨rfl,J,j,l,rfl⟩;simp only[go_sem,a,G];have hT:thV (vs.take (k+1))=thV (vs.take k)++[(v,2,k)]:=kl he;exact zv
 have H:¬(k:Int)<(z vs:Int):=a6;obtain rfl:k=z vs:=a6;unfold iu je at o1;simp only[l9,v8]at o1;simp only[go_sem,q1,o1,e,a,H,j5];refine aq (λm K=>∃k:Nat,m+k=z u/\GlI 1000 (thV vs++thA (u.take k)) g ob 198 (iu ⟨vs,u,fs⟩) K/\K.obj 1004=S [.mp 1013 (K.gen 1013) 208]/\(∃M,K.obj 1013=S M/\jf M (thV vs++thA (u.take k))/\ly M)/\K.f 30=.one (.d (.sl (u.map arD)))/\K.f 31=iv .i64 (z u)/\K.f 32=iv .i64 k) (z u) ?_ ?_
 .rw[s6 (l0 _)]at o5 I
  have W:thV vs++thA []=thV vs:=by simp[thA]
  exact ti
 clear q1 q4 q5 q6 o1 o5 fr o4 oM A e a I q G af H hk M;rintro m f n ad ⟨k,hk,⟨q1,q4,q5,q6,o1,o5,fr⟩,o4,⟨M,oM,I,q⟩,A,e,a⟩;simp only[Nat.reduceAdd]at q1 q4 q5 q6 o1 o5 fr o4 oM A e a;have G:=ab (k:=k) a6;by_cases af:k<z u
 .have H:(k:Int)<(z u:Int):=a6
  have an:(0:Int)<=(k:Int):=a6;obtain⟨⟨v,X⟩,he⟩:=getq af;have w:=(fr 1100 a6).2;simp only[go_sem,q6,A,e,a,H,an,he,arD];refine ba (f:=198) (bf:=[.ptr 1004 (n 1004) 0,.ptr 1005 (n 1005) 0]) aa rfl Xz (by simp only[go_sem];exact vV (B:=1100) (o:=1013) (y:=1004) (r:=1005) (λi hi=>by (try simp only[upd]);(repeat rw[j8 (by omega)]);rw[(fr i (by omega)).2];exact b i hi) (by decide) (by decide) (by decide) (by decide) (by decide) (by decide) (by simp[upd];exact oM) (by simp[upd];exact o4) (by simp[upd];exact o5) I q v (3,k)) ?_ ?_
  .exact kb
  rintro _ g' Z ⟨rfl,J,j,l,rfl⟩;simp only[go_sem,a,G]
  have hT:thV vs++thA (u.take (k+1))=(thV vs++thA (u.take k))++[(v,3,k)]:=by
   rw[l6];congr 1;exact kl he
  exact xc
 have H:¬(k:Int)<(z u:Int):=a6;obtain rfl:k=z u:=a6;unfold iu je at o1;simp only[l9,v8]at o1;simp only[go_sem,q1,o1,e,a,H,j5];refine aq (λm K=>∃k:Nat,m+k=z fs/\GlI 1000 (thV vs++thA u++thF (fs.take k)) g ob 198 (iu ⟨vs,u,fs⟩) K/\K.obj 1004=S [.mp 1013 (K.gen 1013) 208]/\(∃M,K.obj 1013=S M/\jf M (thV vs++thA u++thF (fs.take k))/\ly M)/\K.f 45=.one (.d (.sl (fs.map fnD)))/\K.f 46=iv .i64 (z fs)/\K.f 47=iv .i64 k) (z fs) ?_ ?_
 .rw[s6 (l0 _)]at o5 I
  have W:thV vs++thA u++thF []=thV vs++thA u:=by simp[thF]
  exact ti
 clear q1 q4 q5 q6 o1 o5 fr o4 oM A e a I q G af H hk M;rintro m f n ad ⟨k,hk,⟨q1,q4,q5,q6,o1,o5,fr⟩,o4,⟨M,oM,I,q⟩,A,e,a⟩;simp only[Nat.reduceAdd]at q1 q4 q5 q6 o1 o5 fr o4 oM A e a;have G:=ab (k:=k) a6;by_cases af:k<z fs
 .have H:(k:Int)<(z fs:Int):=a6
  have an:(0:Int)<=(k:Int):=a6;obtain⟨x,he⟩:=getq af;simp only[go_sem,q6,A,e,a,H,an,he,fnD];refine ba (f:=198) (bf:=[.ptr 1004 (n 1004) 0,.ptr 1005 (n 1005) 0]) aa rfl Xz (by simp only[go_sem];exact vV (B:=1100) (o:=1013) (y:=1004) (r:=1005) (λi hi=>by (try simp only[upd]);(repeat rw[j8 (by omega)]);rw[(fr i (by omega)).2];exact b i hi) (by decide) (by decide) (by decide) (by decide) (by decide) (by decide) (by simp[upd];exact oM) (by simp[upd];exact o4) (by simp[upd];exact o5) I q x.name (4,k)) ?_ ?_
  .exact kb
  rintro _ g' Z ⟨rfl,J,j,l,rfl⟩;simp only[go_sem,a,G]
  have hT:thV vs++thA u++thF (fs.take (k+1))=(thV vs++thA u++thF (fs.take k))++[(x.name,4,k)]:=by
   rw[l6 (thV vs++thA u)];congr 1;exact kl he
  exact xc
 have H:¬(k:Int)<(z fs:Int):=a6;obtain rfl:k=z fs:=a6;exact Mi
def II{ob:Obs}{x:Src.Fn}(b:∀i,2100<=i->ob i=N)(bc:z x.params+z x.locals<=1000000000):
  fv Tryz.prog 132 [fnV x] g ob (GlR 2011 2000 (bC x) g ob) (λ_ _ _=>False):=by
 refine hdX 2000 Tryz.func132 rfl [.tmp 2,.tmp 3] λO bo s0 w0=>?_;obtain⟨V,G,ls,wd,body⟩:=x;simp only at bc;obtain⟨L,hL⟩:∃L,bC ⟨V,G,ls,wd,body⟩=L:=⟨_,rfl⟩
 rw[hL];unfold bC at hL;simp only at hL;unfold fnV fnD;simp only[go_sem,j5];refine aq (λm K=>∃k:Nat,m+k=z G/\GlI 2000 (thL 0 (G.take k)) g ob 199 ((fnD ⟨V,G,ls,wd,body⟩).map .d) K/\K.obj 2004=S [.mp 2011 (K.gen 2011) 208]/\(∃M,K.obj 2011=S M/\jf M (thL 0 (G.take k))/\ly M)/\K.f 14=.one (.d (.sl (G.map λs=>[.str s])))/\K.f 15=iv .i64 (z G)/\K.f 16=iv .i64 k) (z G) ?_ ?_
 .exact Mo
 rintro m f g1 ad ⟨k,hk,⟨q1,q4,q5,q6,o1,o5,fr⟩,o4,⟨M,oM,I,q⟩,A,e,a⟩;simp only[Nat.reduceAdd]at q1 q4 q5 q6 o1 o5 fr o4 oM A e a;have hw:=ab (k:=k) a6;by_cases af:k<z G
 .have H:(k:Int)<(z G:Int):=a6
  have an:(0:Int)<=(k:Int):=a6;obtain⟨v,he⟩:=getq af;simp only[go_sem,q6,A,e,a,H,an,he];refine ba (f:=199) (bf:=[.ptr 2004 (g1 2004) 0,.ptr 2005 (g1 2005) 0]) aa rfl Xz (by simp only[go_sem];exact AR (B:=2100) (o:=2011) (y:=2004) (r:=2005) (λi hi=>by rw[(fr i a6).2];exact b i hi) a7 a7 a7 a7 a7 a7 oM o4 o5 I q v k) ?_ ?_
  .exact kb
  rintro _ g' Z ⟨rfl,J,j,l,rfl⟩;simp only[go_sem,a,hw]
  have hT:thL 0 (G.take (k+1))=thL 0 (G.take k)++[(v,1,k)]:=by
   have:=kl (f:=λi n=>((n,1,0+i):Th)) he;simpa[thL]using this
  exact zv
 have H:¬(k:Int)<(z G:Int):=a6;obtain rfl:k=z G:=a6;unfold fnD at o1;simp only[l9,v8]at o1;simp only[go_sem,q1,o1,e,a,H,j5];refine aq (λm K=>∃k:Nat,m+k=z ls/\GlI 2000 (thL 0 G++thL (z G) (ls.take k)) g ob 199 ((fnD ⟨V,G,ls,wd,body⟩).map .d) K/\K.obj 2004=S [.mp 2011 (K.gen 2011) 208]/\(∃M,K.obj 2011=S M/\jf M (thL 0 G++thL (z G) (ls.take k))/\ly M)/\K.f 27=.one (.d (.sl (ls.map λs=>[.str s])))/\K.f 28=iv .i64 (z ls)/\K.f 29=iv .i64 k) (z ls) ?_ ?_
 .rw[s6 (l0 _)]at o5 I
  have W:thL 0 G++thL (z G) []=thL 0 G:=by simp[thL]
  exact ti
 clear q1 q4 q5 q6 o1 o5 fr o4 oM A e a I q hw af H hk M;rintro m f g1 ad ⟨k,hk,⟨q1,q4,q5,q6,o1,o5,fr⟩,o4,⟨M,oM,I,q⟩,A,e,a⟩;simp only[Nat.reduceAdd]at q1 q4 q5 q6 o1 o5 fr o4 oM A e a;have hw:=ab (k:=k) a6;by_cases af:k<z ls
 .have H:(k:Int)<(z ls:Int):=a6
  have an:(0:Int)<=(k:Int):=a6;have E:IntKind.i64.wrap ((z G:Int)+(k:Int))=((z G+k:Nat):Int):=by rw[wrap_i64]<;>omega
  obtain⟨v,he⟩:=getq af;unfold fnD at o1;simp only[l9,v8]at o1;simp only[go_sem,q1,o1,q6,A,e,a,H,an,he,j5,E];refine ba (f:=199) (bf:=[.ptr 2004 (g1 2004) 0,.ptr 2005 (g1 2005) 0]) aa rfl Xz (by simp only[go_sem];exact AR (B:=2100) (o:=2011) (y:=2004) (r:=2005) (λi hi=>by (try simp only[upd]);(repeat rw[j8 (by omega)]);rw[(fr i (by omega)).2];exact b i hi) (by decide) (by decide) (by decide) (by decide) (by decide) (by decide) oM o4 o5 I q v (z G+k)) ?_ ?_
  .exact kb
  rintro _ g' Z ⟨rfl,J,j,l,rfl⟩;simp only[go_sem,a,hw]
  have hT:thL 0 G++thL (z G) (ls.take (k+1))=(thL 0 G++thL (z G) (ls.take k))++[(v,1,z G+k)]:=by
   rw[l6];congr 1;exact kl he
  refine ai (m-1) a6 ⟨k+1,a6,⟨?_,?_,?_,?_,?_,?_,?_⟩,?_⟩<;>(simp only[go_sem,q1,q4,q5,q6,o1,o4,A,e])
  .rfl
  .rw[hT,kn]
  .exact λi hi=>⟨nt ((fr i hi).1),nt ((fr i hi).2)⟩
  .exact⟨J,rfl,by rw[hT];exact j,l⟩
 have H:¬(k:Int)<(z ls:Int):=a6;obtain rfl:k=z ls:=a6;exact Mi
end
end
end Go.Proofs.YtednjibjomfhfaaGreatDoor
