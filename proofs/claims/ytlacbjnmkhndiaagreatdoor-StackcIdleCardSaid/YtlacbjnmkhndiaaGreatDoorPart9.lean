/- A part of the proof; no conditions. -/
import Derived.Test.YtlacbjnmkhndiaaGreatDoorPart8
set_option linter.unusedSimpArgs false
set_option linter.unusedVariables false
set_option linter.defProp false
open List renaming length -> z
open Option renaming some -> S, none -> N
open Bool renaming true -> T, false -> F
set_option maxHeartbeats 64000000
set_option maxRecDepth 100000
namespace Go.Proofs.YtlacbjnmkhndiaaGreatDoor
section
open Go Go.Am Go.Asm
open Go.Src (Th aH bD aI aM aR)
attribute[local congr]ite_cc
section
variable{g:Nat->Nat}{ob:Obs}{M:List C}{B:Nat}{l:List Th}{s:St}{R:AV->(Nat->Nat)->Obs->Prop}{j o:List AV}
def bB.nil(h:∀i,i<B->s.gen i=g i/\s.obj i=ob i)(hf:eH B s j o)(V:R (pack o) g ob):bB B [] g ob R s j:=
 ⟨⟨λi a _=>h i a,λ_ h=>by simp at h⟩,o,hf,by rw[zX,zY];exact V⟩
def Gq(xs:List D):yx B s (.agg (xs.map .d)) (.agg (xs.map .d)):=.agg a8 λi c Z=>by
 rw[w9]at Z;cases a:xs[i]? with
 |none=>rw[a]at Z;cases Z
 |some x=>rw[a]at Z;cases Z;exact⟨_,rfl,.d x⟩
def thD(t:Nat×Nat):List D:=[.int .i64 (t.1:Nat),.int .i64 (t.2:Nat)]
def ju(M:List C)(l:List Th):Prop:=∀s:Str,mget M (.str s)=(aH l s).map λt=>.d (.iptr (thD t))
def lG(M:List C):Prop:=∀c∈M,∃x,c=.d x
def lH{k x:D}:∀{M:List C},lG M->lG (mset M k (.d x))
 |.d b::c::r,h=>by
   simp only[mset];split
   .intro y a
    rcases A0.1 a with rfl|a
    .exact⟨_,rfl⟩
    rcases A0.1 a with rfl|a
    .exact⟨_,rfl⟩
    .exact h y (by simp[a])
   .intro y a
    rcases A0.1 a with rfl|a
    .exact⟨_,rfl⟩
    rcases A0.1 a with rfl|a
    .exact h y a8
    .exact lH (M:=r) (λX hz=>h X ZJ) y a
 |[],h=>by simp[mset,lG]
 |[.d b],h=>by simp[mset,lG]
 |.osl _ _ _ _ _::_,h=>by obtain⟨x,I⟩:=h _ (J2 ..);cases I
 |.ptr _ _ _::_,h=>by obtain⟨x,I⟩:=h _ (J2 ..);cases I
 |.mp _ _ _::_,h=>by obtain⟨x,I⟩:=h _ (J2 ..);cases I
 |.clo _ _::_,h=>by obtain⟨x,I⟩:=h _ (J2 ..);cases I
 |.lsl _::_,h=>by obtain⟨x,I⟩:=h _ (J2 ..);cases I
 |.raw _::_,h=>by obtain⟨x,I⟩:=h _ (J2 ..);cases I
def lG.low(h:lG M):∀c∈M,lV B c:=λc Z=>by obtain⟨x,rfl⟩:=h c Z;trivial
def ju.put{a:Str}{t:Nat×Nat}(h:ju M l)(c:aH l a=N):ju (mset M (.str a) (.d (.iptr (thD t)))) (l++[(a,t)]):=λs=>by
 rw[pM,Src.jA];simp only[kO,aH];by_cases b:a=s
 .subst b
  rw[c];simp
 .simp only[b,L7,E0,B1]
  rw[h s];cases aH l s<;>rfl
def ju.old{a:Str}{t x:Nat×Nat}(h:ju M l)(c:aH l a=S x):ju M (l++[(a,t)]):=λs=>by
 rw[h s,Src.jA];cases b:aH l s with
 |some y=>rfl
 |none=>
   simp only[aH];rw[j9 (by rintro rfl;rw[c]at b;cases b)]
def za{ar:List Nat}{g g':Nat->Nat}(h:∀i∈ar,g' i=g i):jP ar g g'=g:=by
 funext i;unfold jP;split
 .exact h i j6
 .rfl
def Jh{a b:Nat}{ob Y:Obs}:fN [a,b] ob Y=upd (upd ob a (Y a)) b (Y b):=by
 funext i;simp only[fN,upd,A0,B3,F2];by_cases U:i=b
 .subst U;simp
 .by_cases c:i=a
  .subst c;simp[U]
  .simp[U,c]
def td(x:Option (Nat×Nat)):AV:=match x with|some t=>.agg ((thD t).map .d)|none=>.agg [ag 0,ag (-1)]
def Ri{B io ii go gi:Nat}{m u:List C}{H li:List Th}(hB:∀i,B<=i->ob i=N)(p:io<B)(l:ii<B)(ho:ob io=S m)(hi:ob ii=S u)(mo:ju m H)(mi:ju u li)(b:Str)(av:g io=go)(an:g ii=gi):
  dj Tryz.prog 107 [.agg [.mp io go 208,.mp ii gi 208],sv b] g ob (λr g' Y=>g'=g/\Y=ob/\r=td (aR H li b)) (λ_ _ _=>False):=by
 subst av an;refine hdM B [] Tryz.func107 rfl [.cell 4 204] a8 hB λO bn s0 w0=>?_;have n1:∀k,(io=B+k)=False:=λk=>by simp;omega
 have n2:∀k,(ii=B+k)=False:=λk=>by simp;omega
 have c:∀i,i<B->g i=g i/\ob i=ob i:=λ_ _=>⟨rfl,rfl⟩
 have a:=mi b;have I:=mo b;unfold aR;cases d:aH li b with
 |some t=>
   rw[d]at a;simp only[A3,thD]at a;simp only[go_sem,n1,n2,hi,E4,C9,a];exact ov
 |none=>
   rw[d]at a;simp only[H8]at a;cases q:aH H b with
   |some t=>
     rw[q]at I;simp only[A3,thD]at I;simp only[go_sem,n1,n2,hi,E4,C9,a,ho,I];exact ov
   |none=>
     rw[q]at I;simp only[H8]at I;simp only[go_sem,n1,n2,hi,E4,C9,a,ho,I];refine⟨_,ai.refl _,?_⟩;simp only[go_sem,n1,n2];exact bB.nil (λi hi=>⟨by (try simp only[upd]);(repeat rw[j9 (by omega)]);first|done|rfl|exact(c i hi).1,by (try simp only[upd]);(repeat rw[j9 (by omega)]);first|done|rfl|exact(c i hi).2⟩) (o:=[td N]) ⟨_,_,rfl,Gq [.int .i64 0,.int .i64 (-1)],rfl⟩ ⟨rfl,rfl,rfl⟩
def bB.two{B a b:Nat}{f m:List C}(h:∀i,i<B->i≠a->i≠b->s.gen i=g i/\s.obj i=ob i)(ga:s.gen a=g a)(q:s.gen b=g b)(p:s.obj a=S f)(d:s.obj b=S m)
 (l:∀c∈f,lV B c)(t:∀c∈m,lV B c)(hf:eH B s j o)(V:R (pack o) g (upd (upd ob a (S f)) b (S m))):bB B [a,b] g ob R s j:=by
 refine⟨⟨λi k r=>h i k (λe=>r Zc) (λe=>r Zc),λi k n Z=>?_⟩,o,hf,?_⟩
 .simp only[A0,B3,F2]at k
  rcases k with rfl|rfl
  .rw[p]at Z;cases Z;exact l
  .rw[d]at Z;cases Z;exact t
 .rw[za (λi k=>by simp only[A0,B3,F2]at k;rcases k with rfl|rfl<;>assumption),Jh,p,d]
  exact V
def Gr{x:D}:∀c∈[C.d x],lV B c:=λc Z=>by rw[E3.1 Z];trivial
def Wb(j r:Nat)(l:List Th)(a:Str)(t:Nat×Nat)(u:Bool)(g:Nat->Nat)(ob:Obs)(g':Nat->Nat)(Y:Obs):Prop:=
 g'=g/\∃y,ju y (l++[(a,t)])/\lG y/\Y=upd (upd ob j (S y)) r (S [bE (u&&(aH l a).isNone)])
def vZ{B j w r:Nat}{u:Bool}(hB:∀i,B<=i->ob i=N)(U:j<B)(q:w<B)(n:r<B)(W:j≠w)(b:j≠r)(c:w≠r)(hm:ob j=S M)(p:ob w=S [.mp j (g j) 208])(a:ob r=S [bE u])
 (mo:ju M l)(hd:lG M)(e:Str)(t:Nat×Nat):
  dj Tryz.prog 163 [sv e,.agg ((thD t).map .d),kT (.ptr w (g w) 0),kT (.ptr r (g r) 0)] g ob (λ_ g' Y=>Wb j r l e t u g ob g' Y) (λ_ _ _=>False):=by
 refine hdM B [j,r] Tryz.func163 rfl [] (by simp[U,n]) hB λO bn s0 w0=>?_;have n1:∀k,(j=B+k)=False:=λk=>by simp;omega
 have n2:∀k,(w=B+k)=False:=λk=>by simp;omega
 have n3:∀k,(r=B+k)=False:=λk=>by simp;omega
 have I:=mo e;unfold thD;cases hf:aH l e with
 |some x=>
   exact im
 |none=>
   rw[hf]at I;simp only[H8]at I;simp only[go_sem,n1,n2,n3,kT,p,hm,E4,C9,I,a];refine⟨_,ai.refl _,?_⟩;simp only[go_sem];refine bB.two (f:=mset M (.str e) (.d (.iptr (thD t)))) (m:=[bE u]) (λi hi ha hb=>⟨by (try simp only[upd]);(repeat rw[j9 (by omega)]),by (try simp only[upd]);(repeat rw[j9 (by omega)])⟩) (by (try simp only[upd]);(repeat rw[j9 (by omega)])) (by (try simp only[upd]);(repeat rw[j9 (by omega)])) (by simp[upd,thD]) (by simp only[upd];rw[j9 (B7 b)];(repeat rw[j9 (by omega)]);exact a) (lH hd).low Gr (o:=[]) rfl ⟨rfl,_,mo.put hf,lH hd,by rw[hf];simp⟩
def AQ{B j w r:Nat}{u:Bool}(hB:∀i,B<=i->ob i=N)(U:j<B)(q:w<B)(n:r<B)(W:j≠w)(b:j≠r)(c:w≠r)(hm:ob j=S M)(p:ob w=S [.mp j (g j) 208])(a:ob r=S [bE u])
 (mo:ju M l)(hd:lG M)(e:Str)(k:Nat):
  dj Tryz.prog 164 [sv e,ae (k:Nat),kT (.ptr w (g w) 0),kT (.ptr r (g r) 0)] g ob (λ_ g' Y=>Wb j r l e (1,k) u g ob g' Y) (λ_ _ _=>False):=by
 refine hdM B [j,r] Tryz.func164 rfl [] (by simp[U,n]) hB λO bn s0 w0=>?_;have n1:∀k,(j=B+k)=False:=λk=>by simp;omega
 have n2:∀k,(w=B+k)=False:=λk=>by simp;omega
 have n3:∀k,(r=B+k)=False:=λk=>by simp;omega
 have I:=mo e;cases hf:aH l e with
 |some x=>
   exact im
 |none=>
   rw[hf]at I;simp only[H8]at I;simp only[go_sem,n1,n2,n3,kT,p,hm,E4,C9,I,a];refine⟨_,ai.refl _,?_⟩;simp only[go_sem];refine bB.two (f:=mset M (.str e) (.d (.iptr (thD (1,k))))) (m:=[bE u]) (λi hi ha hb=>⟨by (try simp only[upd]);(repeat rw[j9 (by omega)]),by (try simp only[upd]);(repeat rw[j9 (by omega)])⟩) (by (try simp only[upd]);(repeat rw[j9 (by omega)])) (by (try simp only[upd]);(repeat rw[j9 (by omega)])) (by simp[upd,thD]) (by simp only[upd];rw[j9 (B7 b)];(repeat rw[j9 (by omega)]);exact a) (lH hd).low Gr (o:=[]) rfl ⟨rfl,_,mo.put hf,lH hd,by rw[hf];simp⟩
end
end
section
open Go Go.Am Go.Asm
open Go.Src (Th aH bD aI aM aR thV thA thF thL)
attribute[local congr]ite_cc
section
def kz{A β:Type}{f:Nat->A->β}{l:List A}{k:Nat}{x:A}(h:l[k]?=S x):(l.take (k+1)).mapIdx f=(l.take k).mapIdx f++[f k x]:=by
 have a:=(l6.1 h).1;rw[D2,h,Ln,List.mapIdx_concat,D3,U9 a7]
structure GlI (B:Nat) (l:List Th) (g:Nat->Nat) (ob:Obs) (f:Nat) (p:List C) (K:St):Prop where
 f1:K.f 1=aj (B+1) (K.gen (B+1)) 0
 f4:K.f 4=aj (B+4) (K.gen (B+4)) 0
 f5:K.f 5=aj (B+5) (K.gen (B+5)) 0
 f6:K.f 6=.one (.clo f [.ptr (B+4) (K.gen (B+4)) 0,.ptr (B+5) (K.gen (B+5)) 0])
 o1:K.obj (B+1)=some p
 o5:K.obj (B+5)=some [bE (bD [] l)]
 fr:∀i,i<B\/B+100<=i->K.gen i=g i/\K.obj i=ob i
def GlR(j B:Nat)(l:List Th)(g:Nat->Nat)(ob:Obs)(r:AV)(g':Nat->Nat)(Y:Obs):Prop:=
 r=.tup [.one (.mp j (g' j) 208),bv (bD [] l)]/\(∃M,Y j=S M/\ju M l/\lG M)/\∀i,i<B\/B+100<=i->g' i=g i/\Y i=ob i
def kA{l:List Th}{t:Th}:bD [] (l++[t])=(bD [] l&&(aH l t.1).isNone):=by rw[Src.sk];rfl
variable{g:Nat->Nat}
def Gs{ob:Obs}{p:Src.Prog}(bk:∀i,1100<=i->ob i=N)(az:szP p<=1000000000):
  dj Tryz.prog 103 [cl p] g ob (GlR 1013 1000 (aI p) g ob) (λ_ _ _=>False):=by
 refine hdX 1000 Tryz.func103 rfl [.tmp 2,.tmp 3] λO bn s0 w0=>?_;obtain⟨vs,b,fs⟩:=p;unfold szP at az;simp only at az;obtain⟨L,hL⟩:∃L,aI ⟨vs,b,fs⟩=L:=⟨_,rfl⟩
 rw[hL];unfold aI at hL;simp only at hL;unfold cl jt;simp only[go_sem,j7];refine aG (λm K=>∃k:Nat,m+k=z vs/\GlI 1000 (thV (vs.take k)) g ob 163 (jJ ⟨vs,b,fs⟩) K/\K.obj 1004=S [.mp 1013 (K.gen 1013) 208]/\(∃M,K.obj 1013=S M/\ju M (thV (vs.take k))/\lG M)/\K.f 16=.one (aq (vs.map λs=>[.str s]))/\K.f 17=ae (z vs)/\K.f 18=ae k) (z vs) ?_ ?_
 .exact K0
 rintro m f d H ⟨k,hk,⟨q1,q4,q5,q6,o1,o5,fr⟩,o4,⟨M,oM,mM,t⟩,A,e,a⟩;simp only[Nat.reduceAdd]at q1 q4 q5 q6 o1 o5 fr o4 oM A e a;have l:=ah (k:=k) a7;by_cases n:k<z vs
 .have Q:(k:Int)<(z vs:Int):=a7
  have E:(0:Int)<=(k:Int):=a7;obtain⟨v,he⟩:=getq n;simp only[go_sem,q6,A,e,a,Q,E,he];refine aY (f:=163) (q:=[.ptr 1004 (d 1004) 0,.ptr 1005 (d 1005) 0]) aa rfl Za (by simp only[go_sem];exact vZ (B:=1100) (j:=1013) (w:=1004) (r:=1005) (λi hi=>by rw[(fr i a7).2];exact bk i hi) b9 b9 b9 b9 b9 b9 oM o4 o5 mM t v (2,k)) ?_ ?_
  .exact iB
  rintro _ g' Y ⟨rfl,y,o,u,rfl⟩;simp only[go_sem,a,l];have hT:thV (vs.take (k+1))=thV (vs.take k)++[(v,2,k)]:=kz he;exact vr
 have Q:¬(k:Int)<(z vs:Int):=a7;obtain rfl:k=z vs:=a7;unfold jJ jt at o1;simp only[s6,x7]at o1;simp only[go_sem,q1,o1,e,a,Q,j7];refine aG (λm K=>∃k:Nat,m+k=z b/\GlI 1000 (thV vs++thA (b.take k)) g ob 163 (jJ ⟨vs,b,fs⟩) K/\K.obj 1004=S [.mp 1013 (K.gen 1013) 208]/\(∃M,K.obj 1013=S M/\ju M (thV vs++thA (b.take k))/\lG M)/\K.f 30=.one (aq (b.map arD))/\K.f 31=ae (z b)/\K.f 32=ae k) (z b) ?_ ?_
 .rw[s7 (l8 _)]at o5 mM
  have G:thV vs++thA []=thV vs:=by simp[thA]
  exact qc
 clear q1 q4 q5 q6 o1 o5 fr o4 oM A e a mM t l n Q hk M;rintro m f d H ⟨k,hk,⟨q1,q4,q5,q6,o1,o5,fr⟩,o4,⟨M,oM,mM,t⟩,A,e,a⟩;simp only[Nat.reduceAdd]at q1 q4 q5 q6 o1 o5 fr o4 oM A e a;have l:=ah (k:=k) a7;by_cases n:k<z b
 .have Q:(k:Int)<(z b:Int):=a7
  have E:(0:Int)<=(k:Int):=a7;obtain⟨⟨v,X⟩,he⟩:=getq n;have J:=(fr 1100 a7).2;simp only[go_sem,q6,A,e,a,Q,E,he,arD];refine aY (f:=163) (q:=[.ptr 1004 (d 1004) 0,.ptr 1005 (d 1005) 0]) aa rfl Za (by simp only[go_sem];exact vZ (B:=1100) (j:=1013) (w:=1004) (r:=1005) (λi hi=>by (try simp only[upd]);(repeat rw[j9 (by omega)]);rw[(fr i (by omega)).2];exact bk i hi) (by decide) (by decide) (by decide) (by decide) (by decide) (by decide) (by simp[upd];exact oM) (by simp[upd];exact o4) (by simp[upd];exact o5) mM t v (3,k)) ?_ ?_
  .exact iB
  rintro _ g' Y ⟨rfl,y,o,u,rfl⟩;simp only[go_sem,a,l]
  have hT:thV vs++thA (b.take (k+1))=(thV vs++thA (b.take k))++[(v,3,k)]:=by
   rw[v7];congr 1;exact kz he
  exact u0
 have Q:¬(k:Int)<(z b:Int):=a7;obtain rfl:k=z b:=a7;unfold jJ jt at o1;simp only[s6,x7]at o1;simp only[go_sem,q1,o1,e,a,Q,j7];refine aG (λm K=>∃k:Nat,m+k=z fs/\GlI 1000 (thV vs++thA b++thF (fs.take k)) g ob 163 (jJ ⟨vs,b,fs⟩) K/\K.obj 1004=S [.mp 1013 (K.gen 1013) 208]/\(∃M,K.obj 1013=S M/\ju M (thV vs++thA b++thF (fs.take k))/\lG M)/\K.f 45=.one (aq (fs.map fnD))/\K.f 46=ae (z fs)/\K.f 47=ae k) (z fs) ?_ ?_
 .rw[s7 (l8 _)]at o5 mM
  have G:thV vs++thA b++thF []=thV vs++thA b:=by simp[thF]
  exact qc
 clear q1 q4 q5 q6 o1 o5 fr o4 oM A e a mM t l n Q hk M;rintro m f d H ⟨k,hk,⟨q1,q4,q5,q6,o1,o5,fr⟩,o4,⟨M,oM,mM,t⟩,A,e,a⟩;simp only[Nat.reduceAdd]at q1 q4 q5 q6 o1 o5 fr o4 oM A e a;have l:=ah (k:=k) a7;by_cases n:k<z fs
 .have Q:(k:Int)<(z fs:Int):=a7
  have E:(0:Int)<=(k:Int):=a7;obtain⟨x,he⟩:=getq n;simp only[go_sem,q6,A,e,a,Q,E,he,fnD];refine aY (f:=163) (q:=[.ptr 1004 (d 1004) 0,.ptr 1005 (d 1005) 0]) aa rfl Za (by simp only[go_sem];exact vZ (B:=1100) (j:=1013) (w:=1004) (r:=1005) (λi hi=>by (try simp only[upd]);(repeat rw[j9 (by omega)]);rw[(fr i (by omega)).2];exact bk i hi) (by decide) (by decide) (by decide) (by decide) (by decide) (by decide) (by simp[upd];exact oM) (by simp[upd];exact o4) (by simp[upd];exact o5) mM t x.name (4,k)) ?_ ?_
  .exact iB
  rintro _ g' Y ⟨rfl,y,o,u,rfl⟩;simp only[go_sem,a,l]
  have hT:thV vs++thA b++thF (fs.take (k+1))=(thV vs++thA b++thF (fs.take k))++[(x.name,4,k)]:=by
   rw[v7 (thV vs++thA b)];congr 1;exact kz he
  exact u0
 have Q:¬(k:Int)<(z fs:Int):=a7;obtain rfl:k=z fs:=a7;exact Bc
def Ji{ob:Obs}{x:Src.Fn}(bk:∀i,2100<=i->ob i=N)(az:z x.p+z x.l<=1000000000):
  dj Tryz.prog 104 [fnV x] g ob (GlR 2011 2000 (aM x) g ob) (λ_ _ _=>False):=by
 refine hdX 2000 Tryz.func104 rfl [.tmp 2,.tmp 3] λO bn s0 w0=>?_;obtain⟨nm,H,J,wd,body⟩:=x;simp only at az;obtain⟨L,hL⟩:∃L,aM ⟨nm,H,J,wd,body⟩=L:=⟨_,rfl⟩
 rw[hL];unfold aM at hL;simp only at hL;unfold fnV fnD;simp only[go_sem,j7];refine aG (λm K=>∃k:Nat,m+k=z H/\GlI 2000 (thL 0 (H.take k)) g ob 164 ((fnD ⟨nm,H,J,wd,body⟩).map .d) K/\K.obj 2004=S [.mp 2011 (K.gen 2011) 208]/\(∃M,K.obj 2011=S M/\ju M (thL 0 (H.take k))/\lG M)/\K.f 14=.one (aq (H.map λs=>[.str s]))/\K.f 15=ae (z H)/\K.f 16=ae k) (z H) ?_ ?_
 .exact K0
 rintro m f g1 av ⟨k,hk,⟨q1,q4,q5,q6,o1,o5,fr⟩,o4,⟨M,oM,mM,t⟩,A,e,a⟩;simp only[Nat.reduceAdd]at q1 q4 q5 q6 o1 o5 fr o4 oM A e a;have hw:=ah (k:=k) a7;by_cases af:k<z H
 .have Q:(k:Int)<(z H:Int):=a7
  have bf:(0:Int)<=(k:Int):=a7;obtain⟨v,he⟩:=getq af;simp only[go_sem,q6,A,e,a,Q,bf,he];refine aY (f:=164) (q:=[.ptr 2004 (g1 2004) 0,.ptr 2005 (g1 2005) 0]) aa rfl Za (by simp only[go_sem];exact AQ (B:=2100) (j:=2011) (w:=2004) (r:=2005) (λi hi=>by rw[(fr i a7).2];exact bk i hi) b9 b9 b9 b9 b9 b9 oM o4 o5 mM t v k) ?_ ?_
  .exact iB
  rintro _ g' Y ⟨rfl,y,o,u,rfl⟩;simp only[go_sem,a,hw]
  have hT:thL 0 (H.take (k+1))=thL 0 (H.take k)++[(v,1,k)]:=by
   have:=kz (f:=λi n=>((n,1,0+i):Th)) he;simpa[thL]using this
  exact vr
 have Q:¬(k:Int)<(z H:Int):=a7;obtain rfl:k=z H:=a7;unfold fnD at o1;simp only[s6,x7]at o1;simp only[go_sem,q1,o1,e,a,Q,j7];refine aG (λm K=>∃k:Nat,m+k=z J/\GlI 2000 (thL 0 H++thL (z H) (J.take k)) g ob 164 ((fnD ⟨nm,H,J,wd,body⟩).map .d) K/\K.obj 2004=S [.mp 2011 (K.gen 2011) 208]/\(∃M,K.obj 2011=S M/\ju M (thL 0 H++thL (z H) (J.take k))/\lG M)/\K.f 27=.one (aq (J.map λs=>[.str s]))/\K.f 28=ae (z J)/\K.f 29=ae k) (z J) ?_ ?_
 .rw[s7 (l8 _)]at o5 mM
  have G:thL 0 H++thL (z H) []=thL 0 H:=by simp[thL]
  exact qc
 clear q1 q4 q5 q6 o1 o5 fr o4 oM A e a mM t hw af Q hk M;rintro m f g1 av ⟨k,hk,⟨q1,q4,q5,q6,o1,o5,fr⟩,o4,⟨M,oM,mM,t⟩,A,e,a⟩;simp only[Nat.reduceAdd]at q1 q4 q5 q6 o1 o5 fr o4 oM A e a;have hw:=ah (k:=k) a7;by_cases af:k<z J
 .have Q:(k:Int)<(z J:Int):=a7
  have bf:(0:Int)<=(k:Int):=a7;have E:IntKind.i64.wrap ((z H:Int)+(k:Int))=((z H+k:Nat):Int):=by rw[wrap_i64]<;>omega
  obtain⟨v,he⟩:=getq af;unfold fnD at o1;simp only[s6,x7]at o1;simp only[go_sem,q1,o1,q6,A,e,a,Q,bf,he,j7,E];refine aY (f:=164) (q:=[.ptr 2004 (g1 2004) 0,.ptr 2005 (g1 2005) 0]) aa rfl Za (by simp only[go_sem];exact AQ (B:=2100) (j:=2011) (w:=2004) (r:=2005) (λi hi=>by (try simp only[upd]);(repeat rw[j9 (by omega)]);rw[(fr i (by omega)).2];exact bk i hi) (by decide) (by decide) (by decide) (by decide) (by decide) (by decide) oM o4 o5 mM t v (z H+k)) ?_ ?_
  .exact iB
  rintro _ g' Y ⟨rfl,y,o,u,rfl⟩;simp only[go_sem,a,hw]
  have hT:thL 0 H++thL (z H) (J.take (k+1))=(thL 0 H++thL (z H) (J.take k))++[(v,1,z H+k)]:=by
   rw[v7];congr 1;exact kz he
  refine ao (m-1) a7 ⟨k+1,a7,⟨?_,?_,?_,?_,?_,?_,?_⟩,?_⟩<;>(simp only[go_sem,q1,q4,q5,q6,o1,o4,A,e])
  .rfl
  .rw[hT,kA]
  .exact λi hi=>⟨nt ((fr i hi).1),nt ((fr i hi).2)⟩
  .exact⟨y,rfl,by rw[hT];exact o,u⟩
 have Q:¬(k:Int)<(z J:Int):=a7;obtain rfl:k=z J:=a7;exact Bc
end
end
end Go.Proofs.YtlacbjnmkhndiaaGreatDoor
