/- A part of the proof; no conditions. -/
import Derived.Test.YtlacbjnmkhndiaaGreatDoorPart8
set_option linter.unusedSimpArgs false
set_option linter.unusedVariables false
set_option linter.defProp false
open List renaming length -> z
open Option renaming some -> S, none -> N
open Bool renaming true -> T, false -> F
set_option maxHeartbeats 64000000
set_option maxRecDepth 100000
namespace Go.Proofs.YtlacbjnmkhndiaaGreatDoor
section
open Go Go.Am Go.Asm
open Go.Src (Th aG bR aO aV aQ)
attribute[local congr]ite_cc
section
variable{g:Nat->Nat}{ob:Obs}{M:List C}{B:Nat}{l:List Th}{s:St}{R:AV->(Nat->Nat)->Obs->Prop}{j o:List AV}
def bi.nil(h:∀i,i<B->s.gen i=g i/\s.obj i=ob i)(hf:dY B s j o)(V:R (pack o) g ob):bi B [] g ob R s j:=
 ⟨⟨λi a _=>h i a,λ_ h=>by simp at h⟩,o,hf,by rw[yn,yo];exact V⟩
def Ec(xs:List D):wL B s (.agg (xs.map .d)) (.agg (xs.map .d)):=.agg a8 λi c Z=>by
 rw[x8]at Z;cases a:xs[i]? with
 |none=>rw[a]at Z;cases Z
 |some x=>rw[a]at Z;cases Z;exact⟨_,rfl,.d x⟩
def thD(t:Nat×Nat):List D:=[.int .i64 (t.1:Nat),.int .i64 (t.2:Nat)]
def iI(M:List C)(l:List Th):Prop:=∀s:Str,mget M (.str s)=(aG l s).map λt=>.d (.iptr (thD t))
def kG(M:List C):Prop:=∀c∈M,∃x,c=.d x
def kH{k x:D}:∀{M:List C},kG M->kG (mset M k (.d x))
 |.d b::c::r,h=>by
   simp only[mset];split
   .intro y a
    rcases A3.1 a with rfl|a
    .exact⟨_,rfl⟩
    rcases A3.1 a with rfl|a
    .exact⟨_,rfl⟩
    .exact h y (by simp[a])
   .intro y a
    rcases A3.1 a with rfl|a
    .exact⟨_,rfl⟩
    rcases A3.1 a with rfl|a
    .exact h y a8
    .exact kH (M:=r) (λX hz=>h X Xi) y a
 |[],h=>by simp[mset,kG]
 |[.d b],h=>by simp[mset,kG]
 |.osl _ _ _ _ _::_,h=>by obtain⟨x,I⟩:=h _ (J2 ..);cases I
 |.ptr _ _ _::_,h=>by obtain⟨x,I⟩:=h _ (J2 ..);cases I
 |.mp _ _ _::_,h=>by obtain⟨x,I⟩:=h _ (J2 ..);cases I
 |.clo _ _::_,h=>by obtain⟨x,I⟩:=h _ (J2 ..);cases I
 |.lsl _::_,h=>by obtain⟨x,I⟩:=h _ (J2 ..);cases I
 |.raw _::_,h=>by obtain⟨x,I⟩:=h _ (J2 ..);cases I
def kG.low(h:kG M):∀c∈M,kQ B c:=λc Z=>by obtain⟨x,rfl⟩:=h c Z;trivial
def iI.put{a:Str}{t:Nat×Nat}(h:iI M l)(c:aG l a=N):iI (mset M (.str a) (.d (.iptr (thD t)))) (l++[(a,t)]):=λs=>by
 rw[og,Src.lf];simp only[jT,aG];by_cases b:a=s
 .subst b
  rw[c];simp
 .simp only[b,L2,D7,A8]
  rw[h s];cases aG l s<;>rfl
def iI.old{a:Str}{t x:Nat×Nat}(h:iI M l)(c:aG l a=S x):iI M (l++[(a,t)]):=λs=>by
 rw[h s,Src.lf];cases b:aG l s with
 |some y=>rfl
 |none=>
   simp only[aG];rw[j8 (by rintro rfl;rw[c]at b;cases b)]
def xq{ar:List Nat}{g g':Nat->Nat}(h:∀i∈ar,g' i=g i):je ar g g'=g:=by
 funext i;unfold je;split
 .exact h i j4
 .rfl
def GO{a b:Nat}{ob Y:Obs}:eY [a,b] ob Y=upd (upd ob a (Y a)) b (Y b):=by
 funext i;simp only[eY,upd,A3,A9,E6];by_cases U:i=b
 .subst U;simp
 .by_cases c:i=a
  .subst c;simp[U]
  .simp[U,c]
def rH(x:Option (Nat×Nat)):AV:=match x with|some t=>.agg ((thD t).map .d)|none=>.agg [.d (.int .i64 0),.d (.int .i64 (-1))]
def Oy{B io ii go gi:Nat}{q u:List C}{H li:List Th}(hB:∀i,B<=i->ob i=N)(m:io<B)(l:ii<B)(ho:ob io=S q)(hi:ob ii=S u)(mo:iI q H)(mi:iI u li)(d:Str)(bk:g io=go)(an:g ii=gi):
  cM Tryz.prog 107 [.agg [.mp io go 208,.mp ii gi 208],sv d] g ob (λr g' Y=>g'=g/\Y=ob/\r=rH (aQ H li d)) (λ_ _ _=>False):=by
 subst bk an;refine hdM B [] Tryz.func107 rfl [.cell 4 204] a8 hB λO bn s0 w0=>?_;have n1:∀k,(io=B+k)=False:=λk=>by simp;omega
 have n2:∀k,(ii=B+k)=False:=λk=>by simp;omega
 have c:∀i,i<B->g i=g i/\ob i=ob i:=λ_ _=>⟨rfl,rfl⟩
 have a:=mi d;have v:=mo d;unfold aQ;cases e:aG li d with
 |some t=>
   rw[e]at a;simp only[z7,thD]at a;simp only[go_sem,n1,n2,hi,D8,C6,a];exact oR
 |none=>
   rw[e]at a;simp only[H4]at a;cases b:aG H d with
   |some t=>
     rw[b]at v;simp only[z7,thD]at v;simp only[go_sem,n1,n2,hi,D8,C6,a,ho,v];exact oR
   |none=>
     rw[b]at v;simp only[H4]at v;simp only[go_sem,n1,n2,hi,D8,C6,a,ho,v];refine⟨_,ae.refl _,?_⟩;simp only[go_sem,n1,n2];exact bi.nil (λi hi=>⟨by (try simp only[upd]);(repeat rw[j8 (by omega)]);first|done|rfl|exact(c i hi).1,by (try simp only[upd]);(repeat rw[j8 (by omega)]);first|done|rfl|exact(c i hi).2⟩) (o:=[rH N]) ⟨_,_,rfl,Ec [.int .i64 0,.int .i64 (-1)],rfl⟩ ⟨rfl,rfl,rfl⟩
def bi.two{B a b:Nat}{m n:List C}(h:∀i,i<B->i≠a->i≠b->s.gen i=g i/\s.obj i=ob i)(ga:s.gen a=g a)(q:s.gen b=g b)(p:s.obj a=S m)(f:s.obj b=S n)
 (l:∀c∈m,kQ B c)(W:∀c∈n,kQ B c)(hf:dY B s j o)(V:R (pack o) g (upd (upd ob a (S m)) b (S n))):bi B [a,b] g ob R s j:=by
 refine⟨⟨λi d r=>h i d (λe=>r WY) (λe=>r WY),λi d k Z=>?_⟩,o,hf,?_⟩
 .simp only[A3,A9,E6]at d
  rcases d with rfl|rfl
  .rw[p]at Z;cases Z;exact l
  .rw[f]at Z;cases Z;exact W
 .rw[xq (λi d=>by simp only[A3,A9,E6]at d;rcases d with rfl|rfl<;>assumption),GO,p,f]
  exact V
def Ed{x:D}:∀c∈[C.d x],kQ B c:=λc Z=>by rw[E0.1 Z];trivial
def Tc(j r:Nat)(l:List Th)(a:Str)(t:Nat×Nat)(u:Bool)(g:Nat->Nat)(ob:Obs)(g':Nat->Nat)(Y:Obs):Prop:=
 g'=g/\∃y,iI y (l++[(a,t)])/\kG y/\Y=upd (upd ob j (S y)) r (S [.d (.bool (u&&(aG l a).isNone))])
def uy{B j w r:Nat}{u:Bool}(hB:∀i,B<=i->ob i=N)(U:j<B)(y:w<B)(q:r<B)(P:j≠w)(b:j≠r)(c:w≠r)(hm:ob j=S M)(p:ob w=S [.mp j (g j) 208])(a:ob r=S [.d (.bool u)])
 (mo:iI M l)(hd:kG M)(e:Str)(t:Nat×Nat):
  cM Tryz.prog 163 [sv e,.agg ((thD t).map .d),jY (.ptr w (g w) 0),jY (.ptr r (g r) 0)] g ob (λ_ g' Y=>Tc j r l e t u g ob g' Y) (λ_ _ _=>False):=by
 refine hdM B [j,r] Tryz.func163 rfl [] (by simp[U,q]) hB λO bn s0 w0=>?_;have n1:∀k,(j=B+k)=False:=λk=>by simp;omega
 have n2:∀k,(w=B+k)=False:=λk=>by simp;omega
 have n3:∀k,(r=B+k)=False:=λk=>by simp;omega
 have v:=mo e;unfold thD;cases hf:aG l e with
 |some x=>
   exact j3
 |none=>
   rw[hf]at v;simp only[H4]at v;simp only[go_sem,n1,n2,n3,jY,p,hm,D8,C6,v,a];refine⟨_,ae.refl _,?_⟩;simp only[go_sem];refine bi.two (m:=mset M (.str e) (.d (.iptr (thD t)))) (n:=[.d (.bool u)]) (λi hi ha hb=>⟨by (try simp only[upd]);(repeat rw[j8 (by omega)]),by (try simp only[upd]);(repeat rw[j8 (by omega)])⟩) (by (try simp only[upd]);(repeat rw[j8 (by omega)])) (by (try simp only[upd]);(repeat rw[j8 (by omega)])) (by simp[upd,thD]) (by simp only[upd];rw[j8 (B8 b)];(repeat rw[j8 (by omega)]);exact a) (kH hd).low Ed (o:=[]) rfl ⟨rfl,_,mo.put hf,kH hd,by rw[hf];simp⟩
def zd{B j w r:Nat}{u:Bool}(hB:∀i,B<=i->ob i=N)(U:j<B)(t:w<B)(q:r<B)(P:j≠w)(b:j≠r)(c:w≠r)(hm:ob j=S M)(p:ob w=S [.mp j (g j) 208])(a:ob r=S [.d (.bool u)])
 (mo:iI M l)(hd:kG M)(e:Str)(k:Nat):
  cM Tryz.prog 164 [sv e,iv .i64 (k:Nat),jY (.ptr w (g w) 0),jY (.ptr r (g r) 0)] g ob (λ_ g' Y=>Tc j r l e (1,k) u g ob g' Y) (λ_ _ _=>False):=by
 refine hdM B [j,r] Tryz.func164 rfl [] (by simp[U,q]) hB λO bn s0 w0=>?_;have n1:∀k,(j=B+k)=False:=λk=>by simp;omega
 have n2:∀k,(w=B+k)=False:=λk=>by simp;omega
 have n3:∀k,(r=B+k)=False:=λk=>by simp;omega
 have v:=mo e;cases hf:aG l e with
 |some x=>
   exact j3
 |none=>
   rw[hf]at v;simp only[H4]at v;simp only[go_sem,n1,n2,n3,jY,p,hm,D8,C6,v,a];refine⟨_,ae.refl _,?_⟩;simp only[go_sem];refine bi.two (m:=mset M (.str e) (.d (.iptr (thD (1,k))))) (n:=[.d (.bool u)]) (λi hi ha hb=>⟨by (try simp only[upd]);(repeat rw[j8 (by omega)]),by (try simp only[upd]);(repeat rw[j8 (by omega)])⟩) (by (try simp only[upd]);(repeat rw[j8 (by omega)])) (by (try simp only[upd]);(repeat rw[j8 (by omega)])) (by simp[upd,thD]) (by simp only[upd];rw[j8 (B8 b)];(repeat rw[j8 (by omega)]);exact a) (kH hd).low Ed (o:=[]) rfl ⟨rfl,_,mo.put hf,kH hd,by rw[hf];simp⟩
end
end
section
open Go Go.Am Go.Asm
open Go.Src (Th aG bR aO aV aQ thV thA thF thL)
attribute[local congr]ite_cc
section
def jF{A β:Type}{f:Nat->A->β}{l:List A}{k:Nat}{x:A}(h:l[k]?=S x):(l.take (k+1)).mapIdx f=(l.take k).mapIdx f++[f k x]:=by
 have a:=(l5.1 h).1;rw[D0,h,J3,List.mapIdx_concat,D1,Sl a7]
structure GlI (B:Nat) (l:List Th) (g:Nat->Nat) (ob:Obs) (f:Nat) (p:List C) (K:St):Prop where
 f1:K.f 1=.one (.ptr (B+1) (K.gen (B+1)) 0)
 f4:K.f 4=.one (.ptr (B+4) (K.gen (B+4)) 0)
 f5:K.f 5=.one (.ptr (B+5) (K.gen (B+5)) 0)
 f6:K.f 6=.one (.clo f [.ptr (B+4) (K.gen (B+4)) 0,.ptr (B+5) (K.gen (B+5)) 0])
 o1:K.obj (B+1)=some p
 o5:K.obj (B+5)=some [.d (.bool (bR [] l))]
 fr:∀i,i<B\/B+100<=i->K.gen i=g i/\K.obj i=ob i
def GlR(j B:Nat)(l:List Th)(g:Nat->Nat)(ob:Obs)(r:AV)(g':Nat->Nat)(Y:Obs):Prop:=
 r=.tup [.one (.mp j (g' j) 208),bv (bR [] l)]/\(∃M,Y j=S M/\iI M l/\kG M)/\∀i,i<B\/B+100<=i->g' i=g i/\Y i=ob i
def jG{l:List Th}{t:Th}:bR [] (l++[t])=(bR [] l&&(aG l t.1).isNone):=by rw[Src.qW];rfl
variable{g:Nat->Nat}
def Ee{ob:Obs}{p:Src.Prog}(bk:∀i,1100<=i->ob i=N)(az:szP p<=1000000000):
  cM Tryz.prog 103 [bS p] g ob (GlR 1013 1000 (aO p) g ob) (λ_ _ _=>False):=by
 refine hdX 1000 Tryz.func103 rfl [.tmp 2,.tmp 3] λO bn s0 w0=>?_;obtain⟨vs,b,fs⟩:=p;unfold szP at az;simp only at az;obtain⟨L,hL⟩:∃L,aO ⟨vs,b,fs⟩=L:=⟨_,rfl⟩
 rw[hL];unfold aO at hL;simp only at hL;unfold bS iH;simp only[go_sem,j6];refine aw (λm K=>∃k:Nat,m+k=z vs/\GlI 1000 (thV (vs.take k)) g ob 163 (iW ⟨vs,b,fs⟩) K/\K.obj 1004=S [.mp 1013 (K.gen 1013) 208]/\(∃M,K.obj 1013=S M/\iI M (thV (vs.take k))/\kG M)/\K.f 16=.one (.d (.sl (vs.map λs=>[.str s])))/\K.f 17=iv .i64 (z vs)/\K.f 18=iv .i64 k) (z vs) ?_ ?_
 .exact Mi
 rintro m f n J ⟨k,hk,⟨q1,q4,q5,q6,o1,o5,fr⟩,o4,⟨M,oM,I,l⟩,A,e,a⟩;simp only[Nat.reduceAdd]at q1 q4 q5 q6 o1 o5 fr o4 oM A e a;have E:=ac (k:=k) a7;by_cases H:k<z vs
 .have Q:(k:Int)<(z vs:Int):=a7
  have bf:(0:Int)<=(k:Int):=a7;obtain⟨v,he⟩:=getq H;simp only[go_sem,q6,A,e,a,Q,bf,he];refine aN (f:=163) (q:=[.ptr 1004 (n 1004) 0,.ptr 1005 (n 1005) 0]) aa rfl WW (by simp only[go_sem];exact uy (B:=1100) (j:=1013) (w:=1004) (r:=1005) (λi hi=>by rw[(fr i a7).2];exact bk i hi) b9 b9 b9 b9 b9 b9 oM o4 o5 I l v (2,k)) ?_ ?_
  .exact kb
  rintro _ g' Y ⟨rfl,y,o,t,rfl⟩;simp only[go_sem,a,E];have hT:thV (vs.take (k+1))=thV (vs.take k)++[(v,2,k)]:=jF he;exact x2
 have Q:¬(k:Int)<(z vs:Int):=a7;obtain rfl:k=z vs:=a7;unfold iW iH at o1;simp only[l9,w9]at o1;simp only[go_sem,q1,o1,e,a,Q,j6];refine aw (λm K=>∃k:Nat,m+k=z b/\GlI 1000 (thV vs++thA (b.take k)) g ob 163 (iW ⟨vs,b,fs⟩) K/\K.obj 1004=S [.mp 1013 (K.gen 1013) 208]/\(∃M,K.obj 1013=S M/\iI M (thV vs++thA (b.take k))/\kG M)/\K.f 30=.one (.d (.sl (b.map arD)))/\K.f 31=iv .i64 (z b)/\K.f 32=iv .i64 k) (z b) ?_ ?_
 .rw[s6 (l7 _)]at o5 I
  have u:thV vs++thA []=thV vs:=by simp[thA]
  exact sr
 clear q1 q4 q5 q6 o1 o5 fr o4 oM A e a I l E H Q hk M;rintro m f n J ⟨k,hk,⟨q1,q4,q5,q6,o1,o5,fr⟩,o4,⟨M,oM,I,l⟩,A,e,a⟩;simp only[Nat.reduceAdd]at q1 q4 q5 q6 o1 o5 fr o4 oM A e a;have E:=ac (k:=k) a7;by_cases H:k<z b
 .have Q:(k:Int)<(z b:Int):=a7
  have bf:(0:Int)<=(k:Int):=a7;obtain⟨⟨v,X⟩,he⟩:=getq H;have n4:=(fr 1100 a7).2;simp only[go_sem,q6,A,e,a,Q,bf,he,arD];refine aN (f:=163) (q:=[.ptr 1004 (n 1004) 0,.ptr 1005 (n 1005) 0]) aa rfl WW (by simp only[go_sem];exact uy (B:=1100) (j:=1013) (w:=1004) (r:=1005) (λi hi=>by (try simp only[upd]);(repeat rw[j8 (by omega)]);rw[(fr i (by omega)).2];exact bk i hi) (by decide) (by decide) (by decide) (by decide) (by decide) (by decide) (by simp[upd];exact oM) (by simp[upd];exact o4) (by simp[upd];exact o5) I l v (3,k)) ?_ ?_
  .exact kb
  rintro _ g' Y ⟨rfl,y,o,t,rfl⟩;simp only[go_sem,a,E]
  have hT:thV vs++thA (b.take (k+1))=(thV vs++thA (b.take k))++[(v,3,k)]:=by
   rw[u7];congr 1;exact jF he
  exact wa
 have Q:¬(k:Int)<(z b:Int):=a7;obtain rfl:k=z b:=a7;unfold iW iH at o1;simp only[l9,w9]at o1;simp only[go_sem,q1,o1,e,a,Q,j6];refine aw (λm K=>∃k:Nat,m+k=z fs/\GlI 1000 (thV vs++thA b++thF (fs.take k)) g ob 163 (iW ⟨vs,b,fs⟩) K/\K.obj 1004=S [.mp 1013 (K.gen 1013) 208]/\(∃M,K.obj 1013=S M/\iI M (thV vs++thA b++thF (fs.take k))/\kG M)/\K.f 45=.one (.d (.sl (fs.map fnD)))/\K.f 46=iv .i64 (z fs)/\K.f 47=iv .i64 k) (z fs) ?_ ?_
 .rw[s6 (l7 _)]at o5 I
  have u:thV vs++thA b++thF []=thV vs++thA b:=by simp[thF]
  exact sr
 clear q1 q4 q5 q6 o1 o5 fr o4 oM A e a I l E H Q hk M;rintro m f n J ⟨k,hk,⟨q1,q4,q5,q6,o1,o5,fr⟩,o4,⟨M,oM,I,l⟩,A,e,a⟩;simp only[Nat.reduceAdd]at q1 q4 q5 q6 o1 o5 fr o4 oM A e a;have E:=ac (k:=k) a7;by_cases H:k<z fs
 .have Q:(k:Int)<(z fs:Int):=a7
  have bf:(0:Int)<=(k:Int):=a7;obtain⟨x,he⟩:=getq H;simp only[go_sem,q6,A,e,a,Q,bf,he,fnD];refine aN (f:=163) (q:=[.ptr 1004 (n 1004) 0,.ptr 1005 (n 1005) 0]) aa rfl WW (by simp only[go_sem];exact uy (B:=1100) (j:=1013) (w:=1004) (r:=1005) (λi hi=>by (try simp only[upd]);(repeat rw[j8 (by omega)]);rw[(fr i (by omega)).2];exact bk i hi) (by decide) (by decide) (by decide) (by decide) (by decide) (by decide) (by simp[upd];exact oM) (by simp[upd];exact o4) (by simp[upd];exact o5) I l x.name (4,k)) ?_ ?_
  .exact kb
  rintro _ g' Y ⟨rfl,y,o,t,rfl⟩;simp only[go_sem,a,E]
  have hT:thV vs++thA b++thF (fs.take (k+1))=(thV vs++thA b++thF (fs.take k))++[(x.name,4,k)]:=by
   rw[u7 (thV vs++thA b)];congr 1;exact jF he
  exact wa
 have Q:¬(k:Int)<(z fs:Int):=a7;obtain rfl:k=z fs:=a7;exact K6
def GP{ob:Obs}{x:Src.Fn}(bk:∀i,2100<=i->ob i=N)(az:z x.params+z x.locals<=1000000000):
  cM Tryz.prog 104 [fnV x] g ob (GlR 2011 2000 (aV x) g ob) (λ_ _ _=>False):=by
 refine hdX 2000 Tryz.func104 rfl [.tmp 2,.tmp 3] λO bn s0 w0=>?_;obtain⟨nm,H,V,wd,body⟩:=x;simp only at az;obtain⟨L,hL⟩:∃L,aV ⟨nm,H,V,wd,body⟩=L:=⟨_,rfl⟩
 rw[hL];unfold aV at hL;simp only at hL;unfold fnV fnD;simp only[go_sem,j6];refine aw (λm K=>∃k:Nat,m+k=z H/\GlI 2000 (thL 0 (H.take k)) g ob 164 ((fnD ⟨nm,H,V,wd,body⟩).map .d) K/\K.obj 2004=S [.mp 2011 (K.gen 2011) 208]/\(∃M,K.obj 2011=S M/\iI M (thL 0 (H.take k))/\kG M)/\K.f 14=.one (.d (.sl (H.map λs=>[.str s])))/\K.f 15=iv .i64 (z H)/\K.f 16=iv .i64 k) (z H) ?_ ?_
 .exact Mi
 rintro m f J av ⟨k,hk,⟨q1,q4,q5,q6,o1,o5,fr⟩,o4,⟨M,oM,I,l⟩,A,e,a⟩;simp only[Nat.reduceAdd]at q1 q4 q5 q6 o1 o5 fr o4 oM A e a;have hw:=ac (k:=k) a7;by_cases af:k<z H
 .have Q:(k:Int)<(z H:Int):=a7
  have bf:(0:Int)<=(k:Int):=a7;obtain⟨v,he⟩:=getq af;simp only[go_sem,q6,A,e,a,Q,bf,he];refine aN (f:=164) (q:=[.ptr 2004 (J 2004) 0,.ptr 2005 (J 2005) 0]) aa rfl WW (by simp only[go_sem];exact zd (B:=2100) (j:=2011) (w:=2004) (r:=2005) (λi hi=>by rw[(fr i a7).2];exact bk i hi) b9 b9 b9 b9 b9 b9 oM o4 o5 I l v k) ?_ ?_
  .exact kb
  rintro _ g' Y ⟨rfl,y,o,t,rfl⟩;simp only[go_sem,a,hw]
  have hT:thL 0 (H.take (k+1))=thL 0 (H.take k)++[(v,1,k)]:=by
   have:=jF (f:=λi n=>((n,1,0+i):Th)) he;simpa[thL]using this
  exact x2
 have Q:¬(k:Int)<(z H:Int):=a7;obtain rfl:k=z H:=a7;unfold fnD at o1;simp only[l9,w9]at o1;simp only[go_sem,q1,o1,e,a,Q,j6];refine aw (λm K=>∃k:Nat,m+k=z V/\GlI 2000 (thL 0 H++thL (z H) (V.take k)) g ob 164 ((fnD ⟨nm,H,V,wd,body⟩).map .d) K/\K.obj 2004=S [.mp 2011 (K.gen 2011) 208]/\(∃M,K.obj 2011=S M/\iI M (thL 0 H++thL (z H) (V.take k))/\kG M)/\K.f 27=.one (.d (.sl (V.map λs=>[.str s])))/\K.f 28=iv .i64 (z V)/\K.f 29=iv .i64 k) (z V) ?_ ?_
 .rw[s6 (l7 _)]at o5 I
  have u:thL 0 H++thL (z H) []=thL 0 H:=by simp[thL]
  exact sr
 clear q1 q4 q5 q6 o1 o5 fr o4 oM A e a I l hw af Q hk M;rintro m f J av ⟨k,hk,⟨q1,q4,q5,q6,o1,o5,fr⟩,o4,⟨M,oM,I,l⟩,A,e,a⟩;simp only[Nat.reduceAdd]at q1 q4 q5 q6 o1 o5 fr o4 oM A e a;have hw:=ac (k:=k) a7;by_cases af:k<z V
 .have Q:(k:Int)<(z V:Int):=a7
  have bf:(0:Int)<=(k:Int):=a7;have E:IntKind.i64.wrap ((z H:Int)+(k:Int))=((z H+k:Nat):Int):=by rw[wrap_i64]<;>omega
  obtain⟨v,he⟩:=getq af;unfold fnD at o1;simp only[l9,w9]at o1;simp only[go_sem,q1,o1,q6,A,e,a,Q,bf,he,j6,E];refine aN (f:=164) (q:=[.ptr 2004 (J 2004) 0,.ptr 2005 (J 2005) 0]) aa rfl WW (by simp only[go_sem];exact zd (B:=2100) (j:=2011) (w:=2004) (r:=2005) (λi hi=>by (try simp only[upd]);(repeat rw[j8 (by omega)]);rw[(fr i (by omega)).2];exact bk i hi) (by decide) (by decide) (by decide) (by decide) (by decide) (by decide) oM o4 o5 I l v (z H+k)) ?_ ?_
  .exact kb
  rintro _ g' Y ⟨rfl,y,o,t,rfl⟩;simp only[go_sem,a,hw]
  have hT:thL 0 H++thL (z H) (V.take (k+1))=(thL 0 H++thL (z H) (V.take k))++[(v,1,z H+k)]:=by
   rw[u7];congr 1;exact jF he
  refine ah (m-1) a7 ⟨k+1,a7,⟨?_,?_,?_,?_,?_,?_,?_⟩,?_⟩<;>(simp only[go_sem,q1,q4,q5,q6,o1,o4,A,e])
  .rfl
  .rw[hT,jG]
  .exact λi hi=>⟨nt ((fr i hi).1),nt ((fr i hi).2)⟩
  .exact⟨y,rfl,by rw[hT];exact o,t⟩
 have Q:¬(k:Int)<(z V:Int):=a7;obtain rfl:k=z V:=a7;exact K6
end
end
end Go.Proofs.YtlacbjnmkhndiaaGreatDoor
