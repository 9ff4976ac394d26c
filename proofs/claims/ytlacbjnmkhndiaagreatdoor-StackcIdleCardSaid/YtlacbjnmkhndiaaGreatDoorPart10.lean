/- A part of the proof; no conditions. -/
import Derived.Test.YtlacbjnmkhndiaaGreatDoorPart9
set_option linter.unusedSimpArgs false
set_option linter.unusedVariables false
set_option linter.defProp false
open List renaming length -> z
open Option renaming some -> S, none -> N
open Bool renaming true -> T, false -> F
set_option maxHeartbeats 64000000
set_option maxRecDepth 100000
namespace Go.Proofs.YtlacbjnmkhndiaaGreatDoor
section
open Go Go.Am Go.Asm
open Go.Src (Th aH bD aI aM aR bb eV okE cL okS cW Ex Stm)
attribute[local congr]ite_cc
structure ScE (p:Src.Prog) (i:Nat) (H li:List Th) (g0 g:Nat->Nat) (ob:Obs):Prop where
 oi:ob 7=some [ag (i:Nat)]
 op:ob 1=some (jJ p)
 ot:ob 11=some [.mp 1013 (g0 1013) 208,.mp 2011 (g0 2011) 208]
 gs:∀i,i<3000->g i=g0 i
 mo:∃M,ob 1013=some M/\ju M H
 mi:∃M,ob 2011=some M/\ju M li
def xh(g0:Nat->Nat):List PC:=[.ptr 11 (g0 11) 0,.ptr 5 (g0 5) 0,.ptr 7 (g0 7) 0,.ptr 1 (g0 1) 0,.ptr 6 (g0 6) 0]
def Wc(kind:Nat)(a:Str)(args:Nat):AV:=.agg [ag (kind:Nat),bF a,ag (args:Nat)]
def Jk(a b:Bool)(g:Nat->Nat)(ob:Obs)(g':Nat->Nat)(Y:Obs):Prop:=g'=g/\Y=upd (upd ob 5 (S [bE a])) 6 (S [bE b])
def bB.use{B:Nat}{a b:Bool}{g:Nat->Nat}{ob:Obs}{s:St}{j o:List AV}(h:∀i,i<B->i≠5->i≠6->s.gen i=g i/\s.obj i=ob i)(ga:s.gen 5=g 5)(q:s.gen 6=g 6)(c:s.obj 5=S [bE a])(d:s.obj 6=S [bE b])(hf:eH B s j o):bB B [5,6] g ob (λ_ g' Y=>Jk a b g ob g' Y) s j:=
 bB.two h ga q c d Gr Gr hf ⟨rfl,rfl⟩
def xQ{B kind i args:Nat}{a b:Bool}{p:Src.Prog}{H li:List Th}{g0 g:Nat->Nat}{ob:Obs}(J:3000<=B)(hB:∀i,B<=i->ob i=N)(E:ScE p i H li g0 g ob)(hn:ob 5=S [bE a])(L:ob 6=S [bE b])(nm:Str)(hk:kind=2\/kind=3\/kind=4)
 (r:∀s n,aR H li s=S (4,n)->n<z p.f)(az:szP p<=1000000000):
  dj Tryz.prog 106 (Wc kind nm args::(xh g0).map kT) g ob
   (λ_ g' Y=>Jk (a&&bb (aR H li) i kind nm) (b&&eV (aR H li) p.f i kind nm args) g ob g' Y) (λ_ _ _=>False):=by
 unfold Wc xh;simp only[s6,x7];obtain⟨oi,op,ot,gs,⟨m,w,mo⟩,⟨u,A,mi⟩⟩:=E;refine hdM B [5,6] Tryz.func106 rfl [] XH hB λO bn s0 w0=>?_;have U:∀k,(5=B+k)=False:=λk=>by simp;omega
 have W:∀k,(6=B+k)=False:=λk=>by simp;omega
 have Z:∀k,(7=B+k)=False:=λk=>by simp;omega
 have n4:∀k,(1=B+k)=False:=λk=>by simp;omega
 have n5:∀k,(11=B+k)=False:=λk=>by simp;omega
 have n6:∀k,(1013=B+k)=False:=λk=>by simp;omega
 have n7:∀k,(2011=B+k)=False:=λk=>by simp;omega
 have n8:∀k,(B+k=5)=False:=λk=>by simp;omega
 have V:∀k,(B+k=6)=False:=λk=>by simp;omega
 unfold jJ jt at op;simp only[s6,x7]at op;have G:=gs 11 b9;have g5:=gs 5 b9;have l:=gs 7 b9;have g1:=gs 1 b9;have g6:=gs 6 b9;simp only[go_sem,U,W,Z,n4,n5,kT,ot,G,s6,x7];refine cH aa rfl (by simp only[go_sem];exact Ri (B:=B+60) (io:=1013) (ii:=2011) (m:=m) (u:=u) (H:=H) (li:=li) (λi hi=>nt (hB i a7)) a7 a7 (by simp only[upd,n6];exact w) (by simp only[upd,n7];exact A) mo mi nm (by simp only[upd,n6];exact gs _ b9) (by simp only[upd,n7];exact gs _ b9)) ?_ ?_
 .exact iB
 rintro _ g' Y ⟨rfl,rfl,rfl⟩;have hf:=r nm;obtain⟨x,I⟩:∃x,(a&&bb (aR H li) i kind nm)=x:=⟨_,rfl⟩
 obtain⟨y,K⟩:∃y,(b&&eV (aR H li) p.f i kind nm args)=y:=⟨_,rfl⟩
 rw[I,K];have c:((2:Nat):Int)=2:=rfl;have d:((3:Nat):Int)=3:=rfl;have e:((4:Nat):Int)=4:=rfl;unfold bb at I;unfold eV at K;cases q:aR H li nm with
 |none=>
   rw[q]at I K;simp only[D5,K8]at I K;subst I K;simp only[td];rcases hk with rfl|rfl|rfl
   .cases a<;>(simp only[go_sem,U,W,Z,n4,n5,n8,V,g5,hn,nc1,c,d,e])<;>(refine⟨_,ai.refl _,?_⟩;(simp only[go_sem]);exact bB.use (λi hi h5 h6=>⟨nu,nu⟩) (nu) (nu) XG XI (o:=[]) rfl)
   .cases a<;>(simp only[go_sem,U,W,Z,n4,n5,n8,V,g5,hn,nc1,c,d,e])<;>(refine⟨_,ai.refl _,?_⟩;(simp only[go_sem]);exact bB.use (λi hi h5 h6=>⟨nu,nu⟩) (nu) (nu) XG XI (o:=[]) rfl)
   ·(simp only[go_sem,U,W,Z,n4,n5,n8,V,g5,hn,nc1,c,d,e])<;>(refine⟨_,ai.refl _,?_⟩;(simp only[go_sem]);exact bB.use (λi hi h5 h6=>⟨nu,nu⟩) (nu) (nu) XG XI (o:=[]) rfl)
 |some t=>
   obtain⟨k,n⟩:=t;rw[q]at hf I K;simp only at I K;simp only[td,thD,s6,x7];rcases hk with rfl|rfl|rfl
   .rw[j9 a8,K8]at K
    subst K;rw[l9 rfl]at I;by_cases k1:(k:Int)=1
    .obtain rfl:a=x:=by rw[<-I,show (k==1)=T by simp;omega];simp
     cases a<;>(simp only[go_sem,U,W,Z,n4,n5,n8,V,g5,hn,nc1,c,d,e,k1])<;>(refine⟨_,ai.refl _,?_⟩;(simp only[go_sem]);exact bB.use (λi hi h5 h6=>⟨nu,nu⟩) (nu) (nu) XG XI (o:=[]) rfl)
    by_cases k2:(k:Int)=2
    .obtain rfl:a=x:=by rw[<-I,show (k==2)=T by simp;omega];simp
     cases a<;>(simp only[go_sem,U,W,Z,n4,n5,n8,V,g5,hn,nc1,c,d,e,k1,k2])<;>(refine⟨_,ai.refl _,?_⟩;(simp only[go_sem]);exact bB.use (λi hi h5 h6=>⟨nu,nu⟩) (nu) (nu) XG XI (o:=[]) rfl)
    obtain rfl:F=x:=by rw[<-I,show (k==1)=F by simp;omega,show (k==2)=F by simp;omega];simp
    cases a<;>(simp only[go_sem,U,W,Z,n4,n5,n8,V,g5,hn,nc1,c,d,e,k1,k2])<;>(refine⟨_,ai.refl _,?_⟩;(simp only[go_sem]);exact bB.use (λi hi h5 h6=>⟨nu,nu⟩) (nu) (nu) XG XI (o:=[]) rfl)
   .rw[j9 a8,K8]at K
    subst K;rw[j9 b9,l9 rfl]at I;by_cases k1:(k:Int)=3
    .obtain rfl:a=x:=by rw[<-I,show (k==3)=T by simp;omega];simp
     cases a<;>(simp only[go_sem,U,W,Z,n4,n5,n8,V,g5,hn,nc1,c,d,e,k1])<;>(refine⟨_,ai.refl _,?_⟩;(simp only[go_sem]);exact bB.use (λi hi h5 h6=>⟨nu,nu⟩) (nu) (nu) XG XI (o:=[]) rfl)
    obtain rfl:F=x:=by rw[<-I,show (k==3)=F by simp;omega];simp
    cases a<;>(simp only[go_sem,U,W,Z,n4,n5,n8,V,g5,hn,nc1,c,d,e,k1])<;>(refine⟨_,ai.refl _,?_⟩;(simp only[go_sem]);exact bB.use (λi hi h5 h6=>⟨nu,nu⟩) (nu) (nu) XG XI (o:=[]) rfl)
   .rw[j9 b9,j9 b9]at I
    by_cases k1:(k:Int)=4
    case neg=>
     rw[j9 a7,K8]at K;subst K;obtain rfl:F=x:=by rw[<-I,show (k==4)=F by simp;omega];simp
     (simp only[go_sem,U,W,Z,n4,n5,n8,V,g5,hn,nc1,c,d,e,k1])<;>(refine⟨_,ai.refl _,?_⟩;(simp only[go_sem]);exact bB.use (λi hi h5 h6=>⟨nu,nu⟩) (nu) (nu) XG XI (o:=[]) rfl)
    by_cases v:n<i
    case neg=>
     have j:(i:Int)<=(n:Int):=a7;rw[j9 a7,K8]at K;subst K;obtain rfl:F=x:=by rw[<-I,A5 v];simp
     (simp only[go_sem,U,W,Z,n4,n5,n8,V,g5,hn,nc1,c,d,e,k1,oi,l,j])<;>(refine⟨_,ai.refl _,?_⟩;(simp only[go_sem]);exact bB.use (λi hi h5 h6=>⟨nu,nu⟩) (nu) (nu) XG XI (o:=[]) rfl)
    have j:¬(i:Int)<=(n:Int):=a7;obtain rfl:a=x:=by rw[<-I,C8 v,show (k==4)=T by simp;omega];simp
    have cb:=hf n (by rw[show k=4 by omega]);obtain⟨fn,he⟩:=getq cb;rw[l9 ⟨rfl,a7,v⟩,he]at K;simp only at K;have bk:(0:Int)<=(n:Int):=a7;have b6:(n:Int)<(z p.f:Int):=a7
    (simp only[go_sem,U,W,Z,n4,n5,n8,V,g5,hn,nc1,c,d,e,k1,oi,l,j])
    refine aP c9 ?_;by_cases cu:(z fn.p:Int)=(args:Int)
    .obtain rfl:b=y:=by rw[<-K,show (z fn.p==args)=T by simp;omega];simp
     (simp only[go_sem,U,W,Z,n4,n5,n8,V,g5,hn,nc1,c,d,e,k1,oi,l,j,g1,op,bk,b6,he,fnD,j7,cu])<;>(refine⟨_,ai.refl _,?_⟩;(simp only[go_sem]);exact bB.use (λi hi h5 h6=>⟨nu,nu⟩) (nu) (nu) XG XI (o:=[]) rfl)
    obtain rfl:F=y:=by rw[<-K,show (z fn.p==args)=F by simp;omega];simp
    (simp only[go_sem,U,W,Z,n4,n5,n8,V,g5,hn,nc1,c,d,e,k1,oi,l,j,g1,g6,op,bk,b6,he,fnD,j7,cu,L])<;>(refine⟨_,ai.refl _,?_⟩;(simp only[go_sem]);exact bB.use (λi hi h5 h6=>⟨nu,nu⟩) (nu) (nu) XG XI (o:=[]) rfl)
end
section
open Go Go.Am Go.Asm
open Go.Src (Th aH bD aI aM aR bb eV okE cL okS cW Ex Stm szE bw szS aN)
attribute[local congr]ite_cc
section
structure Jl (p:Src.Prog) (i:Nat) (H li:List Th) (g0:Nat->Nat) (t A G x5:Nat) (g:Nat->Nat) (ob:Obs):Prop where
 e:ScE p i H li g0 g ob
 od:ob t=some [.clo 106 (xh g0)]
 ox:ob A=some [.clo 165 [.ptr t G 0,.ptr A x5 0]]
 gd:g t=G
 gx:g A=x5
variable{p:Src.Prog}{H li:List Th}
def ScE.mono{i:Nat}{g0 g g':Nat->Nat}{ob Y:Obs}(h:ScE p i H li g0 g ob)(a:∀j,j<3000->g' j=g j/\(j≠5->j≠6->Y j=ob j)):ScE p i H li g0 g' Y where
 oi:=by rw[(a 7 b9).2 b9 b9];exact h.oi
 op:=by rw[(a 1 b9).2 b9 b9];exact h.op
 ot:=by rw[(a 11 b9).2 b9 b9];exact h.ot
 gs:=λj b=>by rw[(a j b).1];exact h.gs j b
 mo:=by rw[(a 1013 b9).2 b9 b9];exact h.mo
 mi:=by rw[(a 2011 b9).2 b9 b9];exact h.mi
def Jl.mono{p:Src.Prog}{i t A G b B:Nat}{H li:List Th}{g0 g g':Nat->Nat}{ob Y:Obs}(h:Jl p i H li g0 t A G b g ob)(hd:3000<=t)(I:3000<=A)(c:t<B)(d:A<B)(a:∀j,j<B->g' j=g j/\(j≠5->j≠6->Y j=ob j)):Jl p i H li g0 t A G b g' Y where
 e:=h.e.mono λj f=>a j a7
 od:=by rw[(a t a7).2 a7 a7];exact h.od
 ox:=by rw[(a A a7).2 a7 a7];exact h.ox
 gd:=by rw[(a t a7).1];exact h.gd
 gx:=by rw[(a A a7).1];exact h.gx
def nU(p:Src.Prog)(i:Nat)(H li:List Th):Nat->Str->Nat->Bool:=λk n _=>bb (aR H li) i k n
def mU(p:Src.Prog)(i:Nat)(H li:List Th):Nat->Str->Nat->Bool:=λk n a=>eV (aR H li) p.f i k n a
def uO{i t A G x5:Nat}{g0:Nat->Nat}(hd:3000<=t)(I:3000<=A)(r:∀s n,aR H li s=S (4,n)->n<z p.f)(az:szP p<=1000000000):
  ∀(al:Nat)(l:List Ex),bw l<=al->al<=1000000000->∀(B:Nat)(a b:Bool)(g:Nat->Nat)(ob:Obs),t<B->A<B->(∀i,B<=i->ob i=N)->Jl p i H li g0 t A G x5 g ob->ob 5=S [bE a]->ob 6=S [bE b]->
   dj Tryz.prog 165 [eJ l,aj t G 0,aj A x5 0] g ob (λ_ g' Y=>Jk (a&&cL (nU p i H li) l) (b&&cL (mU p i H li) l) g ob g' Y) (λ_ _ _=>False):=by
 intro al
 induction al using Nat.strongRecOn with
 |ind al ih=>
 intro l bd hN B a b g ob c d hB E hn L;refine hdM B [5,6] Tryz.func165 rfl [] XH hB λO bn s0 w0=>?_;have n1:∀k,(5=B+k)=False:=λk=>by simp;omega
 have n2:∀k,(6=B+k)=False:=λk=>by simp;omega
 have n3:∀k,(t=B+k)=False:=λk=>by simp;omega
 have n4:∀k,(A=B+k)=False:=λk=>by simp;omega
 have n8:∀k,(B+k=5)=False:=λk=>by simp;omega
 have V:∀k,(B+k=6)=False:=λk=>by simp;omega
 have z0:(B=0)=False:=by simp;omega
 have z1:(B=1)=False:=by simp;omega
 have m1:(A=5)=False:=by simp;omega
 have m2:(A=6)=False:=by simp;omega
 have m3:(t=5)=False:=by simp;omega
 have m4:(t=6)=False:=by simp;omega
 obtain⟨x,bk⟩:∃x,(a&&cL (nU p i H li) l)=x:=⟨_,rfl⟩
 obtain⟨y,ad⟩:∃y,(b&&cL (mU p i H li) l)=y:=⟨_,rfl⟩
 rw[bk,ad];have bz:=Src.KQ l;unfold eJ;simp only[go_sem,j7]
 refine aG (λm K=>∃(k:Nat)(a' X:Bool),m+k=z l/\(a'&&cL (nU p i H li) (l.drop k))=x/\(X&&cL (mU p i H li) (l.drop k))=y/\K.f 1=aj t G 0/\K.f 2=aj A x5 0/\K.f 6=.one (aq (l.map exD))/\K.f 7=ae (z l)/\K.f 8=ae k/\
   K.obj 5=S [bE a']/\K.obj 6=S [bE X]/\(∀j,j<B->K.gen j=g j/\(j≠5->j≠6->K.obj j=ob j))/\(∀j,B+43<=j->K.obj j=N)) (z l) ?_ ?_
 .exact VW
 rintro m f g1 av ⟨k,a',X,hk,u,w,q1,q2,q6,q7,q8,o5,W,fr,ar⟩;simp only at q1 q2 q6 q7 q8 o5 W fr ar;have E1:=E.mono hd I c d fr;obtain⟨e1,od,ox,gd,gx⟩:=E1;have hw:=ah (k:=k) a7;by_cases af:k<z l
 case neg=>
  have Q:¬(k:Int)<(z l:Int):=a7;obtain rfl:k=z l:=a7;rw[G3,cL,K8]at u w;subst u w;simp only[go_sem,q7,q8,Q];exact R1
 have Q:(k:Int)<(z l:Int):=a7;have bf:(0:Int)<=(k:Int):=a7;obtain⟨e,he⟩:=getq af;have Z:=Src.Oz (l7 he);have an:l.drop k=e::l.drop (k+1):=by rw[C3 af,(l6.1 he).2]
 rw[an,cL]at u w;obtain⟨kind,op,num,name,J⟩:=e;rw[okE]at u w;rw[szE]at Z;simp only[go_sem,n1,n2,n3,n4,q1,q2,q6,q7,q8,Q,bf,he,exD,aV];by_cases k2:kind=2
 .rw[l9 k2]at u w
  simp only[go_sem,n1,n2,n3,n4,n8,V,q1,q2,od,gd,x6 k2];refine aY (f:=106) (q:=xh g0) aa rfl XD (by simp only[go_sem];exact xQ (B:=B+43) (kind:=2) (args:=0) (a:=a') (b:=X) a7 (λj hj=>nt (ar j hj)) (e1.mono λj hj=>⟨nu,λh5 h6=>nu⟩) (nt (o5)) (nt (W)) name a8 r az) ?_ ?_
  .exact iB
  rintro _ g' Y ⟨rfl,rfl⟩;simp only[go_sem,n1,n2,n3,n4,n8,V,z0,z1,m1,m2,m3,m4,q1,q2,gd,gx,od,ox];refine aY (f:=165) (q:=[.ptr t G 0,.ptr A x5 0]) aa rfl XD (by simp only[go_sem];refine ih (bw J) a7 J (l8 _) a7 (B+43) (a'&&bb (aR H li) i 2 name) (X&&eV (aR H li) p.f i 2 name 0) _ _ a7 a7 ?_ ?_ ?_ ?_;exact(λj hj=>nt (ar j hj));exact(((E.mono hd I c d fr).mono hd I c d (λj hj=>⟨nu,λh5 h6=>nu⟩)));exact(XL);exact(XL)) ?_ ?_
  .exact iB
  rintro _ g' Y ⟨rfl,rfl⟩;simp only[go_sem,q8,hw];refine ao (m-1) a7 ⟨k+1,(a'&&bb (aR H li) i 2 name)&&cL (nU p i H li) J,(X&&eV (aR H li) p.f i 2 name 0)&&cL (mU p i H li) J,a7,by rw[<-u];simp only[nU,F8],by rw[<-w];simp only[mU,F8],?_⟩;exact VS
 by_cases k3:kind=3
 .rw[j9 k2,l9 k3]at u w
  simp only[go_sem,n1,n2,n3,n4,n8,V,q1,q2,od,gd,x6 k3,k2];refine aY (f:=106) (q:=xh g0) aa rfl XD (by simp only[go_sem];exact xQ (B:=B+43) (kind:=3) (args:=0) (a:=a') (b:=X) a7 (λj hj=>nt (ar j hj)) (e1.mono λj hj=>⟨nu,λh5 h6=>nu⟩) (nt (o5)) (nt (W)) name a8 r az) ?_ ?_
  .exact iB
  rintro _ g' Y ⟨rfl,rfl⟩;simp only[go_sem,n1,n2,n3,n4,n8,V,z0,z1,m1,m2,m3,m4,q1,q2,gd,gx,od,ox];refine aY (f:=165) (q:=[.ptr t G 0,.ptr A x5 0]) aa rfl XD (by simp only[go_sem];refine ih (bw J) a7 J (l8 _) a7 (B+43) (a'&&bb (aR H li) i 3 name) (X&&eV (aR H li) p.f i 3 name 0) _ _ a7 a7 ?_ ?_ ?_ ?_;exact(λj hj=>nt (ar j hj));exact(((E.mono hd I c d fr).mono hd I c d (λj hj=>⟨nu,λh5 h6=>nu⟩)));exact(XL);exact(XL)) ?_ ?_
  .exact iB
  rintro _ g' Y ⟨rfl,rfl⟩;simp only[go_sem,q8,hw];refine ao (m-1) a7 ⟨k+1,(a'&&bb (aR H li) i 3 name)&&cL (nU p i H li) J,(X&&eV (aR H li) p.f i 3 name 0)&&cL (mU p i H li) J,a7,by rw[<-u];simp only[nU,F8],by rw[<-w];simp only[mU,F8],?_⟩;exact VS
 by_cases k4:kind=4
 .rw[j9 k2,j9 k3,l9 k4]at u w
  simp only[go_sem,n1,n2,n3,n4,n8,V,q1,q2,od,gd,x6 k4,k2,k3,j7];refine aY (f:=106) (q:=xh g0) aa rfl XD (by simp only[go_sem];exact xQ (B:=B+43) (kind:=4) (args:=z J) (a:=a') (b:=X) a7 (λj hj=>nt (ar j hj)) (e1.mono λj hj=>⟨nu,λh5 h6=>nu⟩) (nt (o5)) (nt (W)) name a8 r az) ?_ ?_
  .exact iB
  rintro _ g' Y ⟨rfl,rfl⟩;simp only[go_sem,n1,n2,n3,n4,n8,V,z0,z1,m1,m2,m3,m4,q1,q2,gd,gx,od,ox];refine aY (f:=165) (q:=[.ptr t G 0,.ptr A x5 0]) aa rfl XD (by simp only[go_sem];refine ih (bw J) a7 J (l8 _) a7 (B+43) (a'&&bb (aR H li) i 4 name) (X&&eV (aR H li) p.f i 4 name (z J)) _ _ a7 a7 ?_ ?_ ?_ ?_;exact(λj hj=>nt (ar j hj));exact(((E.mono hd I c d fr).mono hd I c d (λj hj=>⟨nu,λh5 h6=>nu⟩)));exact(XL);exact(XL)) ?_ ?_
  .exact iB
  rintro _ g' Y ⟨rfl,rfl⟩;simp only[go_sem,q8,hw];refine ao (m-1) a7 ⟨k+1,(a'&&bb (aR H li) i 4 name)&&cL (nU p i H li) J,(X&&eV (aR H li) p.f i 4 name (z J))&&cL (mU p i H li) J,a7,by rw[<-u];simp only[nU,F8],by rw[<-w];simp only[mU,F8],?_⟩;exact VS
 .rw[j9 k2,j9 k3,j9 k4]at u w
  simp only[go_sem,k2,k3,k4];simp only[go_sem,n1,n2,n3,n4,n8,V,z0,z1,m1,m2,m3,m4,q1,q2,gd,gx,od,ox];refine aY (f:=165) (q:=[.ptr t G 0,.ptr A x5 0]) aa rfl XD (by simp only[go_sem];refine ih (bw J) a7 J (l8 _) a7 (B+43) a' X _ _ a7 a7 ?_ ?_ ?_ ?_;exact(λj hj=>nt (ar j hj));exact(((E.mono hd I c d fr).mono hd I c d (λj hj=>⟨nu,λh5 h6=>nu⟩)));exact(nt (o5));exact(nt (W))) ?_ ?_
  .exact iB
  rintro _ g' Y ⟨rfl,rfl⟩;simp only[go_sem,q8,hw];refine ao (m-1) a7 ⟨k+1,a'&&cL (nU p i H li) J,X&&cL (mU p i H li) J,a7,by rw[<-u];simp only[x8,F8],by rw[<-w];simp only[x8,F8],?_⟩;exact VS
end
structure MK (p:Src.Prog) (i:Nat) (H li:List Th) (g0:Nat->Nat) (t A U G x5 x4:Nat) (g:Nat->Nat) (ob:Obs):Prop where
 v:Jl p i H li g0 t A G x5 g ob
 os:ob U=some [.clo 166 [.ptr t G 0,.ptr A x5 0,.ptr U x4 0]]
 gs:g U=x4
def MK.mono{p:Src.Prog}{i t A U G a b B:Nat}{H li:List Th}{g0 g g':Nat->Nat}{ob Y:Obs}(h:MK p i H li g0 t A U G a b g ob)(hd:3000<=t)(I:3000<=A)(e:3000<=U)(c:t<B)(d:A<B)(J:U<B)(hf:∀j,j<B->g' j=g j/\(j≠5->j≠6->Y j=ob j)):MK p i H li g0 t A U G a b g' Y where
 v:=h.v.mono hd I c d hf
 os:=by rw[(hf U a7).2 a7 a7];exact h.os
 gs:=by rw[(hf U a7).1];exact h.gs
def ML{p:Src.Prog}{i t A U G x5 x4:Nat}{H li:List Th}{g0:Nat->Nat}(hd:3000<=t)(I:3000<=A)(hs:3000<=U)(r:∀s n,aR H li s=S (4,n)->n<z p.f)(az:szP p<=1000000000):
  ∀(al:Nat)(l:List Stm),aN l<=al->al<=1000000000->∀(B:Nat)(a b:Bool)(g:Nat->Nat)(ob:Obs),t<B->A<B->U<B->(∀i,B<=i->ob i=N)->MK p i H li g0 t A U G x5 x4 g ob->ob 5=S [bE a]->ob 6=S [bE b]->
   dj Tryz.prog 166 [fH l,aj t G 0,aj A x5 0,aj U x4 0] g ob (λ_ g' Y=>Jk (a&&cW (nU p i H li) l) (b&&cW (mU p i H li) l) g ob g' Y) (λ_ _ _=>False):=by
 intro al
 induction al using Nat.strongRecOn with
 |ind al ih=>
 intro l bd hN B a b g ob c d J hB E hn L;refine hdM B [5,6] Tryz.func166 rfl [] XH hB λO bn s0 w0=>?_;have n1:∀k,(5=B+k)=False:=λk=>by simp;omega
 have n2:∀k,(6=B+k)=False:=λk=>by simp;omega
 have n3:∀k,(t=B+k)=False:=λk=>by simp;omega
 have n4:∀k,(A=B+k)=False:=λk=>by simp;omega
 have n5:∀k,(U=B+k)=False:=λk=>by simp;omega
 have n8:∀k,(B+k=5)=False:=λk=>by simp;omega
 have V:∀k,(B+k=6)=False:=λk=>by simp;omega
 have z0:(B=0)=False:=by simp;omega
 have z1:(B=1)=False:=by simp;omega
 have m1:(A=5)=False:=by simp;omega
 have m2:(A=6)=False:=by simp;omega
 have m3:(t=5)=False:=by simp;omega
 have m4:(t=6)=False:=by simp;omega
 have m5:(U=5)=False:=by simp;omega
 have m6:(U=6)=False:=by simp;omega
 obtain⟨x,bk⟩:∃x,(a&&cW (nU p i H li) l)=x:=⟨_,rfl⟩
 obtain⟨y,ad⟩:∃y,(b&&cW (mU p i H li) l)=y:=⟨_,rfl⟩
 rw[bk,ad];have bz:=Src.KR l;unfold fH;simp only[go_sem,j7]
 refine aG (λm K=>∃(k:Nat)(a' X:Bool),m+k=z l/\(a'&&cW (nU p i H li) (l.drop k))=x/\(X&&cW (mU p i H li) (l.drop k))=y/\K.f 1=aj t G 0/\K.f 2=aj A x5 0/\K.f 3=aj U x4 0/\K.f 7=.one (aq (l.map smD))/\K.f 8=ae (z l)/\K.f 9=ae k/\
   K.obj 5=S [bE a']/\K.obj 6=S [bE X]/\(∀j,j<B->K.gen j=g j/\(j≠5->j≠6->K.obj j=ob j))/\(∀j,B+52<=j->K.obj j=N)) (z l) ?_ ?_
 .exact VW
 rintro m f g1 av ⟨k,a',X,hk,u,w,q1,q2,q3,q7,q8,q9,o5,W,fr,ar⟩;simp only at q1 q2 q3 q7 q8 q9 o5 W fr ar;have E1:=E.mono hd I hs c d J fr;have E2:=E1;obtain⟨⟨e1,od,ox,gd,gx⟩,os,gs⟩:=E2;have hw:=ah (k:=k) a7;by_cases af:k<z l
 case neg=>
  have Q:¬(k:Int)<(z l:Int):=a7;obtain rfl:k=z l:=a7;rw[G3,cW,K8]at u w;subst u w;simp only[go_sem,q8,q9,Q];exact R1
 have Q:(k:Int)<(z l:Int):=a7;have bf:(0:Int)<=(k:Int):=a7;obtain⟨e,he⟩:=getq af;have Z:=Src.OA (l7 he);have an:l.drop k=e::l.drop (k+1):=by rw[C3 af,(l6.1 he).2]
 rw[an,cW]at u w;obtain⟨kind,name,es,th,el⟩:=e;rw[okS]at u w;rw[szS]at Z;have hE:smD (.mk kind name es th el)=[.int .i64 kind,.str name,.sl (es.map exD),.sl (th.map smD),.sl (el.map smD)]:=by simp only[smD,aV,ez]
 simp only[go_sem,n1,n2,n3,n4,n5,q1,q2,q3,q7,q8,q9,Q,bf,he,hE];by_cases k1:kind=1
 .rw[l9 k1]at u w
  simp only[go_sem,n1,n2,n3,n4,n5,n8,V,z0,z1,m1,m2,m3,m4,m5,m6,q1,q2,q3,od,ox,os,gd,gx,gs,x6 k1];refine aY (f:=106) (q:=xh g0) aa rfl XD (by simp only[go_sem];exact xQ (B:=B+52) (kind:=2) (args:=0) (a:=a') (b:=X) a7 (λj hj=>nt (ar j hj)) (e1.mono λj hj=>⟨nu,λh5 h6=>nu⟩) (nt (o5)) (nt (W)) name a8 r az) ?_ ?_
  .exact iB
  rintro _ g' Y ⟨rfl,rfl⟩;simp only[go_sem,n1,n2,n3,n4,n5,n8,V,z0,z1,m1,m2,m3,m4,m5,m6,q1,q2,q3,od,ox,os,gd,gx,gs,k1];refine aY (f:=165) (q:=[.ptr t G 0,.ptr A x5 0]) aa rfl XD (by simp only[go_sem];refine uO (i:=i) (g0:=g0) hd I r az (bw es) es (l8 _) a7 (B+52) (a'&&bb (aR H li) i 2 name) (X&&eV (aR H li) p.f i 2 name 0) _ _ a7 a7 ?_ ?_ ?_ ?_;exact(λj hj=>nt (ar j hj));exact(E1.mono hd I hs c d J (λj hj=>⟨nu,λh5 h6=>nu⟩)).v;exact XL;exact XL) ?_ ?_
  .exact iB
  rintro _ g' Y ⟨rfl,rfl⟩;simp only[go_sem,n1,n2,n3,n4,n5,n8,V,z0,z1,m1,m2,m3,m4,m5,m6,q1,q2,q3,od,ox,os,gd,gx,gs];refine aY (f:=166) (q:=[.ptr t G 0,.ptr A x5 0,.ptr U x4 0]) aa rfl XD (by simp only[go_sem];refine ih (aN th) a7 th (l8 _) a7 (B+52) ((a'&&bb (aR H li) i 2 name)&&cL (nU p i H li) es) ((X&&eV (aR H li) p.f i 2 name 0)&&cL (mU p i H li) es) _ _ a7 a7 a7 ?_ ?_ ?_ ?_;exact(λj hj=>nt (ar j hj));exact(E1.mono hd I hs c d J (λj hj=>⟨nu,λh5 h6=>nu⟩));exact XL;exact XL) ?_ ?_
  .exact iB
  rintro _ g' Y ⟨rfl,rfl⟩;simp only[go_sem,n1,n2,n3,n4,n5,n8,V,z0,z1,m1,m2,m3,m4,m5,m6,q1,q2,q3,od,ox,os,gd,gx,gs];refine aY (f:=166) (q:=[.ptr t G 0,.ptr A x5 0,.ptr U x4 0]) aa rfl XD (by simp only[go_sem];refine ih (aN el) a7 el (l8 _) a7 (B+52) (((a'&&bb (aR H li) i 2 name)&&cL (nU p i H li) es)&&cW (nU p i H li) th) (((X&&eV (aR H li) p.f i 2 name 0)&&cL (mU p i H li) es)&&cW (mU p i H li) th) _ _ a7 a7 a7 ?_ ?_ ?_ ?_;exact(λj hj=>nt (ar j hj));exact(E1.mono hd I hs c d J (λj hj=>⟨nu,λh5 h6=>nu⟩));exact XL;exact XL) ?_ ?_
  .exact iB
  rintro _ g' Y ⟨rfl,rfl⟩;simp only[go_sem,q9,hw];refine ao (m-1) a7 ⟨k+1,(((a'&&bb (aR H li) i 2 name)&&cL (nU p i H li) es)&&cW (nU p i H li) th)&&cW (nU p i H li) el,(((X&&eV (aR H li) p.f i 2 name 0)&&cL (mU p i H li) es)&&cW (mU p i H li) th)&&cW (mU p i H li) el,a7,by rw[<-u];simp only[nU,F8],by rw[<-w];simp only[mU,F8],?_⟩;exact VK
 by_cases k2:kind=2
 .rw[j9 k1,l9 k2]at u w
  simp only[go_sem,n1,n2,n3,n4,n5,n8,V,z0,z1,m1,m2,m3,m4,m5,m6,q1,q2,q3,od,ox,os,gd,gx,gs,x6 k2,k1];refine aY (f:=106) (q:=xh g0) aa rfl XD (by simp only[go_sem];exact xQ (B:=B+52) (kind:=3) (args:=0) (a:=a') (b:=X) a7 (λj hj=>nt (ar j hj)) (e1.mono λj hj=>⟨nu,λh5 h6=>nu⟩) (nt (o5)) (nt (W)) name a8 r az) ?_ ?_
  .exact iB
  rintro _ g' Y ⟨rfl,rfl⟩;simp only[go_sem,n1,n2,n3,n4,n5,n8,V,z0,z1,m1,m2,m3,m4,m5,m6,q1,q2,q3,od,ox,os,gd,gx,gs,k1];refine aY (f:=165) (q:=[.ptr t G 0,.ptr A x5 0]) aa rfl XD (by simp only[go_sem];refine uO (i:=i) (g0:=g0) hd I r az (bw es) es (l8 _) a7 (B+52) (a'&&bb (aR H li) i 3 name) (X&&eV (aR H li) p.f i 3 name 0) _ _ a7 a7 ?_ ?_ ?_ ?_;exact(λj hj=>nt (ar j hj));exact(E1.mono hd I hs c d J (λj hj=>⟨nu,λh5 h6=>nu⟩)).v;exact XL;exact XL) ?_ ?_
  .exact iB
  rintro _ g' Y ⟨rfl,rfl⟩;simp only[go_sem,n1,n2,n3,n4,n5,n8,V,z0,z1,m1,m2,m3,m4,m5,m6,q1,q2,q3,od,ox,os,gd,gx,gs];refine aY (f:=166) (q:=[.ptr t G 0,.ptr A x5 0,.ptr U x4 0]) aa rfl XD (by simp only[go_sem];refine ih (aN th) a7 th (l8 _) a7 (B+52) ((a'&&bb (aR H li) i 3 name)&&cL (nU p i H li) es) ((X&&eV (aR H li) p.f i 3 name 0)&&cL (mU p i H li) es) _ _ a7 a7 a7 ?_ ?_ ?_ ?_;exact(λj hj=>nt (ar j hj));exact(E1.mono hd I hs c d J (λj hj=>⟨nu,λh5 h6=>nu⟩));exact XL;exact XL) ?_ ?_
  .exact iB
  rintro _ g' Y ⟨rfl,rfl⟩;simp only[go_sem,n1,n2,n3,n4,n5,n8,V,z0,z1,m1,m2,m3,m4,m5,m6,q1,q2,q3,od,ox,os,gd,gx,gs];refine aY (f:=166) (q:=[.ptr t G 0,.ptr A x5 0,.ptr U x4 0]) aa rfl XD (by simp only[go_sem];refine ih (aN el) a7 el (l8 _) a7 (B+52) (((a'&&bb (aR H li) i 3 name)&&cL (nU p i H li) es)&&cW (nU p i H li) th) (((X&&eV (aR H li) p.f i 3 name 0)&&cL (mU p i H li) es)&&cW (mU p i H li) th) _ _ a7 a7 a7 ?_ ?_ ?_ ?_;exact(λj hj=>nt (ar j hj));exact(E1.mono hd I hs c d J (λj hj=>⟨nu,λh5 h6=>nu⟩));exact XL;exact XL) ?_ ?_
  .exact iB
  rintro _ g' Y ⟨rfl,rfl⟩;simp only[go_sem,q9,hw];refine ao (m-1) a7 ⟨k+1,(((a'&&bb (aR H li) i 3 name)&&cL (nU p i H li) es)&&cW (nU p i H li) th)&&cW (nU p i H li) el,(((X&&eV (aR H li) p.f i 3 name 0)&&cL (mU p i H li) es)&&cW (mU p i H li) th)&&cW (mU p i H li) el,a7,by rw[<-u];simp only[nU,F8],by rw[<-w];simp only[mU,F8],?_⟩;exact VK
 by_cases P:kind=6
 .rw[j9 k1,j9 k2,l9 P]at u w
  simp only[go_sem,n1,n2,n3,n4,n5,n8,V,z0,z1,m1,m2,m3,m4,m5,m6,q1,q2,q3,od,ox,os,gd,gx,gs,x6 P,k1,k2,j7];refine aY (f:=106) (q:=xh g0) aa rfl XD (by simp only[go_sem];exact xQ (B:=B+52) (kind:=4) (args:=z es) (a:=a') (b:=X) a7 (λj hj=>nt (ar j hj)) (e1.mono λj hj=>⟨nu,λh5 h6=>nu⟩) (nt (o5)) (nt (W)) name a8 r az) ?_ ?_
  .exact iB
  rintro _ g' Y ⟨rfl,rfl⟩;simp only[go_sem,n1,n2,n3,n4,n5,n8,V,z0,z1,m1,m2,m3,m4,m5,m6,q1,q2,q3,od,ox,os,gd,gx,gs,k1];refine aY (f:=165) (q:=[.ptr t G 0,.ptr A x5 0]) aa rfl XD (by simp only[go_sem];refine uO (i:=i) (g0:=g0) hd I r az (bw es) es (l8 _) a7 (B+52) (a'&&bb (aR H li) i 4 name) (X&&eV (aR H li) p.f i 4 name (z es)) _ _ a7 a7 ?_ ?_ ?_ ?_;exact(λj hj=>nt (ar j hj));exact(E1.mono hd I hs c d J (λj hj=>⟨nu,λh5 h6=>nu⟩)).v;exact XL;exact XL) ?_ ?_
  .exact iB
  rintro _ g' Y ⟨rfl,rfl⟩;simp only[go_sem,n1,n2,n3,n4,n5,n8,V,z0,z1,m1,m2,m3,m4,m5,m6,q1,q2,q3,od,ox,os,gd,gx,gs];refine aY (f:=166) (q:=[.ptr t G 0,.ptr A x5 0,.ptr U x4 0]) aa rfl XD (by simp only[go_sem];refine ih (aN th) a7 th (l8 _) a7 (B+52) ((a'&&bb (aR H li) i 4 name)&&cL (nU p i H li) es) ((X&&eV (aR H li) p.f i 4 name (z es))&&cL (mU p i H li) es) _ _ a7 a7 a7 ?_ ?_ ?_ ?_;exact(λj hj=>nt (ar j hj));exact(E1.mono hd I hs c d J (λj hj=>⟨nu,λh5 h6=>nu⟩));exact XL;exact XL) ?_ ?_
  .exact iB
  rintro _ g' Y ⟨rfl,rfl⟩;simp only[go_sem,n1,n2,n3,n4,n5,n8,V,z0,z1,m1,m2,m3,m4,m5,m6,q1,q2,q3,od,ox,os,gd,gx,gs];refine aY (f:=166) (q:=[.ptr t G 0,.ptr A x5 0,.ptr U x4 0]) aa rfl XD (by simp only[go_sem];refine ih (aN el) a7 el (l8 _) a7 (B+52) (((a'&&bb (aR H li) i 4 name)&&cL (nU p i H li) es)&&cW (nU p i H li) th) (((X&&eV (aR H li) p.f i 4 name (z es))&&cL (mU p i H li) es)&&cW (mU p i H li) th) _ _ a7 a7 a7 ?_ ?_ ?_ ?_;exact(λj hj=>nt (ar j hj));exact(E1.mono hd I hs c d J (λj hj=>⟨nu,λh5 h6=>nu⟩));exact XL;exact XL) ?_ ?_
  .exact iB
  rintro _ g' Y ⟨rfl,rfl⟩;simp only[go_sem,q9,hw];refine ao (m-1) a7 ⟨k+1,(((a'&&bb (aR H li) i 4 name)&&cL (nU p i H li) es)&&cW (nU p i H li) th)&&cW (nU p i H li) el,(((X&&eV (aR H li) p.f i 4 name (z es))&&cL (mU p i H li) es)&&cW (mU p i H li) th)&&cW (mU p i H li) el,a7,by rw[<-u];simp only[nU,F8],by rw[<-w];simp only[mU,F8],?_⟩;exact VK
 .rw[j9 k1,j9 k2,j9 P]at u w
  simp only[go_sem,n1,n2,n3,n4,n5,n8,V,z0,z1,m1,m2,m3,m4,m5,m6,q1,q2,q3,od,ox,os,gd,gx,gs,k1,k2,P];refine aY (f:=165) (q:=[.ptr t G 0,.ptr A x5 0]) aa rfl XD (by simp only[go_sem];refine uO (i:=i) (g0:=g0) hd I r az (bw es) es (l8 _) a7 (B+52) a' X _ _ a7 a7 ?_ ?_ ?_ ?_;exact(λj hj=>nt (ar j hj));exact(E1.mono hd I hs c d J (λj hj=>⟨nu,λh5 h6=>nu⟩)).v;exact(nt (o5));exact(nt (W))) ?_ ?_
  .exact iB
  rintro _ g' Y ⟨rfl,rfl⟩;simp only[go_sem,n1,n2,n3,n4,n5,n8,V,z0,z1,m1,m2,m3,m4,m5,m6,q1,q2,q3,od,ox,os,gd,gx,gs];refine aY (f:=166) (q:=[.ptr t G 0,.ptr A x5 0,.ptr U x4 0]) aa rfl XD (by simp only[go_sem];refine ih (aN th) a7 th (l8 _) a7 (B+52) (a'&&cL (nU p i H li) es) (X&&cL (mU p i H li) es) _ _ a7 a7 a7 ?_ ?_ ?_ ?_;exact(λj hj=>nt (ar j hj));exact(E1.mono hd I hs c d J (λj hj=>⟨nu,λh5 h6=>nu⟩));exact XL;exact XL) ?_ ?_
  .exact iB
  rintro _ g' Y ⟨rfl,rfl⟩;simp only[go_sem,n1,n2,n3,n4,n5,n8,V,z0,z1,m1,m2,m3,m4,m5,m6,q1,q2,q3,od,ox,os,gd,gx,gs];refine aY (f:=166) (q:=[.ptr t G 0,.ptr A x5 0,.ptr U x4 0]) aa rfl XD (by simp only[go_sem];refine ih (aN el) a7 el (l8 _) a7 (B+52) ((a'&&cL (nU p i H li) es)&&cW (nU p i H li) th) ((X&&cL (mU p i H li) es)&&cW (mU p i H li) th) _ _ a7 a7 a7 ?_ ?_ ?_ ?_;exact(λj hj=>nt (ar j hj));exact(E1.mono hd I hs c d J (λj hj=>⟨nu,λh5 h6=>nu⟩));exact XL;exact XL) ?_ ?_
  .exact iB
  rintro _ g' Y ⟨rfl,rfl⟩;simp only[go_sem,q9,hw];refine ao (m-1) a7 ⟨k+1,((a'&&cL (nU p i H li) es)&&cW (nU p i H li) th)&&cW (nU p i H li) el,((X&&cL (mU p i H li) es)&&cW (mU p i H li) th)&&cW (mU p i H li) el,a7,by rw[<-u];simp only[x8,F8],by rw[<-w];simp only[x8,F8],?_⟩;exact VK
end
section
open Go Go.Am Go.Asm
open Go.Src (Th aH bD aI aM aR bb eV okE cL okS cW Ex Stm szE bw szS aN fA tG bt eZ)
attribute[local congr]ite_cc
def EK{p:Src.Prog}{i:Nat}{H li:List Th}{g0:Nat->Nat}(r:∀s n,aR H li s=S (4,n)->n<z p.f)(az:szP p<=1000000000){f:Src.Fn}(P:aN f.body<=1000000000){a b:Bool}{g:Nat->Nat}{ob:Obs}(hB:∀i,3000<=i->ob i=N)(E:ScE p i H li g0 g ob)
 (hn:ob 5=S [bE a])(L:ob 6=S [bE b]):
  dj Tryz.prog 105 [fnV f,.one (.clo 106 (xh g0))] g ob (λ_ g' Y=>Jk (a&&cW (nU p i H li) f.body) (b&&cW (mU p i H li) f.body) g ob g' Y) (λ_ _ _=>False):=by
 refine hdM 3000 [5,6] Tryz.func105 rfl [] a8 hB λO bn s0 w0=>?_;unfold fnV fnD;simp only[go_sem];refine aY (f:=166) (q:=[.ptr 3003 (nxC 207 (g 3003)) 0,.ptr 3005 (nxC 261 (g 3005)) 0,.ptr 3004 (nxC 260 (g 3004)) 0]) aa rfl XD (by simp only[go_sem];refine ML (i:=i) (g0:=g0) (H:=H) (li:=li) b9 b9 b9 r az (aN f.body) f.body (l8 _) P 3012 a b _ _ b9 b9 b9 ?_ ?_ ?_ ?_;exact(λj d=>nt (hB j a7));exact⟨⟨E.mono λj d=>⟨nu,λl x=>nu⟩,by simp[upd],by simp[upd],by simp[upd],by simp[upd]⟩,by simp[upd],by simp[upd]⟩;exact(by simp[upd];exact hn);exact(by simp[upd];exact L)) ?_ ?_
 .exact iB
 rintro _ g' Y ⟨rfl,rfl⟩;simp only[go_sem];refine⟨_,ai.refl _,?_⟩;simp only[go_sem];exact bB.use (λi hi l x=>⟨nu,nu⟩) (nu) (nu) XL XL (o:=[]) rfl
def mb{A:Type}(c:Nat->A->Bool){l:List A}{k:Nat}{x:A}(h:l[k]?=S x):bt c 0 (l.take (k+1))=(bt c 0 (l.take k)&&c k x):=by
 have a:=(l6.1 h).1;rw[D2,h,Ln,Src.BO,D3,U9 a7,C5]
def MM{o:cT}(p:Src.Prog)(bd:1<=z p.f)(az:szP p<=1000000000):ck Tryz.prog 1 o 68 [cl p] (·=ae (eZ p:Nat)):=by
 refine hdG Tryz.func68 rfl [.tmp 2] λO bn s0 w0 g=>?_;obtain⟨X,hz⟩:∃X,eZ p=X:=⟨_,rfl⟩
 rw[hz];have u:=az;unfold szP at az;have G:cl p=.agg [aq (p.v.map λs=>[.str s]),aq (p.a.map arD),aq (p.f.map fnD)]:=rfl;rw[G];simp only[go_sem];refine cH aL rfl (by simp only[go_sem];rw[<-G];exact Gs (λi hi=>nu) u) ?_ ?_
 .exact iB
 rintro r g1 av ⟨rfl,⟨M,oM,mM,t⟩,fr⟩;have e1:=fr 1 (.inl b9);simp[upd]at e1;have ar:∀j,1100<=j->av j=N:=λj hj=>by rw[(fr j (.inr a7)).2];simp only[upd];rw[j9 a7]
 clear fr;simp only[go_sem,e1.1,e1.2,j7]
 refine aG (λm K=>∃k:Nat,m+k=z p.f/\K.f 1=aj 1 (K.gen 1) 0/\K.f 3=.one (.mp 1013 (K.gen 1013) 208)/\K.f 5=aj 5 (K.gen 5) 0/\K.f 6=aj 6 (K.gen 6) 0/\K.f 20=.one (aq (p.f.map fnD))/\K.f 21=ae (z p.f)/\K.f 22=ae k/\
   K.obj 1=S (jJ p)/\K.obj 5=S [bE (bD [] (aI p)&&bt (fA p) 0 (p.f.take k))]/\K.obj 6=S [bE (bt (tG p) 0 (p.f.take k))]/\(∃M,K.obj 1013=S M/\ju M (aI p))/\∀j,2100<=j->K.obj j=N) (z p.f) ?_ ?_
 .refine⟨0,rfl,?_⟩
  simp only[go_sem,e1.1,e1.2,oM];refine⟨rfl,by simp[bt],by simp[bt],⟨M,rfl,mM⟩,λj hj=>nt (ar j a7)⟩
 clear e1 ar oM mM t M;rintro m f g1 av ⟨k,hk,q1,q3,q5,q6,B,y,A,o1,o5,W,⟨M,oM,mM⟩,ar⟩;simp only at q1 q3 q5 q6 B y A o1 o5 W oM ar;have hw:=ah (k:=k) a7;by_cases af:k<z p.f
 .have Q:(k:Int)<(z p.f:Int):=a7
  have bf:(0:Int)<=(k:Int):=a7;obtain⟨x,he⟩:=getq af;have P:=kq (p:=p) (l7 he);unfold szP at P;have J:fnV x=.agg [bF x.name,aq (x.p.map λs=>[.str s]),aq (x.l.map λs=>[.str s]),bE x.word,aq (x.body.map smD)]:=rfl;have a6:fnD x=[.str x.name,.sl (x.p.map λs=>[.str s]),.sl (x.l.map λs=>[.str s]),.bool x.word,.sl (x.body.map smD)]:=rfl;simp only[go_sem,B,y,A,Q,bf,he,a6];refine cH aL rfl (by simp only[go_sem];rw[<-J];exact Ji (λi hi=>nt (ar i hi)) a7) ?_ ?_
  .exact iB
  rintro r g2 bo ⟨rfl,⟨M2,I,V,ad⟩,fr⟩;have e5:=fr 5 (.inl b9);have q:=fr 6 (.inl b9);have w:=fr 7 (.inl b9);have Z:=fr 8 (.inl b9);have e1:=fr 1 (.inl b9);have d:=fr 1013 (.inl b9);simp[upd]at e5 q w Z e1 d;rw[o5]at e5;rw[W]at q;rw[o1]at e1;rw[oM]at d;obtain⟨u5,h5⟩:∃v,(bD [] (aI p)&&bt (fA p) 0 (List.take k p.f))=v:=⟨_,rfl⟩
  obtain⟨U,h6⟩:∃v,bt (tG p) 0 (List.take k p.f)=v:=⟨_,rfl⟩
  obtain⟨uf,L⟩:∃v,bD [] (aM x)=v:=⟨_,rfl⟩
  rw[h5]at e5;rw[h6]at q;rw[L];simp only[go_sem,e5.1,e5.2,q5];cases u5
  .simp only[go_sem,e5.2,e5.1,q.1,w.1,Z.1,Z.2,w.2,e1.1,d.1,q1,q3,q5,q6]
   rw[<-J];refine cH aL rfl (by simp only[go_sem];rw[<-e5.1,<-q.1,<-e1.1,<-w.1];refine EK (p:=p) (i:=k) (H:=aI p) (li:=aM x) (g0:=upd g2 11 (nxC 200 (g2 11))) (a:=F) (b:=U) (λs n h=>Src.TO h) az a7 ?_ ?_ ?_ ?_;exact(λj hj=>by (try simp only[upd]);(repeat rw[j9 (by omega)]);rw[(fr j (.inr (by omega))).2];exact nt (ar j (by omega)));exact⟨by simp[upd];exact w.2,by simp[upd];exact e1.2,by simp[upd,d.1],λj hj=>rfl,⟨M,by simp[upd];exact d.2,mM⟩,⟨M2,by simp[upd];exact I,V⟩⟩;exact(by simp[upd]);exact(by simp[upd];exact q.2)) ?_ ?_
   .exact iB
   exact kn
  .simp only[go_sem,e5.2,e5.1,q.1,w.1,Z.1,Z.2,w.2,e1.1,d.1,q1,q3,q5,q6]
   rw[<-J];refine cH aL rfl (by simp only[go_sem];rw[<-e5.1,<-q.1,<-e1.1,<-w.1];refine EK (p:=p) (i:=k) (H:=aI p) (li:=aM x) (g0:=upd g2 11 (nxC 200 (g2 11))) (a:=uf) (b:=U) (λs n h=>Src.TO h) az a7 ?_ ?_ ?_ ?_;exact(λj hj=>by (try simp only[upd]);(repeat rw[j9 (by omega)]);rw[(fr j (.inr (by omega))).2];exact nt (ar j (by omega)));exact⟨by simp[upd];exact w.2,by simp[upd];exact e1.2,by simp[upd,d.1],λj hj=>rfl,⟨M,by simp[upd];exact d.2,mM⟩,⟨M2,by simp[upd];exact I,V⟩⟩;exact(by simp[upd]);exact(by simp[upd];exact q.2)) ?_ ?_
   .exact iB
   exact kn
 have Q:¬(k:Int)<(z p.f:Int):=a7;obtain rfl:k=z p.f:=a7;rw[s7 (l8 _)]at o5 W;unfold eZ at hz;unfold jJ jt at o1;simp only[s6,x7]at o1;obtain⟨u5,h5⟩:∃v,(bD [] (aI p)&&bt (fA p) 0 p.f)=v:=⟨_,rfl⟩
 obtain⟨U,h6⟩:∃v,bt (tG p) 0 p.f=v:=⟨_,rfl⟩
 rw[h5]at o5 hz;rw[h6]at W hz;simp only[go_sem,y,A,Q,q5,o5];cases u5
 .rw[l9 rfl]at hz
  subst hz;exact gW
 rw[j9 a8]at hz;have e:IntKind.i64.wrap ((z p.f:Int)-1)=((z p.f-1:Nat):Int):=by rw[wrap_i64]<;>omega
 obtain⟨x,he⟩:=getq (show z p.f-1<z p.f by omega);have b':p.f.getLast?=S x:=by rw[Pd,he]
 rw[b']at hz;simp only at hz;have bl:(0:Int)<=((z p.f-1:Nat):Int):=a7;have e9:((z p.f-1:Nat):Int)<(z p.f:Int):=a7;obtain⟨nm,ps,ls,wd,body⟩:=x;simp only at hz;simp only[go_sem,q1,o1,j7,e,bl,e9,he,fnD,q6,W];cases U
 .rw[j9 a8]at hz
  subst hz;exact gW
 by_cases c:nm=[109,97,105,110]
 case neg=>
  rw[j9 (λh=>c h.2.1)]at hz;subst hz;simp only[go_sem,c]
 by_cases b3:0<z ps
 .have E:(0:Int)<(z ps:Int):=a7
  rw[j9 (λh=>by rw[h.2.2.1]at b3;simp at b3)]at hz;subst hz;simp only[go_sem,x6 c,j7,E]
 have E:¬(0:Int)<(z ps:Int):=a7;have c8:ps=[]:=Hk.1 a7;cases wd
 .rw[l9 ⟨rfl,c,c8,rfl⟩]at hz
  subst hz;simp only[go_sem,x6 c,j7,E]
 .rw[j9 (λh=>by cases h.2.2.2)]at hz
  subst hz;simp only[go_sem,x6 c,j7,E]
end
end Go.Proofs.YtlacbjnmkhndiaaGreatDoor
namespace Go.Src
section
open Go.Asm (Str)
def bW:List Fn->Str->Option Fn
 |[],_=>N
 |f::l,s=>if f.name=s then S f else bW l s
def Sy(l m:List Fn)(s:Str):bW (l++m) s=match bW l s with|some x=>S x|none=>bW m s:=by
 induction l with
 |nil=>rfl
 |cons t l a=>simp only[C6,bW];split<;>simp_all
def fM(fs:List Fn)(s:Str):Bool:=match bW fs s with|some f=>f.word|none=>F
mutual
def dm(fs:List Fn):Ex->Int
 |.mk kind op _ name kids=>
   if kind<1\/9<kind then 0
   else if kind=1\/kind=2\/kind=5 then 1
   else if kind=3 then(if cI fs 1 kids then 1 else 0)
   else if kind=4 then(if fM fs name && cI fs 1 kids then 1 else 0)
   else if kind=6 then(if cI fs 1 kids then(if op=14\/op=15 then 2 else 1)else 0)
   else(if cI fs 2 kids then 2 else 0)
def cI(fs:List Fn)(t:Int):List Ex->Bool
 |[]=>T
 |e::l=>decide (dm fs e=t)&&cI fs t l
end
mutual
def fb(fs:List Fn):Ex->Bool
 |.mk kind _ _ name kids=>(if kind=4 then(bW fs name).isSome else T) && cj fs kids
def cj(fs:List Fn):List Ex->Bool
 |[]=>T
 |e::l=>fb fs e&&cj fs l
end
mutual
def jn(fs:List Fn):Stm->Bool
 |.mk kind name e a el=>(if kind=6 then(bW fs name).isSome else T) && cj fs e && (bK fs a && bK fs el)
def bK(fs:List Fn):List Stm->Bool
 |[]=>T
 |s::l=>jn fs s&&bK fs l
end
mutual
def gQ(fs:List Fn)(w:Bool):Stm->Bool
 |.mk kind name e a el=>!(kind == 6 && fM fs name) && !(kind == 7 && decide (0<z e) && !w) && cI fs (if kind=4\/kind=5 then 2 else 1) e && (aX fs w a && aX fs w el)
def aX(fs:List Fn)(w:Bool):List Stm->Bool
 |[]=>T
 |s::l=>gQ fs w s&&aX fs w l
end
def mu(p:Prog):Nat:=
 if (p.f.all λf=>bK p.f f.body)=F then 4
 else if (p.f.all λf=>aX p.f f.word f.body)=F then 5 else 0
def aZ(p:Prog):Nat:=if dP p=F then 7 else if eZ p≠0 then eZ p else mu p
end
end Go.Src
