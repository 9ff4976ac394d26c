/- A part of the proof; no conditions. -/
import Derived.Test.YtlacbjnmkhndiaaGreatDoorPart9
set_option linter.unusedSimpArgs false
set_option linter.unusedVariables false
set_option linter.defProp false
open List renaming length -> z
open Option renaming some -> S, none -> N
open Bool renaming true -> T, false -> F
set_option maxHeartbeats 64000000
set_option maxRecDepth 100000
namespace Go.Proofs.YtlacbjnmkhndiaaGreatDoor
section
open Go Go.Am Go.Asm
open Go.Src (Th aG bR aO aV aQ bj eP okE df okS dy Ex Stm)
attribute[local congr]ite_cc
structure ScE (p:Src.Prog) (i:Nat) (H li:List Th) (g0 g:Nat->Nat) (ob:Obs):Prop where
 oi:ob 7=some [.d (.int .i64 (i:Nat))]
 op:ob 1=some (iW p)
 ot:ob 11=some [.mp 1013 (g0 1013) 208,.mp 2011 (g0 2011) 208]
 gs:∀i,i<3000->g i=g0 i
 mo:∃M,ob 1013=some M/\iI M H
 mi:∃M,ob 2011=some M/\iI M li
def vw(g0:Nat->Nat):List PC:=[.ptr 11 (g0 11) 0,.ptr 5 (g0 5) 0,.ptr 7 (g0 7) 0,.ptr 1 (g0 1) 0,.ptr 6 (g0 6) 0]
def Td(kind:Nat)(a:Str)(args:Nat):AV:=.agg [.d (.int .i64 (kind:Nat)),.d (.str a),.d (.int .i64 (args:Nat))]
def GR(a b:Bool)(g:Nat->Nat)(ob:Obs)(g':Nat->Nat)(Y:Obs):Prop:=g'=g/\Y=upd (upd ob 5 (S [.d (.bool a)])) 6 (S [.d (.bool b)])
def bi.use{B:Nat}{a b:Bool}{g:Nat->Nat}{ob:Obs}{s:St}{j o:List AV}(h:∀i,i<B->i≠5->i≠6->s.gen i=g i/\s.obj i=ob i)(ga:s.gen 5=g 5)(q:s.gen 6=g 6)(c:s.obj 5=S [.d (.bool a)])(f:s.obj 6=S [.d (.bool b)])(hf:dY B s j o):bi B [5,6] g ob (λ_ g' Y=>GR a b g ob g' Y) s j:=
 bi.two h ga q c f Ed Ed hf ⟨rfl,rfl⟩
def wh{B kind i args:Nat}{a b:Bool}{p:Src.Prog}{H li:List Th}{g0 g:Nat->Nat}{ob:Obs}(J:3000<=B)(hB:∀i,B<=i->ob i=N)(E:ScE p i H li g0 g ob)(hn:ob 5=S [.d (.bool a)])(L:ob 6=S [.d (.bool b)])(nm:Str)(hk:kind=2\/kind=3\/kind=4)
 (r:∀s n,aQ H li s=S (4,n)->n<z p.funcs)(az:szP p<=1000000000):
  cM Tryz.prog 106 (Td kind nm args::(vw g0).map jY) g ob
   (λ_ g' Y=>GR (a&&bj (aQ H li) i kind nm) (b&&eP (aQ H li) p.funcs i kind nm args) g ob g' Y) (λ_ _ _=>False):=by
 unfold Td vw;simp only[l9,w9];obtain⟨oi,op,ot,gs,⟨q,w,mo⟩,⟨u,A,mi⟩⟩:=E;refine hdM B [5,6] Tryz.func106 rfl [] VC hB λO bn s0 w0=>?_;have U:∀k,(5=B+k)=False:=λk=>by simp;omega
 have W:∀k,(6=B+k)=False:=λk=>by simp;omega
 have n3:∀k,(7=B+k)=False:=λk=>by simp;omega
 have n4:∀k,(1=B+k)=False:=λk=>by simp;omega
 have n5:∀k,(11=B+k)=False:=λk=>by simp;omega
 have n6:∀k,(1013=B+k)=False:=λk=>by simp;omega
 have n7:∀k,(2011=B+k)=False:=λk=>by simp;omega
 have Z:∀k,(B+k=5)=False:=λk=>by simp;omega
 have V:∀k,(B+k=6)=False:=λk=>by simp;omega
 unfold iW iH at op;simp only[l9,w9]at op;have G:=gs 11 b9;have g5:=gs 5 b9;have l:=gs 7 b9;have g1:=gs 1 b9;have g6:=gs 6 b9;simp only[go_sem,U,W,n3,n4,n5,jY,ot,G,l9,w9];refine cj aa rfl (by simp only[go_sem];exact Oy (B:=B+60) (io:=1013) (ii:=2011) (q:=q) (u:=u) (H:=H) (li:=li) (λi hi=>nt (hB i a7)) a7 a7 (by simp only[upd,n6];exact w) (by simp only[upd,n7];exact A) mo mi nm (by simp only[upd,n6];exact gs _ b9) (by simp only[upd,n7];exact gs _ b9)) ?_ ?_
 .exact kb
 rintro _ g' Y ⟨rfl,rfl,rfl⟩;have hf:=r nm;obtain⟨x,I⟩:∃x,(a&&bj (aQ H li) i kind nm)=x:=⟨_,rfl⟩
 obtain⟨y,K⟩:∃y,(b&&eP (aQ H li) p.funcs i kind nm args)=y:=⟨_,rfl⟩
 rw[I,K];have c:((2:Nat):Int)=2:=rfl;have e:((3:Nat):Int)=3:=rfl;have f:((4:Nat):Int)=4:=rfl;unfold bj at I;unfold eP at K;cases m:aQ H li nm with
 |none=>
   rw[m]at I K;simp only[D2,K7]at I K;subst I K;simp only[rH];rcases hk with rfl|rfl|rfl
   .cases a<;>(simp only[go_sem,U,W,n3,n4,n5,Z,V,g5,hn,nc1,c,e,f])<;>(refine⟨_,ae.refl _,?_⟩;(simp only[go_sem]);exact bi.use (λi hi h5 h6=>⟨nu,nu⟩) (nu) (nu) VB VD (o:=[]) rfl)
   .cases a<;>(simp only[go_sem,U,W,n3,n4,n5,Z,V,g5,hn,nc1,c,e,f])<;>(refine⟨_,ae.refl _,?_⟩;(simp only[go_sem]);exact bi.use (λi hi h5 h6=>⟨nu,nu⟩) (nu) (nu) VB VD (o:=[]) rfl)
   ·(simp only[go_sem,U,W,n3,n4,n5,Z,V,g5,hn,nc1,c,e,f])<;>(refine⟨_,ae.refl _,?_⟩;(simp only[go_sem]);exact bi.use (λi hi h5 h6=>⟨nu,nu⟩) (nu) (nu) VB VD (o:=[]) rfl)
 |some t=>
   obtain⟨k,n⟩:=t;rw[m]at hf I K;simp only at I K;simp only[rH,thD,l9,w9];rcases hk with rfl|rfl|rfl
   .rw[j8 a8,K7]at K
    subst K;rw[l8 rfl]at I;by_cases k1:(k:Int)=1
    .obtain rfl:a=x:=by rw[<-I,show (k==1)=T by simp;omega];simp
     cases a<;>(simp only[go_sem,U,W,n3,n4,n5,Z,V,g5,hn,nc1,c,e,f,k1])<;>(refine⟨_,ae.refl _,?_⟩;(simp only[go_sem]);exact bi.use (λi hi h5 h6=>⟨nu,nu⟩) (nu) (nu) VB VD (o:=[]) rfl)
    by_cases k2:(k:Int)=2
    .obtain rfl:a=x:=by rw[<-I,show (k==2)=T by simp;omega];simp
     cases a<;>(simp only[go_sem,U,W,n3,n4,n5,Z,V,g5,hn,nc1,c,e,f,k1,k2])<;>(refine⟨_,ae.refl _,?_⟩;(simp only[go_sem]);exact bi.use (λi hi h5 h6=>⟨nu,nu⟩) (nu) (nu) VB VD (o:=[]) rfl)
    obtain rfl:F=x:=by rw[<-I,show (k==1)=F by simp;omega,show (k==2)=F by simp;omega];simp
    cases a<;>(simp only[go_sem,U,W,n3,n4,n5,Z,V,g5,hn,nc1,c,e,f,k1,k2])<;>(refine⟨_,ae.refl _,?_⟩;(simp only[go_sem]);exact bi.use (λi hi h5 h6=>⟨nu,nu⟩) (nu) (nu) VB VD (o:=[]) rfl)
   .rw[j8 a8,K7]at K
    subst K;rw[j8 b9,l8 rfl]at I;by_cases k1:(k:Int)=3
    .obtain rfl:a=x:=by rw[<-I,show (k==3)=T by simp;omega];simp
     cases a<;>(simp only[go_sem,U,W,n3,n4,n5,Z,V,g5,hn,nc1,c,e,f,k1])<;>(refine⟨_,ae.refl _,?_⟩;(simp only[go_sem]);exact bi.use (λi hi h5 h6=>⟨nu,nu⟩) (nu) (nu) VB VD (o:=[]) rfl)
    obtain rfl:F=x:=by rw[<-I,show (k==3)=F by simp;omega];simp
    cases a<;>(simp only[go_sem,U,W,n3,n4,n5,Z,V,g5,hn,nc1,c,e,f,k1])<;>(refine⟨_,ae.refl _,?_⟩;(simp only[go_sem]);exact bi.use (λi hi h5 h6=>⟨nu,nu⟩) (nu) (nu) VB VD (o:=[]) rfl)
   .rw[j8 b9,j8 b9]at I
    by_cases k1:(k:Int)=4
    case neg=>
     rw[j8 a7,K7]at K;subst K;obtain rfl:F=x:=by rw[<-I,show (k==4)=F by simp;omega];simp
     (simp only[go_sem,U,W,n3,n4,n5,Z,V,g5,hn,nc1,c,e,f,k1])<;>(refine⟨_,ae.refl _,?_⟩;(simp only[go_sem]);exact bi.use (λi hi h5 h6=>⟨nu,nu⟩) (nu) (nu) VB VD (o:=[]) rfl)
    by_cases v:n<i
    case neg=>
     have j:(i:Int)<=(n:Int):=a7;rw[j8 a7,K7]at K;subst K;obtain rfl:F=x:=by rw[<-I,A4 v];simp
     (simp only[go_sem,U,W,n3,n4,n5,Z,V,g5,hn,nc1,c,e,f,k1,oi,l,j])<;>(refine⟨_,ae.refl _,?_⟩;(simp only[go_sem]);exact bi.use (λi hi h5 h6=>⟨nu,nu⟩) (nu) (nu) VB VD (o:=[]) rfl)
    have j:¬(i:Int)<=(n:Int):=a7;obtain rfl:a=x:=by rw[<-I,C9 v,show (k==4)=T by simp;omega];simp
    have b1:=hf n (by rw[show k=4 by omega]);obtain⟨fn,he⟩:=getq b1;rw[l8 ⟨rfl,a7,v⟩,he]at K;simp only at K;have bk:(0:Int)<=(n:Int):=a7;have b':(n:Int)<(z p.funcs:Int):=a7
    (simp only[go_sem,U,W,n3,n4,n5,Z,V,g5,hn,nc1,c,e,f,k1,oi,l,j])
    refine aF c8 ?_;by_cases cf:(z fn.params:Int)=(args:Int)
    .obtain rfl:b=y:=by rw[<-K,show (z fn.params==args)=T by simp;omega];simp
     (simp only[go_sem,U,W,n3,n4,n5,Z,V,g5,hn,nc1,c,e,f,k1,oi,l,j,g1,op,bk,b',he,fnD,j6,cf])<;>(refine⟨_,ae.refl _,?_⟩;(simp only[go_sem]);exact bi.use (λi hi h5 h6=>⟨nu,nu⟩) (nu) (nu) VB VD (o:=[]) rfl)
    obtain rfl:F=y:=by rw[<-K,show (z fn.params==args)=F by simp;omega];simp
    (simp only[go_sem,U,W,n3,n4,n5,Z,V,g5,hn,nc1,c,e,f,k1,oi,l,j,g1,g6,op,bk,b',he,fnD,j6,cf,L])<;>(refine⟨_,ae.refl _,?_⟩;(simp only[go_sem]);exact bi.use (λi hi h5 h6=>⟨nu,nu⟩) (nu) (nu) VB VD (o:=[]) rfl)
end
section
open Go Go.Am Go.Asm
open Go.Src (Th aG bR aO aV aQ bj eP okE df okS dy Ex Stm szE bc szS aD)
attribute[local congr]ite_cc
section
structure GT (p:Src.Prog) (i:Nat) (H li:List Th) (g0:Nat->Nat) (u A x3 x5:Nat) (g:Nat->Nat) (ob:Obs):Prop where
 e:ScE p i H li g0 g ob
 od:ob u=some [.clo 106 (vw g0)]
 ox:ob A=some [.clo 165 [.ptr u x3 0,.ptr A x5 0]]
 gd:g u=x3
 gx:g A=x5
variable{p:Src.Prog}{H li:List Th}
def ScE.mono{i:Nat}{g0 g g':Nat->Nat}{ob Y:Obs}(h:ScE p i H li g0 g ob)(a:∀j,j<3000->g' j=g j/\(j≠5->j≠6->Y j=ob j)):ScE p i H li g0 g' Y where
 oi:=by rw[(a 7 b9).2 b9 b9];exact h.oi
 op:=by rw[(a 1 b9).2 b9 b9];exact h.op
 ot:=by rw[(a 11 b9).2 b9 b9];exact h.ot
 gs:=λj b=>by rw[(a j b).1];exact h.gs j b
 mo:=by rw[(a 1013 b9).2 b9 b9];exact h.mo
 mi:=by rw[(a 2011 b9).2 b9 b9];exact h.mi
def GT.mono{p:Src.Prog}{i u A b d B:Nat}{H li:List Th}{g0 g g':Nat->Nat}{ob Y:Obs}(h:GT p i H li g0 u A b d g ob)(hd:3000<=u)(I:3000<=A)(c:u<B)(t:A<B)(a:∀j,j<B->g' j=g j/\(j≠5->j≠6->Y j=ob j)):GT p i H li g0 u A b d g' Y where
 e:=h.e.mono λj f=>a j a7
 od:=by rw[(a u a7).2 a7 a7];exact h.od
 ox:=by rw[(a A a7).2 a7 a7];exact h.ox
 gd:=by rw[(a u a7).1];exact h.gd
 gx:=by rw[(a A a7).1];exact h.gx
def nU(p:Src.Prog)(i:Nat)(H li:List Th):Nat->Str->Nat->Bool:=λk n _=>bj (aQ H li) i k n
def mU(p:Src.Prog)(i:Nat)(H li:List Th):Nat->Str->Nat->Bool:=λk n a=>eP (aQ H li) p.funcs i k n a
def sY{i u A x3 x5:Nat}{g0:Nat->Nat}(hd:3000<=u)(I:3000<=A)(r:∀s n,aQ H li s=S (4,n)->n<z p.funcs)(az:szP p<=1000000000):
  ∀(al:Nat)(l:List Ex),bc l<=al->al<=1000000000->∀(B:Nat)(a b:Bool)(g:Nat->Nat)(ob:Obs),u<B->A<B->(∀i,B<=i->ob i=N)->GT p i H li g0 u A x3 x5 g ob->ob 5=S [.d (.bool a)]->ob 6=S [.d (.bool b)]->
   cM Tryz.prog 165 [eb l,.one (.ptr u x3 0),.one (.ptr A x5 0)] g ob (λ_ g' Y=>GR (a&&df (nU p i H li) l) (b&&df (mU p i H li) l) g ob g' Y) (λ_ _ _=>False):=by
 intro al
 induction al using Nat.strongRecOn with
 |ind al ih=>
 intro l b3 hN B a b g ob c t hB E hn L;refine hdM B [5,6] Tryz.func165 rfl [] VC hB λO bn s0 w0=>?_;have n1:∀k,(5=B+k)=False:=λk=>by simp;omega
 have n2:∀k,(6=B+k)=False:=λk=>by simp;omega
 have n3:∀k,(u=B+k)=False:=λk=>by simp;omega
 have n4:∀k,(A=B+k)=False:=λk=>by simp;omega
 have Z:∀k,(B+k=5)=False:=λk=>by simp;omega
 have V:∀k,(B+k=6)=False:=λk=>by simp;omega
 have z0:(B=0)=False:=by simp;omega
 have z1:(B=1)=False:=by simp;omega
 have m1:(A=5)=False:=by simp;omega
 have m2:(A=6)=False:=by simp;omega
 have m3:(u=5)=False:=by simp;omega
 have m4:(u=6)=False:=by simp;omega
 obtain⟨x,bk⟩:∃x,(a&&df (nU p i H li) l)=x:=⟨_,rfl⟩
 obtain⟨y,ad⟩:∃y,(b&&df (mU p i H li) l)=y:=⟨_,rfl⟩
 rw[bk,ad];have bl:=Src.IF l;unfold eb;simp only[go_sem,j6]
 refine aw (λm K=>∃(k:Nat)(a' X:Bool),m+k=z l/\(a'&&df (nU p i H li) (l.drop k))=x/\(X&&df (mU p i H li) (l.drop k))=y/\K.f 1=.one (.ptr u x3 0)/\K.f 2=.one (.ptr A x5 0)/\K.f 6=.one (.d (.sl (l.map exD)))/\K.f 7=iv .i64 (z l)/\K.f 8=iv .i64 k/\
   K.obj 5=S [.d (.bool a')]/\K.obj 6=S [.d (.bool X)]/\(∀j,j<B->K.gen j=g j/\(j≠5->j≠6->K.obj j=ob j))/\(∀j,B+43<=j->K.obj j=N)) (z l) ?_ ?_
 .exact Uu
 rintro m f g1 av ⟨k,a',X,hk,w,G,q1,q2,q6,q7,q8,o5,o6,fr,ar⟩;simp only at q1 q2 q6 q7 q8 o5 o6 fr ar;have E1:=E.mono hd I c t fr;obtain⟨e1,od,ox,gd,gx⟩:=E1;have hw:=ac (k:=k) a7;by_cases af:k<z l
 case neg=>
  have Q:¬(k:Int)<(z l:Int):=a7;obtain rfl:k=z l:=a7;rw[F9,df,K7]at w G;subst w G;simp only[go_sem,q7,q8,Q];exact SB
 have Q:(k:Int)<(z l:Int):=a7;have bf:(0:Int)<=(k:Int):=a7;obtain⟨e,he⟩:=getq af;have an:=Src.LU (l6 he);have bd:l.drop k=e::l.drop (k+1):=by rw[C1 af,(l5.1 he).2]
 rw[bd,df]at w G;obtain⟨kind,op,num,name,J⟩:=e;rw[okE]at w G;rw[szE]at an;simp only[go_sem,n1,n2,n3,n4,q1,q2,q6,q7,q8,Q,bf,he,exD,aK];by_cases k2:kind=2
 .rw[l8 k2]at w G
  simp only[go_sem,n1,n2,n3,n4,Z,V,q1,q2,od,gd,w8 k2];refine aN (f:=106) (q:=vw g0) aa rfl Vy (by simp only[go_sem];exact wh (B:=B+43) (kind:=2) (args:=0) (a:=a') (b:=X) a7 (λj hj=>nt (ar j hj)) (e1.mono λj hj=>⟨nu,λh5 h6=>nu⟩) (nt (o5)) (nt (o6)) name a8 r az) ?_ ?_
  .exact kb
  rintro _ g' Y ⟨rfl,rfl⟩;simp only[go_sem,n1,n2,n3,n4,Z,V,z0,z1,m1,m2,m3,m4,q1,q2,gd,gx,od,ox];refine aN (f:=165) (q:=[.ptr u x3 0,.ptr A x5 0]) aa rfl Vy (by simp only[go_sem];refine ih (bc J) a7 J (l7 _) a7 (B+43) (a'&&bj (aQ H li) i 2 name) (X&&eP (aQ H li) p.funcs i 2 name 0) _ _ a7 a7 ?_ ?_ ?_ ?_;exact(λj hj=>nt (ar j hj));exact(((E.mono hd I c t fr).mono hd I c t (λj hj=>⟨nu,λh5 h6=>nu⟩)));exact(VF);exact(VF)) ?_ ?_
  .exact kb
  rintro _ g' Y ⟨rfl,rfl⟩;simp only[go_sem,q8,hw];refine ah (m-1) a7 ⟨k+1,(a'&&bj (aQ H li) i 2 name)&&df (nU p i H li) J,(X&&eP (aQ H li) p.funcs i 2 name 0)&&df (mU p i H li) J,a7,by rw[<-w];simp only[nU,F3],by rw[<-G];simp only[mU,F3],?_⟩;exact Uw
 by_cases k3:kind=3
 .rw[j8 k2,l8 k3]at w G
  simp only[go_sem,n1,n2,n3,n4,Z,V,q1,q2,od,gd,w8 k3,k2];refine aN (f:=106) (q:=vw g0) aa rfl Vy (by simp only[go_sem];exact wh (B:=B+43) (kind:=3) (args:=0) (a:=a') (b:=X) a7 (λj hj=>nt (ar j hj)) (e1.mono λj hj=>⟨nu,λh5 h6=>nu⟩) (nt (o5)) (nt (o6)) name a8 r az) ?_ ?_
  .exact kb
  rintro _ g' Y ⟨rfl,rfl⟩;simp only[go_sem,n1,n2,n3,n4,Z,V,z0,z1,m1,m2,m3,m4,q1,q2,gd,gx,od,ox];refine aN (f:=165) (q:=[.ptr u x3 0,.ptr A x5 0]) aa rfl Vy (by simp only[go_sem];refine ih (bc J) a7 J (l7 _) a7 (B+43) (a'&&bj (aQ H li) i 3 name) (X&&eP (aQ H li) p.funcs i 3 name 0) _ _ a7 a7 ?_ ?_ ?_ ?_;exact(λj hj=>nt (ar j hj));exact(((E.mono hd I c t fr).mono hd I c t (λj hj=>⟨nu,λh5 h6=>nu⟩)));exact(VF);exact(VF)) ?_ ?_
  .exact kb
  rintro _ g' Y ⟨rfl,rfl⟩;simp only[go_sem,q8,hw];refine ah (m-1) a7 ⟨k+1,(a'&&bj (aQ H li) i 3 name)&&df (nU p i H li) J,(X&&eP (aQ H li) p.funcs i 3 name 0)&&df (mU p i H li) J,a7,by rw[<-w];simp only[nU,F3],by rw[<-G];simp only[mU,F3],?_⟩;exact Uw
 by_cases k4:kind=4
 .rw[j8 k2,j8 k3,l8 k4]at w G
  simp only[go_sem,n1,n2,n3,n4,Z,V,q1,q2,od,gd,w8 k4,k2,k3,j6];refine aN (f:=106) (q:=vw g0) aa rfl Vy (by simp only[go_sem];exact wh (B:=B+43) (kind:=4) (args:=z J) (a:=a') (b:=X) a7 (λj hj=>nt (ar j hj)) (e1.mono λj hj=>⟨nu,λh5 h6=>nu⟩) (nt (o5)) (nt (o6)) name a8 r az) ?_ ?_
  .exact kb
  rintro _ g' Y ⟨rfl,rfl⟩;simp only[go_sem,n1,n2,n3,n4,Z,V,z0,z1,m1,m2,m3,m4,q1,q2,gd,gx,od,ox];refine aN (f:=165) (q:=[.ptr u x3 0,.ptr A x5 0]) aa rfl Vy (by simp only[go_sem];refine ih (bc J) a7 J (l7 _) a7 (B+43) (a'&&bj (aQ H li) i 4 name) (X&&eP (aQ H li) p.funcs i 4 name (z J)) _ _ a7 a7 ?_ ?_ ?_ ?_;exact(λj hj=>nt (ar j hj));exact(((E.mono hd I c t fr).mono hd I c t (λj hj=>⟨nu,λh5 h6=>nu⟩)));exact(VF);exact(VF)) ?_ ?_
  .exact kb
  rintro _ g' Y ⟨rfl,rfl⟩;simp only[go_sem,q8,hw];refine ah (m-1) a7 ⟨k+1,(a'&&bj (aQ H li) i 4 name)&&df (nU p i H li) J,(X&&eP (aQ H li) p.funcs i 4 name (z J))&&df (mU p i H li) J,a7,by rw[<-w];simp only[nU,F3],by rw[<-G];simp only[mU,F3],?_⟩;exact Uw
 .rw[j8 k2,j8 k3,j8 k4]at w G
  simp only[go_sem,k2,k3,k4];simp only[go_sem,n1,n2,n3,n4,Z,V,z0,z1,m1,m2,m3,m4,q1,q2,gd,gx,od,ox];refine aN (f:=165) (q:=[.ptr u x3 0,.ptr A x5 0]) aa rfl Vy (by simp only[go_sem];refine ih (bc J) a7 J (l7 _) a7 (B+43) a' X _ _ a7 a7 ?_ ?_ ?_ ?_;exact(λj hj=>nt (ar j hj));exact(((E.mono hd I c t fr).mono hd I c t (λj hj=>⟨nu,λh5 h6=>nu⟩)));exact(nt (o5));exact(nt (o6))) ?_ ?_
  .exact kb
  rintro _ g' Y ⟨rfl,rfl⟩;simp only[go_sem,q8,hw];refine ah (m-1) a7 ⟨k+1,a'&&df (nU p i H li) J,X&&df (mU p i H li) J,a7,by rw[<-w];simp only[x6,F3],by rw[<-G];simp only[x6,F3],?_⟩;exact Uw
end
structure Kh (p:Src.Prog) (i:Nat) (H li:List Th) (g0:Nat->Nat) (u A U x3 x5 x4:Nat) (g:Nat->Nat) (ob:Obs):Prop where
 v:GT p i H li g0 u A x3 x5 g ob
 os:ob U=some [.clo 166 [.ptr u x3 0,.ptr A x5 0,.ptr U x4 0]]
 gs:g U=x4
def Kh.mono{p:Src.Prog}{i u A U a b d B:Nat}{H li:List Th}{g0 g g':Nat->Nat}{ob Y:Obs}(h:Kh p i H li g0 u A U a b d g ob)(hd:3000<=u)(I:3000<=A)(e:3000<=U)(c:u<B)(t:A<B)(J:U<B)(hf:∀j,j<B->g' j=g j/\(j≠5->j≠6->Y j=ob j)):Kh p i H li g0 u A U a b d g' Y where
 v:=h.v.mono hd I c t hf
 os:=by rw[(hf U a7).2 a7 a7];exact h.os
 gs:=by rw[(hf U a7).1];exact h.gs
def Ki{p:Src.Prog}{i u A U x3 x5 x4:Nat}{H li:List Th}{g0:Nat->Nat}(hd:3000<=u)(I:3000<=A)(hs:3000<=U)(r:∀s n,aQ H li s=S (4,n)->n<z p.funcs)(az:szP p<=1000000000):
  ∀(al:Nat)(l:List Stm),aD l<=al->al<=1000000000->∀(B:Nat)(a b:Bool)(g:Nat->Nat)(ob:Obs),u<B->A<B->U<B->(∀i,B<=i->ob i=N)->Kh p i H li g0 u A U x3 x5 x4 g ob->ob 5=S [.d (.bool a)]->ob 6=S [.d (.bool b)]->
   cM Tryz.prog 166 [eS l,.one (.ptr u x3 0),.one (.ptr A x5 0),.one (.ptr U x4 0)] g ob (λ_ g' Y=>GR (a&&dy (nU p i H li) l) (b&&dy (mU p i H li) l) g ob g' Y) (λ_ _ _=>False):=by
 intro al
 induction al using Nat.strongRecOn with
 |ind al ih=>
 intro l b3 hN B a b g ob c t J hB E hn L;refine hdM B [5,6] Tryz.func166 rfl [] VC hB λO bn s0 w0=>?_;have n1:∀k,(5=B+k)=False:=λk=>by simp;omega
 have n2:∀k,(6=B+k)=False:=λk=>by simp;omega
 have n3:∀k,(u=B+k)=False:=λk=>by simp;omega
 have n4:∀k,(A=B+k)=False:=λk=>by simp;omega
 have n5:∀k,(U=B+k)=False:=λk=>by simp;omega
 have Z:∀k,(B+k=5)=False:=λk=>by simp;omega
 have V:∀k,(B+k=6)=False:=λk=>by simp;omega
 have z0:(B=0)=False:=by simp;omega
 have z1:(B=1)=False:=by simp;omega
 have m1:(A=5)=False:=by simp;omega
 have m2:(A=6)=False:=by simp;omega
 have m3:(u=5)=False:=by simp;omega
 have m4:(u=6)=False:=by simp;omega
 have m5:(U=5)=False:=by simp;omega
 have m6:(U=6)=False:=by simp;omega
 obtain⟨x,bk⟩:∃x,(a&&dy (nU p i H li) l)=x:=⟨_,rfl⟩
 obtain⟨y,ad⟩:∃y,(b&&dy (mU p i H li) l)=y:=⟨_,rfl⟩
 rw[bk,ad];have bl:=Src.IG l;unfold eS;simp only[go_sem,j6]
 refine aw (λm K=>∃(k:Nat)(a' X:Bool),m+k=z l/\(a'&&dy (nU p i H li) (l.drop k))=x/\(X&&dy (mU p i H li) (l.drop k))=y/\K.f 1=.one (.ptr u x3 0)/\K.f 2=.one (.ptr A x5 0)/\K.f 3=.one (.ptr U x4 0)/\K.f 7=.one (.d (.sl (l.map smD)))/\K.f 8=iv .i64 (z l)/\K.f 9=iv .i64 k/\
   K.obj 5=S [.d (.bool a')]/\K.obj 6=S [.d (.bool X)]/\(∀j,j<B->K.gen j=g j/\(j≠5->j≠6->K.obj j=ob j))/\(∀j,B+52<=j->K.obj j=N)) (z l) ?_ ?_
 .exact Uu
 rintro m f g1 av ⟨k,a',X,hk,w,G,q1,q2,q3,q7,q8,W,o5,o6,fr,ar⟩;simp only at q1 q2 q3 q7 q8 W o5 o6 fr ar;have E1:=E.mono hd I hs c t J fr;have E2:=E1;obtain⟨⟨e1,od,ox,gd,gx⟩,os,gs⟩:=E2;have hw:=ac (k:=k) a7;by_cases af:k<z l
 case neg=>
  have Q:¬(k:Int)<(z l:Int):=a7;obtain rfl:k=z l:=a7;rw[F9,dy,K7]at w G;subst w G;simp only[go_sem,q8,W,Q];exact SB
 have Q:(k:Int)<(z l:Int):=a7;have bf:(0:Int)<=(k:Int):=a7;obtain⟨e,he⟩:=getq af;have an:=Src.LV (l6 he);have bd:l.drop k=e::l.drop (k+1):=by rw[C1 af,(l5.1 he).2]
 rw[bd,dy]at w G;obtain⟨kind,name,es,th,el⟩:=e;rw[okS]at w G;rw[szS]at an;have hE:smD (.mk kind name es th el)=[.int .i64 kind,.str name,.sl (es.map exD),.sl (th.map smD),.sl (el.map smD)]:=by simp only[smD,aK,dQ]
 simp only[go_sem,n1,n2,n3,n4,n5,q1,q2,q3,q7,q8,W,Q,bf,he,hE];by_cases k1:kind=1
 .rw[l8 k1]at w G
  simp only[go_sem,n1,n2,n3,n4,n5,Z,V,z0,z1,m1,m2,m3,m4,m5,m6,q1,q2,q3,od,ox,os,gd,gx,gs,w8 k1];refine aN (f:=106) (q:=vw g0) aa rfl Vy (by simp only[go_sem];exact wh (B:=B+52) (kind:=2) (args:=0) (a:=a') (b:=X) a7 (λj hj=>nt (ar j hj)) (e1.mono λj hj=>⟨nu,λh5 h6=>nu⟩) (nt (o5)) (nt (o6)) name a8 r az) ?_ ?_
  .exact kb
  rintro _ g' Y ⟨rfl,rfl⟩;simp only[go_sem,n1,n2,n3,n4,n5,Z,V,z0,z1,m1,m2,m3,m4,m5,m6,q1,q2,q3,od,ox,os,gd,gx,gs,k1];refine aN (f:=165) (q:=[.ptr u x3 0,.ptr A x5 0]) aa rfl Vy (by simp only[go_sem];refine sY (i:=i) (g0:=g0) hd I r az (bc es) es (l7 _) a7 (B+52) (a'&&bj (aQ H li) i 2 name) (X&&eP (aQ H li) p.funcs i 2 name 0) _ _ a7 a7 ?_ ?_ ?_ ?_;exact(λj hj=>nt (ar j hj));exact(E1.mono hd I hs c t J (λj hj=>⟨nu,λh5 h6=>nu⟩)).v;exact VF;exact VF) ?_ ?_
  .exact kb
  rintro _ g' Y ⟨rfl,rfl⟩;simp only[go_sem,n1,n2,n3,n4,n5,Z,V,z0,z1,m1,m2,m3,m4,m5,m6,q1,q2,q3,od,ox,os,gd,gx,gs];refine aN (f:=166) (q:=[.ptr u x3 0,.ptr A x5 0,.ptr U x4 0]) aa rfl Vy (by simp only[go_sem];refine ih (aD th) a7 th (l7 _) a7 (B+52) ((a'&&bj (aQ H li) i 2 name)&&df (nU p i H li) es) ((X&&eP (aQ H li) p.funcs i 2 name 0)&&df (mU p i H li) es) _ _ a7 a7 a7 ?_ ?_ ?_ ?_;exact(λj hj=>nt (ar j hj));exact(E1.mono hd I hs c t J (λj hj=>⟨nu,λh5 h6=>nu⟩));exact VF;exact VF) ?_ ?_
  .exact kb
  rintro _ g' Y ⟨rfl,rfl⟩;simp only[go_sem,n1,n2,n3,n4,n5,Z,V,z0,z1,m1,m2,m3,m4,m5,m6,q1,q2,q3,od,ox,os,gd,gx,gs];refine aN (f:=166) (q:=[.ptr u x3 0,.ptr A x5 0,.ptr U x4 0]) aa rfl Vy (by simp only[go_sem];refine ih (aD el) a7 el (l7 _) a7 (B+52) (((a'&&bj (aQ H li) i 2 name)&&df (nU p i H li) es)&&dy (nU p i H li) th) (((X&&eP (aQ H li) p.funcs i 2 name 0)&&df (mU p i H li) es)&&dy (mU p i H li) th) _ _ a7 a7 a7 ?_ ?_ ?_ ?_;exact(λj hj=>nt (ar j hj));exact(E1.mono hd I hs c t J (λj hj=>⟨nu,λh5 h6=>nu⟩));exact VF;exact VF) ?_ ?_
  .exact kb
  rintro _ g' Y ⟨rfl,rfl⟩;simp only[go_sem,W,hw];refine ah (m-1) a7 ⟨k+1,(((a'&&bj (aQ H li) i 2 name)&&df (nU p i H li) es)&&dy (nU p i H li) th)&&dy (nU p i H li) el,(((X&&eP (aQ H li) p.funcs i 2 name 0)&&df (mU p i H li) es)&&dy (mU p i H li) th)&&dy (mU p i H li) el,a7,by rw[<-w];simp only[nU,F3],by rw[<-G];simp only[mU,F3],?_⟩;exact T7
 by_cases k2:kind=2
 .rw[j8 k1,l8 k2]at w G
  simp only[go_sem,n1,n2,n3,n4,n5,Z,V,z0,z1,m1,m2,m3,m4,m5,m6,q1,q2,q3,od,ox,os,gd,gx,gs,w8 k2,k1];refine aN (f:=106) (q:=vw g0) aa rfl Vy (by simp only[go_sem];exact wh (B:=B+52) (kind:=3) (args:=0) (a:=a') (b:=X) a7 (λj hj=>nt (ar j hj)) (e1.mono λj hj=>⟨nu,λh5 h6=>nu⟩) (nt (o5)) (nt (o6)) name a8 r az) ?_ ?_
  .exact kb
  rintro _ g' Y ⟨rfl,rfl⟩;simp only[go_sem,n1,n2,n3,n4,n5,Z,V,z0,z1,m1,m2,m3,m4,m5,m6,q1,q2,q3,od,ox,os,gd,gx,gs,k1];refine aN (f:=165) (q:=[.ptr u x3 0,.ptr A x5 0]) aa rfl Vy (by simp only[go_sem];refine sY (i:=i) (g0:=g0) hd I r az (bc es) es (l7 _) a7 (B+52) (a'&&bj (aQ H li) i 3 name) (X&&eP (aQ H li) p.funcs i 3 name 0) _ _ a7 a7 ?_ ?_ ?_ ?_;exact(λj hj=>nt (ar j hj));exact(E1.mono hd I hs c t J (λj hj=>⟨nu,λh5 h6=>nu⟩)).v;exact VF;exact VF) ?_ ?_
  .exact kb
  rintro _ g' Y ⟨rfl,rfl⟩;simp only[go_sem,n1,n2,n3,n4,n5,Z,V,z0,z1,m1,m2,m3,m4,m5,m6,q1,q2,q3,od,ox,os,gd,gx,gs];refine aN (f:=166) (q:=[.ptr u x3 0,.ptr A x5 0,.ptr U x4 0]) aa rfl Vy (by simp only[go_sem];refine ih (aD th) a7 th (l7 _) a7 (B+52) ((a'&&bj (aQ H li) i 3 name)&&df (nU p i H li) es) ((X&&eP (aQ H li) p.funcs i 3 name 0)&&df (mU p i H li) es) _ _ a7 a7 a7 ?_ ?_ ?_ ?_;exact(λj hj=>nt (ar j hj));exact(E1.mono hd I hs c t J (λj hj=>⟨nu,λh5 h6=>nu⟩));exact VF;exact VF) ?_ ?_
  .exact kb
  rintro _ g' Y ⟨rfl,rfl⟩;simp only[go_sem,n1,n2,n3,n4,n5,Z,V,z0,z1,m1,m2,m3,m4,m5,m6,q1,q2,q3,od,ox,os,gd,gx,gs];refine aN (f:=166) (q:=[.ptr u x3 0,.ptr A x5 0,.ptr U x4 0]) aa rfl Vy (by simp only[go_sem];refine ih (aD el) a7 el (l7 _) a7 (B+52) (((a'&&bj (aQ H li) i 3 name)&&df (nU p i H li) es)&&dy (nU p i H li) th) (((X&&eP (aQ H li) p.funcs i 3 name 0)&&df (mU p i H li) es)&&dy (mU p i H li) th) _ _ a7 a7 a7 ?_ ?_ ?_ ?_;exact(λj hj=>nt (ar j hj));exact(E1.mono hd I hs c t J (λj hj=>⟨nu,λh5 h6=>nu⟩));exact VF;exact VF) ?_ ?_
  .exact kb
  rintro _ g' Y ⟨rfl,rfl⟩;simp only[go_sem,W,hw];refine ah (m-1) a7 ⟨k+1,(((a'&&bj (aQ H li) i 3 name)&&df (nU p i H li) es)&&dy (nU p i H li) th)&&dy (nU p i H li) el,(((X&&eP (aQ H li) p.funcs i 3 name 0)&&df (mU p i H li) es)&&dy (mU p i H li) th)&&dy (mU p i H li) el,a7,by rw[<-w];simp only[nU,F3],by rw[<-G];simp only[mU,F3],?_⟩;exact T7
 by_cases P:kind=6
 .rw[j8 k1,j8 k2,l8 P]at w G
  simp only[go_sem,n1,n2,n3,n4,n5,Z,V,z0,z1,m1,m2,m3,m4,m5,m6,q1,q2,q3,od,ox,os,gd,gx,gs,w8 P,k1,k2,j6];refine aN (f:=106) (q:=vw g0) aa rfl Vy (by simp only[go_sem];exact wh (B:=B+52) (kind:=4) (args:=z es) (a:=a') (b:=X) a7 (λj hj=>nt (ar j hj)) (e1.mono λj hj=>⟨nu,λh5 h6=>nu⟩) (nt (o5)) (nt (o6)) name a8 r az) ?_ ?_
  .exact kb
  rintro _ g' Y ⟨rfl,rfl⟩;simp only[go_sem,n1,n2,n3,n4,n5,Z,V,z0,z1,m1,m2,m3,m4,m5,m6,q1,q2,q3,od,ox,os,gd,gx,gs,k1];refine aN (f:=165) (q:=[.ptr u x3 0,.ptr A x5 0]) aa rfl Vy (by simp only[go_sem];refine sY (i:=i) (g0:=g0) hd I r az (bc es) es (l7 _) a7 (B+52) (a'&&bj (aQ H li) i 4 name) (X&&eP (aQ H li) p.funcs i 4 name (z es)) _ _ a7 a7 ?_ ?_ ?_ ?_;exact(λj hj=>nt (ar j hj));exact(E1.mono hd I hs c t J (λj hj=>⟨nu,λh5 h6=>nu⟩)).v;exact VF;exact VF) ?_ ?_
  .exact kb
  rintro _ g' Y ⟨rfl,rfl⟩;simp only[go_sem,n1,n2,n3,n4,n5,Z,V,z0,z1,m1,m2,m3,m4,m5,m6,q1,q2,q3,od,ox,os,gd,gx,gs];refine aN (f:=166) (q:=[.ptr u x3 0,.ptr A x5 0,.ptr U x4 0]) aa rfl Vy (by simp only[go_sem];refine ih (aD th) a7 th (l7 _) a7 (B+52) ((a'&&bj (aQ H li) i 4 name)&&df (nU p i H li) es) ((X&&eP (aQ H li) p.funcs i 4 name (z es))&&df (mU p i H li) es) _ _ a7 a7 a7 ?_ ?_ ?_ ?_;exact(λj hj=>nt (ar j hj));exact(E1.mono hd I hs c t J (λj hj=>⟨nu,λh5 h6=>nu⟩));exact VF;exact VF) ?_ ?_
  .exact kb
  rintro _ g' Y ⟨rfl,rfl⟩;simp only[go_sem,n1,n2,n3,n4,n5,Z,V,z0,z1,m1,m2,m3,m4,m5,m6,q1,q2,q3,od,ox,os,gd,gx,gs];refine aN (f:=166) (q:=[.ptr u x3 0,.ptr A x5 0,.ptr U x4 0]) aa rfl Vy (by simp only[go_sem];refine ih (aD el) a7 el (l7 _) a7 (B+52) (((a'&&bj (aQ H li) i 4 name)&&df (nU p i H li) es)&&dy (nU p i H li) th) (((X&&eP (aQ H li) p.funcs i 4 name (z es))&&df (mU p i H li) es)&&dy (mU p i H li) th) _ _ a7 a7 a7 ?_ ?_ ?_ ?_;exact(λj hj=>nt (ar j hj));exact(E1.mono hd I hs c t J (λj hj=>⟨nu,λh5 h6=>nu⟩));exact VF;exact VF) ?_ ?_
  .exact kb
  rintro _ g' Y ⟨rfl,rfl⟩;simp only[go_sem,W,hw];refine ah (m-1) a7 ⟨k+1,(((a'&&bj (aQ H li) i 4 name)&&df (nU p i H li) es)&&dy (nU p i H li) th)&&dy (nU p i H li) el,(((X&&eP (aQ H li) p.funcs i 4 name (z es))&&df (mU p i H li) es)&&dy (mU p i H li) th)&&dy (mU p i H li) el,a7,by rw[<-w];simp only[nU,F3],by rw[<-G];simp only[mU,F3],?_⟩;exact T7
 .rw[j8 k1,j8 k2,j8 P]at w G
  simp only[go_sem,n1,n2,n3,n4,n5,Z,V,z0,z1,m1,m2,m3,m4,m5,m6,q1,q2,q3,od,ox,os,gd,gx,gs,k1,k2,P];refine aN (f:=165) (q:=[.ptr u x3 0,.ptr A x5 0]) aa rfl Vy (by simp only[go_sem];refine sY (i:=i) (g0:=g0) hd I r az (bc es) es (l7 _) a7 (B+52) a' X _ _ a7 a7 ?_ ?_ ?_ ?_;exact(λj hj=>nt (ar j hj));exact(E1.mono hd I hs c t J (λj hj=>⟨nu,λh5 h6=>nu⟩)).v;exact(nt (o5));exact(nt (o6))) ?_ ?_
  .exact kb
  rintro _ g' Y ⟨rfl,rfl⟩;simp only[go_sem,n1,n2,n3,n4,n5,Z,V,z0,z1,m1,m2,m3,m4,m5,m6,q1,q2,q3,od,ox,os,gd,gx,gs];refine aN (f:=166) (q:=[.ptr u x3 0,.ptr A x5 0,.ptr U x4 0]) aa rfl Vy (by simp only[go_sem];refine ih (aD th) a7 th (l7 _) a7 (B+52) (a'&&df (nU p i H li) es) (X&&df (mU p i H li) es) _ _ a7 a7 a7 ?_ ?_ ?_ ?_;exact(λj hj=>nt (ar j hj));exact(E1.mono hd I hs c t J (λj hj=>⟨nu,λh5 h6=>nu⟩));exact VF;exact VF) ?_ ?_
  .exact kb
  rintro _ g' Y ⟨rfl,rfl⟩;simp only[go_sem,n1,n2,n3,n4,n5,Z,V,z0,z1,m1,m2,m3,m4,m5,m6,q1,q2,q3,od,ox,os,gd,gx,gs];refine aN (f:=166) (q:=[.ptr u x3 0,.ptr A x5 0,.ptr U x4 0]) aa rfl Vy (by simp only[go_sem];refine ih (aD el) a7 el (l7 _) a7 (B+52) ((a'&&df (nU p i H li) es)&&dy (nU p i H li) th) ((X&&df (mU p i H li) es)&&dy (mU p i H li) th) _ _ a7 a7 a7 ?_ ?_ ?_ ?_;exact(λj hj=>nt (ar j hj));exact(E1.mono hd I hs c t J (λj hj=>⟨nu,λh5 h6=>nu⟩));exact VF;exact VF) ?_ ?_
  .exact kb
  rintro _ g' Y ⟨rfl,rfl⟩;simp only[go_sem,W,hw];refine ah (m-1) a7 ⟨k+1,((a'&&df (nU p i H li) es)&&dy (nU p i H li) th)&&dy (nU p i H li) el,((X&&df (mU p i H li) es)&&dy (mU p i H li) th)&&dy (mU p i H li) el,a7,by rw[<-w];simp only[x6,F3],by rw[<-G];simp only[x6,F3],?_⟩;exact T7
end
section
open Go Go.Am Go.Asm
open Go.Src (Th aG bR aO aV aQ bj eP okE df okS dy Ex Stm szE bc szS aD jw xN bp iZ)
attribute[local congr]ite_cc
def CE{p:Src.Prog}{i:Nat}{H li:List Th}{g0:Nat->Nat}(r:∀s n,aQ H li s=S (4,n)->n<z p.funcs)(az:szP p<=1000000000){f:Src.Fn}(B:aD f.body<=1000000000){a b:Bool}{g:Nat->Nat}{ob:Obs}(hB:∀i,3000<=i->ob i=N)(E:ScE p i H li g0 g ob)
 (hn:ob 5=S [.d (.bool a)])(L:ob 6=S [.d (.bool b)]):
  cM Tryz.prog 105 [fnV f,.one (.clo 106 (vw g0))] g ob (λ_ g' Y=>GR (a&&dy (nU p i H li) f.body) (b&&dy (mU p i H li) f.body) g ob g' Y) (λ_ _ _=>False):=by
 refine hdM 3000 [5,6] Tryz.func105 rfl [] a8 hB λO bn s0 w0=>?_;unfold fnV fnD;simp only[go_sem];refine aN (f:=166) (q:=[.ptr 3003 (nxC 207 (g 3003)) 0,.ptr 3005 (nxC 261 (g 3005)) 0,.ptr 3004 (nxC 260 (g 3004)) 0]) aa rfl Vy (by simp only[go_sem];refine Ki (i:=i) (g0:=g0) (H:=H) (li:=li) b9 b9 b9 r az (aD f.body) f.body (l7 _) B 3012 a b _ _ b9 b9 b9 ?_ ?_ ?_ ?_;exact(λj l=>nt (hB j a7));exact⟨⟨E.mono λj l=>⟨nu,λx y=>nu⟩,by simp[upd],by simp[upd],by simp[upd],by simp[upd]⟩,by simp[upd],by simp[upd]⟩;exact(by simp[upd];exact hn);exact(by simp[upd];exact L)) ?_ ?_
 .exact kb
 rintro _ g' Y ⟨rfl,rfl⟩;simp only[go_sem];refine⟨_,ae.refl _,?_⟩;simp only[go_sem];exact bi.use (λi hi x y=>⟨nu,nu⟩) (nu) (nu) VF VF (o:=[]) rfl
def kW{A:Type}(c:Nat->A->Bool){l:List A}{k:Nat}{x:A}(h:l[k]?=S x):bp c 0 (l.take (k+1))=(bp c 0 (l.take k)&&c k x):=by
 have a:=(l5.1 h).1;rw[D0,h,J3,Src.Aa,D1,Sl a7,C7]
def Kj{o:cF}(p:Src.Prog)(bd:1<=z p.funcs)(az:szP p<=1000000000):bP Tryz.prog 1 o 68 [bS p] (·=iv .i64 (iZ p:Nat)):=by
 refine hdG Tryz.func68 rfl [.tmp 2] λO bn s0 w0 g=>?_;obtain⟨X,hz⟩:∃X,iZ p=X:=⟨_,rfl⟩
 rw[hz];have u:=az;unfold szP at az;have G:bS p=.agg [.d (.sl (p.vars.map λs=>[.str s])),.d (.sl (p.arrays.map arD)),.d (.sl (p.funcs.map fnD))]:=rfl;rw[G];simp only[go_sem];refine cj aE rfl (by simp only[go_sem];rw[<-G];exact Ee (λi hi=>nu) u) ?_ ?_
 .exact kb
 rintro r g1 av ⟨rfl,⟨M,oM,I,l⟩,fr⟩;have e1:=fr 1 (.inl b9);simp[upd]at e1;have ar:∀j,1100<=j->av j=N:=λj hj=>by rw[(fr j (.inr a7)).2];simp only[upd];rw[j8 a7]
 clear fr;simp only[go_sem,e1.1,e1.2,j6]
 refine aw (λm K=>∃k:Nat,m+k=z p.funcs/\K.f 1=.one (.ptr 1 (K.gen 1) 0)/\K.f 3=.one (.mp 1013 (K.gen 1013) 208)/\K.f 5=.one (.ptr 5 (K.gen 5) 0)/\K.f 6=.one (.ptr 6 (K.gen 6) 0)/\K.f 20=.one (.d (.sl (p.funcs.map fnD)))/\K.f 21=iv .i64 (z p.funcs)/\K.f 22=iv .i64 k/\
   K.obj 1=S (iW p)/\K.obj 5=S [.d (.bool (bR [] (aO p)&&bp (jw p) 0 (p.funcs.take k)))]/\K.obj 6=S [.d (.bool (bp (xN p) 0 (p.funcs.take k)))]/\(∃M,K.obj 1013=S M/\iI M (aO p))/\∀j,2100<=j->K.obj j=N) (z p.funcs) ?_ ?_
 .refine⟨0,rfl,?_⟩
  simp only[go_sem,e1.1,e1.2,oM];refine⟨rfl,by simp[bp],by simp[bp],⟨M,rfl,I⟩,λj hj=>nt (ar j a7)⟩
 clear e1 ar oM I l M;rintro m f g1 av ⟨k,hk,q1,q3,q5,q6,P,y,A,o1,o5,o6,⟨M,oM,I⟩,ar⟩;simp only at q1 q3 q5 q6 P y A o1 o5 o6 oM ar;have hw:=ac (k:=k) a7;by_cases af:k<z p.funcs
 .have Q:(k:Int)<(z p.funcs:Int):=a7
  have bf:(0:Int)<=(k:Int):=a7;obtain⟨x,he⟩:=getq af;have B:=kf (p:=p) (l6 he);unfold szP at B;have J:fnV x=.agg [.d (.str x.name),.d (.sl (x.params.map λs=>[.str s])),.d (.sl (x.locals.map λs=>[.str s])),.d (.bool x.word),.d (.sl (x.body.map smD))]:=rfl;have bk:fnD x=[.str x.name,.sl (x.params.map λs=>[.str s]),.sl (x.locals.map λs=>[.str s]),.bool x.word,.sl (x.body.map smD)]:=rfl;simp only[go_sem,P,y,A,Q,bf,he,bk];refine cj aE rfl (by simp only[go_sem];rw[<-J];exact GP (λi hi=>nt (ar i hi)) a7) ?_ ?_
  .exact kb
  rintro r g2 bo ⟨rfl,⟨M2,Z,ad,al⟩,fr⟩;have e5:=fr 5 (.inl b9);have q:=fr 6 (.inl b9);have w:=fr 7 (.inl b9);have e8:=fr 8 (.inl b9);have e1:=fr 1 (.inl b9);have e:=fr 1013 (.inl b9);simp[upd]at e5 q w e8 e1 e;rw[o5]at e5;rw[o6]at q;rw[o1]at e1;rw[oM]at e;obtain⟨u5,h5⟩:∃v,(bR [] (aO p)&&bp (jw p) 0 (List.take k p.funcs))=v:=⟨_,rfl⟩
  obtain⟨W,h6⟩:∃v,bp (xN p) 0 (List.take k p.funcs)=v:=⟨_,rfl⟩
  obtain⟨uf,L⟩:∃v,bR [] (aV x)=v:=⟨_,rfl⟩
  rw[h5]at e5;rw[h6]at q;rw[L];simp only[go_sem,e5.1,e5.2,q5];cases u5
  .simp only[go_sem,e5.2,e5.1,q.1,w.1,e8.1,e8.2,w.2,e1.1,e.1,q1,q3,q5,q6]
   rw[<-J];refine cj aE rfl (by simp only[go_sem];rw[<-e5.1,<-q.1,<-e1.1,<-w.1];refine CE (p:=p) (i:=k) (H:=aO p) (li:=aV x) (g0:=upd g2 11 (nxC 200 (g2 11))) (a:=F) (b:=W) (λs n h=>Src.QF h) az a7 ?_ ?_ ?_ ?_;exact(λj hj=>by (try simp only[upd]);(repeat rw[j8 (by omega)]);rw[(fr j (.inr (by omega))).2];exact nt (ar j (by omega)));exact⟨by simp[upd];exact w.2,by simp[upd];exact e1.2,by simp[upd,e.1],λj hj=>rfl,⟨M,by simp[upd];exact e.2,I⟩,⟨M2,by simp[upd];exact Z,ad⟩⟩;exact(by simp[upd]);exact(by simp[upd];exact q.2)) ?_ ?_
   .exact kb
   exact la
  .simp only[go_sem,e5.2,e5.1,q.1,w.1,e8.1,e8.2,w.2,e1.1,e.1,q1,q3,q5,q6]
   rw[<-J];refine cj aE rfl (by simp only[go_sem];rw[<-e5.1,<-q.1,<-e1.1,<-w.1];refine CE (p:=p) (i:=k) (H:=aO p) (li:=aV x) (g0:=upd g2 11 (nxC 200 (g2 11))) (a:=uf) (b:=W) (λs n h=>Src.QF h) az a7 ?_ ?_ ?_ ?_;exact(λj hj=>by (try simp only[upd]);(repeat rw[j8 (by omega)]);rw[(fr j (.inr (by omega))).2];exact nt (ar j (by omega)));exact⟨by simp[upd];exact w.2,by simp[upd];exact e1.2,by simp[upd,e.1],λj hj=>rfl,⟨M,by simp[upd];exact e.2,I⟩,⟨M2,by simp[upd];exact Z,ad⟩⟩;exact(by simp[upd]);exact(by simp[upd];exact q.2)) ?_ ?_
   .exact kb
   exact la
 have Q:¬(k:Int)<(z p.funcs:Int):=a7;obtain rfl:k=z p.funcs:=a7;rw[s6 (l7 _)]at o5 o6;unfold iZ at hz;unfold iW iH at o1;simp only[l9,w9]at o1;obtain⟨u5,h5⟩:∃v,(bR [] (aO p)&&bp (jw p) 0 p.funcs)=v:=⟨_,rfl⟩
 obtain⟨W,h6⟩:∃v,bp (xN p) 0 p.funcs=v:=⟨_,rfl⟩
 rw[h5]at o5 hz;rw[h6]at o6 hz;simp only[go_sem,y,A,Q,q5,o5];cases u5
 .rw[l8 rfl]at hz
  subst hz;exact hx
 rw[j8 a8]at hz;have t:IntKind.i64.wrap ((z p.funcs:Int)-1)=((z p.funcs-1:Nat):Int):=by rw[wrap_i64]<;>omega
 obtain⟨x,he⟩:=getq (show z p.funcs-1<z p.funcs by omega);have b':p.funcs.getLast?=S x:=by rw[NA,he]
 rw[b']at hz;simp only at hz;have E:(0:Int)<=((z p.funcs-1:Nat):Int):=a7;have e':((z p.funcs-1:Nat):Int)<(z p.funcs:Int):=a7;obtain⟨nm,ps,V,wd,body⟩:=x;simp only at hz;simp only[go_sem,q1,o1,j6,t,E,e',he,fnD,q6,o6];cases W
 .rw[j8 a8]at hz
  subst hz;exact hx
 by_cases c:nm=[109,97,105,110]
 case neg=>
  rw[j8 (λh=>c h.2.1)]at hz;subst hz;simp only[go_sem,c]
 by_cases bz:0<z ps
 .have U:(0:Int)<(z ps:Int):=a7
  rw[j8 (λh=>by rw[h.2.2.1]at bz;simp at bz)]at hz;subst hz;simp only[go_sem,w8 c,j6,U]
 have U:¬(0:Int)<(z ps:Int):=a7;have dc:ps=[]:=G4.1 a7;cases wd
 .rw[l8 ⟨rfl,c,dc,rfl⟩]at hz
  subst hz;simp only[go_sem,w8 c,j6,U]
 .rw[j8 (λh=>by cases h.2.2.2)]at hz
  subst hz;simp only[go_sem,w8 c,j6,U]
end
end Go.Proofs.YtlacbjnmkhndiaaGreatDoor
namespace Go.Src
section
open Go.Asm (Str)
def cn:List Fn->Str->Option Fn
 |[],_=>N
 |f::l,s=>if f.name=s then S f else cn l s
def PE(l m:List Fn)(s:Str):cn (l++m) s=match cn l s with|some x=>S x|none=>cn m s:=by
 induction l with
 |nil=>rfl
 |cons t l a=>simp only[C3,cn];split<;>simp_all
def fJ(fs:List Fn)(s:Str):Bool:=match cn fs s with|some f=>f.word|none=>F
mutual
def dg(fs:List Fn):Ex->Int
 |.mk kind op _ name kids=>
   if kind<1\/9<kind then 0
   else if kind=1\/kind=2\/kind=5 then 1
   else if kind=3 then(if cA fs 1 kids then 1 else 0)
   else if kind=4 then(if fJ fs name && cA fs 1 kids then 1 else 0)
   else if kind=6 then(if cA fs 1 kids then(if op=14\/op=15 then 2 else 1)else 0)
   else(if cA fs 2 kids then 2 else 0)
def cA(fs:List Fn)(t:Int):List Ex->Bool
 |[]=>T
 |e::l=>decide (dg fs e=t)&&cA fs t l
end
mutual
def fV(fs:List Fn):Ex->Bool
 |.mk kind _ _ name kids=>(if kind=4 then(cn fs name).isSome else T) && cq fs kids
def cq(fs:List Fn):List Ex->Bool
 |[]=>T
 |e::l=>fV fs e&&cq fs l
end
mutual
def lp(fs:List Fn):Stm->Bool
 |.mk kind name e a el=>(if kind=6 then(cn fs name).isSome else T) && cq fs e && (bU fs a && bU fs el)
def bU(fs:List Fn):List Stm->Bool
 |[]=>T
 |s::l=>lp fs s&&bU fs l
end
mutual
def ja(fs:List Fn)(w:Bool):Stm->Bool
 |.mk kind name e a el=>!(kind == 6 && fJ fs name) && !(kind == 7 && decide (0<z e) && !w) && cA fs (if kind=4\/kind=5 then 2 else 1) e && (bh fs w a && bh fs w el)
def bh(fs:List Fn)(w:Bool):List Stm->Bool
 |[]=>T
 |s::l=>ja fs w s&&bh fs w l
end
def qd(p:Prog):Nat:=
 if (p.funcs.all λf=>bU p.funcs f.body)=F then 4
 else if (p.funcs.all λf=>bh p.funcs f.word f.body)=F then 5 else 0
def aX(p:Prog):Nat:=if dX p=F then 7 else if iZ p≠0 then iZ p else qd p
end
end Go.Src
