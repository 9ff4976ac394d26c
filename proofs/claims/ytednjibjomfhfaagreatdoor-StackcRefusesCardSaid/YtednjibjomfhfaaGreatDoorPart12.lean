/- A part of the proof; no conditions. -/
import Derived.Test.YtednjibjomfhfaaGreatDoorPart11
set_option linter.all false
open List renaming length -> z
open Option renaming some -> S, none -> N
open Bool renaming true -> T, false -> F
set_option maxHeartbeats 64000000
set_option maxRecDepth 100000
namespace Go.Proofs.YtednjibjomfhfaaGreatDoor
section
open Go Go.Am Go.Asm
open Go.Src (Th aP bW bA bC bw cl gZ okE ep okS eP Ex Stm)
attribute[local congr]ite_cc
structure ScE (p:Src.Prog) (i:Nat) (lo li:List Th) (g0 g:Nat->Nat) (ob:Obs):Prop where
 oi:ob 7=some [.d (.int .i64 (i:Nat))]
 op:ob 1=some (iu p)
 ot:ob 11=some [.mp 1013 (g0 1013) 208,.mp 2011 (g0 2011) 208]
 gs:∀i,i<3000->g i=g0 i
 mo:∃M,ob 1013=some M/\jf M lo
 mi:∃M,ob 2011=some M/\jf M li
def xg(g0:Nat->Nat):List PC:=[.ptr 11 (g0 11) 0,.ptr 5 (g0 5) 0,.ptr 7 (g0 7) 0,.ptr 1 (g0 1) 0,.ptr 6 (g0 6) 0]
def UR(kind:Nat)(V:Str)(args:Nat):AV:=.agg [.d (.int .i64 (kind:Nat)),.d (.str V),.d (.int .i64 (args:Nat))]
def IJ(a b:Bool)(g:Nat->Nat)(ob:Obs)(g':Nat->Nat)(Z:Obs):Prop:=g'=g/\Z=upd (upd ob 5 (S [.d (.bool a)])) 6 (S [.d (.bool b)])
def bD.use{B:Nat}{a b:Bool}{g:Nat->Nat}{ob:Obs}{s:St}{Q q:List AV}(h:∀i,i<B->i≠5->i≠6->s.gen i=g i/\s.obj i=ob i)(c:s.gen 5=g 5)(X:s.gen 6=g 6)(e:s.obj 5=S [.d (.bool a)])(f:s.obj 6=S [.d (.bool b)])(hf:fT B s Q q):bD B [5,6] g ob (λ_ g' Z=>IJ a b g ob g' Z) s Q:=
 bD.two h c X e f Gl Gl hf ⟨rfl,rfl⟩
def xL{B kind i args:Nat}{a b:Bool}{p:Src.Prog}{lo li:List Th}{g0 g:Nat->Nat}{ob:Obs}(H:3000<=B)(hB:∀i,B<=i->ob i=N)(E:ScE p i lo li g0 g ob)(hn:ob 5=S [.d (.bool a)])(hu:ob 6=S [.d (.bool b)])(V:Str)(hk:kind=2\/kind=3\/kind=4)
 (U:∀s n,bw lo li s=S (4,n)->n<z p.funcs)(bc:szP p<=1000000000):
  fv Tryz.prog 134 (UR kind V args::(xg g0).map kJ) g ob
   (λ_ g' Z=>IJ (a&&cl (bw lo li) i kind V) (b&&gZ (bw lo li) p.funcs i kind V args) g ob g' Z) (λ_ _ _=>False):=by
 unfold UR xg;simp only[l9,v8];obtain⟨oi,op,ot,gs,⟨l,v,mo⟩,⟨o,A,mi⟩⟩:=E;refine hdM B [5,6] Tryz.func134 rfl [] Wk hB λO bo s0 w0=>?_;have Q:∀k,(5=B+k)=False:=λk=>by simp;omega
 have K:∀k,(6=B+k)=False:=λk=>by simp;omega
 have W:∀k,(7=B+k)=False:=λk=>by simp;omega
 have w:∀k,(1=B+k)=False:=λk=>by simp;omega
 have Y:∀k,(11=B+k)=False:=λk=>by simp;omega
 have n6:∀k,(1013=B+k)=False:=λk=>by simp;omega
 have n7:∀k,(2011=B+k)=False:=λk=>by simp;omega
 have n8:∀k,(B+k=5)=False:=λk=>by simp;omega
 have n9:∀k,(B+k=6)=False:=λk=>by simp;omega
 unfold iu je at op;simp only[l9,v8]at op;have G:=gs 11 a7;have g5:=gs 5 a7;have m:=gs 7 a7;have g1:=gs 1 a7;have g6:=gs 6 a7;simp only[go_sem,Q,K,W,w,Y,kJ,ot,G,l9,v8];refine bX aa rfl (by simp only[go_sem];exact Qv (B:=B+60) (io:=1013) (ii:=2011) (l:=l) (o:=o) (lo:=lo) (li:=li) (λi hi=>nt (hB i a6)) a6 a6 (by simp only[upd,n6];exact v) (by simp only[upd,n7];exact A) mo mi V (by simp only[upd,n6];exact gs _ a7) (by simp only[upd,n7];exact gs _ a7)) ?_ ?_
 .exact kb
 rintro _ g' Z ⟨rfl,rfl,rfl⟩;have hf:=U V;obtain⟨x,I⟩:∃x,(a&&cl (bw lo li) i kind V)=x:=⟨_,rfl⟩
 obtain⟨y,J⟩:∃y,(b&&gZ (bw lo li) p.funcs i kind V args)=y:=⟨_,rfl⟩
 rw[I,J];have c:((2:Nat):Int)=2:=rfl;have e:((3:Nat):Int)=3:=rfl;have f:((4:Nat):Int)=4:=rfl;unfold cl at I;unfold gZ at J;cases u:bw lo li V with
 |none=>
   rw[u]at I J;simp only[C3,I1]at I J;subst I J;simp only[sQ];rcases hk with rfl|rfl|rfl
   .cases a<;>(simp only[go_sem,Q,K,W,w,Y,n8,n9,g5,hn,nc1,c,e,f])<;>(refine⟨_,ae.refl _,?_⟩;(simp only[go_sem]);exact bD.use (λi hi h5 h6=>⟨nu,nu⟩) (nu) (nu) Wm Wo (q:=[]) rfl)
   .cases a<;>(simp only[go_sem,Q,K,W,w,Y,n8,n9,g5,hn,nc1,c,e,f])<;>(refine⟨_,ae.refl _,?_⟩;(simp only[go_sem]);exact bD.use (λi hi h5 h6=>⟨nu,nu⟩) (nu) (nu) Wm Wo (q:=[]) rfl)
   ·(simp only[go_sem,Q,K,W,w,Y,n8,n9,g5,hn,nc1,c,e,f])<;>(refine⟨_,ae.refl _,?_⟩;(simp only[go_sem]);exact bD.use (λi hi h5 h6=>⟨nu,nu⟩) (nu) (nu) Wm Wo (q:=[]) rfl)
 |some t=>
   obtain⟨k,n⟩:=t;rw[u]at hf I J;simp only at I J;simp only[sQ,thD,l9,v8];rcases hk with rfl|rfl|rfl
   .rw[j8 a8,I1]at J
    subst J;rw[l7 rfl]at I;by_cases k1:(k:Int)=1
    .obtain rfl:a=x:=by rw[<-I,show (k==1)=T by simp;omega];simp
     cases a<;>(simp only[go_sem,Q,K,W,w,Y,n8,n9,g5,hn,nc1,c,e,f,k1])<;>(refine⟨_,ae.refl _,?_⟩;(simp only[go_sem]);exact bD.use (λi hi h5 h6=>⟨nu,nu⟩) (nu) (nu) Wm Wo (q:=[]) rfl)
    by_cases k2:(k:Int)=2
    .obtain rfl:a=x:=by rw[<-I,show (k==2)=T by simp;omega];simp
     cases a<;>(simp only[go_sem,Q,K,W,w,Y,n8,n9,g5,hn,nc1,c,e,f,k1,k2])<;>(refine⟨_,ae.refl _,?_⟩;(simp only[go_sem]);exact bD.use (λi hi h5 h6=>⟨nu,nu⟩) (nu) (nu) Wm Wo (q:=[]) rfl)
    obtain rfl:F=x:=by rw[<-I,show (k==1)=F by simp;omega,show (k==2)=F by simp;omega];simp
    cases a<;>(simp only[go_sem,Q,K,W,w,Y,n8,n9,g5,hn,nc1,c,e,f,k1,k2])<;>(refine⟨_,ae.refl _,?_⟩;(simp only[go_sem]);exact bD.use (λi hi h5 h6=>⟨nu,nu⟩) (nu) (nu) Wm Wo (q:=[]) rfl)
   .rw[j8 a8,I1]at J
    subst J;rw[j8 a7,l7 rfl]at I;by_cases k1:(k:Int)=3
    .obtain rfl:a=x:=by rw[<-I,show (k==3)=T by simp;omega];simp
     cases a<;>(simp only[go_sem,Q,K,W,w,Y,n8,n9,g5,hn,nc1,c,e,f,k1])<;>(refine⟨_,ae.refl _,?_⟩;(simp only[go_sem]);exact bD.use (λi hi h5 h6=>⟨nu,nu⟩) (nu) (nu) Wm Wo (q:=[]) rfl)
    obtain rfl:F=x:=by rw[<-I,show (k==3)=F by simp;omega];simp
    cases a<;>(simp only[go_sem,Q,K,W,w,Y,n8,n9,g5,hn,nc1,c,e,f,k1])<;>(refine⟨_,ae.refl _,?_⟩;(simp only[go_sem]);exact bD.use (λi hi h5 h6=>⟨nu,nu⟩) (nu) (nu) Wm Wo (q:=[]) rfl)
   .rw[j8 a7,j8 a7]at I
    by_cases k1:(k:Int)=4
    case neg=>
     rw[j8 a6,I1]at J;subst J;obtain rfl:F=x:=by rw[<-I,show (k==4)=F by simp;omega];simp
     (simp only[go_sem,Q,K,W,w,Y,n8,n9,g5,hn,nc1,c,e,f,k1])<;>(refine⟨_,ae.refl _,?_⟩;(simp only[go_sem]);exact bD.use (λi hi h5 h6=>⟨nu,nu⟩) (nu) (nu) Wm Wo (q:=[]) rfl)
    by_cases r:n<i
    case neg=>
     have j:(i:Int)<=(n:Int):=a6;rw[j8 a6,I1]at J;subst J;obtain rfl:F=x:=by rw[<-I,z7 r];simp
     (simp only[go_sem,Q,K,W,w,Y,n8,n9,g5,hn,nc1,c,e,f,k1,oi,m,j])<;>(refine⟨_,ae.refl _,?_⟩;(simp only[go_sem]);exact bD.use (λi hi h5 h6=>⟨nu,nu⟩) (nu) (nu) Wm Wo (q:=[]) rfl)
    have j:¬(i:Int)<=(n:Int):=a6;obtain rfl:a=x:=by rw[<-I,B3 r,show (k==4)=T by simp;omega];simp
    have c4:=hf n (by rw[show k=4 by omega]);obtain⟨fn,he⟩:=getq c4;rw[l7 ⟨rfl,a6,r⟩,he]at J;simp only at J;have bk:(0:Int)<=(n:Int):=a6;have b2:(n:Int)<(z p.funcs:Int):=a6
    (simp only[go_sem,Q,K,W,w,Y,n8,n9,g5,hn,nc1,c,e,f,k1,oi,m,j])
    refine bh b9 ?_;by_cases dk:(z fn.params:Int)=(args:Int)
    .obtain rfl:b=y:=by rw[<-J,show (z fn.params==args)=T by simp;omega];simp
     (simp only[go_sem,Q,K,W,w,Y,n8,n9,g5,hn,nc1,c,e,f,k1,oi,m,j,g1,op,bk,b2,he,fnD,j5,dk])<;>(refine⟨_,ae.refl _,?_⟩;(simp only[go_sem]);exact bD.use (λi hi h5 h6=>⟨nu,nu⟩) (nu) (nu) Wm Wo (q:=[]) rfl)
    obtain rfl:F=y:=by rw[<-J,show (z fn.params==args)=F by simp;omega];simp
    (simp only[go_sem,Q,K,W,w,Y,n8,n9,g5,hn,nc1,c,e,f,k1,oi,m,j,g1,g6,op,bk,b2,he,fnD,j5,dk,hu])<;>(refine⟨_,ae.refl _,?_⟩;(simp only[go_sem]);exact bD.use (λi hi h5 h6=>⟨nu,nu⟩) (nu) (nu) Wm Wo (q:=[]) rfl)
end
section
open Go Go.Am Go.Asm
open Go.Src (Th aP bW bA bC bw cl gZ okE ep okS eP Ex Stm szE aH szS aE)
attribute[local congr]ite_cc
section
structure IK (p:Src.Prog) (i:Nat) (lo li:List Th) (g0:Nat->Nat) (u G P x5:Nat) (g:Nat->Nat) (ob:Obs):Prop where
 e:ScE p i lo li g0 g ob
 od:ob u=some [.clo 134 (xg g0)]
 ox:ob G=some [.clo 200 [.ptr u P 0,.ptr G x5 0]]
 gd:g u=P
 gx:g G=x5
variable{p:Src.Prog}{lo li:List Th}
def ScE.mono{i:Nat}{g0 g g':Nat->Nat}{ob Z:Obs}(h:ScE p i lo li g0 g ob)(a:∀j,j<3000->g' j=g j/\(j≠5->j≠6->Z j=ob j)):ScE p i lo li g0 g' Z where
 oi:=by rw[(a 7 a7).2 a7 a7];exact h.oi
 op:=by rw[(a 1 a7).2 a7 a7];exact h.op
 ot:=by rw[(a 11 a7).2 a7 a7];exact h.ot
 gs:=λj b=>by rw[(a j b).1];exact h.gs j b
 mo:=by rw[(a 1013 a7).2 a7 a7];exact h.mo
 mi:=by rw[(a 2011 a7).2 a7 a7];exact h.mi
def IK.mono{p:Src.Prog}{i u G P b B:Nat}{lo li:List Th}{g0 g g':Nat->Nat}{ob Z:Obs}(h:IK p i lo li g0 u G P b g ob)(hd:3000<=u)(I:3000<=G)(o:u<B)(t:G<B)(a:∀j,j<B->g' j=g j/\(j≠5->j≠6->Z j=ob j)):IK p i lo li g0 u G P b g' Z where
 e:=h.e.mono λj c=>a j a6
 od:=by rw[(a u a6).2 a6 a6];exact h.od
 ox:=by rw[(a G a6).2 a6 a6];exact h.ox
 gd:=by rw[(a u a6).1];exact h.gd
 gx:=by rw[(a G a6).1];exact h.gx
def nU(p:Src.Prog)(i:Nat)(lo li:List Th):Nat->Str->Nat->Bool:=λk n _=>cl (bw lo li) i k n
def mU(p:Src.Prog)(i:Nat)(lo li:List Th):Nat->Str->Nat->Bool:=λk n a=>gZ (bw lo li) p.funcs i k n a
def uQ{i u G P x5:Nat}{g0:Nat->Nat}(hd:3000<=u)(I:3000<=G)(U:∀s n,bw lo li s=S (4,n)->n<z p.funcs)(bc:szP p<=1000000000):
  ∀(av:Nat)(l:List Ex),aH l<=av->av<=1000000000->∀(B:Nat)(a b:Bool)(g:Nat->Nat)(ob:Obs),u<B->G<B->(∀i,B<=i->ob i=N)->IK p i lo li g0 u G P x5 g ob->ob 5=S [.d (.bool a)]->ob 6=S [.d (.bool b)]->
   fv Tryz.prog 200 [dE l,.one (.ptr u P 0),.one (.ptr G x5 0)] g ob (λ_ g' Z=>IJ (a&&ep (nU p i lo li) l) (b&&ep (mU p i lo li) l) g ob g' Z) (λ_ _ _=>False):=by
 intro av
 induction av using Nat.strongRecOn with
 |ind av ih=>
 intro l bs hN B a b g ob o t hB E hn hu;refine hdM B [5,6] Tryz.func200 rfl [] Wk hB λO bo s0 w0=>?_;have Q:∀k,(5=B+k)=False:=λk=>by simp;omega
 have n2:∀k,(6=B+k)=False:=λk=>by simp;omega
 have n3:∀k,(u=B+k)=False:=λk=>by simp;omega
 have w:∀k,(G=B+k)=False:=λk=>by simp;omega
 have n8:∀k,(B+k=5)=False:=λk=>by simp;omega
 have n9:∀k,(B+k=6)=False:=λk=>by simp;omega
 have z0:(B=0)=False:=by simp;omega
 have z1:(B=1)=False:=by simp;omega
 have m1:(G=5)=False:=by simp;omega
 have m2:(G=6)=False:=by simp;omega
 have m3:(u=5)=False:=by simp;omega
 have V:(u=6)=False:=by simp;omega
 obtain⟨x,bk⟩:∃x,(a&&ep (nU p i lo li) l)=x:=⟨_,rfl⟩
 obtain⟨y,bl⟩:∃y,(b&&ep (mU p i lo li) l)=y:=⟨_,rfl⟩
 rw[bk,bl];have cv:=Src.Kr l;unfold dE;simp only[go_sem,j5]
 refine aq (λm K=>∃(k:Nat)(W X:Bool),m+k=z l/\(W&&ep (nU p i lo li) (l.drop k))=x/\(X&&ep (mU p i lo li) (l.drop k))=y/\K.f 1=.one (.ptr u P 0)/\K.f 2=.one (.ptr G x5 0)/\K.f 6=.one (.d (.sl (l.map exD)))/\K.f 7=iv .i64 (z l)/\K.f 8=iv .i64 k/\
   K.obj 5=S [.d (.bool W)]/\K.obj 6=S [.d (.bool X)]/\(∀j,j<B->K.gen j=g j/\(j≠5->j≠6->K.obj j=ob j))/\(∀j,B+43<=j->K.obj j=N)) (z l) ?_ ?_
 .exact UJ
 rintro m f g1 ad ⟨k,W,X,hk,A,J,q1,q2,q6,q7,c,o5,o6,fr,L⟩;simp only at q1 q2 q6 q7 c o5 o6 fr L;have E1:=E.mono hd I o t fr;obtain⟨e1,od,ox,gd,gx⟩:=E1;have hw:=ab (k:=k) a6;by_cases af:k<z l
 case neg=>
  have H:¬(k:Int)<(z l:Int):=a6;obtain rfl:k=z l:=a6;rw[F1,ep,I1]at A J;subst A J;simp only[go_sem,q7,c,H];exact T4
 have H:(k:Int)<(z l:Int):=a6;have an:(0:Int)<=(k:Int):=a6;obtain⟨e,he⟩:=getq af;have bd:=Src.se (l5 he);have Y:l.drop k=e::l.drop (k+1):=by rw[A8 af,(l8.1 he).2]
 rw[Y,ep]at A J;obtain⟨kind,op,num,name,a'⟩:=e;rw[okE]at A J;rw[szE]at bd;simp only[go_sem,Q,n2,n3,w,q1,q2,q6,q7,c,H,an,he,exD,aA];by_cases k2:kind=2
 .rw[l7 k2]at A J
  simp only[go_sem,Q,n2,n3,w,n8,n9,q1,q2,od,gd,s9 k2];refine ba (f:=134) (bf:=xg g0) aa rfl Wh (by simp only[go_sem];exact xL (B:=B+43) (kind:=2) (args:=0) (a:=W) (b:=X) a6 (λj hj=>nt (L j hj)) (e1.mono λj hj=>⟨nu,λh5 h6=>nu⟩) (nt (o5)) (nt (o6)) name a8 U bc) ?_ ?_
  .exact kb
  rintro _ g' Z ⟨rfl,rfl⟩;simp only[go_sem,Q,n2,n3,w,n8,n9,z0,z1,m1,m2,m3,V,q1,q2,gd,gx,od,ox];refine ba (f:=200) (bf:=[.ptr u P 0,.ptr G x5 0]) aa rfl Wh (by simp only[go_sem];refine ih (aH a') a6 a' (l0 _) a6 (B+43) (W&&cl (bw lo li) i 2 name) (X&&gZ (bw lo li) p.funcs i 2 name 0) _ _ a6 a6 ?_ ?_ ?_ ?_;exact(λj hj=>nt (L j hj));exact(((E.mono hd I o t fr).mono hd I o t (λj hj=>⟨nu,λh5 h6=>nu⟩)));exact(Wq);exact(Wq)) ?_ ?_
  .exact kb
  rintro _ g' Z ⟨rfl,rfl⟩;simp only[go_sem,c,hw];refine ai (m-1) a6 ⟨k+1,(W&&cl (bw lo li) i 2 name)&&ep (nU p i lo li) a',(X&&gZ (bw lo li) p.funcs i 2 name 0)&&ep (mU p i lo li) a',a6,by rw[<-A];simp only[nU,E5],by rw[<-J];simp only[mU,E5],?_⟩;exact UB
 by_cases k3:kind=3
 .rw[j8 k2,l7 k3]at A J
  simp only[go_sem,Q,n2,n3,w,n8,n9,q1,q2,od,gd,s9 k3,k2];refine ba (f:=134) (bf:=xg g0) aa rfl Wh (by simp only[go_sem];exact xL (B:=B+43) (kind:=3) (args:=0) (a:=W) (b:=X) a6 (λj hj=>nt (L j hj)) (e1.mono λj hj=>⟨nu,λh5 h6=>nu⟩) (nt (o5)) (nt (o6)) name a8 U bc) ?_ ?_
  .exact kb
  rintro _ g' Z ⟨rfl,rfl⟩;simp only[go_sem,Q,n2,n3,w,n8,n9,z0,z1,m1,m2,m3,V,q1,q2,gd,gx,od,ox];refine ba (f:=200) (bf:=[.ptr u P 0,.ptr G x5 0]) aa rfl Wh (by simp only[go_sem];refine ih (aH a') a6 a' (l0 _) a6 (B+43) (W&&cl (bw lo li) i 3 name) (X&&gZ (bw lo li) p.funcs i 3 name 0) _ _ a6 a6 ?_ ?_ ?_ ?_;exact(λj hj=>nt (L j hj));exact(((E.mono hd I o t fr).mono hd I o t (λj hj=>⟨nu,λh5 h6=>nu⟩)));exact(Wq);exact(Wq)) ?_ ?_
  .exact kb
  rintro _ g' Z ⟨rfl,rfl⟩;simp only[go_sem,c,hw];refine ai (m-1) a6 ⟨k+1,(W&&cl (bw lo li) i 3 name)&&ep (nU p i lo li) a',(X&&gZ (bw lo li) p.funcs i 3 name 0)&&ep (mU p i lo li) a',a6,by rw[<-A];simp only[nU,E5],by rw[<-J];simp only[mU,E5],?_⟩;exact UB
 by_cases k4:kind=4
 .rw[j8 k2,j8 k3,l7 k4]at A J
  simp only[go_sem,Q,n2,n3,w,n8,n9,q1,q2,od,gd,s9 k4,k2,k3,j5];refine ba (f:=134) (bf:=xg g0) aa rfl Wh (by simp only[go_sem];exact xL (B:=B+43) (kind:=4) (args:=z a') (a:=W) (b:=X) a6 (λj hj=>nt (L j hj)) (e1.mono λj hj=>⟨nu,λh5 h6=>nu⟩) (nt (o5)) (nt (o6)) name a8 U bc) ?_ ?_
  .exact kb
  rintro _ g' Z ⟨rfl,rfl⟩;simp only[go_sem,Q,n2,n3,w,n8,n9,z0,z1,m1,m2,m3,V,q1,q2,gd,gx,od,ox];refine ba (f:=200) (bf:=[.ptr u P 0,.ptr G x5 0]) aa rfl Wh (by simp only[go_sem];refine ih (aH a') a6 a' (l0 _) a6 (B+43) (W&&cl (bw lo li) i 4 name) (X&&gZ (bw lo li) p.funcs i 4 name (z a')) _ _ a6 a6 ?_ ?_ ?_ ?_;exact(λj hj=>nt (L j hj));exact(((E.mono hd I o t fr).mono hd I o t (λj hj=>⟨nu,λh5 h6=>nu⟩)));exact(Wq);exact(Wq)) ?_ ?_
  .exact kb
  rintro _ g' Z ⟨rfl,rfl⟩;simp only[go_sem,c,hw];refine ai (m-1) a6 ⟨k+1,(W&&cl (bw lo li) i 4 name)&&ep (nU p i lo li) a',(X&&gZ (bw lo li) p.funcs i 4 name (z a'))&&ep (mU p i lo li) a',a6,by rw[<-A];simp only[nU,E5],by rw[<-J];simp only[mU,E5],?_⟩;exact UB
 .rw[j8 k2,j8 k3,j8 k4]at A J
  simp only[go_sem,k2,k3,k4];simp only[go_sem,Q,n2,n3,w,n8,n9,z0,z1,m1,m2,m3,V,q1,q2,gd,gx,od,ox];refine ba (f:=200) (bf:=[.ptr u P 0,.ptr G x5 0]) aa rfl Wh (by simp only[go_sem];refine ih (aH a') a6 a' (l0 _) a6 (B+43) W X _ _ a6 a6 ?_ ?_ ?_ ?_;exact(λj hj=>nt (L j hj));exact(((E.mono hd I o t fr).mono hd I o t (λj hj=>⟨nu,λh5 h6=>nu⟩)));exact(nt (o5));exact(nt (o6))) ?_ ?_
  .exact kb
  rintro _ g' Z ⟨rfl,rfl⟩;simp only[go_sem,c,hw];refine ai (m-1) a6 ⟨k+1,W&&ep (nU p i lo li) a',X&&ep (mU p i lo li) a',a6,by rw[<-A];simp only[w7,E5],by rw[<-J];simp only[w7,E5],?_⟩;exact UB
end
structure Mn (p:Src.Prog) (i:Nat) (lo li:List Th) (g0:Nat->Nat) (u G sc P x5 x4:Nat) (g:Nat->Nat) (ob:Obs):Prop where
 v:IK p i lo li g0 u G P x5 g ob
 os:ob sc=some [.clo 201 [.ptr u P 0,.ptr G x5 0,.ptr sc x4 0]]
 gs:g sc=x4
def Mn.mono{p:Src.Prog}{i u G a P b c B:Nat}{lo li:List Th}{g0 g g':Nat->Nat}{ob Z:Obs}(h:Mn p i lo li g0 u G a P b c g ob)(hd:3000<=u)(I:3000<=G)(d:3000<=a)(o:u<B)(t:G<B)(e:a<B)(hf:∀j,j<B->g' j=g j/\(j≠5->j≠6->Z j=ob j)):Mn p i lo li g0 u G a P b c g' Z where
 v:=h.v.mono hd I o t hf
 os:=by rw[(hf a a6).2 a6 a6];exact h.os
 gs:=by rw[(hf a a6).1];exact h.gs
def Mp{p:Src.Prog}{i u G sc P x5 x4:Nat}{lo li:List Th}{g0:Nat->Nat}(hd:3000<=u)(I:3000<=G)(hs:3000<=sc)(U:∀s n,bw lo li s=S (4,n)->n<z p.funcs)(bc:szP p<=1000000000):
  ∀(av:Nat)(l:List Stm),aE l<=av->av<=1000000000->∀(B:Nat)(a b:Bool)(g:Nat->Nat)(ob:Obs),u<B->G<B->sc<B->(∀i,B<=i->ob i=N)->Mn p i lo li g0 u G sc P x5 x4 g ob->ob 5=S [.d (.bool a)]->ob 6=S [.d (.bool b)]->
   fv Tryz.prog 201 [ed l,.one (.ptr u P 0),.one (.ptr G x5 0),.one (.ptr sc x4 0)] g ob (λ_ g' Z=>IJ (a&&eP (nU p i lo li) l) (b&&eP (mU p i lo li) l) g ob g' Z) (λ_ _ _=>False):=by
 intro av
 induction av using Nat.strongRecOn with
 |ind av ih=>
 intro l bs hN B a b g ob o t a1 hB E hn hu;refine hdM B [5,6] Tryz.func201 rfl [] Wk hB λO bo s0 w0=>?_;have Q:∀k,(5=B+k)=False:=λk=>by simp;omega
 have n2:∀k,(6=B+k)=False:=λk=>by simp;omega
 have n3:∀k,(u=B+k)=False:=λk=>by simp;omega
 have w:∀k,(G=B+k)=False:=λk=>by simp;omega
 have n5:∀k,(sc=B+k)=False:=λk=>by simp;omega
 have n8:∀k,(B+k=5)=False:=λk=>by simp;omega
 have n9:∀k,(B+k=6)=False:=λk=>by simp;omega
 have z0:(B=0)=False:=by simp;omega
 have z1:(B=1)=False:=by simp;omega
 have m1:(G=5)=False:=by simp;omega
 have m2:(G=6)=False:=by simp;omega
 have m3:(u=5)=False:=by simp;omega
 have V:(u=6)=False:=by simp;omega
 have m5:(sc=5)=False:=by simp;omega
 have m6:(sc=6)=False:=by simp;omega
 obtain⟨x,bk⟩:∃x,(a&&eP (nU p i lo li) l)=x:=⟨_,rfl⟩
 obtain⟨y,bl⟩:∃y,(b&&eP (mU p i lo li) l)=y:=⟨_,rfl⟩
 rw[bk,bl];have cv:=Src.Ks l;unfold ed;simp only[go_sem,j5]
 refine aq (λm K=>∃(k:Nat)(W X:Bool),m+k=z l/\(W&&eP (nU p i lo li) (l.drop k))=x/\(X&&eP (mU p i lo li) (l.drop k))=y/\K.f 1=.one (.ptr u P 0)/\K.f 2=.one (.ptr G x5 0)/\K.f 3=.one (.ptr sc x4 0)/\K.f 7=.one (.d (.sl (l.map smD)))/\K.f 8=iv .i64 (z l)/\K.f 9=iv .i64 k/\
   K.obj 5=S [.d (.bool W)]/\K.obj 6=S [.d (.bool X)]/\(∀j,j<B->K.gen j=g j/\(j≠5->j≠6->K.obj j=ob j))/\(∀j,B+52<=j->K.obj j=N)) (z l) ?_ ?_
 .exact UJ
 rintro m f g1 ad ⟨k,W,X,hk,A,J,q1,q2,q3,q7,c,q9,o5,o6,fr,L⟩;simp only at q1 q2 q3 q7 c q9 o5 o6 fr L;have E1:=E.mono hd I hs o t a1 fr;have E2:=E1;obtain⟨⟨e1,od,ox,gd,gx⟩,os,gs⟩:=E2;have hw:=ab (k:=k) a6;by_cases af:k<z l
 case neg=>
  have H:¬(k:Int)<(z l:Int):=a6;obtain rfl:k=z l:=a6;rw[F1,eP,I1]at A J;subst A J;simp only[go_sem,c,q9,H];exact T4
 have H:(k:Int)<(z l:Int):=a6;have an:(0:Int)<=(k:Int):=a6;obtain⟨e,he⟩:=getq af;have bd:=Src.kO (l5 he);have Y:l.drop k=e::l.drop (k+1):=by rw[A8 af,(l8.1 he).2]
 rw[Y,eP]at A J;obtain⟨kind,name,es,th,el⟩:=e;rw[okS]at A J;rw[szS]at bd;have hE:smD (.mk kind name es th el)=[.int .i64 kind,.str name,.sl (es.map exD),.sl (th.map smD),.sl (el.map smD)]:=by simp only[smD,aA,cT]
 simp only[go_sem,Q,n2,n3,w,n5,q1,q2,q3,q7,c,q9,H,an,he,hE];by_cases k1:kind=1
 .rw[l7 k1]at A J
  simp only[go_sem,Q,n2,n3,w,n5,n8,n9,z0,z1,m1,m2,m3,V,m5,m6,q1,q2,q3,od,ox,os,gd,gx,gs,s9 k1];refine ba (f:=134) (bf:=xg g0) aa rfl Wh (by simp only[go_sem];exact xL (B:=B+52) (kind:=2) (args:=0) (a:=W) (b:=X) a6 (λj hj=>nt (L j hj)) (e1.mono λj hj=>⟨nu,λh5 h6=>nu⟩) (nt (o5)) (nt (o6)) name a8 U bc) ?_ ?_
  .exact kb
  rintro _ g' Z ⟨rfl,rfl⟩;simp only[go_sem,Q,n2,n3,w,n5,n8,n9,z0,z1,m1,m2,m3,V,m5,m6,q1,q2,q3,od,ox,os,gd,gx,gs,k1];refine ba (f:=200) (bf:=[.ptr u P 0,.ptr G x5 0]) aa rfl Wh (by simp only[go_sem];refine uQ (i:=i) (g0:=g0) hd I U bc (aH es) es (l0 _) a6 (B+52) (W&&cl (bw lo li) i 2 name) (X&&gZ (bw lo li) p.funcs i 2 name 0) _ _ a6 a6 ?_ ?_ ?_ ?_;exact(λj hj=>nt (L j hj));exact(E1.mono hd I hs o t a1 (λj hj=>⟨nu,λh5 h6=>nu⟩)).v;exact Wq;exact Wq) ?_ ?_
  .exact kb
  rintro _ g' Z ⟨rfl,rfl⟩;simp only[go_sem,Q,n2,n3,w,n5,n8,n9,z0,z1,m1,m2,m3,V,m5,m6,q1,q2,q3,od,ox,os,gd,gx,gs];refine ba (f:=201) (bf:=[.ptr u P 0,.ptr G x5 0,.ptr sc x4 0]) aa rfl Wh (by simp only[go_sem];refine ih (aE th) a6 th (l0 _) a6 (B+52) ((W&&cl (bw lo li) i 2 name)&&ep (nU p i lo li) es) ((X&&gZ (bw lo li) p.funcs i 2 name 0)&&ep (mU p i lo li) es) _ _ a6 a6 a6 ?_ ?_ ?_ ?_;exact(λj hj=>nt (L j hj));exact(E1.mono hd I hs o t a1 (λj hj=>⟨nu,λh5 h6=>nu⟩));exact Wq;exact Wq) ?_ ?_
  .exact kb
  rintro _ g' Z ⟨rfl,rfl⟩;simp only[go_sem,Q,n2,n3,w,n5,n8,n9,z0,z1,m1,m2,m3,V,m5,m6,q1,q2,q3,od,ox,os,gd,gx,gs];refine ba (f:=201) (bf:=[.ptr u P 0,.ptr G x5 0,.ptr sc x4 0]) aa rfl Wh (by simp only[go_sem];refine ih (aE el) a6 el (l0 _) a6 (B+52) (((W&&cl (bw lo li) i 2 name)&&ep (nU p i lo li) es)&&eP (nU p i lo li) th) (((X&&gZ (bw lo li) p.funcs i 2 name 0)&&ep (mU p i lo li) es)&&eP (mU p i lo li) th) _ _ a6 a6 a6 ?_ ?_ ?_ ?_;exact(λj hj=>nt (L j hj));exact(E1.mono hd I hs o t a1 (λj hj=>⟨nu,λh5 h6=>nu⟩));exact Wq;exact Wq) ?_ ?_
  .exact kb
  rintro _ g' Z ⟨rfl,rfl⟩;simp only[go_sem,q9,hw];refine ai (m-1) a6 ⟨k+1,(((W&&cl (bw lo li) i 2 name)&&ep (nU p i lo li) es)&&eP (nU p i lo li) th)&&eP (nU p i lo li) el,(((X&&gZ (bw lo li) p.funcs i 2 name 0)&&ep (mU p i lo li) es)&&eP (mU p i lo li) th)&&eP (mU p i lo li) el,a6,by rw[<-A];simp only[nU,E5],by rw[<-J];simp only[mU,E5],?_⟩;exact Uv
 by_cases k2:kind=2
 .rw[j8 k1,l7 k2]at A J
  simp only[go_sem,Q,n2,n3,w,n5,n8,n9,z0,z1,m1,m2,m3,V,m5,m6,q1,q2,q3,od,ox,os,gd,gx,gs,s9 k2,k1];refine ba (f:=134) (bf:=xg g0) aa rfl Wh (by simp only[go_sem];exact xL (B:=B+52) (kind:=3) (args:=0) (a:=W) (b:=X) a6 (λj hj=>nt (L j hj)) (e1.mono λj hj=>⟨nu,λh5 h6=>nu⟩) (nt (o5)) (nt (o6)) name a8 U bc) ?_ ?_
  .exact kb
  rintro _ g' Z ⟨rfl,rfl⟩;simp only[go_sem,Q,n2,n3,w,n5,n8,n9,z0,z1,m1,m2,m3,V,m5,m6,q1,q2,q3,od,ox,os,gd,gx,gs,k1];refine ba (f:=200) (bf:=[.ptr u P 0,.ptr G x5 0]) aa rfl Wh (by simp only[go_sem];refine uQ (i:=i) (g0:=g0) hd I U bc (aH es) es (l0 _) a6 (B+52) (W&&cl (bw lo li) i 3 name) (X&&gZ (bw lo li) p.funcs i 3 name 0) _ _ a6 a6 ?_ ?_ ?_ ?_;exact(λj hj=>nt (L j hj));exact(E1.mono hd I hs o t a1 (λj hj=>⟨nu,λh5 h6=>nu⟩)).v;exact Wq;exact Wq) ?_ ?_
  .exact kb
  rintro _ g' Z ⟨rfl,rfl⟩;simp only[go_sem,Q,n2,n3,w,n5,n8,n9,z0,z1,m1,m2,m3,V,m5,m6,q1,q2,q3,od,ox,os,gd,gx,gs];refine ba (f:=201) (bf:=[.ptr u P 0,.ptr G x5 0,.ptr sc x4 0]) aa rfl Wh (by simp only[go_sem];refine ih (aE th) a6 th (l0 _) a6 (B+52) ((W&&cl (bw lo li) i 3 name)&&ep (nU p i lo li) es) ((X&&gZ (bw lo li) p.funcs i 3 name 0)&&ep (mU p i lo li) es) _ _ a6 a6 a6 ?_ ?_ ?_ ?_;exact(λj hj=>nt (L j hj));exact(E1.mono hd I hs o t a1 (λj hj=>⟨nu,λh5 h6=>nu⟩));exact Wq;exact Wq) ?_ ?_
  .exact kb
  rintro _ g' Z ⟨rfl,rfl⟩;simp only[go_sem,Q,n2,n3,w,n5,n8,n9,z0,z1,m1,m2,m3,V,m5,m6,q1,q2,q3,od,ox,os,gd,gx,gs];refine ba (f:=201) (bf:=[.ptr u P 0,.ptr G x5 0,.ptr sc x4 0]) aa rfl Wh (by simp only[go_sem];refine ih (aE el) a6 el (l0 _) a6 (B+52) (((W&&cl (bw lo li) i 3 name)&&ep (nU p i lo li) es)&&eP (nU p i lo li) th) (((X&&gZ (bw lo li) p.funcs i 3 name 0)&&ep (mU p i lo li) es)&&eP (mU p i lo li) th) _ _ a6 a6 a6 ?_ ?_ ?_ ?_;exact(λj hj=>nt (L j hj));exact(E1.mono hd I hs o t a1 (λj hj=>⟨nu,λh5 h6=>nu⟩));exact Wq;exact Wq) ?_ ?_
  .exact kb
  rintro _ g' Z ⟨rfl,rfl⟩;simp only[go_sem,q9,hw];refine ai (m-1) a6 ⟨k+1,(((W&&cl (bw lo li) i 3 name)&&ep (nU p i lo li) es)&&eP (nU p i lo li) th)&&eP (nU p i lo li) el,(((X&&gZ (bw lo li) p.funcs i 3 name 0)&&ep (mU p i lo li) es)&&eP (mU p i lo li) th)&&eP (mU p i lo li) el,a6,by rw[<-A];simp only[nU,E5],by rw[<-J];simp only[mU,E5],?_⟩;exact Uv
 by_cases r:kind=6
 .rw[j8 k1,j8 k2,l7 r]at A J
  simp only[go_sem,Q,n2,n3,w,n5,n8,n9,z0,z1,m1,m2,m3,V,m5,m6,q1,q2,q3,od,ox,os,gd,gx,gs,s9 r,k1,k2,j5];refine ba (f:=134) (bf:=xg g0) aa rfl Wh (by simp only[go_sem];exact xL (B:=B+52) (kind:=4) (args:=z es) (a:=W) (b:=X) a6 (λj hj=>nt (L j hj)) (e1.mono λj hj=>⟨nu,λh5 h6=>nu⟩) (nt (o5)) (nt (o6)) name a8 U bc) ?_ ?_
  .exact kb
  rintro _ g' Z ⟨rfl,rfl⟩;simp only[go_sem,Q,n2,n3,w,n5,n8,n9,z0,z1,m1,m2,m3,V,m5,m6,q1,q2,q3,od,ox,os,gd,gx,gs,k1];refine ba (f:=200) (bf:=[.ptr u P 0,.ptr G x5 0]) aa rfl Wh (by simp only[go_sem];refine uQ (i:=i) (g0:=g0) hd I U bc (aH es) es (l0 _) a6 (B+52) (W&&cl (bw lo li) i 4 name) (X&&gZ (bw lo li) p.funcs i 4 name (z es)) _ _ a6 a6 ?_ ?_ ?_ ?_;exact(λj hj=>nt (L j hj));exact(E1.mono hd I hs o t a1 (λj hj=>⟨nu,λh5 h6=>nu⟩)).v;exact Wq;exact Wq) ?_ ?_
  .exact kb
  rintro _ g' Z ⟨rfl,rfl⟩;simp only[go_sem,Q,n2,n3,w,n5,n8,n9,z0,z1,m1,m2,m3,V,m5,m6,q1,q2,q3,od,ox,os,gd,gx,gs];refine ba (f:=201) (bf:=[.ptr u P 0,.ptr G x5 0,.ptr sc x4 0]) aa rfl Wh (by simp only[go_sem];refine ih (aE th) a6 th (l0 _) a6 (B+52) ((W&&cl (bw lo li) i 4 name)&&ep (nU p i lo li) es) ((X&&gZ (bw lo li) p.funcs i 4 name (z es))&&ep (mU p i lo li) es) _ _ a6 a6 a6 ?_ ?_ ?_ ?_;exact(λj hj=>nt (L j hj));exact(E1.mono hd I hs o t a1 (λj hj=>⟨nu,λh5 h6=>nu⟩));exact Wq;exact Wq) ?_ ?_
  .exact kb
  rintro _ g' Z ⟨rfl,rfl⟩;simp only[go_sem,Q,n2,n3,w,n5,n8,n9,z0,z1,m1,m2,m3,V,m5,m6,q1,q2,q3,od,ox,os,gd,gx,gs];refine ba (f:=201) (bf:=[.ptr u P 0,.ptr G x5 0,.ptr sc x4 0]) aa rfl Wh (by simp only[go_sem];refine ih (aE el) a6 el (l0 _) a6 (B+52) (((W&&cl (bw lo li) i 4 name)&&ep (nU p i lo li) es)&&eP (nU p i lo li) th) (((X&&gZ (bw lo li) p.funcs i 4 name (z es))&&ep (mU p i lo li) es)&&eP (mU p i lo li) th) _ _ a6 a6 a6 ?_ ?_ ?_ ?_;exact(λj hj=>nt (L j hj));exact(E1.mono hd I hs o t a1 (λj hj=>⟨nu,λh5 h6=>nu⟩));exact Wq;exact Wq) ?_ ?_
  .exact kb
  rintro _ g' Z ⟨rfl,rfl⟩;simp only[go_sem,q9,hw];refine ai (m-1) a6 ⟨k+1,(((W&&cl (bw lo li) i 4 name)&&ep (nU p i lo li) es)&&eP (nU p i lo li) th)&&eP (nU p i lo li) el,(((X&&gZ (bw lo li) p.funcs i 4 name (z es))&&ep (mU p i lo li) es)&&eP (mU p i lo li) th)&&eP (mU p i lo li) el,a6,by rw[<-A];simp only[nU,E5],by rw[<-J];simp only[mU,E5],?_⟩;exact Uv
 .rw[j8 k1,j8 k2,j8 r]at A J
  simp only[go_sem,Q,n2,n3,w,n5,n8,n9,z0,z1,m1,m2,m3,V,m5,m6,q1,q2,q3,od,ox,os,gd,gx,gs,k1,k2,r];refine ba (f:=200) (bf:=[.ptr u P 0,.ptr G x5 0]) aa rfl Wh (by simp only[go_sem];refine uQ (i:=i) (g0:=g0) hd I U bc (aH es) es (l0 _) a6 (B+52) W X _ _ a6 a6 ?_ ?_ ?_ ?_;exact(λj hj=>nt (L j hj));exact(E1.mono hd I hs o t a1 (λj hj=>⟨nu,λh5 h6=>nu⟩)).v;exact(nt (o5));exact(nt (o6))) ?_ ?_
  .exact kb
  rintro _ g' Z ⟨rfl,rfl⟩;simp only[go_sem,Q,n2,n3,w,n5,n8,n9,z0,z1,m1,m2,m3,V,m5,m6,q1,q2,q3,od,ox,os,gd,gx,gs];refine ba (f:=201) (bf:=[.ptr u P 0,.ptr G x5 0,.ptr sc x4 0]) aa rfl Wh (by simp only[go_sem];refine ih (aE th) a6 th (l0 _) a6 (B+52) (W&&ep (nU p i lo li) es) (X&&ep (mU p i lo li) es) _ _ a6 a6 a6 ?_ ?_ ?_ ?_;exact(λj hj=>nt (L j hj));exact(E1.mono hd I hs o t a1 (λj hj=>⟨nu,λh5 h6=>nu⟩));exact Wq;exact Wq) ?_ ?_
  .exact kb
  rintro _ g' Z ⟨rfl,rfl⟩;simp only[go_sem,Q,n2,n3,w,n5,n8,n9,z0,z1,m1,m2,m3,V,m5,m6,q1,q2,q3,od,ox,os,gd,gx,gs];refine ba (f:=201) (bf:=[.ptr u P 0,.ptr G x5 0,.ptr sc x4 0]) aa rfl Wh (by simp only[go_sem];refine ih (aE el) a6 el (l0 _) a6 (B+52) ((W&&ep (nU p i lo li) es)&&eP (nU p i lo li) th) ((X&&ep (mU p i lo li) es)&&eP (mU p i lo li) th) _ _ a6 a6 a6 ?_ ?_ ?_ ?_;exact(λj hj=>nt (L j hj));exact(E1.mono hd I hs o t a1 (λj hj=>⟨nu,λh5 h6=>nu⟩));exact Wq;exact Wq) ?_ ?_
  .exact kb
  rintro _ g' Z ⟨rfl,rfl⟩;simp only[go_sem,q9,hw];refine ai (m-1) a6 ⟨k+1,((W&&ep (nU p i lo li) es)&&eP (nU p i lo li) th)&&eP (nU p i lo li) el,((X&&ep (mU p i lo li) es)&&eP (mU p i lo li) th)&&eP (mU p i lo li) el,a6,by rw[<-A];simp only[w7,E5],by rw[<-J];simp only[w7,E5],?_⟩;exact Uv
end
section
open Go Go.Am Go.Asm
open Go.Src (Th aP bW bA bC bw cl gZ okE ep okS eP Ex Stm szE aH szS aE jY zB bE jx)
attribute[local congr]ite_cc
def EO{p:Src.Prog}{i:Nat}{lo li:List Th}{g0:Nat->Nat}(U:∀s n,bw lo li s=S (4,n)->n<z p.funcs)(bc:szP p<=1000000000){f:Src.Fn}(B:aE f.body<=1000000000){a b:Bool}{g:Nat->Nat}{ob:Obs}(hB:∀i,3000<=i->ob i=N)(E:ScE p i lo li g0 g ob)
 (hn:ob 5=S [.d (.bool a)])(l:ob 6=S [.d (.bool b)]):
  fv Tryz.prog 133 [fnV f,.one (.clo 134 (xg g0))] g ob (λ_ g' Z=>IJ (a&&eP (nU p i lo li) f.body) (b&&eP (mU p i lo li) f.body) g ob g' Z) (λ_ _ _=>False):=by
 refine hdM 3000 [5,6] Tryz.func133 rfl [] a8 hB λO bo s0 w0=>?_;unfold fnV fnD;simp only[go_sem];refine ba (f:=201) (bf:=[.ptr 3003 (nxC 240 (g 3003)) 0,.ptr 3005 (nxC 150 (g 3005)) 0,.ptr 3004 (nxC 286 (g 3004)) 0]) aa rfl Wh (by simp only[go_sem];refine Mp (i:=i) (g0:=g0) (lo:=lo) (li:=li) a7 a7 a7 U bc (aE f.body) f.body (l0 _) B 3012 a b _ _ a7 a7 a7 ?_ ?_ ?_ ?_;exact(λj x=>nt (hB j a6));exact⟨⟨E.mono λj x=>⟨nu,λy G=>nu⟩,by simp[upd],by simp[upd],by simp[upd],by simp[upd]⟩,by simp[upd],by simp[upd]⟩;exact(by simp[upd];exact hn);exact(by simp[upd];exact l)) ?_ ?_
 .exact kb
 rintro _ g' Z ⟨rfl,rfl⟩;simp only[go_sem];refine⟨_,ae.refl _,?_⟩;simp only[go_sem];exact bD.use (λi hi y G=>⟨nu,nu⟩) (nu) (nu) Wq Wq (q:=[]) rfl
def lT{a:Type}(c:Nat->a->Bool){l:List a}{k:Nat}{x:a}(h:l[k]?=S x):bE c 0 (l.take (k+1))=(bE c 0 (l.take k)&&c k x):=by
 have b:=(l8.1 h).1;rw[B4,h,I7,Src.Cd,C2,Nat.min_eq_left a6,B9]
def Mq{o:cg}(p:Src.Prog)(bf:1<=z p.funcs)(bc:szP p<=1000000000):bP Tryz.prog 4 o 85 [cn p] (·=iv .i64 (jx p:Nat)):=by
 refine hdG Tryz.func85 rfl [.tmp 2] λO bo s0 w0 g=>?_;obtain⟨X,hz⟩:∃X,jx p=X:=⟨_,rfl⟩
 rw[hz];have t:=bc;unfold szP at bc;have Q:cn p=.agg [.d (.sl (p.vars.map λs=>[.str s])),.d (.sl (p.arrays.map arD)),.d (.sl (p.funcs.map fnD))]:=rfl;rw[Q];simp only[go_sem];refine bX aG rfl (by simp only[go_sem];rw[<-Q];exact Gm (λi hi=>nu) t) ?_ ?_
 .exact kb
 rintro r g1 ad ⟨rfl,⟨M,oM,I,q⟩,fr⟩;have e1:=fr 1 (.inl a7);simp[upd]at e1;have L:∀j,1100<=j->ad j=N:=λj hj=>by rw[(fr j (.inr a6)).2];simp only[upd];rw[j8 a6]
 clear fr;simp only[go_sem,e1.1,e1.2,j5]
 refine aq (λm K=>∃k:Nat,m+k=z p.funcs/\K.f 1=.one (.ptr 1 (K.gen 1) 0)/\K.f 3=.one (.mp 1013 (K.gen 1013) 208)/\K.f 5=.one (.ptr 5 (K.gen 5) 0)/\K.f 6=.one (.ptr 6 (K.gen 6) 0)/\K.f 20=.one (.d (.sl (p.funcs.map fnD)))/\K.f 21=iv .i64 (z p.funcs)/\K.f 22=iv .i64 k/\
   K.obj 1=S (iu p)/\K.obj 5=S [.d (.bool (bW [] (bA p)&&bE (jY p) 0 (p.funcs.take k)))]/\K.obj 6=S [.d (.bool (bE (zB p) 0 (p.funcs.take k)))]/\(∃M,K.obj 1013=S M/\jf M (bA p))/\∀j,2100<=j->K.obj j=N) (z p.funcs) ?_ ?_
 .refine⟨0,rfl,?_⟩
  simp only[go_sem,e1.1,e1.2,oM];refine⟨rfl,by simp[bE],by simp[bE],⟨M,rfl,I⟩,λj hj=>nt (L j a6)⟩
 clear e1 L oM I q M;rintro m f g1 ad ⟨k,hk,q1,q3,q5,q6,E,w,y,o1,o5,o6,⟨M,oM,I⟩,L⟩;simp only at q1 q3 q5 q6 E w y o1 o5 o6 oM L;have hw:=ab (k:=k) a6;by_cases af:k<z p.funcs
 .have H:(k:Int)<(z p.funcs:Int):=a6
  have an:(0:Int)<=(k:Int):=a6;obtain⟨x,he⟩:=getq af;have B:=kK (p:=p) (l5 he);unfold szP at B;have A:fnV x=.agg [.d (.str x.name),.d (.sl (x.params.map λs=>[.str s])),.d (.sl (x.locals.map λs=>[.str s])),.d (.bool x.word),.d (.sl (x.body.map smD))]:=rfl;have bd:fnD x=[.str x.name,.sl (x.params.map λs=>[.str s]),.sl (x.locals.map λs=>[.str s]),.bool x.word,.sl (x.body.map smD)]:=rfl;simp only[go_sem,E,w,y,H,an,he,bd];refine bX aG rfl (by simp only[go_sem];rw[<-A];exact II (λi hi=>nt (L i hi)) a6) ?_ ?_
  .exact kb
  rintro r g2 b3 ⟨rfl,⟨M2,U,Y,a1⟩,fr⟩;have e5:=fr 5 (.inl a7);have l:=fr 6 (.inl a7);have u:=fr 7 (.inl a7);have e8:=fr 8 (.inl a7);have e1:=fr 1 (.inl a7);have c:=fr 1013 (.inl a7);simp[upd]at e5 l u e8 e1 c;rw[o5]at e5;rw[o6]at l;rw[o1]at e1;rw[oM]at c;obtain⟨u5,h5⟩:∃v,(bW [] (bA p)&&bE (jY p) 0 (List.take k p.funcs))=v:=⟨_,rfl⟩
  obtain⟨J,h6⟩:∃v,bE (zB p) 0 (List.take k p.funcs)=v:=⟨_,rfl⟩
  obtain⟨uf,hu⟩:∃v,bW [] (bC x)=v:=⟨_,rfl⟩
  rw[h5]at e5;rw[h6]at l;rw[hu];simp only[go_sem,e5.1,e5.2,q5];cases u5
  .simp only[go_sem,e5.2,e5.1,l.1,u.1,e8.1,e8.2,u.2,e1.1,c.1,q1,q3,q5,q6]
   rw[<-A];refine bX aG rfl (by simp only[go_sem];rw[<-e5.1,<-l.1,<-e1.1,<-u.1];refine EO (p:=p) (i:=k) (lo:=bA p) (li:=bC x) (g0:=upd g2 11 (nxC 233 (g2 11))) (a:=F) (b:=J) (λs n h=>Src.SX h) bc a6 ?_ ?_ ?_ ?_;exact(λj hj=>by (try simp only[upd]);(repeat rw[j8 (by omega)]);rw[(fr j (.inr (by omega))).2];exact nt (L j (by omega)));exact⟨by simp[upd];exact u.2,by simp[upd];exact e1.2,by simp[upd,c.1],λj hj=>rfl,⟨M,by simp[upd];exact c.2,I⟩,⟨M2,by simp[upd];exact U,Y⟩⟩;exact(by simp[upd]);exact(by simp[upd];exact l.2)) ?_ ?_
   .exact kb
   exact lk
  .simp only[go_sem,e5.2,e5.1,l.1,u.1,e8.1,e8.2,u.2,e1.1,c.1,q1,q3,q5,q6]
   rw[<-A];refine bX aG rfl (by simp only[go_sem];rw[<-e5.1,<-l.1,<-e1.1,<-u.1];refine EO (p:=p) (i:=k) (lo:=bA p) (li:=bC x) (g0:=upd g2 11 (nxC 233 (g2 11))) (a:=uf) (b:=J) (λs n h=>Src.SX h) bc a6 ?_ ?_ ?_ ?_;exact(λj hj=>by (try simp only[upd]);(repeat rw[j8 (by omega)]);rw[(fr j (.inr (by omega))).2];exact nt (L j (by omega)));exact⟨by simp[upd];exact u.2,by simp[upd];exact e1.2,by simp[upd,c.1],λj hj=>rfl,⟨M,by simp[upd];exact c.2,I⟩,⟨M2,by simp[upd];exact U,Y⟩⟩;exact(by simp[upd]);exact(by simp[upd];exact l.2)) ?_ ?_
   .exact kb
   exact lk
 have H:¬(k:Int)<(z p.funcs:Int):=a6;obtain rfl:k=z p.funcs:=a6;rw[s6 (l0 _)]at o5 o6;unfold jx at hz;unfold iu je at o1;simp only[l9,v8]at o1;obtain⟨u5,h5⟩:∃v,(bW [] (bA p)&&bE (jY p) 0 p.funcs)=v:=⟨_,rfl⟩
 obtain⟨J,h6⟩:∃v,bE (zB p) 0 p.funcs=v:=⟨_,rfl⟩
 rw[h5]at o5 hz;rw[h6]at o6 hz;simp only[go_sem,w,y,H,q5,o5];cases u5
 .rw[l7 rfl]at hz
  subst hz;exact hG
 rw[j8 a8]at hz;have e:IntKind.i64.wrap ((z p.funcs:Int)-1)=((z p.funcs-1:Nat):Int):=by rw[wrap_i64]<;>omega
 obtain⟨x,he⟩:=getq (show z p.funcs-1<z p.funcs by omega);have cv:p.funcs.getLast?=S x:=by rw[Q9,he]
 rw[cv]at hz;simp only at hz;have W:(0:Int)<=((z p.funcs-1:Nat):Int):=a6;have av:((z p.funcs-1:Nat):Int)<(z p.funcs:Int):=a6;obtain⟨V,ps,ls,wd,body⟩:=x;simp only at hz;simp only[go_sem,q1,o1,j5,e,W,av,he,fnD,q6,o6];cases J
 .rw[j8 a8]at hz
  subst hz;exact hG
 by_cases P:V=[109,97,105,110]
 case neg=>
  rw[j8 (λh=>P h.2.1)]at hz;subst hz;simp only[go_sem,P]
 by_cases b2:0<z ps
 .have G:(0:Int)<(z ps:Int):=a6
  rw[j8 (λh=>by rw[h.2.2.1]at b2;simp at b2)]at hz;subst hz;simp only[go_sem,s9 P,j5,G]
 have G:¬(0:Int)<(z ps:Int):=a6;have e9:ps=[]:=J8.1 a6;cases wd
 .rw[l7 ⟨rfl,P,e9,rfl⟩]at hz
  subst hz;simp only[go_sem,s9 P,j5,G]
 .rw[j8 (λh=>by cases h.2.2.2)]at hz
  subst hz;simp only[go_sem,s9 P,j5,G]
end
end Go.Proofs.YtednjibjomfhfaaGreatDoor
namespace Go.Src
section
open Go.Asm (Str)
def cH:List Fn->Str->Option Fn
 |[],_=>N
 |f::l,s=>if f.name=s then S f else cH l s
def RJ(l m:List Fn)(s:Str):cH (l++m) s=match cH l s with|some x=>S x|none=>cH m s:=by
 induction l with
 |nil=>rfl
 |cons t l a=>simp only[u7,cH];split<;>simp_all
def iO(fs:List Fn)(s:Str):Bool:=match cH fs s with|some f=>f.word|none=>F
mutual
def iy(fs:List Fn):Ex->Int
 |.mk kind op _ name kids=>
   if kind<1\/9<kind then 0
   else if kind=1\/kind=2\/kind=5 then 1
   else if kind=3 then(if dj fs 1 kids then 1 else 0)
   else if kind=4 then(if iO fs name && dj fs 1 kids then 1 else 0)
   else if kind=6 then(if dj fs 1 kids then(if op=14\/op=15 then 2 else 1)else 0)
   else(if dj fs 2 kids then 2 else 0)
def dj(fs:List Fn)(t:Int):List Ex->Bool
 |[]=>T
 |e::l=>decide (iy fs e=t)&&dj fs t l
end
mutual
def ie(fs:List Fn):Ex->Bool
 |.mk kind _ _ name kids=>(if kind=4 then(cH fs name).isSome else T) && cJ fs kids
def cJ(fs:List Fn):List Ex->Bool
 |[]=>T
 |e::l=>ie fs e&&cJ fs l
end
mutual
def mq(fs:List Fn):Stm->Bool
 |.mk kind name e a el=>(if kind=6 then(cH fs name).isSome else T) && cJ fs e && (cj fs a && cj fs el)
def cj(fs:List Fn):List Stm->Bool
 |[]=>T
 |s::l=>mq fs s&&cj fs l
end
mutual
def lI(fs:List Fn)(w:Bool):Stm->Bool
 |.mk kind name e a el=>!(kind == 6 && iO fs name) && !(kind == 7 && decide (0<z e) && !w) && dj fs (if kind=4\/kind=5 then 2 else 1) e && (bF fs w a && bF fs w el)
def bF(fs:List Fn)(w:Bool):List Stm->Bool
 |[]=>T
 |s::l=>lI fs w s&&bF fs w l
end
def qX(p:Prog):Nat:=
 if (p.funcs.all λf=>cj p.funcs f.body)=F then 4
 else if (p.funcs.all λf=>bF p.funcs f.word f.body)=F then 5 else 0
def cW(p:Prog):Nat:=if cD p=F then 7 else if jx p≠0 then jx p else qX p
end
end Go.Src
