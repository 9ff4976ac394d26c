/- A part; no conditions. -/
import Derived.Test.YtfdbpgoicedpcaaGreatDoorPart10
set_option linter.all false
open List renaming length -> z
open Option renaming some -> S, none -> N
open Bool renaming true -> T, false -> F
set_option maxHeartbeats 64000000
set_option maxRecDepth 100000
namespace Go.Proofs.YtfdbpgoicedpcaaGreatDoor
section
open Go Go.Am Go.Asm
open Go.Src (Th bb cQ bH bQ bG bT iz okE eP okS fp Ex Stm)
attribute[local congr]ite_cc
structure ScE (p:Src.Prog) (i:Nat) (lo li:List Th) (g0 g:Nat->Nat) (ob:Obs):Prop where
 oi:ob 7=some [ag (i:Nat)]op:ob 1=some (jK p)ot:ob 11=some [.mp 1013 (g0 1013) 208,.mp 2011 (g0 2011) 208]gs:∀i,i<3000->g i=g0 i
 mo:∃M,ob 1013=some M/\kH M lo
 mi:∃M,ob 2011=some M/\kH M li
def Ax(g0:Nat->Nat):List PC:=[.ptr 11 (g0 11) 0,.ptr 5 (g0 5) 0,.ptr 7 (g0 7) 0,.ptr 1 (g0 1) 0,.ptr 6 (g0 6) 0]
def acf(kind:Nat)(a:Str)(args:Nat):AV:=.agg [ag (kind:Nat),bW a,ag (args:Nat)]
def NS(a b:Bool)(g:Nat->Nat)(ob:Obs)(g':Nat->Nat)(Y:Obs):Prop:=g'=g/\Y=upd (upd ob 5 (S [bO a])) 6 (S [bO b])
def bS.use{B:Nat}{a b:Bool}{g:Nat->Nat}{ob:Obs}{s:St}{j q:List AV}(h:∀i,i<B->i≠5->i≠6->s.gen i=g i/\s.obj i=ob i)(ga:s.gen 5=g 5)(X:s.gen 6=g 6)(c:s.obj 5=S [bO a])(d:s.obj 6=S [bO b])(e:fT B s j q):bS B [5,6] g ob (λ_ g' Y=>NS a b g ob g' Y) s j:=bS.two h ga X c d KM KM e ⟨rfl,rfl⟩
def Bg{B kind i args:Nat}{a b:Bool}{p:Src.Prog}{lo li:List Th}{g0 g:Nat->Nat}{ob:Obs}(H:3000<=B)(hB:∀i,B<=i->ob i=N)(E:ScE p i lo li g0 g ob)(hn:ob 5=S [bO a])(L:ob 6=S [bO b])(nm:Str)(hk:kind=2\/kind=3\/kind=4)(r:∀s n,bG lo li s=S (4,n)->n<z p.f)(az:szP p<=1000000000):dS Tryz.prog 140 (acf kind nm args::(Ax g0).map mV) g ob
 (λ_ g' Y=>NS (a&&bT (bG lo li) i kind nm) (b&&iz (bG lo li) p.f i kind nm args) g ob g' Y) (λ_ _ _=>False):=by
 unfold acf Ax;simp only[s7,x7];obtain⟨oi,op,ot,gs,⟨u,w,mo⟩,⟨v,A,mi⟩⟩:=E;refine hdM B [5,6] Tryz.func140 rfl [] ZN hB λO bc s0 w0=>?_;have K:∀k,(5=B+k)=False:=λk=>by grind
 have U:∀k,(6=B+k)=False:=λk=>by grind
 have W:∀k,(7=B+k)=False:=λk=>by grind
 have Z:∀k,(1=B+k)=False:=λk=>by grind
 have n5:∀k,(11=B+k)=False:=λk=>by grind
 have n6:∀k,(1013=B+k)=False:=λk=>by grind
 have n7:∀k,(2011=B+k)=False:=λk=>by grind
 have V:∀k,(B+k=5)=False:=λk=>by grind
 have h:∀k,(B+k=6)=False:=λk=>by grind
 unfold jK kG at op;simp only[s7,x7]at op;have G:=gs 11 a8;have g5:=gs 5 a8;have l:=gs 7 a8;have g1:=gs 1 a8;have g6:=gs 6 a8;simp only[go_sem,K,U,W,Z,n5,mV,ot,G,s7,x7];refine cN aa rfl (by simp only[go_sem];exact Xn (B:=B+60) (io:=1013) (ii:=2011) (u:=u) (v:=v) (lo:=lo) (li:=li) (λi hi=>nt (hB i a7)) a7 a7 (by simp only[upd,n6];exact w) (by simp only[upd,n7];exact A) mo mi nm (by simp only[upd,n6];grind) (by simp only[upd,n7];grind)) ?_ ?_;.simp
 rintro _ g' Y⟨rfl,rfl,rfl⟩;have hf:=r nm;obtain⟨x,I⟩:∃x,(a&&bT (bG lo li) i kind nm)=x:=⟨_,rfl⟩;obtain⟨y,J⟩:∃y,(b&&iz (bG lo li) p.f i kind nm args)=y:=⟨_,rfl⟩
 rw[I,J];have c:((2:Nat):Int)=2:=rfl;have d:((3:Nat):Int)=3:=rfl;have e:((4:Nat):Int)=4:=rfl;unfold bT at I;unfold iz at J;cases o:bG lo li nm with|none=>
 rw[o]at I J;simp only[D3,I3]at I J;subst I J;simp only[wh];rcases hk with rfl|rfl|rfl;.cases a<;>(simp only[go_sem,K,U,W,Z,n5,V,h,g5,hn,nc1,c,d,e])<;>(refine⟨_,ai.refl _,?_⟩;(simp only[go_sem]);exact bS.use (λi hi h5 h6=>⟨nu,nu⟩) (nu) (nu) c8 aa0 (q:=[]) rfl)
 .cases a<;>(simp only[go_sem,K,U,W,Z,n5,V,h,g5,hn,nc1,c,d,e])<;>(refine⟨_,ai.refl _,?_⟩;(simp only[go_sem]);exact bS.use (λi hi h5 h6=>⟨nu,nu⟩) (nu) (nu) c8 aa0 (q:=[]) rfl)
 ·(simp only[go_sem,K,U,W,Z,n5,V,h,g5,hn,nc1,c,d,e])<;>(refine⟨_,ai.refl _,?_⟩;(simp only[go_sem]);exact bS.use (λi hi h5 h6=>⟨nu,nu⟩) (nu) (nu) c8 aa0 (q:=[]) rfl);|some t=>
 obtain⟨k,n⟩:=t;rw[o]at hf I J;simp only at I J;simp only[wh,thD,s7,x7];rcases hk with rfl|rfl|rfl
 .rw[l4 b9,I3]at J;subst J;rw[s5 rfl]at I;by_cases k1:(k:Int)=1
  .obtain rfl:a=x:=by rw[<-I,show (k==1)=T by grind];simp
   cases a<;>(simp only[go_sem,K,U,W,Z,n5,V,h,g5,hn,nc1,c,d,e,k1])<;>(refine⟨_,ai.refl _,?_⟩;(simp only[go_sem]);exact bS.use (λi hi h5 h6=>⟨nu,nu⟩) (nu) (nu) c8 aa0 (q:=[]) rfl)
  by_cases k2:(k:Int)=2
  .obtain rfl:a=x:=by rw[<-I,show (k==2)=T by grind];simp
   cases a<;>(simp only[go_sem,K,U,W,Z,n5,V,h,g5,hn,nc1,c,d,e,k1,k2])<;>(refine⟨_,ai.refl _,?_⟩;(simp only[go_sem]);exact bS.use (λi hi h5 h6=>⟨nu,nu⟩) (nu) (nu) c8 aa0 (q:=[]) rfl)
  obtain rfl:F=x:=by rw[<-I,show (k==1)=F by grind,show (k==2)=F by grind];simp
  cases a<;>(simp only[go_sem,K,U,W,Z,n5,V,h,g5,hn,nc1,c,d,e,k1,k2])<;>(refine⟨_,ai.refl _,?_⟩;(simp only[go_sem]);exact bS.use (λi hi h5 h6=>⟨nu,nu⟩) (nu) (nu) c8 aa0 (q:=[]) rfl)
 .rw[l4 b9,I3]at J;subst J;rw[l4 a8,s5 rfl]at I;by_cases k1:(k:Int)=3
  .obtain rfl:a=x:=by rw[<-I,show (k==3)=T by grind];simp
   cases a<;>(simp only[go_sem,K,U,W,Z,n5,V,h,g5,hn,nc1,c,d,e,k1])<;>(refine⟨_,ai.refl _,?_⟩;(simp only[go_sem]);exact bS.use (λi hi h5 h6=>⟨nu,nu⟩) (nu) (nu) c8 aa0 (q:=[]) rfl)
  obtain rfl:F=x:=by grind
  cases a<;>(simp only[go_sem,K,U,W,Z,n5,V,h,g5,hn,nc1,c,d,e,k1])<;>(refine⟨_,ai.refl _,?_⟩;(simp only[go_sem]);exact bS.use (λi hi h5 h6=>⟨nu,nu⟩) (nu) (nu) c8 aa0 (q:=[]) rfl)
 .rw[l4 a8,l4 a8]at I;by_cases k1:(k:Int)=4;case neg=>
   rw[l4 a7,I3]at J;subst J;obtain rfl:F=x:=by grind
   (simp only[go_sem,K,U,W,Z,n5,V,h,g5,hn,nc1,c,d,e,k1])<;>(refine⟨_,ai.refl _,?_⟩;(simp only[go_sem]);exact bS.use (λi hi h5 h6=>⟨nu,nu⟩) (nu) (nu) c8 aa0 (q:=[]) rfl)
  by_cases m:n<i;case neg=>
   have j:(i:Int)<=(n:Int):=a7;rw[l4 a7,I3]at J;subst J;obtain rfl:F=x:=by grind
   (simp only[go_sem,K,U,W,Z,n5,V,h,g5,hn,nc1,c,d,e,k1,oi,l,j])<;>(refine⟨_,ai.refl _,?_⟩;(simp only[go_sem]);exact bS.use (λi hi h5 h6=>⟨nu,nu⟩) (nu) (nu) c8 aa0 (q:=[]) rfl)
  have j:¬(i:Int)<=(n:Int):=a7;obtain rfl:a=x:=by grind
  have cy:=hf n ZN;obtain⟨fn,he⟩:=getq cy;rw[s5 ⟨rfl,a7,m⟩,he]at J;simp only at J;have bf:(0:Int)<=(n:Int):=a7;have b5:(n:Int)<(z p.f:Int):=a7;(simp only[go_sem,K,U,W,Z,n5,V,h,g5,hn,nc1,c,d,e,k1,oi,l,j]);refine aZ c9 ?_;by_cases cu:(z fn.p:Int)=(args:Int)
  .obtain rfl:b=y:=by rw[<-J,show (z fn.p==args)=T by grind];simp
   (simp only[go_sem,K,U,W,Z,n5,V,h,g5,hn,nc1,c,d,e,k1,oi,l,j,g1,op,bf,b5,he,fnD,j6,cu])<;>(refine⟨_,ai.refl _,?_⟩;(simp only[go_sem]);exact bS.use (λi hi h5 h6=>⟨nu,nu⟩) (nu) (nu) adv (by first|(simp[upd];done)|(simp only[upd];exact nt (L))) (q:=[]) rfl)
  obtain rfl:F=y:=by grind
  (simp only[go_sem,K,U,W,Z,n5,V,h,g5,hn,nc1,c,d,e,k1,oi,l,j,g1,g6,op,bf,b5,he,fnD,j6,cu,L])<;>(refine⟨_,ai.refl _,?_⟩;(simp only[go_sem]);exact bS.use (λi hi h5 h6=>⟨nu,nu⟩) (nu) (nu) adv (by rfl) (q:=[]) rfl)
end
section
open Go Go.Am Go.Asm
open Go.Src (Th bb cQ bH bQ bG bT iz okE eP okS fp Ex Stm szE aO szS aI)
attribute[local congr]ite_cc
section
structure NT (p:Src.Prog) (i:Nat) (lo li:List Th) (g0:Nat->Nat) (o A X J:Nat) (g:Nat->Nat) (ob:Obs):Prop where
 e:ScE p i lo li g0 g ob
 od:ob o=some [.clo 140 (Ax g0)]ox:ob A=some [.clo 209 [.ptr o X 0,.ptr A J 0]]gd:g o=X
 gx:g A=J
variable{p:Src.Prog}{lo li:List Th}
def ScE.mono{i}{g0 g g'}{ob Y}(h:ScE p i lo li g0 g ob)(a:∀j,j<3000->g' j=g j/\(j≠5->j≠6->Y j=ob j)):ScE p i lo li g0 g' Y where
 oi:=by rw[(a 7 a8).2 a8 a8];exact h.oi
 op:=by rw[(a 1 a8).2 a8 a8];exact h.op
 ot:=by rw[(a 11 a8).2 a8 a8];exact h.ot
 gs:=λj b=>by rw[(a j b).1];exact h.gs j b
 mo:=by rw[(a 1013 a8).2 a8 a8];exact h.mo
 mi:=by rw[(a 2011 a8).2 a8 a8];exact h.mi
def NT.mono{p}{i o A X J B}{lo li}{g0 g g'}{ob Y}(h:NT p i lo li g0 o A X J g ob)(hd:3000<=o)(I:3000<=A)(c:o<B)(d:A<B)(a:∀j,j<B->g' j=g j/\(j≠5->j≠6->Y j=ob j)):NT p i lo li g0 o A X J g' Y where
 e:=h.e.mono λj b=>a j a7
 od:=by rw[(a o a7).2 a7 a7];exact h.od
 ox:=by rw[(a A a7).2 a7 a7];exact h.ox
 gd:=by rw[(a o a7).1];exact h.gd
 gx:=by rw[(a A a7).1];exact h.gx
def nU(p:Src.Prog)(i:Nat)(lo li:List Th):Nat->Str->Nat->Bool:=λk n _=>bT (bG lo li) i k n
def mU(p:Src.Prog)(i:Nat)(lo li:List Th):Nat->Str->Nat->Bool:=λk n a=>iz (bG lo li) p.f i k n a
def xS{i o A X J}{g0}(hd:3000<=o)(I:3000<=A)(r:∀s n,bG lo li s=S (4,n)->n<z p.f)(az:szP p<=1000000000):∀al l,aO l<=al->al<=1000000000->∀B a b g ob,o<B->A<B->(∀i,B<=i->ob i=N)->NT p i lo li g0 o A X J g ob->ob 5=S [bO a]->ob 6=S [bO b]->dS Tryz.prog 209 [ea l,aj o X 0,aj A J 0] g ob (λ_ g' Y=>NS (a&&eP (nU p i lo li) l) (b&&eP (mU p i lo li) l) g ob g' Y) (λ_ _ _=>False):=by intro al;induction al using Nat.strongRecOn with|ind al ih=>
 intro l an hN B a b g ob c d hB E hn L;refine hdM B [5,6] Tryz.func209 rfl [] ZN hB λO bc s0 w0=>?_;have n1:∀k,(5=B+k)=False:=λk=>by grind
 have n2:∀k,(6=B+k)=False:=λk=>by grind
 have n3:∀k,(o=B+k)=False:=λk=>by grind
 have n4:∀k,(A=B+k)=False:=λk=>by grind
 have V:∀k,(B+k=5)=False:=λk=>by grind
 have h:∀k,(B+k=6)=False:=λk=>by grind
 have z0:(B=0)=False:=by simp;omega
 have z1:(B=1)=False:=by simp;omega
 have m1:(A=5)=False:=by simp;omega
 have m2:(A=6)=False:=by simp;omega
 have m3:(o=5)=False:=by simp;omega
 have m4:(o=6)=False:=by simp;omega
 obtain⟨x,bf⟩:∃x,(a&&eP (nU p i lo li) l)=x:=⟨_,rfl⟩;obtain⟨y,ad⟩:∃y,(b&&eP (mU p i lo li) l)=y:=⟨_,rfl⟩;rw[bf,ad];have b4:=Src.PS l;unfold ea;simp only[go_sem,j6];refine aF (λm K=>∃(k:Nat)(W b':Bool),m+k=z l/\(W&&eP (nU p i lo li) (l.drop k))=x/\(b'&&eP (mU p i lo li) (l.drop k))=y/\K.f 1=aj o X 0/\K.f 2=aj A J 0/\K.f 6=.one (aw (l.map exD))/\K.f 7=ae (z l)/\K.f 8=ae k/\K.obj 5=S [bO W]/\K.obj 6=S [bO b']/\(∀j,j<B->K.gen j=g j/\(j≠5->j≠6->K.obj j=ob j))/\(∀j,B+43<=j->K.obj j=N)) (z l) ?_ ?_;.refine⟨0,a,b,rfl,by grind,by grind,?_⟩;simp only[go_sem,hn,L];grind
 rintro m f g1 av⟨k,W,b',hk,t,u,q1,q2,q6,q7,q8,o5,o6,fr,ar⟩;simp only at q1 q2 q6 q7 q8 o5 o6 fr ar;obtain⟨e1,od,ox,gd,gx⟩:=(E.mono hd I c d fr);have hw:=ah (k:=k) a7;by_cases af:k<z l;case neg=>have Q:¬(k:Int)<(z l:Int):=a7;obtain rfl:k=z l:=a7;rw[E9,eP,I3]at t u;subst t u;simp only[go_sem,q7,q8,Q];exact wk
 have Q:(k:Int)<(z l:Int):=a7;have bk:(0:Int)<=(k:Int):=a7;obtain⟨e,he⟩:=getq af;have H:=Src.vu (l8 he);have Z:l.drop k=e::l.drop (k+1):=by rw[B8 af,(l9.1 he).2]
 rw[Z,eP]at t u;obtain⟨kind,op,num,name,G⟩:=e;rw[okE]at t u;rw[szE]at H;simp only[go_sem,n1,n2,n3,n4,q1,q2,q6,q7,q8,Q,bk,he,exD,aL];by_cases k2:kind=2
 .rw[s5 k2]at t u;simp only[go_sem,n1,n2,n3,n4,V,h,q1,q2,od,gd,w9 k2];refine bB aa rfl c8 (by simp only[go_sem];exact Bg (B:=B+43) (kind:=2) (args:=0) (a:=W) (b:=b') a7 (λj hj=>nt (ar j hj)) (e1.mono λj hj=>⟨nu,λh5 h6=>nu⟩) (nt (o5)) (nt (o6)) name b9 r az) ?_ ?_;.simp
  rintro _ g' Y⟨rfl,rfl⟩;simp only[go_sem,n1,n2,n3,n4,V,h,z0,z1,m1,m2,m3,m4,q1,q2,gd,gx,od,ox];refine bB aa rfl c8 (by simp only[go_sem];refine ih (aO G) a7 G (l7 _) a7 (B+43) (W&&bT (bG lo li) i 2 name) (b'&&iz (bG lo li) p.f i 2 name 0) _ _ a7 a7 ?_ ?_ ?_ ?_;exact(λj hj=>nt (ar j hj));exact(((E.mono hd I c d fr).mono hd I c d (λj hj=>⟨nu,λh5 h6=>nu⟩)));exact(c8);rfl) ?_ ?_;.simp
  rintro _ g' Y⟨rfl,rfl⟩;simp only[go_sem,q8,hw];refine ak (m-1) a7 ⟨k+1,(W&&bT (bG lo li) i 2 name)&&eP (nU p i lo li) G,(b'&&iz (bG lo li) p.f i 2 name 0)&&eP (mU p i lo li) G,a7,by rw[<-t];simp[nU,G1],by rw[<-u];simp[mU,G1],?_⟩;simp only[go_sem,V,h,q1,q2,q6,q7];grind
 by_cases k3:kind=3
 .rw[l4 k2,s5 k3]at t u;simp only[go_sem,n1,n2,n3,n4,V,h,q1,q2,od,gd,w9 k3,k2];refine bB aa rfl c8 (by simp only[go_sem];exact Bg (B:=B+43) (kind:=3) (args:=0) (a:=W) (b:=b') a7 (λj hj=>nt (ar j hj)) (e1.mono λj hj=>⟨nu,λh5 h6=>nu⟩) (nt (o5)) (nt (o6)) name b9 r az) ?_ ?_;.simp
  rintro _ g' Y⟨rfl,rfl⟩;simp only[go_sem,n1,n2,n3,n4,V,h,z0,z1,m1,m2,m3,m4,q1,q2,gd,gx,od,ox];refine bB aa rfl c8 (by simp only[go_sem];refine ih (aO G) a7 G (l7 _) a7 (B+43) (W&&bT (bG lo li) i 3 name) (b'&&iz (bG lo li) p.f i 3 name 0) _ _ a7 a7 ?_ ?_ ?_ ?_;exact(λj hj=>nt (ar j hj));exact(((E.mono hd I c d fr).mono hd I c d (λj hj=>⟨nu,λh5 h6=>nu⟩)));exact(c8);rfl) ?_ ?_;.simp
  rintro _ g' Y⟨rfl,rfl⟩;simp only[go_sem,q8,hw];refine ak (m-1) a7 ⟨k+1,(W&&bT (bG lo li) i 3 name)&&eP (nU p i lo li) G,(b'&&iz (bG lo li) p.f i 3 name 0)&&eP (mU p i lo li) G,a7,by rw[<-t];simp[nU,G1],by rw[<-u];simp[mU,G1],?_⟩;simp only[go_sem,V,h,q1,q2,q6,q7];grind
 by_cases k4:kind=4
 .rw[l4 k2,l4 k3,s5 k4]at t u;simp only[go_sem,n1,n2,n3,n4,V,h,q1,q2,od,gd,w9 k4,k2,k3,j6];refine bB aa rfl c8 (by simp only[go_sem];exact Bg (B:=B+43) (kind:=4) (args:=z G) (a:=W) (b:=b') a7 (λj hj=>nt (ar j hj)) (e1.mono λj hj=>⟨nu,λh5 h6=>nu⟩) (nt (o5)) (nt (o6)) name b9 r az) ?_ ?_;.simp
  rintro _ g' Y⟨rfl,rfl⟩;simp only[go_sem,n1,n2,n3,n4,V,h,z0,z1,m1,m2,m3,m4,q1,q2,gd,gx,od,ox];refine bB aa rfl c8 (by simp only[go_sem];refine ih (aO G) a7 G (l7 _) a7 (B+43) (W&&bT (bG lo li) i 4 name) (b'&&iz (bG lo li) p.f i 4 name (z G)) _ _ a7 a7 ?_ ?_ ?_ ?_;exact(λj hj=>nt (ar j hj));exact(((E.mono hd I c d fr).mono hd I c d (λj hj=>⟨nu,λh5 h6=>nu⟩)));exact(c8);rfl) ?_ ?_;.simp
  rintro _ g' Y⟨rfl,rfl⟩;simp only[go_sem,q8,hw];refine ak (m-1) a7 ⟨k+1,(W&&bT (bG lo li) i 4 name)&&eP (nU p i lo li) G,(b'&&iz (bG lo li) p.f i 4 name (z G))&&eP (mU p i lo li) G,a7,by rw[<-t];simp[nU,G1],by rw[<-u];simp[mU,G1],?_⟩;simp only[go_sem,V,h,q1,q2,q6,q7];grind
 .rw[l4 k2,l4 k3,l4 k4]at t u;simp only[go_sem,k2,k3,k4];simp only[go_sem,n1,n2,n3,n4,V,h,z0,z1,m1,m2,m3,m4,q1,q2,gd,gx,od,ox];refine bB aa rfl c8 (by simp only[go_sem];refine ih (aO G) a7 G (l7 _) a7 (B+43) W b' _ _ a7 a7 ?_ ?_ ?_ ?_;exact(λj hj=>nt (ar j hj));exact(((E.mono hd I c d fr).mono hd I c d (λj hj=>⟨nu,λh5 h6=>nu⟩)));exact(nt (o5));exact(nt (o6))) ?_ ?_;.simp
  rintro _ g' Y⟨rfl,rfl⟩;simp only[go_sem,q8,hw];refine ak (m-1) a7 ⟨k+1,W&&eP (nU p i lo li) G,b'&&eP (mU p i lo li) G,a7,by grind,by grind,?_⟩;simp only[go_sem,V,h,q1,q2,q6,q7];grind
end
structure Si (p:Src.Prog) (i:Nat) (lo li:List Th) (g0:Nat->Nat) (o A U X J x4:Nat) (g:Nat->Nat) (ob:Obs):Prop where
 v:NT p i lo li g0 o A X J g ob
 os:ob U=some [.clo 210 [.ptr o X 0,.ptr A J 0,.ptr U x4 0]]gs:g U=x4
def Si.mono{p}{i o A U X J b B}{lo li}{g0 g g'}{ob Y}(h:Si p i lo li g0 o A U X J b g ob)(hd:3000<=o)(I:3000<=A)(e:3000<=U)(c:o<B)(d:A<B)(w:U<B)(a:∀j,j<B->g' j=g j/\(j≠5->j≠6->Y j=ob j)):Si p i lo li g0 o A U X J b g' Y where
 v:=h.v.mono hd I c d a
 os:=by rw[(a U a7).2 a7 a7];exact h.os
 gs:=by simp_all[a7,h.gs]
def Sj{p}{i o A U X J x4}{lo li}{g0}(hd:3000<=o)(I:3000<=A)(hs:3000<=U)(r:∀s n,bG lo li s=S (4,n)->n<z p.f)(az:szP p<=1000000000):∀al l,aI l<=al->al<=1000000000->∀B a b g ob,o<B->A<B->U<B->(∀i,B<=i->ob i=N)->Si p i lo li g0 o A U X J x4 g ob->ob 5=S [bO a]->ob 6=S [bO b]->dS Tryz.prog 210 [eU l,aj o X 0,aj A J 0,aj U x4 0] g ob (λ_ g' Y=>NS (a&&fp (nU p i lo li) l) (b&&fp (mU p i lo li) l) g ob g' Y) (λ_ _ _=>False):=by intro al;induction al using Nat.strongRecOn with|ind al ih=>
 intro l an hN B a b g ob c d w hB E hn L;refine hdM B [5,6] Tryz.func210 rfl [] ZN hB λO bc s0 w0=>?_;have n1:∀k,(5=B+k)=False:=λk=>by grind
 have n3:∀k,(o=B+k)=False:=λk=>by grind
 have n4:∀k,(A=B+k)=False:=λk=>by grind
 have n5:∀k,(U=B+k)=False:=λk=>by grind
 have V:∀k,(B+k=5)=False:=λk=>by grind
 have h:∀k,(B+k=6)=False:=λk=>by grind
 have m1:(A=5)=False:=by simp;omega
 have m2:(A=6)=False:=by simp;omega
 have m5:(U=5)=False:=by simp;omega
 have m6:(U=6)=False:=by simp;omega
 obtain⟨x,bf⟩:∃x,(a&&fp (nU p i lo li) l)=x:=⟨_,rfl⟩;obtain⟨y,ad⟩:∃y,(b&&fp (mU p i lo li) l)=y:=⟨_,rfl⟩;rw[bf,ad];have b4:=Src.PT l;unfold eU;simp[go_sem];refine aF (λm K=>∃(k:Nat)(W b':Bool),m+k=z l/\(W&&fp (nU p i lo li) (l.drop k))=x/\(b'&&fp (mU p i lo li) (l.drop k))=y/\K.f 1=aj o X 0/\K.f 2=aj A J 0/\K.f 3=aj U x4 0/\K.f 7=.one (aw (l.map smD))/\K.f 8=ae (z l)/\K.f 9=ae k/\K.obj 5=S [bO W]/\K.obj 6=S [bO b']/\(∀j,j<B->K.gen j=g j/\(j≠5->j≠6->K.obj j=ob j))/\(∀j,B+52<=j->K.obj j=N)) (z l) ?_ ?_;.refine⟨0,a,b,rfl,by grind,by grind,?_⟩;simp[go_sem,hn,L];grind
 rintro m f g1 av⟨k,W,b',hk,t,u,q1,q2,q3,q7,q8,G,o5,o6,fr,ar⟩;simp only at q1 q2 q3 q7 q8 G o5 o6 fr ar;have E1:=E.mono hd I hs c d w fr;have E2:=E1;obtain⟨⟨e1,od,ox,gd,gx⟩,os,gs⟩:=E2;have hw:=ah (k:=k) a7;by_cases af:k<z l;case neg=>have Q:¬(k:Int)<(z l:Int):=a7;obtain rfl:k=z l:=a7;rw[E9,fp,I3]at t u;subst t u;simp only[go_sem,q8,G,Q];exact wk
 have Q:(k:Int)<(z l:Int):=a7;have bk:(0:Int)<=(k:Int):=a7;obtain⟨e,he⟩:=getq af;have H:=Src.nd (l8 he);have Z:l.drop k=e::l.drop (k+1):=by rw[B8 af,(l9.1 he).2]
 rw[Z,fp]at t u;obtain⟨kind,name,es,th,el⟩:=e;rw[okS]at t u;rw[szS]at H;have hE:smD (.mk kind name es th el)=[.int .i64 kind,.str name,.sl (es.map exD),.sl (th.map smD),.sl (el.map smD)]:=by simp[smD,aL,dy]
 simp only[go_sem,n3,n4,q1,q2,q7,q8,G,Q,bk,he,hE];by_cases k1:kind=1
 .rw[s5 k1]at t u;simp only[go_sem,od,ox,gd,gx,w9 k1];refine bB aa rfl c8 (by simp only[go_sem];exact Bg (B:=B+52) (kind:=2) (args:=0) (a:=W) (b:=b') a7 (λj hj=>nt (ar j hj)) (e1.mono λj hj=>⟨nu,λh5 h6=>nu⟩) (nt (o5)) (nt (o6)) name b9 r az) ?_ ?_;.simp
  rintro _ g' Y⟨rfl,rfl⟩;simp only[go_sem,n4,V,h,m1,m2,q2,ox,gx,k1];refine bB aa rfl c8 (by simp only[go_sem];refine xS (i:=i) (g0:=g0) hd I r az (aO es) es (l7 _) a7 (B+52) (W&&bT (bG lo li) i 2 name) (b'&&iz (bG lo li) p.f i 2 name 0) _ _ a7 a7 ?_ ?_ ?_ ?_;exact(λj hj=>nt (ar j hj));exact(E1.mono hd I hs c d w (λj hj=>⟨nu,λh5 h6=>nu⟩)).v;exact c8;rfl) ?_ ?_;.simp
  rintro _ g' Y⟨rfl,rfl⟩;simp only[go_sem,n5,V,h,m5,m6,q3,os,gs];refine bB aa rfl c8 (by simp only[go_sem];refine ih (aI th) a7 th (l7 _) a7 (B+52) ((W&&bT (bG lo li) i 2 name)&&eP (nU p i lo li) es) ((b'&&iz (bG lo li) p.f i 2 name 0)&&eP (mU p i lo li) es) _ _ a7 a7 a7 ?_ ?_ ?_ ?_;exact(λj hj=>nt (ar j hj));exact(E1.mono hd I hs c d w (λj hj=>⟨nu,λh5 h6=>nu⟩));exact c8;rfl) ?_ ?_;.simp
  rintro _ g' Y⟨rfl,rfl⟩;simp only[go_sem,n5,V,h,m5,m6,q3,os,gs];refine bB aa rfl c8 (by simp only[go_sem];refine ih (aI el) a7 el (l7 _) a7 (B+52) (((W&&bT (bG lo li) i 2 name)&&eP (nU p i lo li) es)&&fp (nU p i lo li) th) (((b'&&iz (bG lo li) p.f i 2 name 0)&&eP (mU p i lo li) es)&&fp (mU p i lo li) th) _ _ a7 a7 a7 ?_ ?_ ?_ ?_;exact(λj hj=>nt (ar j hj));exact(E1.mono hd I hs c d w (λj hj=>⟨nu,λh5 h6=>nu⟩));exact c8;rfl) ?_ ?_;.simp
  rintro _ g' Y⟨rfl,rfl⟩;simp only[go_sem,G,hw];refine ak (m-1) a7 ⟨k+1,(((W&&bT (bG lo li) i 2 name)&&eP (nU p i lo li) es)&&fp (nU p i lo li) th)&&fp (nU p i lo li) el,(((b'&&iz (bG lo li) p.f i 2 name 0)&&eP (mU p i lo li) es)&&fp (mU p i lo li) th)&&fp (mU p i lo li) el,a7,by rw[<-t];simp[nU,G1],by rw[<-u];simp[mU,G1],?_⟩;simp only[go_sem,q1,q2,q3,q7,q8];grind
 by_cases k2:kind=2
 .rw[l4 k1,s5 k2]at t u;simp only[go_sem,od,ox,gd,gx,w9 k2,k1];refine bB aa rfl c8 (by simp only[go_sem];exact Bg (B:=B+52) (kind:=3) (args:=0) (a:=W) (b:=b') a7 (λj hj=>nt (ar j hj)) (e1.mono λj hj=>⟨nu,λh5 h6=>nu⟩) (nt (o5)) (nt (o6)) name b9 r az) ?_ ?_;.simp
  rintro _ g' Y⟨rfl,rfl⟩;simp only[go_sem,n4,V,h,m1,m2,q2,ox,gx];refine bB aa rfl c8 (by simp only[go_sem];refine xS (i:=i) (g0:=g0) hd I r az (aO es) es (l7 _) a7 (B+52) (W&&bT (bG lo li) i 3 name) (b'&&iz (bG lo li) p.f i 3 name 0) _ _ a7 a7 ?_ ?_ ?_ ?_;exact(λj hj=>nt (ar j hj));exact(E1.mono hd I hs c d w (λj hj=>⟨nu,λh5 h6=>nu⟩)).v;exact c8;rfl) ?_ ?_;.simp
  rintro _ g' Y⟨rfl,rfl⟩;simp only[go_sem,n5,V,h,m5,m6,q3,os,gs];refine bB aa rfl c8 (by simp only[go_sem];refine ih (aI th) a7 th (l7 _) a7 (B+52) ((W&&bT (bG lo li) i 3 name)&&eP (nU p i lo li) es) ((b'&&iz (bG lo li) p.f i 3 name 0)&&eP (mU p i lo li) es) _ _ a7 a7 a7 ?_ ?_ ?_ ?_;exact(λj hj=>nt (ar j hj));exact(E1.mono hd I hs c d w (λj hj=>⟨nu,λh5 h6=>nu⟩));exact c8;rfl) ?_ ?_;.simp
  rintro _ g' Y⟨rfl,rfl⟩;simp only[go_sem,n5,V,h,m5,m6,q3,os,gs];refine bB aa rfl c8 (by simp only[go_sem];refine ih (aI el) a7 el (l7 _) a7 (B+52) (((W&&bT (bG lo li) i 3 name)&&eP (nU p i lo li) es)&&fp (nU p i lo li) th) (((b'&&iz (bG lo li) p.f i 3 name 0)&&eP (mU p i lo li) es)&&fp (mU p i lo li) th) _ _ a7 a7 a7 ?_ ?_ ?_ ?_;exact(λj hj=>nt (ar j hj));exact(E1.mono hd I hs c d w (λj hj=>⟨nu,λh5 h6=>nu⟩));exact c8;rfl) ?_ ?_;.simp
  rintro _ g' Y⟨rfl,rfl⟩;simp only[go_sem,G,hw];refine ak (m-1) a7 ⟨k+1,(((W&&bT (bG lo li) i 3 name)&&eP (nU p i lo li) es)&&fp (nU p i lo li) th)&&fp (nU p i lo li) el,(((b'&&iz (bG lo li) p.f i 3 name 0)&&eP (mU p i lo li) es)&&fp (mU p i lo li) th)&&fp (mU p i lo li) el,a7,by rw[<-t];simp[nU,G1],by rw[<-u];simp[mU,G1],?_⟩;simp only[go_sem,q1,q2,q3,q7,q8];grind
 by_cases P:kind=6
 .rw[l4 k1,l4 k2,s5 P]at t u;simp only[go_sem,od,ox,gd,gx,w9 P,k1,k2,j6];refine bB aa rfl c8 (by simp only[go_sem];exact Bg (B:=B+52) (kind:=4) (args:=z es) (a:=W) (b:=b') a7 (λj hj=>nt (ar j hj)) (e1.mono λj hj=>⟨nu,λh5 h6=>nu⟩) (nt (o5)) (nt (o6)) name b9 r az) ?_ ?_;.simp
  rintro _ g' Y⟨rfl,rfl⟩;simp only[go_sem,n4,V,h,m1,m2,q2,ox,gx];refine bB aa rfl c8 (by simp only[go_sem];refine xS (i:=i) (g0:=g0) hd I r az (aO es) es (l7 _) a7 (B+52) (W&&bT (bG lo li) i 4 name) (b'&&iz (bG lo li) p.f i 4 name (z es)) _ _ a7 a7 ?_ ?_ ?_ ?_;exact(λj hj=>nt (ar j hj));exact(E1.mono hd I hs c d w (λj hj=>⟨nu,λh5 h6=>nu⟩)).v;exact c8;rfl) ?_ ?_;.simp
  rintro _ g' Y⟨rfl,rfl⟩;simp only[go_sem,n5,V,h,m5,m6,q3,os,gs];refine bB aa rfl c8 (by simp only[go_sem];refine ih (aI th) a7 th (l7 _) a7 (B+52) ((W&&bT (bG lo li) i 4 name)&&eP (nU p i lo li) es) ((b'&&iz (bG lo li) p.f i 4 name (z es))&&eP (mU p i lo li) es) _ _ a7 a7 a7 ?_ ?_ ?_ ?_;exact(λj hj=>nt (ar j hj));exact(E1.mono hd I hs c d w (λj hj=>⟨nu,λh5 h6=>nu⟩));exact c8;rfl) ?_ ?_;.simp
  rintro _ g' Y⟨rfl,rfl⟩;simp only[go_sem,n5,V,h,m5,m6,q3,os,gs];refine bB aa rfl c8 (by simp only[go_sem];refine ih (aI el) a7 el (l7 _) a7 (B+52) (((W&&bT (bG lo li) i 4 name)&&eP (nU p i lo li) es)&&fp (nU p i lo li) th) (((b'&&iz (bG lo li) p.f i 4 name (z es))&&eP (mU p i lo li) es)&&fp (mU p i lo li) th) _ _ a7 a7 a7 ?_ ?_ ?_ ?_;exact(λj hj=>nt (ar j hj));exact(E1.mono hd I hs c d w (λj hj=>⟨nu,λh5 h6=>nu⟩));exact c8;rfl) ?_ ?_;.simp
  rintro _ g' Y⟨rfl,rfl⟩;simp only[go_sem,G,hw];refine ak (m-1) a7 ⟨k+1,(((W&&bT (bG lo li) i 4 name)&&eP (nU p i lo li) es)&&fp (nU p i lo li) th)&&fp (nU p i lo li) el,(((b'&&iz (bG lo li) p.f i 4 name (z es))&&eP (mU p i lo li) es)&&fp (mU p i lo li) th)&&fp (mU p i lo li) el,a7,by rw[<-t];simp[nU,G1],by rw[<-u];simp[mU,G1],?_⟩;simp only[go_sem,q1,q2,q3,q7,q8];grind
 .rw[l4 k1,l4 k2,l4 P]at t u;simp only[go_sem,od,ox,gd,gx,k1,k2,P];refine bB aa rfl c8 (by simp only[go_sem];refine xS (i:=i) (g0:=g0) hd I r az (aO es) es (l7 _) a7 (B+52) W b' _ _ a7 a7 ?_ ?_ ?_ ?_;exact(λj hj=>nt (ar j hj));exact(E1.mono hd I hs c d w (λj hj=>⟨nu,λh5 h6=>nu⟩)).v;exact(nt (o5));exact(nt (o6))) ?_ ?_;.simp
  rintro _ g' Y⟨rfl,rfl⟩;simp only[go_sem,n5,V,h,m5,m6,q3,os,gs];refine bB aa rfl c8 (by simp only[go_sem];refine ih (aI th) a7 th (l7 _) a7 (B+52) (W&&eP (nU p i lo li) es) (b'&&eP (mU p i lo li) es) _ _ a7 a7 a7 ?_ ?_ ?_ ?_;exact(λj hj=>nt (ar j hj));exact(E1.mono hd I hs c d w (λj hj=>⟨nu,λh5 h6=>nu⟩));exact c8;rfl) ?_ ?_;.simp
  rintro _ g' Y⟨rfl,rfl⟩;simp only[go_sem,n5,V,h,m5,m6,q3,os,gs];refine bB aa rfl c8 (by simp only[go_sem];refine ih (aI el) a7 el (l7 _) a7 (B+52) ((W&&eP (nU p i lo li) es)&&fp (nU p i lo li) th) ((b'&&eP (mU p i lo li) es)&&fp (mU p i lo li) th) _ _ a7 a7 a7 ?_ ?_ ?_ ?_;exact(λj hj=>nt (ar j hj));exact(E1.mono hd I hs c d w (λj hj=>⟨nu,λh5 h6=>nu⟩));exact c8;rfl) ?_ ?_;.simp
  rintro _ g' Y⟨rfl,rfl⟩;simp only[go_sem,G,hw];refine ak (m-1) a7 ⟨k+1,((W&&eP (nU p i lo li) es)&&fp (nU p i lo li) th)&&fp (nU p i lo li) el,((b'&&eP (mU p i lo li) es)&&fp (mU p i lo li) th)&&fp (mU p i lo li) el,a7,by grind,by grind,?_⟩;simp only[go_sem,q1,q2,q3,q7,q8];grind
end
section
open Go Go.Am Go.Asm
open Go.Src (Th bb cQ bH bQ bG bT iz okE eP okS fp Ex Stm szE aO szS aI mN Da ck lh)
attribute[local congr]ite_cc
def Jd{p:Src.Prog}{i:Nat}{lo li:List Th}{g0:Nat->Nat}(r:∀s n,bG lo li s=S (4,n)->n<z p.f)(az:szP p<=1000000000){f:Src.Fn}(e:aI f.body<=1000000000){a b:Bool}{g:Nat->Nat}{ob:Obs}(hB:∀i,3000<=i->ob i=N)(E:ScE p i lo li g0 g ob)(hn:ob 5=S [bO a])(L:ob 6=S [bO b]):dS Tryz.prog 139 [fnV f,.one (.clo 140 (Ax g0))] g ob (λ_ g' Y=>NS (a&&fp (nU p i lo li) f.body) (b&&fp (mU p i lo li) f.body) g ob g' Y) (λ_ _ _=>False):=by
 refine hdM 3000 [5,6] Tryz.func139 rfl [] b9 hB λO bc s0 w0=>?_;unfold fnV fnD;simp only[go_sem];refine bB (f:=210) (bd:=[.ptr 3003 (nxC 253 (g 3003)) 0,.ptr 3005 (nxC 172 (g 3005)) 0,.ptr 3004 (nxC 301 (g 3004)) 0]) aa rfl c8 (by simp only[go_sem];refine Sj (i:=i) (g0:=g0) (lo:=lo) (li:=li) a8 a8 a8 r az (aI f.body) f.body (l7 _) e 3012 a b _ _ a8 a8 a8 ?_ ?_ ?_ ?_;exact(λj d=>nt (hB j a7));exact⟨⟨E.mono λj d=>⟨nu,λl x=>nu⟩,c8,c8,c8,c8⟩,c8,c8⟩;exact(by simp[upd];exact hn);exact(by simp[upd];exact L)) ?_ ?_;.simp
 rintro _ g' Y⟨rfl,rfl⟩;simp only[go_sem];refine⟨_,ai.refl _,?_⟩;simp only[go_sem];exact bS.use (λi hi l x=>⟨nu,nu⟩) (nu) (nu) c8 c8 (q:=[]) rfl
def oJ{H:Type}(c:Nat->H->Bool){l:List H}{k:Nat}{x:H}(h:l[k]?=S x):ck c 0 (l.take (k+1))=(ck c 0 (l.take k)&&c k x):=by have a:=(l9.1 h).1;rw[C1,h,I8,Src.FU,E5,UR a7,D2]
def Sk{o:cM}(p:Src.Prog)(bd:1<=z p.f)(az:szP p<=1000000000):cn Tryz.prog 4 o 90 [cK p] (·=ae (lh p:Nat)):=by
 refine hdG Tryz.func90 rfl [.tmp 2] λO bc s0 w0 g=>?_;obtain⟨X,hz⟩:∃X,lh p=X:=⟨_,rfl⟩;rw[hz];have G:=az;unfold szP at az;have P:cK p=.agg [aw (p.v.map λs=>[.str s]),aw (p.a.map arD),aw (p.f.map fnD)]:=rfl;rw[P];simp only[go_sem];refine cN aN rfl (by simp only[go_sem];rw[<-P];exact KN (λi hi=>nu) G) ?_ ?_;.simp
 rintro r g1 av⟨rfl,⟨M,oM,W,q⟩,fr⟩;have e1:=fr 1 (.inl a8);simp[upd]at e1;have ar:∀j,1100<=j->av j=N:=λj hj=>by rw[(fr j (.inr a7)).2];simp only[upd];grind
 clear fr;simp only[go_sem,e1.1,e1.2,j6];refine aF (λm K=>∃k:Nat,m+k=z p.f/\K.f 1=aj 1 (K.gen 1) 0/\K.f 3=.one (.mp 1013 (K.gen 1013) 208)/\K.f 5=aj 5 (K.gen 5) 0/\K.f 6=aj 6 (K.gen 6) 0/\K.f 20=.one (aw (p.f.map fnD))/\K.f 21=ae (z p.f)/\K.f 22=ae k/\K.obj 1=S (jK p)/\K.obj 5=S [bO (cQ [] (bH p)&&ck (mN p) 0 (p.f.take k))]/\K.obj 6=S [bO (ck (Da p) 0 (p.f.take k))]/\(∃M,K.obj 1013=S M/\kH M (bH p))/\∀j,2100<=j->K.obj j=N) (z p.f) ?_ ?_;.refine⟨0,rfl,?_⟩;simp only[go_sem,e1.1,e1.2,oM];refine⟨rfl,by simp[ck],c8,⟨M,rfl,W⟩,λj hj=>nt (ar j a7)⟩
 clear e1 ar oM W q M;rintro m f g1 av⟨k,hk,q1,q3,q5,q6,A,w,y,o1,o5,o6,⟨M,oM,W⟩,ar⟩;simp only at q1 q3 q5 q6 A w y o1 o5 o6 oM ar;have hw:=ah (k:=k) a7;by_cases af:k<z p.f
 .have Q:(k:Int)<(z p.f:Int):=a7;have bk:(0:Int)<=(k:Int):=a7;obtain⟨x,he⟩:=getq af;have e:=lZ (p:=p) (l8 he);unfold szP at e;have J:fnV x=.agg [bW x.name,aw (x.p.map λs=>[.str s]),aw (x.l.map λs=>[.str s]),bO x.word,aw (x.body.map smD)]:=rfl;have a1:fnD x=[.str x.name,.sl (x.p.map λs=>[.str s]),.sl (x.l.map λs=>[.str s]),.bool x.word,.sl (x.body.map smD)]:=rfl;simp only[go_sem,A,w,y,Q,bk,he,a1];refine cN aN rfl (by simp only[go_sem];rw[<-J];exact NR (λi hi=>nt (ar i hi)) a7) ?_ ?_;.simp
  rintro r g2 bn⟨rfl,⟨M2,I,U,ad⟩,fr⟩;have e5:=fr 5 (.inl a8);have e6:=fr 6 (.inl a8);have u:=fr 7 (.inl a8);have Z:=fr 8 (.inl a8);have e1:=fr 1 (.inl a8);have c:=fr 1013 (.inl a8);simp[upd]at e5 e6 u Z e1 c;rw[o5]at e5;rw[o6]at e6;rw[o1]at e1;rw[oM]at c;obtain⟨u5,h5⟩:∃v,(cQ [] (bH p)&&ck (mN p) 0 (List.take k p.f))=v:=⟨_,rfl⟩;obtain⟨E,h6⟩:∃v,ck (Da p) 0 (List.take k p.f)=v:=⟨_,rfl⟩;obtain⟨uf,L⟩:∃v,cQ [] (bQ x)=v:=⟨_,rfl⟩;rw[h5]at e5;rw[h6]at e6;rw[L];simp only[go_sem,e5.1,e5.2,q5];cases u5
  .simp only[go_sem,e5.2,e5.1,e6.1,u.1,Z.1,Z.2,u.2,e1.1,c.1,q1,q3,q5,q6];rw[<-J];refine cN aN rfl (by simp only[go_sem];rw[<-e5.1,<-e6.1,<-e1.1,<-u.1];refine Jd (p:=p) (i:=k) (lo:=bH p) (li:=bQ x) (g0:=upd g2 11 (nxC 246 (g2 11))) (a:=F) (b:=E) (λs n h=>Src.ZK h) az a7 ?_ ?_ ?_ ?_;exact abD;exact⟨by simp[upd];exact u.2,by simp[upd];exact e1.2,by simp[upd,c.1],λj hj=>rfl,⟨M,by simp[upd];grind,W⟩,⟨M2,by simp[upd];exact I,U⟩⟩;exact abK;exact(by simp[upd];exact e6.2)) ?_ ?_;.simp
   exact kt
  .simp only[go_sem,e5.2,e5.1,e6.1,u.1,Z.1,Z.2,u.2,e1.1,c.1,q1,q3,q5,q6];rw[<-J];refine cN aN rfl (by simp only[go_sem];rw[<-e5.1,<-e6.1,<-e1.1,<-u.1];refine Jd (p:=p) (i:=k) (lo:=bH p) (li:=bQ x) (g0:=upd g2 11 (nxC 246 (g2 11))) (a:=uf) (b:=E) (λs n h=>Src.ZK h) az a7 ?_ ?_ ?_ ?_;exact abD;exact⟨by simp[upd];exact u.2,by simp[upd];exact e1.2,by simp[upd,c.1],λj hj=>rfl,⟨M,by simp[upd];grind,W⟩,⟨M2,by simp[upd];exact I,U⟩⟩;exact abK;exact(by simp[upd];exact e6.2)) ?_ ?_;.simp
   exact kt
 have Q:¬(k:Int)<(z p.f:Int):=a7;obtain rfl:k=z p.f:=a7;rw[s6 (l7 _)]at o5 o6;unfold lh at hz;unfold jK kG at o1;simp only[s7,x7]at o1;obtain⟨u5,h5⟩:∃v,(cQ [] (bH p)&&ck (mN p) 0 p.f)=v:=⟨_,rfl⟩;obtain⟨E,h6⟩:∃v,ck (Da p) 0 p.f=v:=⟨_,rfl⟩;rw[h5]at o5 hz;rw[h6]at o6 hz;simp only[go_sem,w,y,Q,q5,o5];cases u5;.rw[s5 rfl]at hz;subst hz;exact gO
 rw[l4 b9]at hz;have t:IntKind.i64.wrap ((z p.f:Int)-1)=((z p.f-1:Nat):Int):=by rw[wrap_i64]<;>omega
 obtain⟨x,he⟩:=getq (show z p.f-1<z p.f by omega);have b':p.f.getLast?=S x:=by rw[List.getLast?_eq_getElem?,he]
 rw[b']at hz;simp only at hz;have d:(0:Int)<=((z p.f-1:Nat):Int):=a7;have al:((z p.f-1:Nat):Int)<(z p.f:Int):=a7;obtain⟨nm,ps,V,wd,body⟩:=x;simp only at hz;simp only[go_sem,q1,o1,j6,t,d,al,he,fnD,q6,o6];cases E;.rw[l4 b9]at hz;subst hz;exact gO
 by_cases H:nm=[109,97,105,110];case neg=>rw[l4 (λh=>H h.2.1)]at hz;subst hz;simp only[go_sem,H]
 by_cases bz:0<z ps;.have B:(0:Int)<(z ps:Int):=a7;rw[l4 (λh=>by grind)]at hz;subst hz;simp only[go_sem,w9 H,j6,B]
 have B:¬(0:Int)<(z ps:Int):=a7;have d':ps=[]:=P3.1 a7;cases wd;.rw[s5 ⟨rfl,H,d',rfl⟩]at hz;subst hz;simp only[go_sem,w9 H,j6,B]
 .rw[l4 (λh=>by grind)]at hz;subst hz;simp only[go_sem,w9 H,j6,B]
end
section
open Go Go.Am Go.Asm
open Go.Src (Ex Stm szE aO szS aI dD jm eQ dL jz dF)
attribute[local congr]ite_cc
section
def Ey(M:List C)(fs:List Src.Fn):Prop:=∀s:Str,mget M (.str s)=(dD fs s).map λf=>.d (.iptr (fnD f))
def KO(gr gm:Nat):List C:=[.mp 1010 gm 208,.d .nilf,.d (.fn 211),.d (.fn 211),.clo (213+1000000) [.ptr 1012 gr 0],.clo (214+1000000) [.ptr 1012 gr 0],.d (.fn 211),.clo (215+1000000) [.ptr 1012 gr 0],.clo (212+1000000) [.ptr 1012 gr 0],.clo (212+1000000) [.ptr 1012 gr 0],.clo (212+1000000) [.ptr 1012 gr 0]]
structure Cv (fs:List Src.Fn) (gr gm:Nat) (g:Nat->Nat) (ob:Obs):Prop where
 or:ob 1012=some (KO gr gm)om:∃M,ob 1010=some M/\Ey M fs
 gr:g 1012=gr
 gm:g 1010=gm
variable{kind op num:Int}{name:Str}{kids:List Ex}{fs:List Src.Fn}{K:St->Prop}{args:Array Operand}{tys:Array TypeId}{xs:List AV}{gr gm:Nat}
def Cv.mono{gr gm B}{g g'}{ob Y}(h:Cv fs gr gm g ob)(hB:2000<=B)(a:∀i,i<B->g' i=g i/\Y i=ob i):Cv fs gr gm g' Y where
 or:=by rw[(a 1012 a7).2];exact h.or
 om:=by rw[(a 1010 a7).2];exact h.om
 gr:=by rw[(a 1012 a7).1];exact h.gr
 gm:=by rw[(a 1010 a7).1];exact h.gm
def mP(fs:List Src.Fn)(gr gm:Nat)(f:FuncId)(xs:List AV)(r:AV):Prop:=∀(B:Nat)(g:Nat->Nat)(ob:Obs),2000<=B->(∀i,B<=i->ob i=N)->Cv fs gr gm g ob->dS Tryz.prog f (aj 1012 gr 0::xs) g ob (λq a Y=>a=g/\Y=ob/\q=r) (λ_ _ _=>False)
section
variable{O:Bs}{rd:Option Nat}{a:St->Am.Loc->List Deferred->World->Prop}
def dq{c}{d}(a6:bA O a){o}{s}{k:Box K}{f}(ho:o.op=.call ⟨.value (.func f),args,tys⟩){r}(V:mP fs gr gm f xs r)(I:args.toList.map s.ev=aj 1012 gr 0::xs) b(hB:2000<=b)(bl:∀i,b<=i->s.obj i=N)(E:Cv fs gr gm s.gen s.obj)(g:K (s.put o.dst r)):bE (spF Tryz.prog rd O a d c) o s k:=by refine cN (L:=λ_ _ _=>False) a6 ho (by rw[I];exact V b s.gen s.obj hB bl E) (λ_ _ _ h=>h.elim) ?_;simp_all
def nz{c}{d}(a6:bA O a){o}{s}{k:Box K}{t:Nat}(ho:o.op=.call ⟨.value (.tmp t),args,tys⟩){f}{r}(e:s.f t=.one (.clo (f+1000000) [.ptr 1012 gr 0]))(V:mP fs gr gm f xs r)(I:args.toList.map s.ev=xs) b(hB:2000<=b)(bl:∀i,b<=i->s.obj i=N)(E:Cv fs gr gm s.gen s.obj)(j:K (s.put o.dst r)):bE (spF Tryz.prog rd O a d c) o s k:=by refine tJ (L:=λ_ _ _=>False) a6 ho e (by rw[I];exact V b s.gen s.obj hB bl E) (λ_ _ _ h=>h.elim) ?_;simp_all
end
def Hf e:aR Tryz.prog 211 [exV e] (·=ae 1):=by obtain⟨kind,op,num,name,kids⟩:=e;refine hdP Tryz.func211 rfl [2] λg=>?_;unfold exV;simp only[exD,s7,x7];exact gO
variable{fs:List Src.Fn}{gr gm:Nat}
def Hg(h:mP fs gr gm 217 [ea kids,ae 2] (bv (dL fs 2 kids))):mP fs gr gm 212 [exV (.mk kind op num name kids)] (ae (if dL fs 2 kids then 2 else 0)):=by
 intro B g ob hB hf E;refine hdM B [] Tryz.func212 rfl [.tmp 4] b9 hf λO bc s0 w0=>?_;unfold exV;simp only[exD,aL,s7,x7];simp only[go_sem];refine dq aa rfl h c8 (B+20) a7 (λi hi=>nt (hf i a7)) (E.mono hB λi hi=>⟨nu,nu⟩) ?_;simp only[go_sem];cases dL fs 2 kids;.simp only[go_sem];exact gJ
 .simp only[go_sem];exact nn
def Sl(h:mP fs gr gm 217 [ea kids,ae 1] (bv (dL fs 1 kids))):mP fs gr gm 213 [exV (.mk kind op num name kids)] (ae (if dL fs 1 kids then 1 else 0)):=by intro B g ob hB hf E;refine hdM B [] Tryz.func213 rfl [.tmp 4] b9 hf λO bc s0 w0=>?_;unfold exV;simp only[exD,aL,s7,x7];simp only[go_sem];exact la
def afp(h:mP fs gr gm 217 [ea kids,ae 1] (bv (dL fs 1 kids))):mP fs gr gm 215 [exV (.mk kind op num name kids)] (ae (if dL fs 1 kids then(if op=14\/op=15 then 2 else 1)else 0)):=by
 intro B g ob hB hf E;refine hdM B [] Tryz.func215 rfl [.tmp 4] b9 hf λO bc s0 w0=>?_;unfold exV;simp only[exD,aL,s7,x7];simp only[go_sem];refine dq aa rfl h c8 (B+20) a7 (λi hi=>nt (hf i a7)) (E.mono hB λi hi=>⟨nu,nu⟩) ?_;simp only[go_sem];cases dL fs 1 kids;.simp only[go_sem];exact gJ
 by_cases U:op=14;.rw[s5 rfl,s5 (.inl U)];simp only[go_sem,w9 U];exact nn
 by_cases Z:op=15;.rw[s5 rfl,s5 (.inr Z)];simp only[go_sem,U,w9 Z];exact nn
 .rw[s5 rfl,l4 a7];simp only[go_sem,U,Z];refine⟨_,ai.refl _,?_⟩;simp only[go_sem];exact bS.nil (λi hi=>⟨nu,nu⟩) ⟨_,_,rfl,.one (.d _),rfl⟩ ⟨rfl,rfl,rfl⟩
def Xp(h:mP fs gr gm 217 [ea kids,ae 1] (bv (dL fs 1 kids))):mP fs gr gm 214 [exV (.mk kind op num name kids)] (ae (if jm fs name&&dL fs 1 kids then 1 else 0)):=by
 intro B g ob hB hf E;refine hdM B [] Tryz.func214 rfl [.tmp 4] b9 hf λO bc s0 w0=>?_;have j:=E;obtain⟨or,⟨M,om,W⟩,r,u⟩:=j;have a:∀k,(1012=B+k)=False:=λk=>by grind
 have b:∀k,(1010=B+k)=False:=λk=>by grind
 have o:=W name;unfold exV;unfold KO at or;unfold jm;simp only[exD,aL,s7,x7];simp only[go_sem];refine aZ c9 ?_;cases e:dD fs name with|none=>rw[e]at o;simp only[G7]at o;simp only[go_sem,a,b,or,r,u,om,o];simp only[B5,B4,B1];exact gJ;|some x=>
 obtain⟨n,s,V,l,body⟩:=x;rw[e]at o;simp only[A5,fnD]at o;cases l;.simp only[go_sem,a,b,or,r,u,om,o,C3];simp only[B5,B4,B1];exact gJ
 .simp only[go_sem,a,b,or,r,u,om,o,C3];exact la
end
variable{fs:List Src.Fn}{gr gm:Nat}
def NU{kind op num}{name}{kids}(h:∀t:Int,mP fs gr gm 217 [ea kids,ae t] (bv (dL fs t kids))):mP fs gr gm 235 [exV (.mk kind op num name kids)] (ae (eQ fs (.mk kind op num name kids))):=by
 intro B g ob hB hf E;refine hdM B [] Tryz.func235 rfl [.tmp 4] b9 hf λO bc s0 w0=>?_;have b:=E;obtain⟨or,⟨M,om,W⟩,r,u⟩:=b;have e:∀k,(1012=B+k)=False:=λk=>by grind
 have b5:exV (.mk kind op num name kids)=.agg [ag kind,ag op,.d (.int .u32 num),bW name,aw (kids.map exD)]:=by unfold exV;simp only[exD,aL,s7,x7]
 rw[b5];unfold KO at or;obtain⟨X,a⟩:∃X,eQ fs (.mk kind op num name kids)=X:=⟨_,rfl⟩;rw[a];rw[eQ]at a;by_cases U:kind<1;.rw[s5 (.inl U)]at a;subst a;simp only[go_sem,w9 U];exact gJ
 by_cases Z:9<kind;.rw[s5 (.inr Z)]at a;subst a;simp only[go_sem,U,w9 Z];exact gJ
 rw[l4 a7]at a;simp only[go_sem,U,Z];refine aZ c9 ?_;obtain h|h|h|h|h|h|h|h|h:kind=1\/kind=2\/kind=3\/kind=4\/kind=5\/kind=6\/kind=7\/kind=8\/kind=9:=a7;all_goals subst h
 all_goals simp only[go_sem,e,or,r]
 .rw[s5 a7]at a;subst a;refine vJ aa rfl c8 ab7 c8 ?_;rintro _ rfl;simp only[go_sem];refine⟨_,ai.refl _,?_⟩;simp only[go_sem];exact bS.nil (λi hi=>⟨nu,nu⟩) ⟨_,_,rfl,.one (.d _),rfl⟩ ⟨rfl,rfl,rfl⟩
 .rw[s5 a7]at a;subst a;refine vJ aa rfl c8 ab7 c8 ?_;rintro _ rfl;simp only[go_sem];refine⟨_,ai.refl _,?_⟩;simp only[go_sem];exact bS.nil (λi hi=>⟨nu,nu⟩) ⟨_,_,rfl,.one (.d _),rfl⟩ ⟨rfl,rfl,rfl⟩
 .rw[l4 a7,s5 a7]at a;subst a;refine nz aa rfl c8 (Sl (h 1)) abr (B+30) a7 (λi hi=>nt (hf i a7)) (E.mono hB λi hi=>⟨nu,nu⟩) ?_;simp only[go_sem];refine⟨_,ai.refl _,?_⟩;simp only[go_sem];exact bS.nil (λi hi=>⟨nu,nu⟩) ⟨_,_,rfl,.one (.d _),rfl⟩ ⟨rfl,rfl,rfl⟩
 .rw[l4 a7,l4 a7,s5 a7]at a;subst a;refine nz aa rfl c8 (Xp (h 1)) abr (B+30) a7 (λi hi=>nt (hf i a7)) (E.mono hB λi hi=>⟨nu,nu⟩) ?_;simp only[go_sem];refine⟨_,ai.refl _,?_⟩;simp only[go_sem];exact bS.nil (λi hi=>⟨nu,nu⟩) ⟨_,_,rfl,.one (.d _),rfl⟩ ⟨rfl,rfl,rfl⟩
 .rw[s5 a7]at a;subst a;refine vJ aa rfl c8 ab7 c8 ?_;rintro _ rfl;simp only[go_sem];refine⟨_,ai.refl _,?_⟩;simp only[go_sem];exact bS.nil (λi hi=>⟨nu,nu⟩) ⟨_,_,rfl,.one (.d _),rfl⟩ ⟨rfl,rfl,rfl⟩
 .rw[l4 a7,l4 a7,l4 a7,s5 a7]at a;subst a;refine nz aa rfl c8 (afp (h 1)) abr (B+30) a7 (λi hi=>nt (hf i a7)) (E.mono hB λi hi=>⟨nu,nu⟩) ?_;simp only[go_sem];refine⟨_,ai.refl _,?_⟩;simp only[go_sem];exact bS.nil (λi hi=>⟨nu,nu⟩) ⟨_,_,rfl,.one (.d _),rfl⟩ ⟨rfl,rfl,rfl⟩
 .rw[l4 a7,l4 a7,l4 a7,l4 a7]at a;subst a;refine nz aa rfl c8 (Hg (h 2)) abr (B+30) a7 (λi hi=>nt (hf i a7)) (E.mono hB λi hi=>⟨nu,nu⟩) ?_;simp only[go_sem];refine⟨_,ai.refl _,?_⟩;simp only[go_sem];exact bS.nil (λi hi=>⟨nu,nu⟩) ⟨_,_,rfl,.one (.d _),rfl⟩ ⟨rfl,rfl,rfl⟩
 .rw[l4 a7,l4 a7,l4 a7,l4 a7]at a;subst a;refine nz aa rfl c8 (Hg (h 2)) abr (B+30) a7 (λi hi=>nt (hf i a7)) (E.mono hB λi hi=>⟨nu,nu⟩) ?_;simp only[go_sem];refine⟨_,ai.refl _,?_⟩;simp only[go_sem];exact bS.nil (λi hi=>⟨nu,nu⟩) ⟨_,_,rfl,.one (.d _),rfl⟩ ⟨rfl,rfl,rfl⟩
 .rw[l4 a7,l4 a7,l4 a7,l4 a7]at a;subst a;refine nz aa rfl c8 (Hg (h 2)) abr (B+30) a7 (λi hi=>nt (hf i a7)) (E.mono hB λi hi=>⟨nu,nu⟩) ?_;simp only[go_sem];refine⟨_,ai.refl _,?_⟩;simp only[go_sem];exact bS.nil (λi hi=>⟨nu,nu⟩) ⟨_,_,rfl,.one (.d _),rfl⟩ ⟨rfl,rfl,rfl⟩
def acg:∀al l t,aO l<=al->al<=1000000000->mP fs gr gm 217 [ea l,ae t] (bv (dL fs t l)):=by intro al;induction al using Nat.strongRecOn with|ind al v=>
 intro l t an L B g ob hB hf E;refine hdM B [] Tryz.func217 rfl [.tmp 6] b9 hf λO bc s0 w0=>?_;obtain⟨X,w⟩:∃X,dL fs t l=X:=⟨_,rfl⟩;rw[w];have U:=Src.PS l;unfold ea;simp only[go_sem,j6];refine aF (λm K=>∃k:Nat,m+k=z l/\dL fs t (l.drop k)=X/\K.f 0=aj 1012 gr 0/\K.f 2=ae t/\K.f 9=.one (aw (l.map exD))/\K.f 10=ae (z l)/\K.f 11=ae k/\(∀j,j<B->K.gen j=g j/\K.obj j=ob j)/\(∀j,B+21<=j->K.obj j=N)) (z l) ?_ ?_;.refine⟨0,rfl,by grind,?_⟩;simp only[go_sem];grind
 rintro m f V W⟨k,hk,b,n,a,G,I,A,fr,ar⟩;simp only at n a G I A fr ar;by_cases r:k<z l;case neg=>have Q:¬(k:Int)<(z l:Int):=a7;obtain rfl:k=z l:=a7;rw[E9,dL]at b;exact hO
 have Q:(k:Int)<(z l:Int):=a7;have bk:(0:Int)<=(k:Int):=a7;obtain⟨e,o⟩:=getq r;have H:=Src.vu (l8 o);have Z:l.drop k=e::l.drop (k+1):=by rw[B8 r,(l9.1 o).2]
 rw[Z,dL]at b;obtain⟨kind,op,num,name,kids⟩:=e;rw[szE]at H;have s:=NU (kind:=kind) (op:=op) (num:=num) (name:=name) λt=>v (aO kids) a7 kids t (l7 _) a7;obtain⟨y,J⟩:∃y,eQ fs (.mk kind op num name kids)=y:=⟨_,rfl⟩;rw[J]at b s;have u:exD (.mk kind op num name kids)=[.int .i64 kind,.int .i64 op,.int .u32 num,.str name,.sl (kids.map exD)]:=by simp only[exD,aL]
 simp only[go_sem,n,G,I,A,Q,bk,o,u];refine dq aa rfl s (by simp only[go_sem,exV,u,s7,x7]) (B+21) a7 (λi hi=>nt (ar i a7)) ((E.mono hB fr).mono hB λi hi=>⟨nu,nu⟩) ?_;by_cases Y:y=t;.rw[E4 Y,A7]at b;simp only[go_sem,a,w9 Y,A,ah (k:=k) a7];refine ak (m-1) a7 ⟨k+1,a7,b,?_⟩;simp only[go_sem,n,a,G,I];grind
 .rw[G0 Y,B5]at b;subst b;simp only[go_sem,a,Y];exact lk
end
section
open Go Go.Am Go.Asm
open Go.Src (Ex Stm szE aO szS aI dD jm eQ dL jz dF oY cW)
attribute[local congr]ite_cc
section
variable{fs:List Src.Fn}{gr gm:Nat}
def Je:∀(al:Nat)(e:Ex),szE e<=al->al<=1000000000->mP fs gr gm 216 [exV e] (bv (jz fs e)):=by intro al;induction al using Nat.strongRecOn with|ind al ih=>
 intro e H hN B g ob hB hf E;refine hdM B [] Tryz.func216 rfl [.tmp 4] b9 hf λO bc s0 w0=>?_;have E1:=E;obtain⟨or,⟨M,om,W⟩,r,u⟩:=E1;unfold KO at or;have U:∀k,(1012=B+k)=False:=λk=>by grind
 have Y:∀k,(1010=B+k)=False:=λk=>by grind
 obtain⟨kind,op,num,name,kids⟩:=e;obtain⟨X,a⟩:∃X,jz fs (.mk kind op num name kids)=X:=⟨_,rfl⟩;rw[a];rw[jz]at a;rw[szE]at H;have b4:=Src.PS kids;have o:=W name;have b5:exV (.mk kind op num name kids)=.agg [ag kind,ag op,.d (.int .u32 num),bW name,aw (kids.map exD)]:=by unfold exV;simp only[exD,aL,s7,x7]
 rw[b5];by_cases L:kind=4;.rw[s5 L]at a;simp only[go_sem,w9 L];refine si (B:=B) aP mixed aa [B+5] [([0],[0],[],F),([13],[0],[],F),([14],[0],[],F),([15],[0],[],F),([3],[0],[],F),([17],[0],[],F),([16,18],[0],[],F),([19],[0],[],F),([12],[0],[],F),([12],[0],[],F),([],[],[0],F),([5,20],[],[0],F),([21],[],[],T)] 1 rfl c9 rfl b9 ?_;simp only[go_sem];cases ad:dD fs name with
 |none=>
  rw[ad]at o a;simp only[G7]at o;simp only[D0,B5]at a;subst a;iterate 10 (refine aX (λ_ _ _ _ J=>by simp only[go_sem,U,Y,or,r,u,om,o,D0]at J|-;exact J) ?_)
  (refine dJ Z4 ?_);(apply lJ;(focus simp);(focus (intro fa ga oa l J;simp only[go_sem]at J|-;exact J)));apply dQ;intro l t;simp only[go_sem];refine t _ ?_;clear t l;simp only[go_sem];refine⟨_,ai.refl _,?_⟩;simp only[go_sem];exact bS.nil (λi hi=>⟨nu,nu⟩) (q:=[bv F]) ⟨_,_,rfl,.one (.d _),rfl⟩ ⟨rfl,rfl,rfl⟩;|some x=>
  obtain⟨nm,ps,V,wd,body⟩:=x;rw[ad]at o a;simp only[A5,fnD]at o;simp only[C3,A7]at a;iterate 10 (refine aX (λ_ _ _ _ J=>by simp only[go_sem,U,Y,or,r,u,om,o,C3]at J|-;exact J) ?_)
  (refine dJ Z4 ?_);(apply lJ;(focus simp);(focus (intro fa ga oa l J;simp only[go_sem]at J|-;exact J)));apply dQ;intro l t;simp only[go_sem];refine t _ ?_;clear t l;simp only[go_sem,j6];exact kp
 rw[l4 L,A7]at a;simp only[go_sem,L,j6];exact kp
end
variable{fs:List Src.Fn}{gr gm:Nat}
def Hh:∀(al:Nat)(l:List Stm),aI l<=al->al<=1000000000->mP fs gr gm 143 [eU l] (bv (cW fs l)):=by intro al;induction al using Nat.strongRecOn with|ind al ih=>
 intro l an hN B g ob hB hf E;refine hdM B [] Tryz.func143 rfl [.tmp 4] b9 hf λO bc s0 w0=>?_;have n1:∀k,(1012=B+k)=False:=λk=>by grind
 have n2:∀k,(1010=B+k)=False:=λk=>by grind
 obtain⟨X,hz⟩:∃X,cW fs l=X:=⟨_,rfl⟩;rw[hz];have b4:=Src.PT l;unfold eU;simp only[go_sem,j6];refine aF (λm K=>∃k:Nat,m+k=z l/\cW fs (l.drop k)=X/\K.f 0=aj 1012 gr 0/\K.f 11=.one (aw (l.map smD))/\K.f 12=ae (z l)/\K.f 13=ae k/\(∀j,j<B->K.gen j=g j/\K.obj j=ob j)/\(∀j,B+57<=j->K.obj j=N)) (z l) ?_ ?_;.refine⟨0,rfl,by grind,?_⟩;simp only[go_sem];grind
 rintro m f g1 av⟨k,hk,b,q0,G,I,A,fr,ar⟩;simp only at q0 G I A fr ar;have E1:=E.mono hB fr;obtain⟨or,⟨M,om,W⟩,r,u⟩:=E1;unfold KO at or;have hw:=ah (k:=k) a7;by_cases af:k<z l;case neg=>have Q:¬(k:Int)<(z l:Int):=a7;obtain rfl:k=z l:=a7;rw[E9,cW]at b;exact hO
 have Q:(k:Int)<(z l:Int):=a7;have bk:(0:Int)<=(k:Int):=a7;obtain⟨e,he⟩:=getq af;have H:=Src.nd (l8 he);have Z:l.drop k=e::l.drop (k+1):=by rw[B8 af,(l9.1 he).2]
 rw[Z,cW]at b;obtain⟨kind,name,es,th,el⟩:=e;rw[oY]at b;rw[szS]at H;have bl:=Src.PS es;have o:=W name;have hE:smD (.mk kind name es th el)=[.int .i64 kind,.str name,.sl (es.map exD),.sl (th.map smD),.sl (el.map smD)]:=by simp only[smD,aL,dy]
 have L:=ih (aI th) a7 th (l7 _) a7;have a6:=ih (aI el) a7 el (l7 _) a7;obtain⟨yt,Y⟩:∃y,cW fs th=y:=⟨_,rfl⟩;obtain⟨ye,bf⟩:∃y,cW fs el=y:=⟨_,rfl⟩;rw[Y]at b L;rw[bf]at b a6;by_cases h4:kind=6;.rw[s5 h4]at b;simp only[go_sem,q0,G,I,A,Q,bk,he,hE,w9 h4];refine si (B:=B) aP mixed aa [B+7] [([0],[0],[],F),([21],[0],[],F),([22],[0],[],F),([23],[0],[],F),([6],[0],[],F),([25],[0],[],F),([24,26],[0],[],F),([27],[0],[],F),([20],[0],[],F),([20],[0],[],F),([],[],[0],F),([7,28],[],[0],F),([29],[],[],T)] 1 rfl c9 rfl b9 ?_;simp only[go_sem];cases ad:dD fs name with
 |none=>
  rw[ad]at o b;simp only[G7]at o;simp only[D0,B5]at b;subst b;iterate 10 (refine aX (λ_ _ _ _ J=>by simp only[go_sem,q0,n1,n2,or,r,u,om,o,D0]at J|-;exact J) ?_)
  (refine dJ Z4 ?_);(apply lJ;(focus simp);(focus (intro fa ga oa K' J;simp only[go_sem]at J|-;exact J)));apply dQ;intro K' a';simp only[go_sem];refine a' _ ?_;clear a' K';exact dM;|some x=>
  obtain⟨nm,ps,V,wd,body⟩:=x;rw[ad]at o b;simp only[A5,fnD]at o;simp only[C3,A7]at b;iterate 10 (refine aX (λ_ _ _ _ J=>by simp only[go_sem,q0,n1,n2,or,r,u,om,o,C3]at J|-;exact J) ?_)
  (refine dJ Z4 ?_);(apply lJ;(focus simp);(focus (intro fa ga oa K' J;simp only[go_sem]at J|-;exact J)));apply dQ;intro K' a';simp only[go_sem];refine a' _ ?_;clear a' K';simp only[go_sem,n1,n2,j6];refine aF (λm K=>∃n:Nat,m+n=z es/\(dF fs (es.drop n)&&(yt&&ye)&&cW fs (l.drop (k+1)))=X/\K.f 0=aj 1012 gr 0/\K.f 6=aj (B+6) (K.gen (B+6)) 0/\K.f 11=.one (aw (l.map smD))/\K.f 12=ae (z l)/\K.f 13=ae k/\K.f 33=.one (aw (es.map exD))/\K.f 34=ae (z es)/\K.f 35=ae n/\K.obj (B+6)=S [ag kind,bW name,aw (es.map exD),aw (th.map smD),aw (el.map smD)]/\(∀j,j<B->K.gen j=g j/\K.obj j=ob j)/\(∀j,B+57<=j->K.obj j=N)) (z es) ?_ ?_;.refine⟨0,rfl,by grind,?_⟩;simp only[go_sem,q0,G,I,A,n1,n2];grind
  clear q0 G I A fr ar or om W o r u;rintro m2 f g1 av⟨n,hn,a,q0,q6,G,I,A,az,P,U,o6,fr,ar⟩;simp only at q0 q6 G I A az P U o6 fr ar;have b7:=ah (k:=n) a7;by_cases bs:n<z es;.exact ra
  have h:¬(n:Int)<(z es:Int):=a7;obtain rfl:n=z es:=a7;rw[E9,dF,A7]at a;simp only[go_sem,q0,q6,P,U,h,o6];refine dq aa rfl L c8 (B+57) a7 (λi hi=>nt (ar i a7)) ((E.mono hB fr).mono hB λi hi=>⟨nu,nu⟩) ?_;cases yt;.simp only[B5]at a;subst a;exact dM
  simp only[go_sem,q0,q6,o6];refine dq aa rfl a6 c8 (B+57) a7 (λi hi=>nt (ar i a7)) ((E.mono hB fr).mono hB λi hi=>⟨nu,nu⟩) ?_;cases ye;.simp only[B5,D3]at a;subst a;exact dM
  simp only[A7]at a;simp only[go_sem,A,hw];refine ak (m-1) a7 ⟨k+1,a7,a,?_⟩;simp only[go_sem,q0,G,I];grind
 rw[l4 h4,A7]at b;simp only[go_sem,q0,G,I,A,Q,bk,he,hE,h4,j6];refine aF (λm K=>∃n:Nat,m+n=z es/\(dF fs (es.drop n)&&(yt&&ye)&&cW fs (l.drop (k+1)))=X/\K.f 0=aj 1012 gr 0/\K.f 6=aj (B+6) (K.gen (B+6)) 0/\K.f 11=.one (aw (l.map smD))/\K.f 12=ae (z l)/\K.f 13=ae k/\K.f 33=.one (aw (es.map exD))/\K.f 34=ae (z es)/\K.f 35=ae n/\K.obj (B+6)=S [ag kind,bW name,aw (es.map exD),aw (th.map smD),aw (el.map smD)]/\(∀j,j<B->K.gen j=g j/\K.obj j=ob j)/\(∀j,B+57<=j->K.obj j=N)) (z es) ?_ ?_;.refine⟨0,rfl,by grind,?_⟩;simp only[go_sem,q0,G,I,A,n1,n2];grind
 clear q0 G I A fr ar or om W o r u;rintro m2 f g1 av⟨n,hn,a,q0,q6,G,I,A,az,P,U,o6,fr,ar⟩;simp only at q0 q6 G I A az P U o6 fr ar;have b7:=ah (k:=n) a7;by_cases bs:n<z es;.exact ra
 have h:¬(n:Int)<(z es:Int):=a7;obtain rfl:n=z es:=a7;rw[E9,dF,A7]at a;simp only[go_sem,q0,q6,P,U,h,o6];refine dq aa rfl L c8 (B+57) a7 (λi hi=>nt (ar i a7)) ((E.mono hB fr).mono hB λi hi=>⟨nu,nu⟩) ?_;cases yt;.simp only[B5]at a;subst a;exact dM
 simp only[go_sem,q0,q6,o6];refine dq aa rfl a6 c8 (B+57) a7 (λi hi=>nt (ar i a7)) ((E.mono hB fr).mono hB λi hi=>⟨nu,nu⟩) ?_;cases ye;.simp only[B5,D3]at a;subst a;exact dM
 simp only[A7]at a;simp only[go_sem,A,hw];refine ak (m-1) a7 ⟨k+1,a7,a,?_⟩;simp only[go_sem,q0,G,I];grind
end
section
open Go Go.Am Go.Asm
open Go.Src (Ex Stm szE aO szS aI dD jm eQ dL lj bU)
attribute[local congr]ite_cc
section
variable{fs:List Src.Fn}{gr gm:Nat}
def Hi(b2:Src.Fn):∀(al:Nat)(l:List Stm),aI l<=al->al<=1000000000->mP fs gr gm 144 [fnV b2,eU l] (bv (bU fs b2.word l)):=by obtain⟨v,U,az,w,h⟩:=b2;intro al;induction al using Nat.strongRecOn with|ind al ih=>
 intro l an hN B g ob hB hf E;refine hdM B [] Tryz.func144 rfl [.tmp 6] b9 hf λO bc s0 w0=>?_;have n1:∀k,(1012=B+k)=False:=λk=>by grind
 have n2:∀k,(1010=B+k)=False:=λk=>by grind
 have J:fnV ⟨v,U,az,w,h⟩=.agg [bW v,aw (U.map λs=>[.str s]),aw (az.map λs=>[.str s]),bO w,aw (h.map smD)]:=rfl;rw[J]at ih|-;simp only at ih|-;obtain⟨X,hz⟩:∃X,bU fs w l=X:=⟨_,rfl⟩;rw[hz];have b4:=Src.PT l;unfold eU;simp only[go_sem,j6];refine aF (λm K=>∃k:Nat,m+k=z l/\bU fs w (l.drop k)=X/\K.f 0=aj 1012 gr 0/\K.f 4=aj (B+4) (K.gen (B+4)) 0/\K.f 10=.one (aw (l.map smD))/\K.f 11=ae (z l)/\K.f 12=ae k/\K.obj (B+4)=S [bW v,aw (U.map λs=>[.str s]),aw (az.map λs=>[.str s]),bO w,aw (h.map smD)]/\(∀j,j<B->K.gen j=g j/\K.obj j=ob j)/\(∀j,B+65<=j->K.obj j=N)) (z l) ?_ ?_;.refine⟨0,rfl,by grind,?_⟩;simp only[go_sem];grind
 rintro m f g1 av⟨k,hk,b,q0,q4,G,I,A,o4,fr,ar⟩;simp only at q0 q4 G I A o4 fr ar;have E1:=E.mono hB fr;obtain⟨or,⟨M,om,W⟩,r,u⟩:=E1;unfold KO at or;have hw:=ah (k:=k) a7;by_cases af:k<z l;case neg=>have Q:¬(k:Int)<(z l:Int):=a7;obtain rfl:k=z l:=a7;rw[E9,bU]at b;exact hO
 have Q:(k:Int)<(z l:Int):=a7;have bk:(0:Int)<=(k:Int):=a7;obtain⟨e,he⟩:=getq af;have H:=Src.nd (l8 he);have Z:l.drop k=e::l.drop (k+1):=by rw[B8 af,(l9.1 he).2]
 rw[Z,bU]at b;obtain⟨kind,name,es,th,el⟩:=e;rw[lj]at b;rw[szS]at H;have bl:=Src.PS es;have o:=W name;have hE:smD (.mk kind name es th el)=[.int .i64 kind,.str name,.sl (es.map exD),.sl (th.map smD),.sl (el.map smD)]:=by simp only[smD,aL,dy]
 have L:=ih (aI th) a7 th (l7 _) a7;have a6:=ih (aI el) a7 el (l7 _) a7;have c:=λt=>acg (fs:=fs) (gr:=gr) (gm:=gm) (aO es) es t (l7 _) a7;obtain⟨yt,Y⟩:∃y,bU fs w th=y:=⟨_,rfl⟩;obtain⟨ye,bf⟩:∃y,bU fs w el=y:=⟨_,rfl⟩;rw[Y]at b L;rw[bf]at b a6;simp only[go_sem,q0,q4,G,I,A,Q,bk,he,hE];by_cases k4:kind=4
 .subst k4;rw[s5 a7]at b;simp only[show ((4:Int)==6)=F from rfl,show ((4:Int)==7)=F from rfl,B5,I4,A7]at b;try (simp only[go_sem,q0,q4,o4])
  refine dq aa rfl (c 2) c8 (B+65) a7 (λi hi=>nt (ar i a7)) ((E.mono hB fr).mono hB λi hi=>⟨nu,nu⟩) ?_;cases a:dL fs 2 es;.exact Y2
  rw[a]at b;simp only[A7]at b;simp only[go_sem,q0,q4,o4];refine dq aa rfl L c8 (B+65) a7 (λi hi=>nt (ar i a7)) ((E.mono hB fr).mono hB λi hi=>⟨nu,nu⟩) ?_;cases yt;.exact hx
  simp only[go_sem,q0,q4,o4];refine dq aa rfl a6 c8 (B+65) a7 (λi hi=>nt (ar i a7)) ((E.mono hB fr).mono hB λi hi=>⟨nu,nu⟩) ?_;cases ye;.exact hx
  simp only[A7]at b;simp only[go_sem,A,hw];refine ak (m-1) a7 ⟨k+1,a7,b,?_⟩;simp only[go_sem,q0,q4,G,I,o4];grind
 by_cases k5:kind=5
 .subst k5;rw[s5 a7]at b;simp only[show ((5:Int)==6)=F from rfl,show ((5:Int)==7)=F from rfl,B5,I4,A7]at b;try (simp only[go_sem,q0,q4,o4])
  refine dq aa rfl (c 2) c8 (B+65) a7 (λi hi=>nt (ar i a7)) ((E.mono hB fr).mono hB λi hi=>⟨nu,nu⟩) ?_;cases a:dL fs 2 es;.exact Y2
  rw[a]at b;simp only[A7]at b;simp only[go_sem,q0,q4,o4];refine dq aa rfl L c8 (B+65) a7 (λi hi=>nt (ar i a7)) ((E.mono hB fr).mono hB λi hi=>⟨nu,nu⟩) ?_;cases yt;.exact hx
  simp only[go_sem,q0,q4,o4];refine dq aa rfl a6 c8 (B+65) a7 (λi hi=>nt (ar i a7)) ((E.mono hB fr).mono hB λi hi=>⟨nu,nu⟩) ?_;cases ye;.exact hx
  simp only[A7]at b;simp only[go_sem,A,hw];refine ak (m-1) a7 ⟨k+1,a7,b,?_⟩;simp only[go_sem,q0,q4,G,I,o4];grind
 rw[l4 a7]at b;by_cases P:kind=6;.subst P;simp only[show ((6:Int)==6)=T from rfl,show ((6:Int)==7)=F from rfl,B5,I4,A7,I3]at b;unfold jm at b;simp only[go_sem];refine aZ c9 ?_;cases ad:dD fs name with
 |none=>
  rw[ad]at o b;simp only[G7]at o;simp only[I4,A7]at b;simp only[go_sem,n1,n2,q0,or,r,u,om,o,D0];try (simp only[go_sem,q0,q4,o4])
  refine dq aa rfl (c 1) c8 (B+65) a7 (λi hi=>nt (ar i a7)) ((E.mono hB fr).mono hB λi hi=>⟨nu,nu⟩) ?_;cases a:dL fs 1 es;.exact Y2
  rw[a]at b;simp only[A7]at b;simp only[go_sem,q0,q4,o4];refine dq aa rfl L c8 (B+65) a7 (λi hi=>nt (ar i a7)) ((E.mono hB fr).mono hB λi hi=>⟨nu,nu⟩) ?_;cases yt;.exact hx
  simp only[go_sem,q0,q4,o4];refine dq aa rfl a6 c8 (B+65) a7 (λi hi=>nt (ar i a7)) ((E.mono hB fr).mono hB λi hi=>⟨nu,nu⟩) ?_;cases ye;.exact hx
  simp only[A7]at b;simp only[go_sem,A,hw];refine ak (m-1) a7 ⟨k+1,a7,b,?_⟩;simp only[go_sem,q0,q4,G,I,o4];grind;|some x=>
  obtain⟨nm,ps,V,wd,body⟩:=x;rw[ad]at o b;simp only[A5,fnD]at o;cases wd
  .simp only[I4,A7]at b;simp only[go_sem,n1,n2,q0,or,r,u,om,o,C3];try (simp only[go_sem,q0,q4,o4])
   refine dq aa rfl (c 1) c8 (B+65) a7 (λi hi=>nt (ar i a7)) ((E.mono hB fr).mono hB λi hi=>⟨nu,nu⟩) ?_;cases a:dL fs 1 es;.exact Y2
   rw[a]at b;simp only[A7]at b;simp only[go_sem,q0,q4,o4];refine dq aa rfl L c8 (B+65) a7 (λi hi=>nt (ar i a7)) ((E.mono hB fr).mono hB λi hi=>⟨nu,nu⟩) ?_;cases yt;.exact hx
   simp only[go_sem,q0,q4,o4];refine dq aa rfl a6 c8 (B+65) a7 (λi hi=>nt (ar i a7)) ((E.mono hB fr).mono hB λi hi=>⟨nu,nu⟩) ?_;cases ye;.exact hx
   simp only[A7]at b;simp only[go_sem,A,hw];refine ak (m-1) a7 ⟨k+1,a7,b,?_⟩;simp only[go_sem,q0,q4,G,I,o4];grind
  .simp only[T4,B5]at b;subst b;simp only[go_sem,n1,n2,q0,or,r,u,om,o,C3];exact lk
 rw[show (kind==6)=F by simp[P]]at b;by_cases k7:kind=7
 .subst k7;simp only[show ((7:Int)==7)=T from rfl,B5,I4,A7]at b;by_cases p:0<z es
  .have n:(0:Int)<(z es:Int):=a7;rw[E4 p]at b;simp only[A7,Bool.not_not]at b;cases w;.simp only[B5]at b;subst b;simp only[go_sem,j6,n,q4,o4];exact lk
   simp only[A7]at b;simp only[go_sem,j6,n,q4,o4];try (simp only[go_sem,q0,q4,o4])
   refine dq aa rfl (c 1) c8 (B+65) a7 (λi hi=>nt (ar i a7)) ((E.mono hB fr).mono hB λi hi=>⟨nu,nu⟩) ?_;cases a:dL fs 1 es;.exact Y2
   rw[a]at b;simp only[A7]at b;simp only[go_sem,q0,q4,o4];refine dq aa rfl L c8 (B+65) a7 (λi hi=>nt (ar i a7)) ((E.mono hB fr).mono hB λi hi=>⟨nu,nu⟩) ?_;cases yt;.exact hx
   simp only[go_sem,q0,q4,o4];refine dq aa rfl a6 c8 (B+65) a7 (λi hi=>nt (ar i a7)) ((E.mono hB fr).mono hB λi hi=>⟨nu,nu⟩) ?_;cases ye;.exact hx
   simp only[A7]at b;simp only[go_sem,A,hw];refine ak (m-1) a7 ⟨k+1,a7,b,?_⟩;simp only[go_sem,q0,q4,G,I,o4];grind
  have n:¬(0:Int)<(z es:Int):=a7;rw[G0 p]at b;simp only[B5,I4,A7]at b;simp only[go_sem,j6,n,q4,o4];try (simp only[go_sem,q0,q4,o4])
  refine dq aa rfl (c 1) c8 (B+65) a7 (λi hi=>nt (ar i a7)) ((E.mono hB fr).mono hB λi hi=>⟨nu,nu⟩) ?_;cases a:dL fs 1 es;.exact Y2
  rw[a]at b;simp only[A7]at b;simp only[go_sem,q0,q4,o4];refine dq aa rfl L c8 (B+65) a7 (λi hi=>nt (ar i a7)) ((E.mono hB fr).mono hB λi hi=>⟨nu,nu⟩) ?_;cases yt;.exact hx
  simp only[go_sem,q0,q4,o4];refine dq aa rfl a6 c8 (B+65) a7 (λi hi=>nt (ar i a7)) ((E.mono hB fr).mono hB λi hi=>⟨nu,nu⟩) ?_;cases ye;.exact hx
  simp only[A7]at b;simp only[go_sem,A,hw];refine ak (m-1) a7 ⟨k+1,a7,b,?_⟩;simp only[go_sem,q0,q4,G,I,o4];grind
 rw[show (kind==7)=F by simp[k7]]at b;simp only[B5,I4,A7]at b;simp only[go_sem,k4,k5,P,k7];try (simp only[go_sem,q0,q4,o4])
 refine dq aa rfl (c 1) c8 (B+65) a7 (λi hi=>nt (ar i a7)) ((E.mono hB fr).mono hB λi hi=>⟨nu,nu⟩) ?_;cases a:dL fs 1 es;.exact Y2
 rw[a]at b;simp only[A7]at b;simp only[go_sem,q0,q4,o4];refine dq aa rfl L c8 (B+65) a7 (λi hi=>nt (ar i a7)) ((E.mono hB fr).mono hB λi hi=>⟨nu,nu⟩) ?_;cases yt;.exact hx
 simp only[go_sem,q0,q4,o4];refine dq aa rfl a6 c8 (B+65) a7 (λi hi=>nt (ar i a7)) ((E.mono hB fr).mono hB λi hi=>⟨nu,nu⟩) ?_;cases ye;.exact hx
 simp only[A7]at b;simp only[go_sem,A,hw];refine ak (m-1) a7 ⟨k+1,a7,b,?_⟩;simp only[go_sem,q0,q4,G,I,o4];grind
end
variable{l:List Src.Fn}
def Ey.put{M}{f}(h:Ey M l)(b:dD l f.name=N):Ey (mset M (.str f.name) (.d (.iptr (fnD f)))) (l++[f]):=λs=>by
 rw[se,Src.YI];simp only[nD,dD];by_cases a:f.name=s;.grind
 .simp[a];rw[h s];grind
def Ey.old{M}{f x}(h:Ey M l)(a:dD l f.name=S x):Ey M (l++[f]):=λs=>by rw[h s,Src.YI];grind[dD]
def r9{P:Prop}(h:P:=by repeat' (first|assumption|rfl|(intro i hi;(try simp only[upd]);(try rw[l4 hi]);exact ho i hi)|(intro hh;first|exact h0 hh|exact U hh|exact Z hh|exact h3 hh|exact h4 hh|exact h5 hh|exact h6 hh|exact h7 hh|exact h8 hh|exact w hh|exact H hh|exact q hh|exact e hh|exact A hh|exact I hh)|apply y7)):P:=h
def Sn{g}{ob} p(az:szP p<=1000000000):dS Tryz.prog 142 [cK p] g ob (λr g' Y=>∃gr gm,r=aj 1012 gr 0/\Cv p.f gr gm g' Y/\∀i,i<1000\/1100<=i->g' i=g i/\Y i=ob i) (λ_ _ _=>False):=by
 refine hdX 1000 Tryz.func142 rfl [.tmp 2] λO bc s0 w0=>?_;unfold szP at az;have P:cK p=.agg [aw (p.v.map λs=>[.str s]),aw (p.a.map arD),aw (p.f.map fnD)]:=rfl;rw[P];simp[go_sem];refine aF (λm K=>∃k:Nat,m+k=z p.f/\K.f 3=aj 1012 (K.gen 1012) 0/\K.f 14=.one (aw (p.f.map fnD))/\K.f 15=ae (z p.f)/\K.f 16=ae k/\K.obj 1012=S [.mp 1010 (K.gen 1010) 208,.d .nilf,.d .nilf,.d .nilf,.d .nilf,.d .nilf,.d .nilf,.d .nilf,.d .nilf,.d .nilf,.d .nilf]/\(∃M,K.obj 1010=S M/\Ey M (p.f.take k))/\(∀i,i<1000\/1100<=i->K.gen i=g i/\K.obj i=ob i)) (z p.f) ?_ ?_;.refine⟨0,rfl,?_⟩;simp only[go_sem];exact⟨⟨[],rfl,λs=>rfl⟩,λi hi=>⟨nu,nu⟩⟩
 rintro m f g1 av⟨k,hk,q3,G,b,E,ar,⟨M,oM,W⟩,fr⟩;simp only at q3 G b E ar oM fr;have hw:=ah (k:=k) a7;by_cases af:k<z p.f;.have Q:(k:Int)<(z p.f:Int):=a7;have bk:(0:Int)<=(k:Int):=a7;obtain⟨x,he⟩:=getq af;have a1:fnD x=[.str x.name,.sl (x.p.map λs=>[.str s]),.sl (x.l.map λs=>[.str s]),.bool x.word,.sl (x.body.map smD)]:=rfl;have o:=W x.name;simp only[go_sem,G,b,E,Q,bk,he,a1];refine si (B:=1000) aP mixed aa [1006] [([3],[0],[],F),([21],[0],[],F),([22],[0],[],F),([23],[0],[],F),([5],[0],[],F),([25],[0],[],F),([24,26],[0],[],F),([27],[0],[],F),([20],[0],[],F),([20],[0],[],F),([],[],[0],F),([6,28],[],[0],F),([29],[],[],T)] 1 rfl c9 rfl b9 ?_;simp[go_sem];cases ad:dD (p.f.take k) x.name with
 |none=>
  rw[ad]at o;simp only[G7]at o;iterate 10 (refine aX (λ_ _ _ _ J=>by simp only[go_sem,q3,ar,oM,o,D0]at J|-;exact J) ?_)
  (refine dJ Z4 ?_);(apply lJ;(focus simp);(focus (intro fa ga oa K' J;simp only[go_sem]at J|-;exact J)));apply dQ;intro K' a';simp[go_sem];refine a' _ ?_;clear a' K';simp only[go_sem];refine aZ c9 ?_;simp only[go_sem,q3,ar,oM,E,hw];refine ak (m-1) a7 ⟨k+1,a7,?_⟩;have hT:p.f.take (k+1)=p.f.take k++[x]:=by rw[C1,he,I8]
  simp only[go_sem,q3,G,b,ar];exact⟨⟨_,rfl,by rw[hT];exact W.put ad⟩,λi hi=>⟨nt ((fr i hi).1),nt ((fr i hi).2)⟩⟩;|some y=>
  obtain⟨nm,ps,V,wd,body⟩:=y;rw[ad]at o;simp only[A5,fnD]at o;iterate 10 (refine aX (λ_ _ _ _ J=>by simp only[go_sem,q3,ar,oM,o,C3]at J|-;exact J) ?_)
  (refine dJ Z4 ?_);(apply lJ;(focus simp);(focus (intro fa ga oa K' J;simp only[go_sem]at J|-;exact J)));apply dQ;intro K' a';simp[go_sem];refine a' _ ?_;clear a' K';simp only[go_sem,E,hw];refine ak (m-1) a7 ⟨k+1,a7,?_⟩;have hT:p.f.take (k+1)=p.f.take k++[x]:=by rw[C1,he,I8]
  simp[go_sem,q3,G,b,ar];exact⟨⟨M,oM,by rw[hT];exact W.old ad⟩,λi hi=>⟨nt ((fr i hi).1),nt ((fr i hi).2)⟩⟩
 have Q:¬(k:Int)<(z p.f:Int):=a7;obtain rfl:k=z p.f:=a7;rw[s6 (l7 _)]at W;simp only[go_sem,q3,b,E,Q];refine vG (B:=1000) aP mixed aa c8 c9 (λL s=>s.gen=g1/\(∀i,i≠1012->s.obj i=av i)/\s.f 3=aj 1012 (g1 1012) 0/\s.f 8=.one (.d (.fn 211))/\s.f 9=.one (.clo (212+1000000) [.ptr 1012 (g1 1012) 0])/\(L 0=T->s.f 42=aj 1012 (g1 1012) 0)/\(L 1=T->s.f 43=aj 1012 (g1 1012) 0)/\(L 2=T->s.f 44=aj 1012 (g1 1012) 0)/\(L 3=T->s.f 45=.one (.d (.fn 211)))/\(L 4=T->s.f 46=.one (.d (.fn 211)))/\(L 5=T->s.f 47=.one (.d (.fn 211)))/\(L 6=T->s.f 48=aj 1012 (g1 1012) 0)/\(L 7=T->s.f 49=aj 1012 (g1 1012) 1)/\(L 8=T->s.f 50=aj 1012 (g1 1012) 2)/\(L 10=T->s.f 51=aj 1012 (g1 1012) 0)/\(L 11=T->s.f 52=aj 1012 (g1 1012) 1)/\(L 12=T->s.f 53=aj 1012 (g1 1012) 3)/\(L 14=T->s.f 54=aj 1012 (g1 1012) 0)/\(L 15=T->s.f 55=aj 1012 (g1 1012) 1)/\(L 16=T->s.f 56=aj 1012 (g1 1012) 6)/\s.obj 1012=S [.mp 1010 (g1 1010) 208,.d .nilf,if L 9=T then .d (.fn 211)else .d .nilf,if L 13=T then .d (.fn 211)else .d .nilf,.d .nilf,.d .nilf,if L 17=T then .d (.fn 211)else .d .nilf,.d .nilf,.d .nilf,.d .nilf,.d .nilf]) ?_ ?_ ?_;.exact⟨rfl,λi hi=>rfl,by simp[go_sem,q3],c8,c8,λh=>by simp at h,λh=>by simp at h,λh=>by simp at h,λh=>by simp at h,λh=>by simp at h,λh=>by simp at h,λh=>by simp at h,λh=>by simp at h,λh=>by simp at h,λh=>by simp at h,λh=>by simp at h,λh=>by simp at h,λh=>by simp at h,λh=>by simp at h,λh=>by simp at h,by grind⟩
 .rintro L⟨f',g',Y⟩i op⟨hg,ho,k3,k8,n,h0,U,Z,h3,h4,h5,h6,h7,h8,w,H,q,e,A,I,hc⟩u hL c b7;simp only at hg ho k3 k8 n h0 U Z h3 h4 h5 h6 h7 h8 w H q e A I hc;subst hg;match i,u with|0,u=>exact k6;|1,u=>exact k6;|2,u=>exact k6;|3,u=>exact k6;|4,u=>exact k6;|5,u=>exact k6;|6,u=>simp at u;subst u;have d0:L 0=T:=c ⟨0,.data⟩ b9 rfl;simp[go_sem,h0 d0,k3,k8,n,hc];exact r9;|7,u=>simp at u;subst u;have d6:L 6=T:=c ⟨6,.data⟩ b9 rfl;simp[go_sem,h6 d6,k3,k8,n,hc];exact r9;|8,u=>simp at u;subst u;have d7:L 7=T:=c ⟨7,.data⟩ b9 rfl;simp[go_sem,h7 d7,k3,k8,n,hc];exact r9;|9,u=>simp at u;subst u;have d8:L 8=T:=c ⟨8,.data⟩ b9 rfl;have d3:L 3=T:=c ⟨3,.data⟩ b9 rfl;simp[go_sem,h8 d8,h3 d3,k3,k8,n,hc];exact r9;|10,u=>simp at u;subst u;have d1:L 1=T:=c ⟨1,.data⟩ b9 rfl;simp[go_sem,U d1,k3,k8,n,hc];exact r9;|11,u=>simp at u;subst u;have al:L 10=T:=c ⟨10,.data⟩ b9 rfl;simp[go_sem,w al,k3,k8,n,hc];exact r9;|12,u=>simp at u;subst u;have an:L 11=T:=c ⟨11,.data⟩ b9 rfl;simp[go_sem,H an,k3,k8,n,hc];exact r9;|13,u=>simp at u;subst u;have X:L 12=T:=c ⟨12,.data⟩ b9 rfl;have d4:L 4=T:=c ⟨4,.data⟩ b9 rfl;simp[go_sem,q X,h4 d4,k3,k8,n,hc];exact r9;|14,u=>simp at u;subst u;have d2:L 2=T:=c ⟨2,.data⟩ b9 rfl;simp[go_sem,Z d2,k3,k8,n,hc];exact r9;|15,u=>simp at u;subst u;have a6:L 14=T:=c ⟨14,.data⟩ b9 rfl;simp[go_sem,e a6,k3,k8,n,hc];exact r9;|16,u=>simp at u;subst u;have bd:L 15=T:=c ⟨15,.data⟩ b9 rfl;simp[go_sem,A bd,k3,k8,n,hc];exact r9;|17,u=>simp at u;subst u;have bf:L 16=T:=c ⟨16,.data⟩ b9 rfl;have d5:L 5=T:=c ⟨5,.data⟩ b9 rfl;simp[go_sem,I bf,h5 d5,k3,k8,n,hc];exact r9;|j+18,u=>exact absurd u b9
 rintro L⟨f',g',Y⟩⟨hg,ho,k3,k8,n,h0,U,Z,h3,h4,h5,h6,h7,h8,w,H,q,e,A,I,hc⟩bs;simp only at hg ho k3 k8 n h0 U Z h3 h4 h5 h6 h7 h8 w H q e A I hc;subst hg;rw[bs 9 a8,bs 13 a8,bs 17 a8]at hc;simp at hc;clear bs h0 U Z h3 h4 h5 h6 h7 h8 w H q e A I;have t:=ho;simp only[go_sem,k3,hc];refine vG (B:=1000) aP mixed aa c8 c9 (λL s=>s.gen=g'/\(∀i,i≠1012->s.obj i=Y i)/\s.f 3=aj 1012 (g' 1012) 0/\s.f 9=.one (.clo (212+1000000) [.ptr 1012 (g' 1012) 0])/\(L 0=T->s.f 75=aj 1012 (g' 1012) 0)/\(L 1=T->s.f 76=aj 1012 (g' 1012) 0)/\(L 2=T->s.f 77=aj 1012 (g' 1012) 0)/\(L 3=T->s.f 78=.one (.clo (212+1000000) [.ptr 1012 (g' 1012) 0]))/\(L 4=T->s.f 79=.one (.clo (212+1000000) [.ptr 1012 (g' 1012) 0]))/\(L 5=T->s.f 80=.one (.clo (212+1000000) [.ptr 1012 (g' 1012) 0]))/\(L 6=T->s.f 81=aj 1012 (g' 1012) 0)/\(L 7=T->s.f 82=aj 1012 (g' 1012) 1)/\(L 8=T->s.f 83=aj 1012 (g' 1012) 8)/\(L 10=T->s.f 84=aj 1012 (g' 1012) 0)/\(L 11=T->s.f 85=aj 1012 (g' 1012) 1)/\(L 12=T->s.f 86=aj 1012 (g' 1012) 9)/\(L 14=T->s.f 87=aj 1012 (g' 1012) 0)/\(L 15=T->s.f 88=aj 1012 (g' 1012) 1)/\(L 16=T->s.f 89=aj 1012 (g' 1012) 10)/\s.obj 1012=S [.mp 1010 (g' 1010) 208,.d .nilf,.d (.fn 211),.d (.fn 211),.clo (213+1000000) [.ptr 1012 (g' 1012) 0],.clo (214+1000000) [.ptr 1012 (g' 1012) 0],.d (.fn 211),.clo (215+1000000) [.ptr 1012 (g' 1012) 0],if L 9=T then .clo (212+1000000) [.ptr 1012 (g' 1012) 0]else .d .nilf,if L 13=T then .clo (212+1000000) [.ptr 1012 (g' 1012) 0]else .d .nilf,if L 17=T then .clo (212+1000000) [.ptr 1012 (g' 1012) 0]else .d .nilf]) ?_ ?_ ?_;.exact⟨rfl,λi hi=>nu,by simp only[go_sem,k3],by simp only[go_sem,n],λh=>by simp at h,λh=>by simp at h,λh=>by simp at h,λh=>by simp at h,λh=>by simp at h,λh=>by simp at h,λh=>by simp at h,λh=>by simp at h,λh=>by simp at h,λh=>by simp at h,λh=>by simp at h,λh=>by simp at h,λh=>by simp at h,λh=>by simp at h,λh=>by simp at h,c8⟩
 .rintro L⟨f2,g2,bn⟩i op⟨hg,ho,k3,n,h0,U,Z,h3,h4,h5,h6,h7,h8,w,H,q,e,A,I,hc⟩u hL c b7;simp only at hg ho k3 n h0 U Z h3 h4 h5 h6 h7 h8 w H q e A I hc;subst hg;match i,u with|0,u=>exact ld;|1,u=>exact ld;|2,u=>exact ld;|3,u=>exact ld;|4,u=>exact ld;|5,u=>exact ld;|6,u=>simp at u;subst u;have d0:L 0=T:=c ⟨0,.data⟩ b9 rfl;simp[go_sem,h0 d0,k3,n,hc];exact r9;|7,u=>simp at u;subst u;have d6:L 6=T:=c ⟨6,.data⟩ b9 rfl;simp[go_sem,h6 d6,k3,n,hc];exact r9;|8,u=>simp at u;subst u;have d7:L 7=T:=c ⟨7,.data⟩ b9 rfl;simp[go_sem,h7 d7,k3,n,hc];exact r9;|9,u=>simp at u;subst u;have d8:L 8=T:=c ⟨8,.data⟩ b9 rfl;have d3:L 3=T:=c ⟨3,.data⟩ b9 rfl;simp[go_sem,h8 d8,h3 d3,k3,n,hc];exact r9;|10,u=>simp at u;subst u;have d1:L 1=T:=c ⟨1,.data⟩ b9 rfl;simp[go_sem,U d1,k3,n,hc];exact r9;|11,u=>simp at u;subst u;have al:L 10=T:=c ⟨10,.data⟩ b9 rfl;simp[go_sem,w al,k3,n,hc];exact r9;|12,u=>simp at u;subst u;have an:L 11=T:=c ⟨11,.data⟩ b9 rfl;simp[go_sem,H an,k3,n,hc];exact r9;|13,u=>simp at u;subst u;have X:L 12=T:=c ⟨12,.data⟩ b9 rfl;have d4:L 4=T:=c ⟨4,.data⟩ b9 rfl;simp[go_sem,q X,h4 d4,k3,n,hc];exact r9;|14,u=>simp at u;subst u;have d2:L 2=T:=c ⟨2,.data⟩ b9 rfl;simp[go_sem,Z d2,k3,n,hc];exact r9;|15,u=>simp at u;subst u;have a6:L 14=T:=c ⟨14,.data⟩ b9 rfl;simp[go_sem,e a6,k3,n,hc];exact r9;|16,u=>simp at u;subst u;have bd:L 15=T:=c ⟨15,.data⟩ b9 rfl;simp[go_sem,A bd,k3,n,hc];exact r9;|17,u=>simp at u;subst u;have bf:L 16=T:=c ⟨16,.data⟩ b9 rfl;have d5:L 5=T:=c ⟨5,.data⟩ b9 rfl;simp[go_sem,I bf,h5 d5,k3,n,hc];exact r9;|j+18,u=>exact absurd u b9
 rintro L⟨f2,g2,bn⟩⟨hg,ho,k3,n,h0,U,Z,h3,h4,h5,h6,h7,h8,w,H,q,e,A,I,hc⟩bs;simp only at hg ho k3 n h0 U Z h3 h4 h5 h6 h7 h8 w H q e A I hc;subst hg;rw[bs 9 a8,bs 13 a8,bs 17 a8]at hc;simp only[B3]at hc;clear bs h0 U Z h3 h4 h5 h6 h7 h8 w H q e A I;simp only[go_sem];refine⟨_,ai.refl _,?_⟩;simp only[go_sem,k3];refine⟨_,_,rfl,⟨hc,⟨M,(ho 1010 a8).trans ?_,W⟩,rfl,rfl⟩,λi hi=>⟨(fr i hi).1,?_⟩⟩;.grind
 grind
end
open Go Go.Am Go.Asm
open Go.Src (Ex Stm szE aO szS aI cW bU uk bN lh ct)
attribute[local congr]ite_cc
def So{o} p(az:szP p<=1000000000):cn Tryz.prog 4 o 91 [cK p] (·=ae (uk p)):=by
 refine hdG Tryz.func91 rfl [.tmp 2] λO bc s0 w0 g=>?_;obtain⟨X,b⟩:∃X,uk p=X:=⟨_,rfl⟩;rw[b];have G:=az;unfold szP at az;unfold uk at b;have P:cK p=.agg [aw (p.v.map λs=>[.str s]),aw (p.a.map arD),aw (p.f.map fnD)]:=rfl;rw[P];simp only[go_sem];refine cN aN rfl (by simp only[go_sem];rw[<-P];exact Sn p G) ?_ ?_;.simp
 rintro r W V⟨gr,gm,rfl,E,fr⟩;have w:=fr 1 (.inl a8);simp[upd]at w;have ar:∀j,1100<=j->V j=N:=λj H=>by rw[(fr j (.inr a7)).2];grind[upd]
 clear fr;simp only[go_sem,w.1,w.2,j6];refine aF (λm K=>∃k:Nat,m+k=z p.f/\(p.f.take k).all (λf=>cW p.f f.body)=T/\K.f 1=aj 1 (K.gen 1) 0/\K.f 3=aj 1012 gr 0/\K.f 11=.one (aw (p.f.map fnD))/\K.f 12=ae (z p.f)/\K.f 13=ae k/\K.obj 1=S (jK p)/\Cv p.f gr gm K.gen K.obj/\∀j,1100<=j->K.obj j=N) (z p.f) ?_ ?_;.refine⟨0,rfl,b9,?_⟩;simp only[go_sem,w.1,w.2];exact⟨rfl,E,ar⟩
 clear w ar E;rintro m f W V⟨k,Y,bs,I,d,A,q,c,o1,E,ar⟩;simp only at I d A q c o1 E ar;have L:=ah (k:=k) a7;by_cases U:k<z p.f
 .have Q:(k:Int)<(z p.f:Int):=a7;have bk:(0:Int)<=(k:Int):=a7;obtain⟨x,n⟩:=getq U;have e:=lZ (l8 n);have a1:fnD x=[.str x.name,.sl (x.p.map λs=>[.str s]),.sl (x.l.map λs=>[.str s]),.bool x.word,.sl (x.body.map smD)]:=rfl;have t:=Hh (fs:=p.f) (gr:=gr) (gm:=gm) (aI x.body) x.body (l7 _) a7;obtain⟨y,u⟩:∃y,cW p.f x.body=y:=⟨_,rfl⟩;rw[u]at t;simp only[go_sem,d,A,q,c,Q,bk,n,a1];refine dq aN rfl t c8 2000 a7 (λi hi=>nt (ar i a7)) ⟨by grind[upd,E.or],by grind[upd,E.om],by grind[upd,E.gr],by grind[upd,E.gm]⟩ ?_;cases y;.rw[s5 (Src.all_false (p:=λf=>cW p.f f.body) n u)]at b;subst b;exact gO
  .simp only[go_sem,c,L];refine ak (m-1) a7 ⟨k+1,a7,Src.acR bs n u,?_⟩;simp only[go_sem,I,d,A,q];exact⟨o1,⟨by grind[upd,E.or],by grind[upd,E.om],by grind[upd,E.gr],by grind[upd,E.gm]⟩,λj H=>nt (ar j H)⟩
 have Q:¬(k:Int)<(z p.f:Int):=a7;obtain rfl:k=z p.f:=a7;rw[s6 (l7 _)]at bs;rw[l4 ZN]at b;have B:=o1;unfold jK kG at o1;simp only[s7,x7]at o1;simp only[go_sem,I,q,c,Q,o1,j6];refine aF (λm K=>∃k:Nat,m+k=z p.f/\(p.f.take k).all (λf=>bU p.f f.word f.body)=T/\K.f 3=aj 1012 gr 0/\K.f 24=.one (aw (p.f.map fnD))/\K.f 25=ae (z p.f)/\K.f 26=ae k/\Cv p.f gr gm K.gen K.obj/\∀j,1100<=j->K.obj j=N) (z p.f) ?_ ?_;.refine⟨0,rfl,b9,?_⟩;simp only[go_sem,d];grind
 clear I d A q c o1 B E ar U Q Y L;rintro m f W V⟨k,Y,Z,d,A,q,c,E,ar⟩;simp only at d A q c E ar;by_cases U:k<z p.f
 .have Q:(k:Int)<(z p.f:Int):=a7;have bk:(0:Int)<=(k:Int):=a7;obtain⟨x,n⟩:=getq U;have e:=lZ (l8 n);have a1:fnD x=[.str x.name,.sl (x.p.map λs=>[.str s]),.sl (x.l.map λs=>[.str s]),.bool x.word,.sl (x.body.map smD)]:=rfl;have J:fnV x=.agg [bW x.name,aw (x.p.map λs=>[.str s]),aw (x.l.map λs=>[.str s]),bO x.word,aw (x.body.map smD)]:=rfl;have t:=Hi (fs:=p.f) (gr:=gr) (gm:=gm) x (aI x.body) x.body (l7 _) a7;obtain⟨y,u⟩:∃y,bU p.f x.word x.body=y:=⟨_,rfl⟩;rw[u,J]at t;simp only[go_sem,d,A,q,c,Q,bk,n,a1];refine dq aN rfl t c8 2000 a7 (λi hi=>nt (ar i a7)) ⟨by grind[upd,E.or],by grind[upd,E.om],by grind[upd,E.gr],by grind[upd,E.gm]⟩ ?_;cases y;.rw[s5 (Src.all_false (p:=λf=>bU p.f f.word f.body) n u)]at b;subst b;exact gO
  .simp only[go_sem,c,ah (k:=k) a7];refine ak (m-1) a7 ⟨k+1,a7,Src.acR Z n u,?_⟩;simp only[go_sem,d,A,q];exact⟨⟨by grind[upd,E.or],by grind[upd,E.om],by grind[upd,E.gr],by grind[upd,E.gm]⟩,λj H=>nt (ar j H)⟩
 have Q:¬(k:Int)<(z p.f:Int):=a7;obtain rfl:k=z p.f:=a7;rw[s6 (l7 _)]at Z;rw[l4 ZN]at b;subst b;simp only[go_sem,q,c,Q]
def Sq{o}(ho:mL o) p(az:szP p<=1000000000):cn Tryz.prog 4 o 54 [cK p] (·=ae (bN p)):=by
 refine hdG Tryz.func54 rfl [.tmp 2] λO bc s0 w0 g=>?_;obtain⟨X,b⟩:∃X,bN p=X:=⟨_,rfl⟩;rw[b];unfold bN at b;have P:cK p=.agg [aw (p.v.map λs=>[.str s]),aw (p.a.map arD),aw (p.f.map fnD)]:=rfl;have hR:=Jc ho p az;have hT:=So (o:=o) p az;rw[P]at hR hT|-;simp only[go_sem];refine dm rfl adl ?_;rintro _ rfl;cases V:ct p;.rw[s5 V]at b;subst b;exact gO
 rw[l4 ZN]at b;have i:1<=z p.f:=by unfold ct at V;simp at V;exact V.1.1.1
 have hS:=Sk (o:=o) p i az;rw[P]at hS;simp only[go_sem];refine dm rfl abY ?_;rintro _ rfl;by_cases d:lh p=0;.rw[l4 (by simp[d])]at b;simp only[go_sem,d];refine dm rfl abt ?_;rintro _ rfl;rw[b];exact gO
 .rw[s5 d]at b;have e:¬((lh p:Nat):Int)=0:=a7;rw[b]at e|-;simp only[go_sem,e]
end Go.Proofs.YtfdbpgoicedpcaaGreatDoor
namespace Go.Lower
structure Ins where
 op:Int
 a:Int
 b:Int
 n:Int
inductive Ex where|mk (kind op num slot size:Int) (kids:List Ex)
inductive Stm where|mk (kind slot size:Int) (e:List Ex) (th el:List Stm)
abbrev Sig:=List (Int×Bool)
def within(w a n:Int):Prop:=0<=a/\0<=n/\a<=w/\n<=w-a
def callee(ps:Sig)(f:Nat)(g:Int)(args:Nat)(word:Bool):Prop:=∃k:Nat,g=(k:Int)/\k<f/\ps[k]?=S ((args:Int),word)
def okE(w:Int)(ps:Sig)(f:Nat)(q:Int)(kind op num slot size:Int)(n:Nat):Prop:=q<=24/\(kind=1\/num=0)/\(kind=6\/op=0)/\(kind=3\/size=0)/\(kind=2\/kind=3\/kind=4\/slot=0)/\(((kind=1\/kind=5)/\n=0)\/(kind=2/\within w slot 1/\n=0)\/(kind=3/\1<=size/\size<=4096/\within w slot size/\n=1)\/(kind=4/\callee ps f slot n T)\/(kind=6/\4<=op/\op<=15/\n=2)\/(kind=7/\n=1)\/((kind=8\/kind=9)/\n=2))
mutual
def rE(w:Int)(ps:Sig)(f:Nat)(q:Int):Ex->Prop
 |.mk kind op num slot size kids=>okE w ps f q kind op num slot size (z kids)/\rEs w ps f (q+1) kids
def rEs(w:Int)(ps:Sig)(f:Nat)(q:Int):List Ex->Prop
 |[]=>True
 |e::l=>rE w ps f q e/\rEs w ps f q l
end
def okS(w:Int)(ps:Sig)(f:Nat)(word:Bool)(q:Int)(kind slot size:Int)(n nt ne:Nat):Prop:=q<=24/\(kind=2\/size=0)/\(kind=1\/kind=2\/kind=6\/slot=0)/\(kind=4\/ne=0)/\(kind=4\/kind=5\/nt=0)/\((kind=1/\within w slot 1/\n=1)\/(kind=2/\1<=size/\size<=4096/\within w slot size/\n=2)\/((kind=3\/kind=4\/kind=5)/\n=1)\/(kind=6/\callee ps f slot n F)\/(kind=7/\(n=0\/(word=T/\n=1))))
mutual
def rS(w:Int)(ps:Sig)(f:Nat)(word:Bool)(q:Int):Stm->Prop
 |.mk kind slot size e a el=>okS w ps f word q kind slot size (z e) (z a) (z el)/\rEs w ps f (q+1) e/\rSs w ps f word (q+1) a/\rSs w ps f word (q+1) el
def rSs(w:Int)(ps:Sig)(f:Nat)(word:Bool)(q:Int):List Stm->Prop
 |[]=>True
 |e::l=>rS w ps f word q e/\rSs w ps f word q l
end
abbrev Code:=List (Ins×Int)
def one(kind op num slot size:Int)(d:Int):Code:=if kind=1 then [(⟨1,0,0,num⟩,d)]else if kind=2 then [(⟨2,slot,0,0⟩,d)]else if kind=3 then [(⟨4,slot,size,0⟩,d)]else if kind=4 then [(⟨10,slot,0,0⟩,d)]else if kind=5 then [(⟨12,0,0,0⟩,d)]else if kind=6 then [(⟨6,op,0,0⟩,d)]else if kind=7 then [(⟨7,0,0,0⟩,d)]else []
def ke(kind d:Int):Code:=if kind=8 then [(⟨7,0,0,0⟩,d+1)]else []
def mC(at':Nat)(d kind:Int)(c0:Code)(c1:Nat->Code):Code:=let r:=at'+z c0+z (ke kind d)
 c0++(ke kind d++((⟨9,(r+3:Nat),0,0⟩,d+1)::(⟨1,0,0,if kind=8 then 0 else 1⟩,d)::(⟨8,(r+3+z (c1 (r+3))+2:Nat),0,0⟩,d+1)::(c1 (r+3)++[(⟨7,0,0,0⟩,d+1),(⟨7,0,0,0⟩,d+1)])))
mutual
def cE(at':Nat)(d:Int):Ex->Code
 |.mk kind op num slot size kids=>
   if kind=8\/kind=9 then cAO at' d kind kids
   else cEs at' d kids++one kind op num slot size (d+z kids)
def cEs(at':Nat)(d:Int):List Ex->Code
 |[]=>[]
 |e::l=>cE at' d e++cEs (at'+z (cE at' d e)) (d+1) l
def cAO(at':Nat)(d kind:Int):List Ex->Code
 |[]=>[]
 |e::l=>mC at' d kind (cE at' d e) (λr=>lU r d l)
def lU(at':Nat)(d:Int):List Ex->Code
 |[]=>[]
 |e::_=>cE at' d e
end
def takes(ps:Sig)(word:Bool)(x:Ins):Option (Int×Int):=if x.op=1\/x.op=2\/x.op=12 then S (0,1)else if x.op=3\/x.op=9\/x.op=13 then S (1,0)else if x.op=4\/x.op=7 then S (1,1)else if x.op=5 then S (2,0)else if x.op=6 then S (2,1)else if x.op=8 then S (0,0)else if x.op=10 then(if x.a<0 then N else(ps[x.a.toNat]?).map λp=>(p.1,if p.2 then 1 else 0))else if x.op=11 then S (if word then(1,0)else(0,0))else N
def next(x:Ins)(at':Nat):List Int:=if x.op=8 then [x.a]else if x.op=9 then [((at'+1:Nat):Int),x.a]else if x.op=11 then []else [((at'+1:Nat):Int)]
def OkI(ps:Sig)(word:Bool)(G:Nat->Option Int)(at':Nat)(x:Ins)(d:Int):Prop:=∃t p,takes ps word x=S (t,p)/\0<=t/\t<=d/\(x.op=11->d=t)/\∀k∈next x at',∃E:Nat,k=(E:Int)/\G E=S (d-t+p)
def Seg(G:Nat->Option Int):Nat->Code->Prop|_,[]=>True|at',(_,d)::c=>G at'=S d/\Seg G (at'+1) c
def Good(ps:Sig)(word:Bool)(G:Nat->Option Int):Nat->Code->Prop|_,[]=>True|at',(x,d)::c=>OkI ps word G at' x d/\Good ps word G (at'+1) c
def kj{G}:∀{a b}{at'},Seg G at' (a++b)↔Seg G at' a/\Seg G (at'+z a) b|[],b,at'=>by simp[Seg];|(x,d)::a,b,at'=>by simp only[z6,Seg,kj,j8,and_assoc];grind
def iY{ps}{word}{G}:∀{a b}{at'},Good ps word G at' (a++b)↔Good ps word G at' a/\Good ps word G (at'+z a) b|[],b,at'=>by simp[Good];|(x,d)::a,b,at'=>by simp only[z6,Good,iY,j8,and_assoc];grind
section
variable{w:Int}{ps:Sig}{f:Nat}{word:Bool}{G:Nat->Option Int}{at':Nat}{a b n d:Int}
def jR{x}{d} t p(U:takes ps word x=S (t,p))(Z:0<=t)(e:t<=d)(c:x.op≠8/\x.op≠9/\x.op≠11)(i:G (at'+1)=S (d-t+p)):OkI ps word G at' x d:=by refine⟨t,p,U,Z,e,λh=>absurd h c.2.2,λk g=>?_⟩;simp only[next,c.1,c.2.1,c.2.2,B1,C8]at g;grind
def zK(k:Nat)(e:a=k)(hd:0<=d)(h:G k=S d):OkI ps word G at' ⟨8,a,b,n⟩ d:=by refine⟨0,0,rfl,C7 _,hd,λh=>absurd h b9,λE c=>?_⟩;simp only[next,B3,C8]at c;grind
def vn(k:Nat)(e:a=k)(hd:0<=d)(h:G k=S d)(U:G (at'+1)=S d):OkI ps word G at' ⟨9,a,b,n⟩ (d+1):=by refine⟨1,0,rfl,a8,a7,λh=>absurd h b9,λE c=>?_⟩;simp only[next,show¬((9:Int)=8) by decide,B1,B3,A0,A9,D8]at c;grind
def Ut{q kind op num slot size d}{n}(h:okE w ps f q kind op num slot size n)(c:¬(kind=8\/kind=9)):z (one kind op num slot size d)=1:=by
 obtain⟨_,_,_,_,_,h⟩:=h;rcases h with⟨h|h,_⟩|⟨h,_⟩|⟨h,_⟩|⟨h,_⟩|⟨h,_⟩|⟨h,_⟩|⟨h,_⟩;any_goals (subst h;rfl)
 omega
def Px{q kind op num slot size d}{n at'}(h:okE w ps f q kind op num slot size n)(e:¬(kind=8\/kind=9))(hd:0<=d)(hT:G (at'+1)=S (d+1)):(z (one kind op num slot size (d+n)))=1/\Good ps word G at' (one kind op num slot size (d+n))/\(Seg G at' (one kind op num slot size (d+n))->G at'=S (d+n)):=by
 obtain⟨_,_,_,_,_,h⟩:=h;rcases h with⟨h|h,hn⟩|⟨h,_,hn⟩|⟨h,_,_,_,hn⟩|⟨h,k,c,a,bz⟩|⟨h,_,_,hn⟩|⟨h,hn⟩|⟨h,_⟩;.exact xc
 .exact xc
 .exact xc
 .exact Zn
 .subst h c;refine⟨rfl,⟨jR n 1 ?_ a7 a7 b9 ZN,trivial⟩,λh=>h.1⟩;simp_all[a7,takes]
 .subst h hn;exact⟨rfl,⟨jR 2 1 rfl a8 a7 b9 ZN,trivial⟩,λh=>h.1⟩
 .exact Zn
 omega
def HQ{kind d}{c0}{c1}(hd:0<=d)(o:Seg G at' c0->G (at'+z c0)=S (d+1)->G at'=S d/\Good ps word G at' c0)(U:∀r,Seg G r (c1 r)->G (r+z (c1 r))=S (d+1)->G r=S d/\Good ps word G r (c1 r))(g:Seg G at' (mC at' d kind c0 c1))(hT:G (at'+z (mC at' d kind c0 c1))=S (d+1)):G at'=S d/\Good ps word G at' (mC at' d kind c0 c1):=by
 unfold mC at g hT|-;simp only at g hT|-;rw[kj,kj]at g;obtain⟨p,a,g⟩:=g;obtain⟨c,tp,e,g⟩:=g;rw[kj]at g;obtain⟨j,k,q,_⟩:=g;have l:z (ke kind d)=0/\ke kind d=[]\/z (ke kind d)=1/\ke kind d=[(⟨7,0,0,0⟩,d+1)]:=by
  unfold ke;split;.simp
  .simp
 generalize V:at'+z c0+z (ke kind d)=r at*;have m:r+1+1+1=r+3:=a7;rw[m]at j k q;obtain⟨L,s⟩:=U (r+3) j k;have h:G (r+3+z (c1 (r+3))+2)=S (d+1):=by rw[<-hT];congr 1;simp only[j7,j8,l5];omega
 have t:G (at'+z c0)=S (d+1):=by
  rcases l with⟨hl,_⟩|⟨hl,i⟩;.simp_all
  .rw[i]at a;exact a.1
 obtain⟨u,v⟩:=o p t;refine⟨u,?_⟩;rw[iY,iY];refine⟨v,?_,?_⟩
 .rcases l with⟨_,i⟩|⟨hl,i⟩;.rw[i];trivial
  .rw[i];exact⟨jR 1 1 rfl a8 a7 b9 ZN,trivial⟩
 .rw[V];refine⟨vn (r+3) rfl hd L tp,jR 0 1 rfl a8 hd b9 ZN,zK (r+3+z (c1 (r+3))+2) rfl a7 h,?_⟩;rw[m,iY];exact⟨s,jR 1 1 rfl a8 a7 b9 ZN,jR 1 1 rfl a8 a7 b9 ZN,trivial⟩
mutual
theorem CY:∀(e:Ex){q d:Int}{at':Nat},rE w ps f q e->0<=d->Seg G at' (cE at' d e)->G (at'+z (cE at' d e))=S (d+1)->G at'=S d/\Good ps word G at' (cE at' d e)
 |.mk kind op num slot size kids,q,d,at',h,hd,c,hT=>by
   rw[rE]at h;rw[cE]at c hT|-;by_cases g:kind=8\/kind=9
   .rw[s5 g]at c hT|-
    have i:z kids=2:=by
     obtain⟨⟨_,_,_,_,_,h⟩,_⟩:=h;omega
    exact Py kids i h.2 hd c hT
   .rw[l4 g]at c hT|-
    rw[kj]at c;obtain⟨hl,j,P⟩:=Px (G:=G) (word:=word) (at':=at'+z (cEs at' d kids)) h.1 g hd (by rw[<-hT,j7,Ut h.1 g,D4]);have:=zL kids h.2 hd c.1 (P c.2);exact⟨this.1,iY.2 ⟨this.2,j⟩⟩
theorem zL:∀(l:List Ex){q d:Int}{at':Nat},rEs w ps f q l->0<=d->Seg G at' (cEs at' d l)->G (at'+z (cEs at' d l))=S (d+z l)->G at'=S d/\Good ps word G at' (cEs at' d l)
 |[],q,d,at',h,hd,c,g=>by
   rw[cEs]at g|-;exact⟨by grind,trivial⟩
 |e::l,q,d,at',h,hd,c,g=>by
   rw[rEs]at h;rw[cEs]at c g|-;rw[kj]at c;obtain⟨i,j⟩:=zL l h.2 a7 c.2 ZN;obtain⟨t0,k⟩:=CY e h.1 hd c.1 i;exact⟨t0,iY.2 ⟨k,j⟩⟩
theorem Py:∀(l:List Ex){q d kind:Int}{at':Nat},z l=2->rEs w ps f q l->0<=d->Seg G at' (cAO at' d kind l)->G (at'+z (cAO at' d kind l))=S (d+1)->G at'=S d/\Good ps word G at' (cAO at' d kind l)
 |[],q,d,kind,at',i,h,hd,c,g=>by cases i
 |e::l,q,d,kind,at',i,h,hd,c,g=>by
   rw[rEs]at h;rw[cAO]at c g|-;exact HQ hd (λs t=>CY e h.1 hd s t) (λr s t=>By l ZN h.2 hd s t) c g
theorem By:∀(l:List Ex){q d:Int}{at':Nat},z l=1->rEs w ps f q l->0<=d->Seg G at' (lU at' d l)->G (at'+z (lU at' d l))=S (d+1)->G at'=S d/\Good ps word G at' (lU at' d l)
 |[],q,d,at',i,h,hd,c,g=>by cases i
 |e::l,q,d,at',i,h,hd,c,g=>by
   rw[rEs]at h;rw[lU]at c g|-;exact CY e h.1 hd c g
end
end
section
variable{w:Int}{ps:Sig}{f:Nat}{word:Bool}{G:Nat->Option Int}
def leave(word:Bool):Code:=if word then [(⟨1,0,0,0⟩,0),(⟨11,0,0,0⟩,1)]else [(⟨11,0,0,0⟩,0)]
def jS(at':Nat)(c0:Code)(c1:Nat->Code):Code:=c0++(⟨9,(at'+z c0+1+(c1 (at'+z c0+1)).length+1:Nat),0,0⟩,1)::(c1 (at'+z c0+1)++[(⟨8,(at':Int),0,0⟩,0)])
def ifC(at':Nat)(c1:Nat->Code)(a:Bool)(c2:Nat->Code):Code:=if a then let r:=at'+1+z (c1 (at'+1))+1
 (⟨9,(r:Int),0,0⟩,1)::(c1 (at'+1)++(⟨8,(r+z (c2 r):Nat),0,0⟩,0)::c2 r)else(⟨9,(at'+1+z (c1 (at'+1)):Nat),0,0⟩,1)::c1 (at'+1)
def uc(word:Bool)(kind slot size:Int)(n:Nat):Code:=if kind=1 then [(⟨3,slot,0,0⟩,n)]else if kind=2 then [(⟨5,slot,size,0⟩,n)]else if kind=3 then [(⟨13,0,0,0⟩,n)]else if kind=6 then [(⟨10,slot,0,0⟩,n)]else if kind=7 then(if n=0 then leave word else [(⟨11,0,0,0⟩,n)])else []
mutual
def cS(word:Bool)(at':Nat):Stm->Code
 |.mk kind slot size e a el=>
   if kind=5 then jS at' (lU at' 0 e) (λr=>cSs word r a)
   else cEs at' 0 e++(if kind=4 then ifC (at'+z (cEs at' 0 e)) (λr=>cSs word r a) (!el.isEmpty) (λr=>cSs word r el)else uc word kind slot size (z e))
def cSs(word:Bool)(at':Nat):List Stm->Code
 |[]=>[]
 |e::l=>cS word at' e++cSs word (at'+z (cS word at' e)) l
end
variable{at':Nat}
def zM(b:Seg G at' (leave word)):G at'=S 0/\Good ps word G at' (leave word):=by cases word with|true=>obtain⟨U,Z,_⟩:=b;exact⟨U,jR 0 1 rfl a8 a8 b9 Z,⟨1,0,rfl,a8,a8,λ_=>rfl,λk a=>by simp[next]at a⟩,trivial⟩;|false=>obtain⟨U,_⟩:=b;exact⟨U,⟨0,0,rfl,a8,a8,λ_=>rfl,λk a=>by simp[next]at a⟩,trivial⟩
def Ls{q kind slot size}{n nt ne at'}(h:okS w ps f word q kind slot size n nt ne)(i:kind≠4)(j:kind≠5)(c:Seg G at' (uc word kind slot size n))(hT:G (at'+z (uc word kind slot size n))=S 0):G at'=S (n:Int)/\Good ps word G at' (uc word kind slot size n):=by
 obtain⟨_,_,_,_,_,h⟩:=h;rcases h with⟨h,_,b⟩|⟨h,_,_,_,b⟩|⟨h,b⟩|⟨h,k,d,a,bz⟩|⟨h,b⟩;.subst h b;exact⟨c.1,jR 1 0 rfl a8 a8 b9 hT,trivial⟩
 .subst h b;exact⟨c.1,jR 2 0 rfl a8 a8 b9 hT,trivial⟩
 .subst b;rcases h with h|h|h;.subst h;exact⟨c.1,jR 1 0 rfl a8 a8 b9 hT,trivial⟩
  .omega
  omega
 .subst h d;refine⟨c.1,jR n 0 ?_ a7 a7 b9 (by grind[uc]),trivial⟩;simp_all[a7,takes]
 .subst h;rcases b with b|⟨e,b⟩;.subst b;exact zM c
  .subst e b;exact⟨c.1,⟨1,0,rfl,a8,a8,λ_=>rfl,λk g=>by simp[next]at g⟩,trivial⟩
def Fx{c0}{c1}(d:Seg G at' c0->G (at'+z c0)=S 1->G at'=S 0/\Good ps word G at' c0)(U:∀r,Seg G r (c1 r)->G (r+z (c1 r))=S 0->G r=S 0/\Good ps word G r (c1 r))(a:Seg G at' (jS at' c0 c1))(hT:G (at'+z (jS at' c0 c1))=S 0):G at'=S 0/\Good ps word G at' (jS at' c0 c1):=by unfold jS at a hT|-;rw[kj]at a;obtain⟨g,c,a⟩:=a;rw[kj]at a;obtain⟨i,e,_⟩:=a;obtain⟨b,j⟩:=d g c;obtain⟨V,k⟩:=U _ i e;refine⟨b,iY.2 ⟨j,vn _ rfl a8 ?_ V,iY.2 ⟨k,zK at' rfl a8 b,trivial⟩⟩⟩;grind
def Pz{a}{c1 c2}(U:∀r,Seg G r (c1 r)->G (r+z (c1 r))=S 0->G r=S 0/\Good ps word G r (c1 r))(Z:∀r,Seg G r (c2 r)->G (r+z (c2 r))=S 0->G r=S 0/\Good ps word G r (c2 r))(d:Seg G at' (ifC at' c1 a c2))(hT:G (at'+z (ifC at' c1 a c2))=S 0):G at'=S 1/\Good ps word G at' (ifC at' c1 a c2):=by
 unfold ifC at d hT|-;cases a with|false=>
 simp only[B4,B1]at d hT|-;obtain⟨c,g⟩:=d;have b:G (at'+1+z (c1 (at'+1)))=S 0:=by rw[<-hT];congr 1;simp only[j8];omega
 obtain⟨V,i⟩:=U _ g b;exact⟨c,vn _ rfl a8 b V,i⟩;|true=>
 simp only[B3]at d hT|-;obtain⟨c,d⟩:=d;rw[kj]at d;obtain⟨g,e,j⟩:=d;generalize V:at'+1+z (c1 (at'+1))+1=r at*;have b:G (r+z (c2 r))=S 0:=by rw[<-hT];congr 1;simp only[j8,j7];omega
 obtain⟨k,i⟩:=U _ g e;obtain⟨Q,l⟩:=Z _ j b;refine⟨c,vn _ rfl a8 Q k,iY.2 ⟨i,zK _ rfl a8 b,?_⟩⟩;grind
mutual
theorem Uu:∀(s:Stm){q:Int}{at':Nat},rS w ps f word q s->Seg G at' (cS word at' s)->G (at'+z (cS word at' s))=S 0->G at'=S 0/\Good ps word G at' (cS word at' s)
 |.mk kind slot size e d el,q,at',h,a,hT=>by
   rw[rS]at h;obtain⟨an,k,L,a6⟩:=h;rw[cS]at a hT|-;by_cases g:kind=5
   .rw[s5 g]at a hT|-
    have i:z e=1:=by
     obtain⟨_,_,_,_,_,h⟩:=an;omega
    exact Fx (λs t=>By e i k a8 s t) (λr s t=>rW d L s t) a hT
   .rw[l4 g]at a hT|-
    rw[kj]at a;obtain⟨l,c⟩:=a;rw[j7,<-D4]at hT
    have b:G (at'+z (cEs at' 0 e))=S (z e:Int)/\Good ps word G (at'+z (cEs at' 0 e)) (if kind=4 then ifC (at'+z (cEs at' 0 e)) (λr=>cSs word r d) (!el.isEmpty) (λr=>cSs word r el)else uc word kind slot size (z e)):=by
     by_cases j:kind=4
     .rw[s5 j]at c hT|-
      have i:z e=1:=by
       obtain⟨_,_,_,_,_,h⟩:=an;omega
      rw[i];exact Pz (λr s t=>rW d L s t) (λr s t=>rW el a6 s t) c hT
     .rw[l4 j]at c hT|-
      exact Ls an j g c hT
    obtain⟨t0,m⟩:=zL e k (C7 0) l ZN;exact⟨t0,iY.2 ⟨m,b.2⟩⟩
theorem rW:∀(l:List Stm){q:Int}{at':Nat},rSs w ps f word q l->Seg G at' (cSs word at' l)->G (at'+z (cSs word at' l))=S 0->G at'=S 0/\Good ps word G at' (cSs word at' l)
 |[],q,at',h,a,b=>by
   rw[cSs]at b|-;exact⟨a7,trivial⟩
 |e::l,q,at',h,a,b=>by
   rw[rSs]at h;rw[cSs]at a b|-;rw[kj]at a;rw[j7,<-D4]at b;obtain⟨c,d⟩:=rW l h.2 a.2 b;obtain⟨t0,g⟩:=Uu e h.1 a.1 c;exact⟨t0,iY.2 ⟨g,d⟩⟩
end
def codeOf(word:Bool)(body:List Stm):Code:=cSs word 0 body++leave word
def Fy:∀(c pre:Code),Seg (λk=>((pre++c)[k]?).map Prod.snd) (z pre) c|[],_=>trivial|(x,d)::c,pre=>by refine⟨b9,?_⟩;have:=Fy c (pre++[(x,d)]);grind
def Fz{body}(h:rSs w ps f word 1 body):let G:=λk=>((codeOf word body)[k]?).map Prod.snd
 G 0=S 0/\Good ps word G 0 (codeOf word body):=by intro G;have a:Seg G 0 (codeOf word body):=Fy (codeOf word body) [];unfold codeOf at a|-;rw[kj]at a;obtain⟨hl,gl⟩:=zM (ps:=ps) a.2;obtain⟨b,c⟩:=rW body h a.1 hl;simp_all[iY]
end
variable{w:Int}{ps:Sig}{f:Nat}{word:Bool}{G:Nat->Option Int}
def iZ:∀{c}{at' i}{x}{d},Good ps word G at' c->c[i]?=S (x,d)->OkI ps word G (at'+i) x d|(y,e)::c,at',0,x,d,h,a=>by cases a;exact h.1;|(y,e)::c,at',i+1,x,d,h,a=>by have:=iZ h.2 (by simpa using a);grind
def Uv{body}(h:rSs w ps f word 1 body){i:Nat}{x}{d}(e:(codeOf word body)[i]?=S (x,d))(j:x.op=8\/x.op=9):0<=x.a/\x.a<(z (codeOf word body)):=by obtain⟨t,p,_,_,_,_,g⟩:=iZ (Fz h).2 e;obtain⟨k,l,m⟩:=g x.a (by grind[next]);grind
def Inv(G:Nat->Option Int)(n:Nat)(out:List Int)(c:List Nat):Prop:=(z out)=n/\(∀k v,out[k]?=S v->v=-1\/(G k=S v/\0<=v))/\∀a∈c,∃v,out[a]?=S v/\G a=S v/\0<=v
def left(out:List Int):Nat:=out.countP (· < 0)
def oV:∀{out}{k}{v x},out[k]?=S v->v<0->0<=x->left (out.set k x)+1=left out|a::out,0,v,x,h,d,I=>by simp_all[a7,left];|a::out,k+1,v,x,h,d,I=>by have:=oV (out:=out) (k:=k) ZN d I;simp only[left,R8,T8]at*;omega
variable{out:List Int}{c:List Nat}{b v:Int}
def Inv.seen{n k}(h:Inv G n out c)(hT:G k=S b)(a:out[k]?=S v):v<0\/v=b:=by
 rcases h.2.1 k v a with h|⟨h,_⟩;.omega
 grind
def Inv.find{n k}(h:Inv G n out c)(hT:G k=S b)(i:0<=b)(g:out[k]?=S v)(l:v<0):Inv G n (out.set k b) (c++[k])/\left (out.set k b)+z (c++[k])=left out+z c:=by
 have m:=(l9.1 g).1;refine⟨⟨by simp[h.1],λj u e=>?_,λa d=>?_⟩,?_⟩
 .rw[E3]at e;by_cases t:k=j;.grind
  .rw[l4 t]at e;exact h.2.1 j u e
 .rcases C6.1 d with d|d;.obtain⟨u,L,Z,o⟩:=h.2.2 a d;grind
  grind
 .have:=oV g l i;grind
end Go.Lower
namespace Go.Src
open Go.Asm (Str)
abbrev Pl:=List (Str×Int×Int)
def lV:Pl->Str->Option (Int×Int)|[],_=>N|t::l,s=>if t.1=s then S t.2 else lV l s
def cR(o i:Pl)(s:Str):Int×Int:=match lV i s with|some x=>x|none=>(lV o s).getD (0,0)
mutual
def eR(o i:Pl):Ex->Lower.Ex
 |.mk kind op num name kids=>.mk kind op num (cR o i name).1 (cR o i name).2 (bR o i kids)
def bR(o i:Pl):List Ex->List Lower.Ex
 |[]=>[]
 |e::l=>eR o i e::bR o i l
end
def nZ o i:∀l:List Ex,bR o i l=l.map (eR o i)|[]=>by rfl;|e::l=>by simp[bR,nZ o i l]
mutual
def coreS(o i:Pl):Stm->Lower.Stm
 |.mk kind name e a el=>.mk kind (cR o i name).1 (cR o i name).2 (bR o i e) (cF o i a) (cF o i el)
def cF(o i:Pl):List Stm->List Lower.Stm
 |[]=>[]
 |s::l=>coreS o i s::cF o i l
end
def oe o i:∀l:List Stm,cF o i l=l.map (coreS o i)|[]=>by rfl;|e::l=>by simp[cF,oe o i l]
structure CFn where
 p:Int
 slots:Int
 first:Int
 word:Bool
 body:List Lower.Stm
def gV:List Str->Pl->Int->Pl×Int|[],m,w=>(m,w)|n::l,m,w=>gV l ((n,w,0)::m) (w+1)
def gA:List (Str×Int)->Pl->Int->Pl×Int|[],m,w=>(m,w)|a::l,m,w=>gA l ((a.1,w,a.2)::m) (w+a.2)
def gF:Nat->List Fn->Pl->Pl|_,[],m=>m|i,f::l,m=>gF (i+1) l ((f.name,(i:Int),0)::m)
def ay(p:Prog):Pl×Int:=(gF 0 p.f (gA p.a (gV p.v [] 0).1 (gV p.v [] 0).2).1,(gA p.a (gV p.v [] 0).1 (gV p.v [] 0).2).2)
def lP(w:Int):Nat->List Str->Pl->Pl|_,[],m=>m|i,n::l,m=>lP w (i+1) l ((n,w+i,0)::m)
def pJ(o:Pl)(f:Fn)(w:Int):CFn:=⟨z f.p,z f.p+z f.l,w,f.word,cF o (lP (w+z f.p) 0 f.l (lP w 0 f.p [])) f.body⟩
def eF(o:Pl):List Fn->Int->List CFn×Int|[],w=>([],w)|f::l,w=>(pJ o f w::(eF o l (w+(z f.p+z f.l))).1,(eF o l (w+(z f.p+z f.l))).2)
structure Core where
 words:Int
 f:List CFn
def ab(p:Prog):Core:=⟨(eF (ay p).1 p.f (ay p).2).2,(eF (ay p).1 p.f (ay p).2).1⟩
def kL(p:Prog):Core×Nat:=if bN p≠0 then(⟨0,[]⟩,bN p)else if 32768<(ab p).words then(⟨0,[]⟩,2)else(ab p,0)
end Go.Src

