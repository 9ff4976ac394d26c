/- A part of the proof; no conditions. -/
import Derived.Test.YtlacbjnmkhndiaaGreatDoorPart14
set_option linter.unusedSimpArgs false
set_option linter.unusedVariables false
set_option linter.defProp false
open List renaming length -> z
open Option renaming some -> S, none -> N
open Bool renaming true -> T, false -> F
set_option maxHeartbeats 64000000
set_option maxRecDepth 100000
namespace Go.Proofs.YtlacbjnmkhndiaaGreatDoor
section
attribute [local congr] Go.Am.ite_cc
open Go Go.Am Go.Asm
open Go.Src (aT am bD cp eW bg eL ba fp ij dX szE bc szS aD Ex Stm)
def xp{o:cF}(ho:jS o):∀(al:Nat)(l:List Stm)(q:Nat),aD l<=al->al<=1000000000->q<=25->bP Tryz.prog 1 o 90 [eS l,iv .i64 q] (·=bv (ba q l)):=by
 intro al
 induction al using Nat.strongRecOn with
 |ind al B=>
 intro l q az hN j;refine hdG Tryz.func90 rfl [.tmp 4] λO bn s0 w0 g=>?_;obtain⟨X,t⟩:∃X,ba q l=X:=⟨_,rfl⟩
 rw[t];have bl:=Src.IG l;have x:=ac (k:=q) a7;unfold eS;by_cases b:0<z l/\24<q
 .have U:(0:Int)<(z l:Int):=a7
  have W:(24:Int)<(q:Int):=a7
  obtain rfl:X=F:=by
   rw[<-t];cases l with
   |nil=>simp at b
   |cons e l=>
     obtain⟨kind,name,e,u,el⟩:=e;have:¬q<=24:=a7;simp[ba,eL,this]
  simp only[go_sem,j6,U,W]
 by_cases G:l=[]
 .subst G
  obtain rfl:X=T:=by rw[<-t];simp[ba]
  exact vr
 have fw:0<z l:=N2.2 G;have Z:(0:Int)<(z l:Int):=a7;have Y:¬(24:Int)<(q:Int):=a7;simp only[go_sem,j6,Z,Y];refine aw (λm K=>∃k:Nat,m+k=z l/\(l.take k).all (eL q)=T/\K.f 1=iv .i64 q/\K.f 14=.one (.d (.sl (l.map smD)))/\K.f 15=iv .i64 (z l)/\K.f 16=iv .i64 k) (z l) ?_ ?_
 .exact UE
 rintro m f g1 av ⟨k,hk,bs,i,E,n,A⟩;simp only at i E n A;have hw:=ac (k:=k) a7;by_cases af:k<z l
 case neg=>
  have Q:¬(k:Int)<(z l:Int):=a7;obtain rfl:k=z l:=a7;rw[s6 (l7 _)]at bs;obtain rfl:X=T:=by rw[<-t,Src.zZ];exact bs
  simp only[go_sem,n,A,Q]
 have Q:(k:Int)<(z l:Int):=a7;have bf:(0:Int)<=(k:Int):=a7;obtain⟨e,v⟩:=getq af;obtain⟨kind,name,w,u,el⟩:=e;have a:=Src.LV (l6 v);rw[szS]at a;have H:smD (.mk kind name w u el)=[.int .i64 kind,.str name,.sl (w.map exD),.sl (u.map smD),.sl (el.map smD)]:=by simp only[smD,aK,dQ]
 have hF:=AZ ho (.mk kind name w u el);have hX:=xo ho (bc w) w (q+1) (l7 _) a7 a7;have I:=B (aD u) a7 u (q+1) (l7 _) a7 a7;have J:=B (aD el) a7 el (q+1) (l7 _) a7 a7;unfold smV at hF;unfold eb at hX;unfold eS at I J;rw[H]at hF;simp only[l9,w9]at hF;have c:q<=24:=a7;simp only[go_sem,i,E,n,A,Q,bf,v,H];refine cG rfl Xn ?_;rintro _ rfl;cases hf:cp kind name (z w) (z u) (z el)
 .obtain rfl:X=F:=by rw[<-t,Src.zZ];exact Src.all_false v (by simp[eL,hf])
  simp only[go_sem,hf]
 simp only[go_sem,i,x];refine cG rfl (by simp only[go_sem,i,x];exact hX) ?_;rintro _ rfl;cases V:bg (q+1) w
 .obtain rfl:X=F:=by rw[<-t,Src.zZ];exact Src.all_false v (by simp[eL,hf,V])
  exact hx
 simp only[go_sem,i,x];refine cG rfl (by simp only[go_sem,i,x];exact I) ?_;rintro _ rfl;cases y:ba (q+1) u
 .obtain rfl:X=F:=by rw[<-t,Src.zZ];exact Src.all_false v (by simp[eL,hf,V,y])
  exact hx
 simp only[go_sem,i,x];refine cG rfl (by simp only[go_sem,i,x];exact J) ?_;rintro _ rfl;cases L:ba (q+1) el
 .obtain rfl:X=F:=by rw[<-t,Src.zZ];exact Src.all_false v (by simp[eL,hf,V,y,L])
  exact hx
 .simp only[go_sem,A,hw]
  refine ah (m-1) a7 ⟨k+1,a7,Src.TR bs v (by simp[eL,hf,V,y,L,c]),?_⟩;simp only[go_sem,i,E,n]
def szP(p:Src.Prog):Nat:=z p.vars+z p.arrays+z p.funcs+(p.funcs.map λf=>z f.params+z f.locals+aD f.body).sum
def kf{p:Src.Prog}{f:Src.Fn}(h:f∈p.funcs):z f.params+z f.locals+aD f.body<=szP p:=by
 have:∀l:List Src.Fn,f∈l->z f.params+z f.locals+aD f.body<=(l.map λf=>z f.params+z f.locals+aD f.body).sum:=by
  intro l
  induction l with
  |nil=>intro h;cases h
  |cons x l a=>
    intro h;rw[l9,D9];rcases A3.1 h with rfl|h
    .omega
    .have:=a h;omega
 have:=this _ h;unfold szP;omega
def CD{o:cF}(ho:jS o)(p:Src.Prog)(az:szP p<=1000000000):bP Tryz.prog 1 o 55 [bS p] (·=bv (dX p)):=by
 refine hdG Tryz.func55 rfl [.tmp 2] λO bn s0 w0 g=>?_;obtain⟨X,E⟩:∃X,dX p=X:=⟨_,rfl⟩
 rw[E];obtain⟨vs,b,fs⟩:=p;have u:=az;unfold szP at az;simp only at az;unfold dX at E;simp only at E;unfold bS iH;by_cases U:z fs<1
 .have c:(z fs:Int)<1:=a7
  obtain rfl:X=F:=by rw[<-E];simp;omega
  simp only[go_sem,j6,c]
 have c:¬(z fs:Int)<1:=a7;by_cases h2:64<z fs
 .have e:(64:Int)<(z fs:Int):=a7
  obtain rfl:X=F:=by rw[<-E];simp;omega
  simp only[go_sem,j6,c,e]
 have e:¬(64:Int)<(z fs:Int):=a7;have hA:=pK ho vs a7;unfold uz at hA;simp only[go_sem,j6,c,e];refine cG rfl (by simp only[go_sem];exact hA) ?_;rintro _ rfl;cases hv:vs.all aT
 .obtain rfl:X=F:=by rw[<-E];simp[hv]
  exact hx
 simp only[go_sem,j6];refine aw (λm K=>∃k:Nat,m+k=z b/\(b.take k).all ij=T/\K.f 1=.one (.ptr 1 (K.gen 1) 0)/\K.obj 1=S [.d (.sl (vs.map λs=>[.str s])),.d (.sl (b.map arD)),.d (.sl (fs.map fnD))]/\K.f 24=.one (.d (.sl (b.map arD)))/\K.f 25=iv .i64 (z b)/\K.f 26=iv .i64 k) (z b) ?_ ?_
 .exact UE
 clear g;rintro m f g ob ⟨k,hk,bs,J,o1,Z,i,j⟩;simp only at J o1 Z i j;have W:=ac (k:=k) a7;by_cases af:k<z b
 .have Q:(k:Int)<(z b:Int):=a7
  have bf:(0:Int)<=(k:Int):=a7;obtain⟨⟨I,sz⟩,G⟩:=getq af;simp only[go_sem,J,o1,Z,i,j,Q,bf,G,arD];refine cG rfl (by simp only[go_sem];exact mq ho I) ?_;rintro _ rfl;cases hb:aT I
  .obtain rfl:X=F:=by rw[<-E,Src.all_false (p:=ij) G (by simp[ij,hb])];simp
   exact hx
  by_cases a1:sz<1
  .obtain rfl:X=F:=by rw[<-E,Src.all_false (p:=ij) G (by simp[ij,hb];omega)];simp
   simp only[go_sem,a1]
  by_cases bl:4096<sz
  .obtain rfl:X=F:=by rw[<-E,Src.all_false (p:=ij) G (by simp[ij,hb];omega)];simp
   simp only[go_sem,a1,bl]
  simp only[go_sem,a1,bl,j,W];refine ah (m-1) a7 ⟨k+1,a7,Src.TR bs G (by simp[ij,hb];omega),?_⟩;simp only[go_sem,J,o1,Z,i]
 have Q:¬(k:Int)<(z b:Int):=a7;obtain rfl:k=z b:=a7;rw[s6 (l7 _)]at bs;simp only[go_sem,J,o1,i,j,Q,j6];refine aw (λm K=>∃k:Nat,m+k=z fs/\(fs.take k).all fp=T/\K.f 46=.one (.d (.sl (fs.map fnD)))/\K.f 47=iv .i64 (z fs)/\K.f 48=iv .i64 k) (z fs) ?_ ?_
 .exact UE
 clear J o1 Z i j af Q W hk;rintro m f g ob ⟨k,hk,a,Y,ad,n⟩;simp only at Y ad n;have W:=ac (k:=k) a7;by_cases af:k<z fs
 case neg=>
  have Q:¬(k:Int)<(z fs:Int):=a7;obtain rfl:k=z fs:=a7;rw[s6 (l7 _)]at a;obtain rfl:X=T:=by rw[<-E,bs,a,hv,C9 (show 1<=z fs/\z fs<=64 by omega)];rfl
  simp only[go_sem,ad,n,Q]
 have Q:(k:Int)<(z fs:Int):=a7;have bf:(0:Int)<=(k:Int):=a7;obtain⟨x,G⟩:=getq af;have B:=kf (p:=⟨vs,b,fs⟩) (l6 G);obtain⟨I,H,V,w,body⟩:=x;simp only at B;have r:=pK ho H a7;have t:=pK ho V a7;have hB:=xp ho (aD body) body 1 (l7 _) a7 a7;unfold uz at r t;unfold eS at hB;have L:∀{y:Bool},fp ⟨I,H,V,w,body⟩=y->y=F->X=F:=λU h2=>by rw[<-E,Src.all_false (p:=fp) G (by rw[U,h2])];simp
 simp only[go_sem,Y,ad,n,Q,bf,G,fnD];refine cG rfl (by simp only[go_sem];exact mq ho I) ?_;rintro _ rfl;cases hb:aT I
 .obtain rfl:=L rfl (by simp[fp,hb])
  exact hx
 by_cases A:6<z H
 .have l:(6:Int)<(z H:Int):=a7
  obtain rfl:=L rfl (by simp[fp,hb];omega);simp only[go_sem,j6,l]
 have l:¬(6:Int)<(z H:Int):=a7;have h:z H<=6:=a7;simp only[go_sem,j6,l];refine cG rfl (by simp only[go_sem];exact r) ?_;rintro _ rfl;cases b7:H.all aT
 .obtain rfl:=L rfl (by simp only[fp,hb,h,b7];simp)
  exact hx
 simp only[go_sem];refine cG rfl (by simp only[go_sem];exact t) ?_;rintro _ rfl;cases q:V.all aT
 .obtain rfl:=L rfl (by simp only[fp,hb,h,b7,q];simp)
  exact hx
 simp only[go_sem];refine cG rfl WH ?_;rintro _ rfl;cases v:ba 1 body
 .obtain rfl:=L rfl (by simp only[fp,hb,h,b7,q,v];simp)
  exact hx
 simp only[go_sem,n,W];refine ah (m-1) a7 ⟨k+1,a7,Src.TR a G (by simp only[fp,hb,h,b7,q,v];simp),?_⟩;simp only[go_sem,Y,ad]
end
end Go.Proofs.YtlacbjnmkhndiaaGreatDoor
namespace Go.Src
section
open Go.Asm (Str digit letter ew iO)
section
section
variable{ts:List Tok}
end
end
end
end Go.Src
namespace Go.Proofs.YtlacbjnmkhndiaaGreatDoor
section
open Go Go.Am Go.Asm
open Go.Src (PR Ex Stm)
def iW(p:Src.Prog):List C:=(iH p).map .d
structure RdG (i:Str) (c:Nat) (g:Nat->Nat) (ob:Obs) (s:St):Prop where
 f0:s.f 0=sv i
 f1:s.f 1=.one (.clo 53 [.ptr c (g c) 0])
 f4:s.f 4=.one (.ptr 104 (nxC 4 (g 104)) 0)
 f5:s.f 5=.one (.ptr 105 (nxC 33 (g 105)) 0)
 gn:s.gen=upd (upd g 104 (nxC 4 (g 104))) 105 (nxC 33 (g 105))
 on:s.obj=upd (upd ob 104 (some [.d (.int .i64 0)])) 105 (some [.d (.int .i64 0)])
structure RdE (c:Nat) (g:Nat->Nat) (ob:Obs) (s:St):Prop where
 f4:s.f 4=.one (.ptr 104 (nxC 4 (g 104)) 0)
 f5:s.f 5=.one (.ptr 105 (nxC 33 (g 105)) 0)
 g4:s.gen 104=nxC 4 (g 104)
 g5:s.gen 105=nxC 33 (g 105)
 o4:s.obj 104=some [.d (.int .i64 0)]
 o5:s.obj 105=some [.d (.int .i64 0)]
 gc:s.gen c=g c
 fr:∀i,i<100->i≠c->s.gen i=g i/\s.obj i=ob i
def Ox:Src.Prog:=⟨[],[],[]⟩
def GN(r:Src.Prog×Nat×Nat):AV:=.tup [bS r.1,iv .i64 (r.2.1:Nat),iv .i64 (r.2.2:Nat)]
end
section
attribute [local congr] Go.Am.ite_cc
open Go Go.Am Go.Asm
open Go.Src (PR Ex Stm)
section
def vD(b:Bool):Str:=[102,117,110,99,32,109,97,105,110,40,41,32,123,32,112,117,116,40,54,53,41]++if b then [59,32,125]else [32,125]
def Ud(b:Bool):Src.Xk (vD b)=(tT b,0,0):=by cases b<;>decide +kernel
def Ue(b:Bool):z (tT b)=if b then 11 else 10:=by cases b<;>rfl
variable{g:Nat->Nat}
def Md{b:Bool}{fin gr gc:Nat}{ob:Obs}(bk:∀i,200<=i->ob i=N)(ho:ob 125=S (rdC (tT b) 0 fin))(I:∃x y X,ob 5=S [x,y,X])(r:g 125=gr)(a:g 5=gc):
  cM Tryz.prog 53 [.one (.ptr 125 gr 0),jY (.ptr 5 gc 0)] g ob (λ_ g' Y=>g'=g/\b=T/\Y=upd (upd ob 125 (S (rdC (tT b) 11 fin))) 5 (S (iW p65))) (NoR (tT b) fin (oT b p65 11) g ob):=by
 obtain⟨x,y,X,I⟩:=I;subst r a;refine hdX 1000 Tryz.func53 rfl [] λO bn s0 w0=>?_;simp only[go_sem];refine DA aa rfl (by simp only[go_sem];exact PT 200 g ob a7 bk ho) ?_;rintro _ g' Y ⟨rfl,p,m,d,rfl,rfl⟩;obtain⟨rfl,rfl,rfl⟩:=Ag d;unfold bS iH;simp only[go_sem,jY,I];exact⟨_,ae.refl _,rfl,rfl⟩
def Nq(b:Bool)(g:Nat->Nat)(ob:Obs)(r:AV)(g':Nat->Nat)(Y:Obs):Prop:=
 (∀i,i<100->i≠5->g' i=g i/\Y i=ob i)/\g' 5=g 5/\if b then r=.tup [iv .i64 0,iv .i64 0]/\Y 5=S (iW p65)else r=.tup [iv .i64 22,iv .i64 3]
def PU{o:cF}(ho:jS o){b:Bool}{ob:Obs}(bk:∀i,100<=i->ob i=N)(I:∃x y X,ob 5=S [x,y,X]):
  Fk Tryz.prog 1 o 52 [sv (vD b),.one (.clo 53 [.ptr 5 (g 5) 0])] g ob (Nq b g ob):=by
 obtain⟨cx,cy,cz,I⟩:=I;refine⟨⟨_,Tryz.func52,j0,c9⟩,λO al β a fa w vs b2 Z bz hv=>?_⟩;refine jZ (n:=0) (callsIn_of_wp_defers Tryz.func52 j0 trivial ?_);have V:=np (al:=Tryz.f52.ntmps) (by simp[Tryz.ntmps52]) bz hv;refine ro (B:=100) (ds:=[]) aA mixed lE c9 c9 V ⟨⟨b2,Z⟩,rfl,Tr.refl⟩ (K:=RdG (vD b) 5 g ob) ?_ ?_
 .simp only[go_sem]
  exact⟨rfl,rfl,rfl,rfl,rfl,rfl⟩
 rintro s1 l a1 b' w1 k1 b1 c;refine ro (B:=100) aA mixed lE c9 c9 b1 c (K:=λs=>RdG (vD b) 5 g ob s/\s.f 6=.one (.d (jW (tT b)))/\s.f 8=iv .i64 0) ?_ ?_
 .obtain⟨f,g1,av⟩:=s1
  obtain⟨q0,q1,q4,q5,rfl,rfl⟩:=k1;simp only at q0 q1 q4 q5;simp only[go_sem,q0];refine mf lE (λs β ds w h=>h.1.2) rfl (by simp only[go_sem,q0];exact TM ho (vD b)) (by simp only[go_sem,q0];rfl) ?_;rintro _ rfl;rw[Ud];unfold TK;simp only[go_sem];refine⟨?_,?_,?_,?_,rfl,rfl⟩<;>(simp only[go_sem,q0,q1,q4,q5])
 rintro s2 ad a2 az w2 ⟨k2,P,k8⟩ Q b3;refine ro (B:=100) aA mixed lE c9 c9 Q b3 (K:=λs=>RdG (vD b) 5 g ob s/\s.f 6=.one (.d (jW (tT b)))) ?_ ?_
 .obtain⟨f,g1,av⟩:=s2
  obtain⟨q0,q1,q4,q5,rfl,rfl⟩:=k2;simp only at q0 q1 q4 q5 P k8;simp only[go_sem,k8,P];refine⟨?_,?_,?_,?_,rfl,rfl⟩<;>(simp only[go_sem,q0,q1,q4,q5])
 rintro s3 r E b5 w3 ⟨k3,P⟩ L bd;obtain rfl:b5=[]:=bd.2.1;refine DC (B:=100) (t:=20) (f:=81) (q:=[.ptr 104 (nxC 4 (g 104)) 0,.ptr 105 (nxC 33 (g 105)) 0]) aA lE rfl rfl rfl (λd h=>by cases h;simp[Tryz.ntmps52]) rfl rfl L bd (K:=λs=>RdG (vD b) 5 g ob s/\s.f 6=.one (.d (jW (tT b)))) ?_ ?_
 .obtain⟨f,g1,av⟩:=s3
  obtain⟨q0,q1,q4,q5,rfl,rfl⟩:=k3;simp only at q0 q1 q4 q5 P;simp only[go_sem,q4,q5,P];refine⟨?_,?_,?_,?_,rfl,rfl⟩<;>(simp only[go_sem,q0,q1,q4,q5])
 rintro s4 ca a4 w4 vs ⟨k4,P⟩ b6 bo an;obtain⟨f4,g4,bf⟩:=s4;obtain⟨q0,q1,q4,q5,rfl,rfl⟩:=k4;simp only at q0 q1 q4 q5 P;unfold Nq
 refine DB (B:=100) aA mixed (vO (d:=[⟨.fn (.func 81) vs.toArray,#[]⟩])) (λch s=>(b=F/\ch=xn 22)/\RdE 5 g ob s)
  (λe s=>e=.ret/\(b=T/\s.obj 5=S (iW p65))/\RdE 5 g ob s) c9 c9 b6 ⟨rfl,Tr.refl⟩ ?_ ?_
 .simp only[go_sem,q0,q1,q4,q5,P]
  refine aN (f:=53) (q:=[.ptr 5 (g 5) 0]) vO rfl (by simp only[go_sem,q1]) (by simp only[go_sem];exact Md (b:=b) (fin:=z (vD b)) (λi hi=>by simp only[upd];(repeat rw[j8 (by omega)]);exact bk i (by omega)) (by simp[upd,rdC]) ⟨cx,cy,cz,by simp[upd,I]⟩ (by simp[upd]) (by simp[upd])) ?_ ?_
  .rintro ch g' Y ⟨rfl,m,hp,rfl,rfl⟩
   obtain rfl:b=F:=by cases b;rfl;cases hp
   have hp:(PR.no 9:PR Src.Prog)=.no m:=hp;cases hp;refine⟨⟨rfl,rfl⟩,?_⟩;exact s8
  .rintro _ g' Y ⟨rfl,rfl,rfl⟩
   unfold rdC jW;simp only[go_sem];refine aF c8 ?_;simp only[go_sem,j6,Ue,q4,q5];exact s8
 rintro e W A a' H G bl b4 ⟨rfl,a6⟩;rcases bl with⟨rfl,⟨rfl,b7⟩,z4,z5,e4,e5,o4,o5,gc,hF⟩|⟨ch,rfl,⟨rfl,rfl⟩,z4,z5,e4,e5,o4,o5,gc,hF⟩
 .show LeavesIn _ _ _ _ a'.tmps _ _ _ _
  refine AD (B:=200) (fnD:=Tryz.f81) aA mixed Tryz.func81 j0 c9 rfl rfl rfl rfl rfl rfl WN WN j0 c9 c9 (aA 20 rfl).desc b4 (aH.keep a6.keep _ an) WN
   (K:=λg' Y=>g'=W.gen/\Y=W.obj) ?_ ?_
  .intro bn s0 w0
   exact hx
  .rintro _ _ bs w6 ⟨rfl,rfl⟩ p b0
   have hE:lC Tt ⟨W.f,W.gen,W.obj⟩ [.cell 4 3,.cell 5 32] (bx λj=>pack j=.tup [iv .i64 0,iv .i64 0]):=by
    simp only[go_sem,z4,z5,e4,e5,o4,o5];rfl
   obtain⟨v,j,U,h2,h3,_⟩:=eG (fn:=Tryz.f52) aA p j0 hE;refine⟨v,U,v,_,_,_,bs,rfl,⟨λi hi af=>hF i hi af,gc,h2,b7⟩,h3,p.obj,p.inj,?_⟩;have J:=(bo.2.2.trans a6).trans b0;exact⟨J.size,J.old,J.keep,J.os⟩
 show LeavesIn _ _ _ _ a'.tmps _ _ _ _
 refine AB (B:=200) (fnD:=Tryz.f81) aA mixed Tryz.func81 j0 c9 rfl rfl rfl rfl rfl rfl WN WN j0 c9 c9 (aA 20 rfl).desc (t:=174) (u:=.agg #[.int .i64 (22:Nat)]) b4 (aH.keep a6.keep _ an) WN
  (K:=λg' Y=>g' 104=nxC 4 (g 104)/\g' 105=nxC 33 (g 105)/\Y 104=S [.d (.int .i64 22)]/\Y 105=S [.d (.int .i64 3)]/\g' 5=g 5/\∀i,i<100->i≠5->g' i=g i/\Y i=ob i) ?_ ?_
 .intro bn s0 w0
  simp only[go_sem];refine wY (k:=bx _) aa rfl (aA 174 rfl).desc (kd:=.i64) (n:=(22:Nat)) Vy ?_;simp only[go_sem,e4,e5,o4,o5,jY,gc];intro i hi af;have U:=(hF i a7 af).1;have h2:=(hF i a7 af).2
  (repeat rw[j8 (by omega)])
  exact⟨U,h2⟩
 .rintro g' Y bs w6 ⟨x4,x5,y4,y5,b8,ar⟩ p b0
  have hE:lC Tt ⟨W.f,g',Y⟩ [.cell 4 3,.cell 5 32] (bx λj=>pack j=.tup [iv .i64 22,iv .i64 3]):=by
   simp only[go_sem,z4,z5,x4,x5,y4,y5];rfl
  obtain⟨v,j,U,h2,h3,_⟩:=eG (fn:=Tryz.f52) aA p j0 hE;refine⟨v,U,v,_,_,_,bs,rfl,⟨ar,b8,h2⟩,h3,p.obj,p.inj,?_⟩;have J:=(bo.2.2.trans a6).trans b0;exact⟨J.size,J.old,J.keep,J.os⟩
def rT(b:Bool):Src.Prog×Nat×Nat:=if b then(p65,0,0)else(Ox,22,3)
def PV{o:cF}(ho:jS o)(b:Bool):bP Tryz.prog 1 o 30 [sv (vD b)] (·=GN (rT b)):=by
 refine hdG Tryz.func30 rfl [.cell 2 26,.tmp 3,.tmp 4] λO bn s0 w0 g=>?_;simp only[go_sem];refine Dy aE (λs j ds w h=>h.1) rfl (by simp only[go_sem];exact PU ho (λi l=>by simp only[upd];(repeat rw[j8 (by omega)])) ⟨_,_,_,by simp[upd];exact⟨rfl,rfl,rfl⟩⟩) ?_;rintro r n t ⟨f1,gc,U⟩;have d:=(f1 2 b9 b9).1;have e:=(f1 2 b9 b9).2;simp[upd]at d e gc;cases b
 .obtain rfl:r=_:=U
  simp only[go_sem,d,e];exact⟨_,⟨_,⟨_,_,rfl,ux [.nsl,.nsl,.nsl],_,_,rfl,ke _,_,_,rfl,ke _,rfl⟩,rfl⟩,rfl⟩
 .obtain⟨rfl,c⟩:=U
  unfold iW iH at c;have a:=CD ho p65 b9;rw[show Src.dX p65=T by decide +kernel]at a;unfold bS iH at a;simp only[go_sem,d,e,gc,c];refine cG rfl (by simp only[go_sem];exact a) ?_;rintro _ rfl;simp only[go_sem,d,e,gc,c];exact⟨_,⟨_,⟨_,_,rfl,ux (iH p65),_,_,rfl,ke _,_,_,rfl,ke _,rfl⟩,rfl⟩,rfl⟩
end
end
end Go.Proofs.YtlacbjnmkhndiaaGreatDoor
namespace Go.Src
section
open Go.Asm (Str)
section
abbrev Th:=Str×Nat×Nat
def aG:List Th->Str->Option (Nat×Nat)
 |[],_=>N
 |t::l,s=>if t.1=s then S t.2 else aG l s
def lf(l m:List Th)(s:Str):aG (l++m) s=match aG l s with|some x=>S x|none=>aG m s:=by
 induction l with
 |nil=>rfl
 |cons t l a=>simp only[C3,aG];split<;>simp_all
def dw:∀{l:List Th}{s:Str}{x:Nat×Nat},aG l s=S x->(s,x)∈l
 |t::l,s,x,h=>by
   unfold aG at h;split at h
   .rename_i e;cases h;subst e;simp
   .exact P4 _ (dw h)
def bR:List Th->List Th->Bool
 |_,[]=>T
 |seen,t::l=>(aG seen t.1).isNone&&bR (seen++[t]) l
def qW(t:Th):∀(l a:List Th),bR a (l++[t])=(bR a l&&(aG (a++l) t.1).isNone)
 |[],a=>by simp[bR]
 |x::l,a=>by simp only[C3,bR,qW t l];rw[u7,I5,F3]
def thV(vs:List Str):List Th:=vs.mapIdx λi n=>(n,2,i)
def thA(o:List (Str×Int)):List Th:=o.mapIdx λi a=>(a.1,3,i)
def thF(fs:List Fn):List Th:=fs.mapIdx λi f=>(f.name,4,i)
def aO(p:Prog):List Th:=thV p.vars++thA p.arrays++thF p.funcs
def thL(k:Nat)(m:List Str):List Th:=m.mapIdx λi n=>(n,1,k+i)
def aV(f:Fn):List Th:=thL 0 f.params++thL (z f.params) f.locals
def aQ(o i:List Th)(s:Str):Option (Nat×Nat):=match aG i s with|some x=>S x|none=>aG o s
def bj(g:Str->Option (Nat×Nat))(i:Nat)(kind:Nat)(name:Str):Bool:=
 match g name with
 |none=>F
 |some (k,n)=>if kind=2 then k == 1 || k == 2 else if kind=3 then k == 3 else k == 4 && decide (n<i)
def eP(g:Str->Option (Nat×Nat))(fs:List Fn)(i:Nat)(kind:Nat)(name:Str)(args:Nat):Bool:=
 match g name with
 |none=>T
 |some (k,n)=>if kind=4/\k=4/\n<i then(match fs[n]? with|some f=>z f.params == args|none=>T)else T
mutual
def okE(u:Nat->Str->Nat->Bool):Ex->Bool
 |.mk kind _ _ name kids=>(if kind=2 then u 2 name 0 else if kind=3 then u 3 name 0 else if kind=4 then u 4 name (z kids)else T) && df u kids
def df(u:Nat->Str->Nat->Bool):List Ex->Bool
 |[]=>T
 |e::l=>okE u e&&df u l
end
mutual
def okS(u:Nat->Str->Nat->Bool):Stm->Bool
 |.mk kind name e a el=>(if kind=1 then u 2 name 0 else if kind=2 then u 3 name 0 else if kind=6 then u 4 name (z e)else T) && df u e && dy u a && dy u el
def dy(u:Nat->Str->Nat->Bool):List Stm->Bool
 |[]=>T
 |s::l=>okS u s&&dy u l
end
def jw(p:Prog)(i:Nat)(f:Fn):Bool:=bR [] (aV f)&&dy (λk n _=>bj (aQ (aO p) (aV f)) i k n) f.body
def xN(p:Prog)(i:Nat)(f:Fn):Bool:=dy (λk n a=>eP (aQ (aO p) (aV f)) p.funcs i k n a) f.body
def bp{A:Type}(c:Nat->A->Bool):Nat->List A->Bool
 |_,[]=>T
 |i,a::l=>c i a&&bp c (i+1) l
def Aa{A:Type}(c:Nat->A->Bool)(x:A):∀(l:List A)(i:Nat),bp c i (l++[x])=(bp c i l&&c (i+z l) x)
 |[],i=>by simp[bp]
 |a::l,i=>by simp only[C3,bp,Aa c x l,j9,F3];rw[show i+1+z l=i+(z l+1) by omega]
def Np:Str:=[109,97,105,110]
def iZ(p:Prog):Nat:=
 if (bR [] (aO p) && bp (jw p) 0 p.funcs)=F then 4
 else match p.funcs.getLast? with
  |none=>0
  |some f=>if bp (xN p) 0 p.funcs=T/\f.name=Np/\f.params=[]/\f.word=F then 0 else 1
variable{s:Str}{k n:Nat}{fs:List Str}
def IH{fs:List Fn}(h:(s,k,n)∈thF fs):k=4/\n<z fs:=by
 simp only[thF,J1]at h;obtain⟨i,a,e⟩:=h;cases e;exact⟨rfl,a⟩
def TT(h:(s,k,n)∈thV fs):k=2:=by
 simp only[thV,J1]at h;obtain⟨i,a,e⟩:=h;cases e;rfl
def TU{fs:List (Str×Int)}(h:(s,k,n)∈thA fs):k=3:=by
 simp only[thA,J1]at h;obtain⟨i,a,e⟩:=h;cases e;rfl
def De{j:Nat}(h:(s,k,n)∈thL j fs):k=1/\n<j+z fs:=by
 simp only[thL,J1]at h;obtain⟨i,a,e⟩:=h;cases e;exact⟨rfl,a7⟩
def QF{p:Prog}{f:Fn}{n:Nat}(h:aQ (aO p) (aV f) s=S (4,n)):n<z p.funcs:=by
 unfold aQ at h;split at h
 .rename_i a
  cases h;have:=dw a;unfold aV at this;rcases C4.1 this with h|h
  .exact absurd (De h).1 b9
  .exact absurd (De h).1 b9
 .have:=dw h
  unfold aO at this;rcases C4.1 this with h|h
  .rcases C4.1 h with h|h
   .exact absurd (TT h) b9
   .exact absurd (TU h) b9
  .exact(IH h).2
end
end
end Go.Src
