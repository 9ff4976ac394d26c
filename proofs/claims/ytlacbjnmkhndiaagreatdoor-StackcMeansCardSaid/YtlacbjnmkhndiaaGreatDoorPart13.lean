/- A part of the proof; no conditions. -/
import Derived.Test.YtlacbjnmkhndiaaGreatDoorPart12
import Derived.Shelf.Strconv.Itoa3
import Derived.Test.YtlacbjnmkhndiaaGreatDoorProg
import Derived.WalkKit
import Derived.Lib.Builder
import Derived.Shelf.Strings.Repeat
set_option linter.unusedSimpArgs false
set_option linter.unusedVariables false
set_option linter.defProp false
open List renaming length -> z
open Option renaming some -> S, none -> N
open Bool renaming true -> T, false -> F
set_option maxHeartbeats 64000000
set_option maxRecDepth 100000
namespace Go.Proofs.YtlacbjnmkhndiaaGreatDoor.Low
section
open Go Go.Am Go.Lower
attribute[local congr]ite_cc
section
def zk{s:St}{cs:List D}(h:cs.all (λx=>match x with|.nsl=>F|_=>T)=T):kR s (.agg (cs.map .d)) (.agg (cs.map .d)):=by
 refine⟨cs,a8,λi c Z=>?_,rfl⟩;rw[x8]at Z;cases a:cs[i]? with
 |none=>rw[a]at Z;cases Z
 |some x=>
   rw[a]at Z;cases Z;refine⟨x,rfl,?_⟩;have:=y8.1 h x (l6 a);have b:ge x=x:=by cases x<;>simp_all[ge]
   have e:=Frz.d (s:=s) x
   rwa [b]at e
def Hf(n k:Nat)(h:k<n):(List.replicate k (-1:Int)++List.replicate (n-k) 0).set k (-1)=List.replicate (k+1) (-1)++List.replicate (n-(k+1)) 0:=by
 rw[I6 _ _ a8,G0,J5];obtain⟨m,a⟩:∃m,n-k=m+1:=⟨n-k-1,a7⟩
 rw[a,show n-(k+1)=m by omega,F6,G7,List.replicate_succ' (n:=k),u7];rfl
variable{E:Nat->Option Int}{word:Bool}
def Ek{n:Nat}(d:0<n)(hT:E 0=S 0):Inv E n ((List.replicate n (-1:Int)).set 0 0) [0]/\left ((List.replicate n (-1:Int)).set 0 0)+1=n/\(∀v∈(List.replicate n (-1:Int)).set 0 0,v<=0):=by
 obtain⟨m,rfl⟩:∃m,n=m+1:=⟨n-1,a7⟩
 rw[F6,G7];refine⟨⟨a8,λk v h=>?_,λa b=>?_⟩,?_,λv c=>?_⟩
 .cases k with
  |zero=>simp at h;subst h;exact .inr ⟨hT,C5 _⟩
  |succ k=>rw[s9,H9]at h;split at h<;>simp at h;exact .inl h.symm
 .obtain rfl:a=0:=by simpa using b
  exact⟨0,rfl,hT,C5 _⟩
 .unfold left
  rw[Sb,Sr];simp
 .rcases A3.1 c with rfl|h
  .exact C5 _
  .have:=F1 h;omega
def nN{A:Type}(n:Nat)(x:A):(List.replicate n [x]).flatten=List.replicate n x:=by
 induction n with
 |zero=>rfl
 |succ n a=>rw[F6,E8,a,F6];rfl
def zl(x:Ins):z (bE x)=4:=rfl
def nI(l:List Nat):List Int:=l.map λk:Nat=>(k:Int)
def zm{A:Type}(l:List A):l=[]\/∃b a,l=b++[a]:=by
 exact Vs
structure Mid (E:Nat->Option Int) (n:Nat) (out:List Int) (c:List Nat):Prop where
 inv:Inv E n out c
 le:∀v∈out,v+left out<=n
def Mid.popL{n:Nat}{out:List Int}{a:Nat}{c:List Nat}(h:Mid E n out (c++[a])):Mid E n out c/\∃v,out[a]?=S v/\E a=S v/\0<=v/\v+left out<=n:=by
 obtain⟨v,U,d,e⟩:=h.inv.2.2 a a8;exact⟨⟨⟨h.inv.1,h.inv.2.1,λb f=>h.inv.2.2 b (by simp[f])⟩,h.le⟩,v,U,d,e,h.le v (l6 U)⟩
def Mid.find{E:Nat->Option Int}{n k:Nat}{out:List Int}{c:List Nat}{b v d:Int}(h:Mid E n out c)(hT:E k=S b)(a:0<=b)(e:out[k]?=S v)(f:v<0)(hd:b<=d+1)(i:d+left out<=n):
  Mid E n (out.set k b) (c++[k])/\left (out.set k b)+z (c++[k])=left out+z c/\d+left (out.set k b)<=n:=by
 obtain⟨U,g⟩:=h.inv.find hT a e f;have Z:=lm e f a;refine⟨⟨U,λu L=>?_⟩,g,a7⟩;rcases Je L with L|rfl
 .have:=h.le u L;omega
 .omega
def Hg{ps:Sig}{c:Lower.Code}(h:Lower.Good ps word E 0 c){i:Nat}{x:Ins}{d:Int}(a:c[i]?=S (x,d)):OkI ps word E i x d:=by
 have:=fC h a
 rwa [C7]at this
def KK{ps:Sig}{x:Ins}{t p:Int}(h:takes ps word x=S (t,p)):0<=p/\p<=1:=by
 rcases zj h with U|U|U|U|U|U|U|U|U|U|U|U|U
 all_goals try (obtain⟨rfl,rfl⟩:_=t/\_=p:=by simpa[takes,U]using h)
 all_goals try (exact⟨by decide,by decide⟩)
 .simp only[takes,U]at h
  simp at h;obtain⟨_,a,⟨_,_,b⟩|⟨_,_,b⟩⟩:=h<;>omega
 .cases word<;>simp[takes,U]at h<;>omega
def Hh{w:Int}{fs:List Src.CFn}{f:Nat}{W:Src.CFn}(hf:fs[f]?=S W){A:Lower.Code}(ch:codeOf W.word W.body=A)(hl:z A<=100000000)(hT:∀k,E k=(A[k]?).map Prod.snd)(h0:E 0=S 0)(hg:Lower.Good (KJ fs) W.word E 0 A):
  ax Tryz.prog 72 [iX w fs,iv .i64 f] (λr=>(Inv E (z A) (Emit.bq A) []/\∀v∈Emit.bq A,v<=z A)/\r=.tup [.one (.d (ksD (Emit.bq A))),bv T]):=by
 refine hdP Tryz.func72 rfl [4,5] λg=>?_;have b3:f<z fs:=(l5.1 hf).1;have ek:¬z fs<=f:=a7
 have hn:0<z A:=by
  cases hq:A with
  |nil=>rw[hT]at h0;simp[hq]at h0
  |cons=>simp
 have bk:¬(z A:Int)=0:=a7;have ca:¬(f:Int)<0:=a7;have et:¬(z fs:Int)<=(f:Int):=a7;have ev:(f:Int)<(z fs:Int):=a7;have e4:(0:Int)<=(f:Int):=a7
 have e5:∀k v,E k=S v->k<z A:=λk v h=>by
  rw[hT]at h;cases hq:A[k]? with
  |none=>rw[hq]at h;cases h
  |some=>exact(l5.1 hq).1
 unfold iX;simp only[go_sem,hf,b3,ek,ca,e4,et,ev,bk,sfD,ch,j6];refine⟨l7 _,a7,a7,?_⟩
 refine dZ (λn s=>∃k:Nat,n+k=z A/\s.f 1=iv .i64 f/\s.f 2=.one (.ptr 2 (s.gen 2) 0)/\s.f 6=.one (.d (sP A))/\s.f 7=.one (.osl 42 (s.gen 42) 1 0 (z A))/\s.f 44=iv .i64 (z A)/\s.f 45=iv .i64 k/\
  s.obj 2=S [.d (.int .i64 w),.d (.sl (fs.map sfD))]/\s.obj 42=S (icells (List.replicate k (-1)++List.replicate (z A-k) 0))/\∀j,200<=j->s.obj j=N) (z A) ?_ ?_
 .refine⟨0,rfl,?_⟩
  simp only[go_sem];refine⟨?_,λj hj=>nu⟩;rw[nN,icells,B5,O2,O2,L1,A6]
 clear g;rintro n g gn ob ⟨k,hk,f1,f2,f6,Z,cm,c',o2,i,ar⟩;simp only at f1 f2 f6 Z cm c' o2 i ar;have hw:=ac (k:=k) a7;have b5:(icells (List.replicate k (-1)++List.replicate (z A-k) 0)).length=z A:=by rw[ct,j7,G0,G0];omega
 by_cases af:k<z A
 .have Q:(k:Int)<(z A:Int):=a7
  have bf:(0:Int)<=(k:Int):=a7;simp only[go_sem,f1,f2,f6,Z,cm,c',o2,i,Q,bf,af,b5,hw];refine⟨a7,?_⟩;refine dG (n-1) a7 ⟨k+1,a7,?_⟩;simp only[go_sem,f1,f2,f6,Z,cm,o2,i,hw,setAt];exact⟨by rw[iA,Hf (z A) k af],λj hj=>nt (ar j hj)⟩
 have b0:k=z A:=a7;subst b0;have Q:¬(z A:Int)<(z A:Int):=a7;rw[J5,L1,s7]at i;simp only[go_sem,f1,f2,f6,Z,cm,c',o2,i,Q,ct,G0,hn];refine⟨a7,a7,?_⟩;refine BP _ (ej (t:=9) (o:=9) (b:=200) (j:=0) (sz:=1) (off:=0) (cells:=[.d .nsl]) Vy Vy rfl b9) ?_;simp only[St.claimAt];refine ck rfl (by simp only[go_sem];exact(He (B:=300) (E:=9) (D:=200) (l:=[]) (x:=0) (λj hj=>nt (ar j a7)) b9 b9 b9 ⟨by simp[upd],[],by simp[upd,icells]⟩ VF a8).toR) ?_;rintro _ g2 bo ⟨pl,q1,q2⟩;have e2:=q1 2 b9;have cy:=q1 42 b9;have e9:=q1 9 b9;have p2:=q2 2 b9 b9;have a1:=q2 42 b9 b9;simp[upd]at e2 cy e9 p2 a1;have b4:∀j,300<=j->bo j=N:=λj hj=>by rw[q2 j a7 a7];exact nt (ar j a7)
 obtain⟨s1,s2,s3⟩:=Ek (E:=E) hn h0;simp only[go_sem];refine dZ (λm s=>∃(out:List Int)(c:List Nat),m=left out+z c/\m<=z A/\Mid E (z A) out c/\Emit.search A (left out+z c) (out,c)=Emit.bq A/\s.f 1=iv .i64 f/\s.f 2=.one (.ptr 2 (s.gen 2) 0)/\s.f 6=.one (.d (sP A))/\s.f 7=.one (.osl 42 (s.gen 42) 1 0 (z A))/\s.f 9=.one (.ptr 9 (s.gen 9) 0)/\s.obj 2=S [.d (.int .i64 w),.d (.sl (fs.map sfD))]/\s.obj 42=S (icells out)/\sw 9 200 (nI c) s.gen s.obj/\(∀j,300<=j->s.obj j=N)) (z A) ?_ ?_
 .refine⟨(List.replicate (z A) (-1)).set 0 0,[0],by rw[j9,l4];exact s2.symm,l7 _,⟨s1,λv hv=>by have:=s3 v hv;omega⟩,by rw[j9,l4,s2];rfl,?_⟩
  simp only[go_sem,f1,f2,f6,Z,e2,cy,e9,p2,a1,o2];exact⟨iA _ _ _,pl,b4⟩
 clear f1 f2 f6 Z cm c' o2 i hk af hw s1 s2 s3 ar b4 e2 cy e9 p2 a1 pl q1 q2 b5 Q;clear n g gn ob g2 bo;rintro n g gn ob ⟨out,c,hm,cz,G,P,f1,f2,f6,Z,f9,o2,i,pl,ar⟩;simp only at f1 f2 f6 Z f9 o2 i pl ar;have b1:z (nI c)=z c:=by simp[nI]
 simp only[go_sem,f9];refine ck rfl (by simp only[go_sem,f9];exact(OG (B:=300) (E:=9) (D:=200) (l:=nI c) ar b9 pl rfl).toR) ?_;rintro _ g2 bo ⟨rfl,rfl,rfl⟩;rw[b1];rcases zm c with rfl|⟨c,a,rfl⟩
 .rw[Emit.AO]at P
  subst P;simp only[go_sem,Z,l4];refine⟨_,⟨_,dN (s:=⟨_,_,_⟩) rfl (Emit.bq A) (λk=>[.int .i64 k]) i ?_ (λ_ _ y hy=>by simp at hy;subst hy;rfl) (λ_ _=>rfl) G.inv.1,rfl⟩,⟨G.inv,λv hv=>by have:=G.le v hv;omega⟩,rfl⟩;simp only[icells,l9,w9];clear i G hm;generalize Emit.bq A=out
  induction out with
  |nil=>rfl
  |cons b out ih=>rw[l9,G2,ih];rfl
 obtain⟨c2,v,hv,c7,c1,b8⟩:=G.popL;have b2:=e5 a v c7;have bs:=c7;rw[hT]at bs;obtain⟨⟨x,v'⟩,I,ec⟩:=G1.1 bs;obtain rfl:v'=v:=ec;obtain⟨t,p,an,J,eh,ds,av⟩:=Hg hg I;have az:(0:Int)<((z c+1:Nat):Int):=a7;have bz:nI (c++[a])=nI c++[(a:Int)]:=by simp[nI]
 rw[bz]at pl;have bl:z (c++[a])=z c+1:=a8;rw[bl];have Y:z c<=1000000000:=by rw[bl]at hm;omega
 have dx:Emit.search A (n-1) (Emit.visit A ((next x a).drop 0) (out,c))=Emit.bq A:=by
  rw[bl,<-C0,Emit.yG A _ out c a I]at P;rw[hm,bl];exact P
 have b':z (nI c)=z c:=by simp[nI]
 simp only[go_sem,az,f9];refine ck rfl (by simp only[go_sem,f9];exact(Ti (B:=300) (E:=9) (D:=200) (l:=nI c) (x:=(a:Int)) ar b9 b9 b9 pl rfl a7).toR) ?_;rintro _ g3 b7 ⟨rfl,dc,rfl,q3⟩;have p2:=q3 2 b9;have a1:=q3 42 b9;rw[o2]at p2;rw[i]at a1;have cb:∀j,300<=j->b7 j=N:=λj hj=>by rw[q3 j a7];exact ar j hj
 simp only[go_sem];refine cO aA mixed c8 ?_;have ad:=G.inv.1;have X:(0:Int)<=(a:Int):=a7;have c0:(a:Int)<(z A:Int):=a7;have e8:a<z out:=a7;simp only[go_sem,f1,f2,f6,Z,p2,a1,b2,I,X,c0,j6,zl,hv,iz,ct,ad];have dd:v'<=1000000000:=a7;refine aP rfl (Hd hf an J eh dd ds) ⟨_,_,rfl,zk (cs:=[.int .i64 w,.sl (fs.map sfD)]) rfl,_,_,rfl,⟨_,.d _,rfl⟩,_,_,rfl,zk (cs:=bE x) rfl,_,_,rfl,⟨_,.d _,rfl⟩,rfl⟩ rfl ?_;have hp:=KK an;obtain⟨V,O⟩:∃q:Int,(if x.op=11 then 0 else v'-t+p)=q:=⟨_,rfl⟩
 rw[O]
 have e6:∀y∈next x a,∃k':Nat,y=(k':Int)/\E k'=S V/\0<=V/\V<=v'+1:=λy hy=>by
  obtain⟨k',U,h2⟩:=av y hy
  have H:¬x.op=11:=by
   intro e;unfold next at hy;rw[j8 a7,j8 a7,l8 e]at hy;cases hy
  rw[j8 H]at O;exact⟨k',U,by rw[h2,O],a7,a7⟩
 simp only[go_sem,f1,f2,f6,Z,p2,a1,b2,I,X,c0,j6,zl];refine fD rfl (OF (at':=a) (x:=x) a7) j0 ?_;rintro _ rfl;simp only[go_sem,j6,ksD];refine dZ (λm s=>∃(out:List Int)(c:List Nat)(j:Nat),m+j=z (next x a)/\left out+z c+1=n/\Mid E (z A) out c/\Emit.search A (n-1) (Emit.visit A ((next x a).drop j) (out,c))=Emit.bq A/\v'+left out<=z A/\s.f 11=iv .i64 V/\s.f 79=.one (.d (ksD (next x a)))/\s.f 80=iv .i64 (z (next x a))/\s.f 81=iv .i64 j/\s.f 1=iv .i64 f/\s.f 2=.one (.ptr 2 (s.gen 2) 0)/\s.f 6=.one (.d (sP A))/\s.f 7=.one (.osl 42 (s.gen 42) 1 0 (z A))/\s.f 9=.one (.ptr 9 (s.gen 9) 0)/\s.obj 2=S [.d (.int .i64 w),.d (.sl (fs.map sfD))]/\s.obj 42=S (icells out)/\sw 9 200 (nI c) s.gen s.obj/\(∀j,300<=j->s.obj j=N)) (z (next x a)) ?_ ?_
 .refine⟨out,c,0,rfl,by rw[hm,bl];omega,c2,dx,b8,?_⟩
  simp only[go_sem,f1,f2,f6,Z,f9,p2,a1,ksD];exact⟨dc,cb⟩
 clear f1 f2 f6 Z f9 o2 i pl dc p2 a1 q3 ar cb hm G c2 P dx hv b8 ad e8 bl bz b1 b' Y az dd;clear g g3 bo b7 out c;rintro m g gn ob ⟨out,c,j,hj,hm,G,P,b8,bn,cc,cf,c4,f1,f2,f6,Z,f9,o2,i,pl,ar⟩;simp only at bn cc cf c4 f1 f2 f6 Z f9 o2 i pl ar;have ad:=G.inv.1
 have e0:z (next x a)<=2:=by
  unfold next;by_cases e1:x.op=8
  .simp[e1]
  .by_cases e2:x.op=9
   .simp[e2]
   .by_cases e3:x.op=11<;>simp[e1,e2,e3]
 have cu:=ac (k:=j) a7;by_cases af:j<z (next x a)
 case neg=>
  have bd:¬(j:Int)<(z (next x a):Int):=a7;simp only[go_sem,cc,cf,c4,bd,ksD];refine dG (n-1) a7 ⟨out,c,a7,a7,G,?_,?_⟩
  .rw[y9 a7]at P
   rw[show left out+z c=n-1 by omega];exact P
  simp only[go_sem,f1,f2,f6,Z,f9,o2,i];exact⟨pl,ar⟩
 have bd:(j:Int)<(z (next x a):Int):=a7;have cv:(0:Int)<=(j:Int):=a7;obtain⟨y,hy⟩:=getq af;obtain⟨k,rfl,dh,dz,e7⟩:=e6 y (l6 hy);rw[C1 af,show (next x a)[j]=(k:Int)from(l5.1 hy).2]at P;have b6:=e5 k _ dh;have K:¬z A<=k:=a7;have al:¬(z A:Int)<=(k:Int):=a7;have a6:(k:Int)<(z A:Int):=a7;have d':(0:Int)<=(k:Int):=a7;have bf:¬(k:Int)<0:=a7;obtain⟨u,L⟩:=getq (show k<z out by omega);rcases G.inv.seen dh L with c6|a'
 .have ef:¬0<=u:=a7
  obtain⟨m1,m2,m3⟩:=G.find dh dz L c6 e7 b8;rw[Emit.ua (u:=u) (d:=V) (by rw[B3];exact L) c6 (by rw[B3,<-hT];exact dh),B3]at P;simp only[go_sem,f1,f2,f6,Z,f9,bn,cc,cf,c4,o2,i,af,bd,cv,hy,b6,K,al,a6,d',bf,L,c6,ef,ad,j6,iz,ct,ksD,setAt];refine⟨a7,?_⟩;have b4:∀j,300<=j->upd ob 42 (S (icells (out.set k V))) j=N:=λj hj=>by simp only[upd];rw[j8 a7];exact ar j hj
  have e':sw 9 200 (nI c) gn (upd ob 42 (S (icells (out.set k V)))):=⟨by simp[upd];exact pl.t,by simp[upd];exact pl.d⟩
  rw[iA];refine ck rfl (by simp only[go_sem,f9];exact(He (B:=300) (E:=9) (D:=200) (l:=nI c) (x:=(k:Int)) b4 b9 b9 b9 e' rfl (by simp[nI];omega)).toR) ?_;rintro _ g2 bo ⟨dc,q1,q2⟩;have e2:=q1 2 b9;have cy:=q1 42 b9;have e9:=q1 9 b9;have p2:=q2 2 b9 b9;have a1:=q2 42 b9 b9;simp[upd]at p2 a1;rw[o2]at p2;simp only[go_sem,c4,cu];refine dG (m-1) a7 ⟨out.set k V,c++[k],j+1,a7,a7,m1,P,m3,?_⟩;simp only[go_sem,f1,f2,f6,Z,f9,bn,cc,cf,e2,cy,e9,p2,a1,ksD];exact⟨by rw[show nI (c++[k])=nI c++[(k:Int)] by simp[nI]];exact dc,λj hj=>by rw[q2 j a7 a7];exact b4 j hj⟩
 .subst a'
  have cx:¬u<0:=a7;rw[Emit.ub (u:=u) (by rw[B3];exact L) cx]at P;simp only[go_sem,f1,f2,f6,Z,f9,bn,cc,cf,c4,o2,i,af,bd,cv,hy,b6,K,al,a6,d',bf,L,dz,cx,ad,j6,iz,ct,ksD,cu];refine dG (m-1) a7 ⟨out,c,j+1,a7,hm,G,P,b8,?_⟩;simp only[go_sem,f1,f2,f6,Z,f9,bn,cc,cf,o2,i,ksD];exact⟨pl,ar⟩
end
end
end Go.Proofs.YtlacbjnmkhndiaaGreatDoor.Low
namespace Go.Emit
section
open Go.Lower (Ins Code Sig codeOf takes next Inv left Good OkI fC)
section
variable{ps:Sig}{word:Bool}
def rv{x:Ins}{r:Int×Int}(h:takes ps word x=S r):x.op=1\/x.op=2\/x.op=3\/x.op=4\/x.op=5\/x.op=6\/x.op=7\/x.op=8\/x.op=9\/x.op=10\/x.op=11\/x.op=12\/x.op=13:=by
 unfold takes at h;by_cases U:x.op=1\/x.op=2\/x.op=12
 .omega
 exact p9
def FQ{x:Ins}{t p:Int}(h:takes ps word x=S (t,p)):0<=p/\p<=1:=by
 rcases rv h with U|U|U|U|U|U|U|U|U|U|U|U|U
 all_goals try (obtain⟨rfl,rfl⟩:_=t/\_=p:=by simpa[takes,U]using h)
 all_goals try (exact⟨by decide,by decide⟩)
 .simp only[takes,U]at h
  simp at h;obtain⟨_,a,⟨_,_,b⟩|⟨_,_,b⟩⟩:=h<;>omega
 .cases word<;>simp[takes,U]at h<;>omega
structure ue (E:Nat->Option Int) (A:Lower.Code) (out:List Int) (c:List Nat):Prop where
 inv:Inv E A.length out c
 le:∀v∈out,v+left out<=A.length
 clo:∀(k:Nat)(v:Int),out[k]?=some v->0<=v->k∈c\/∀x d,A[k]?=some (x,d)->∀y∈next x k,∃u,out[y.toNat]?=some u/\0<=u
def ue.find{E:Nat->Option Int}{A:Lower.Code}{k:Nat}{out:List Int}{c:List Nat}{b v d:Int}(h:ue E A out c)(hT:E k=S b)(f:0<=b)(g:out[k]?=S v)(m:v<0)(hd:b<=d+1)(B:d+left out<=z A):
  ue E A (out.set k b) (c++[k])/\left (out.set k b)+z (c++[k])=left out+z c/\d+left (out.set k b)<=z A:=by
 obtain⟨U,o⟩:=h.inv.find hT f g m;have Z:=Lower.lm g m f;have p:=(l5.1 g).1;refine⟨⟨U,λu L=>?_,λj u n L=>?_⟩,o,a7⟩
 .rcases Je L with L|rfl
  .have:=h.le u L;omega
  .omega
 .have a:∀(i:Nat)(u:Int),out[i]?=S u->0<=u->∃l,(out.set k b)[i]?=S l/\0<=l:=λi u r L=>by
   by_cases e:k=i
   .subst e;exact⟨b,by rw[B9,l8 rfl,l8 p],f⟩
   .exact⟨u,by rw[B9,j8 e];exact r,L⟩
  by_cases e:k=j
  .subst e;exact .inl a8
  .rw[B9,j8 e]at n
   rcases h.clo j u n L with q|q
   .exact .inl (by simp[q])
   .refine .inr λx d I y s=>?_
    obtain⟨l,t,w⟩:=q x d I y s;exact a _ _ t w
def rx{E:Nat->Option Int}{A:Lower.Code}(hT:∀k,E k=(A[k]?).map Prod.snd){v:Int}:∀(l:List Int)(out:List Int)(c:List Nat),ue E A out c->(∀y∈l,∃(k:Nat)(V:Int),y=(k:Int)/\E k=S V/\0<=V/\V<=v+1)->v+left out<=z A->
  ue E A (visit A l (out,c)).1 (visit A l (out,c)).2/\left (visit A l (out,c)).1+z (visit A l (out,c)).2=left out+z c/\(∀(i:Nat)(u:Int),out[i]?=S u->0<=u->(visit A l (out,c)).1[i]?=S u)/\(∀y∈l,∃u,(visit A l (out,c)).1[y.toNat]?=S u/\0<=u)/\(∀k∈c,k∈(visit A l (out,c)).2)
 |[],out,c,h,_,_=>⟨h,rfl,λ_ _ q _=>q,λ_ q=>(by cases q),λ_ q=>q⟩
 |y::l,out,c,h,hl,B=>by
   obtain⟨k,V,rfl,f,n,U⟩:=hl y a8
   have G:k<z out:=by
    rw[h.inv.1];rw[hT]at f;rcases Se k (z A)with q|q
    .exact q
    .rw[E5 q]at f;cases f
   obtain⟨u,L⟩:∃u,out[k]?=S u:=⟨_,v8 G⟩
   have x:∀y∈l,∃(k:Nat)(V:Int),y=(k:Int)/\E k=S V/\0<=V/\V<=v+1:=λy a=>hl y (by simp[a]);by_cases o:u<0
   .obtain⟨H,I,J⟩:=h.find f n L o U B
    rw[ua (u:=u) (d:=V) (by rw[B3];exact L) o (by rw[B3,<-hT];exact f),B3];obtain⟨p,s,g,t,w⟩:=rx hT l (out.set k V) (c++[k]) H x J
    have keep:∀(i:Nat)(b:Int),out[i]?=S b->0<=b->(out.set k V)[i]?=S b:=λi b m r=>by
     have:k≠i:=λe=>by subst e;rw[m]at L;cases L;omega
     rw[B9,j8 this];exact m
    refine⟨p,s.trans I,λi b m r=>g i b (keep i b m r) r,λy a=>?_,λj K=>w j (by simp[K])⟩;rcases A3.1 a with rfl|a
    .exact⟨V,g _ V (by rw[B3,B9,l8 rfl,l8 G]) n,n⟩
    .exact t y a
   .rw[ub (u:=u) (by rw[B3];exact L) o]
    obtain⟨p,s,g,t,w⟩:=rx hT l out c h x B;refine⟨p,s,g,λy a=>?_,w⟩;rcases A3.1 a with rfl|a
    .exact⟨u,by rw[B3];exact g k u L a7,a7⟩
    .exact t y a
def xj{A:Type}(l:List A):l=[]\/∃b a,l=b++[a]:=by
 exact Vs
def ug{ps:Sig}{word:Bool}{E:Nat->Option Int}{A:Lower.Code}(hT:∀k,E k=(A[k]?).map Prod.snd)(hg:Lower.Good ps word E 0 A):∀(m:Nat)(out:List Int)(c:List Nat),m=left out+z c->ue E A out c->
  ue E A (search A m (out,c)) []/\∀(i:Nat)(u:Int),out[i]?=S u->0<=u->(search A m (out,c))[i]?=S u
 |0,out,c,hm,h=>by
   obtain rfl:c=[]:=y7 a7;exact⟨h,λ_ _ q _=>q⟩
 |m+1,out,c,hm,h=>by
   rcases xj c with rfl|⟨c,a,rfl⟩
   .rw[AO];exact⟨h,λ_ _ q _=>q⟩
   .obtain⟨v,hv,c7,c1⟩:=h.inv.2.2 a a8
    have bs:=c7;rw[hT]at bs;obtain⟨⟨x,H⟩,I,ec⟩:=G1.1 bs;obtain rfl:H=v:=ec;obtain⟨t,p,an,J,eh,ds,av⟩:=(by have:=fC hg I;rwa [C7]at this:OkI ps word E a x H)
    have hp:=FQ an;rw[yG A m out c a I]
    have b1:∀y∈next x a,∃(k:Nat)(V:Int),y=(k:Int)/\E k=S V/\0<=V/\V<=H+1:=λy O=>by
     obtain⟨k,U,W⟩:=av y O;exact⟨k,_,U,W,a7,a7⟩
    have b8:=h.le H (l6 hv)
    -- a is taken off,s a1 r places behind ev j: visit with a put back in o
    have W:ue E A out (c++[a]):=h;obtain⟨w,q2,X,Y,q5⟩:=rx hT (next x a) out (c++[a]) h b1 b8
    have e:∀(l:List Int)(out:List Int)(t0 B:List Nat),(visit A l (out,t0++B)).1=(visit A l (out,B)).1/\(visit A l (out,t0++B)).2=t0++(visit A l (out,B)).2:=by
     intro l
     induction l with
     |nil=>intro out t0 B;exact⟨rfl,rfl⟩
     |cons y l ih=>
       intro out t0 B;simp only[visit];split
       .rw[u7];exact ih _ _ _
       .exact ih _ _ _
    have Q:=e (next x a) out c [];have f:=e (next x a) out (c++[a]) [];rw[s7]at Q f;rw[f.1,f.2]at w q2;rw[f.1]at X Y;rw[show visit A (next (x,H).fst a) (out,c)=((visit A (next x a) (out,[])).1,c++(visit A (next x a) (out,[])).2)from Prod.ext Q.1 Q.2]
    have G:ue E A (visit A (next x a) (out,[])).1 (c++(visit A (next x a) (out,[])).2):=by
     refine⟨⟨w.inv.1,w.inv.2.1,λb K=>w.inv.2.2 b (by rcases C4.1 K with K|K<;>simp[K])⟩,w.le,λk u hk L=>?_⟩;rcases w.clo k u hk L with Z|Z
     .simp only[u7,C4,A3,A9,E6,I5]at Z
      rcases Z with Z|rfl|Z
      .exact .inl (by simp[Z])
      .refine .inr λn d g y O=>?_
       rw[I]at g;cases g;exact Y y O
      .exact .inl (by simp[Z])
     .exact .inr Z
    obtain⟨r1,r2⟩:=ug hT hg m _ _ (by simp only[j7,j9,l4]at hm q2|-;omega) G;exact⟨r1,λi u hi L=>r2 i u (X i u hi L) L⟩
def ka{E:Nat->Option Int}{A:Lower.Code}(hT:∀k,E k=(A[k]?).map Prod.snd)(c:E 0=S 0)(hg:Lower.Good ps word E 0 A):ue E A (bq A) []/\(bq A)[0]?=S 0:=by
 have j:0<z A:=by
  cases e:A with
  |nil=>rw[hT]at c;simp[e]at c
  |cons=>simp
 obtain⟨m,b⟩:∃m,z A=m+1:=⟨z A-1,a7⟩
 have hl:left ((List.replicate (z A) (-1)).set 0 0)+z [0]=z A:=by
  rw[b,F6,G7];unfold left;rw[Sb,Sr];simp
 have G:ue E A ((List.replicate (z A) (-1)).set 0 0) [0]:=by
  have l:left ((List.replicate (z A) (-1)).set 0 0)<=z A:=a7;refine⟨⟨a8,λk v h=>?_,λa f=>?_⟩,λv d=>?_,λk v h d=>?_⟩
  .rw[b,F6,G7]at h
   cases k with
   |zero=>simp at h;subst h;exact .inr ⟨c,C5 _⟩
   |succ k=>rw[s9,H9]at h;split at h<;>simp at h;exact .inl h.symm
  .obtain rfl:a=0:=by simpa using f
   exact⟨0,by rw[b,F6,G7];rfl,c,C5 _⟩
  .have:v<=0:=by
    rw[b,F6,G7]at d;rcases A3.1 d with rfl|h
    .exact C5 _
    .have:=F1 h;omega
   omega
  .rw[b,F6,G7]at h
   cases k with
   |zero=>exact .inl a8
   |succ k=>rw[s9,H9]at h;split at h<;>simp at h;omega
 obtain⟨g,i⟩:=ug hT hg (z A) _ _ hl.symm G;exact⟨g,i 0 0 (by rw[b,F6,G7];rfl) (C5 _)⟩
end
end
end Go.Emit
namespace Go.Proofs.YtlacbjnmkhndiaaGreatDoor.Low
section
open Go Go.Am Go.Lower
attribute[local congr]ite_cc
def Hi(h:List (List Int))(back base:List Int)(data:Int):AV:=.agg [.d (.sl (h.map λo=>[ksD o])),.d (ksD back),.d (ksD base),.d (.int .i64 data)]
def ocells(l:List (List Int)):List C:=l.map λo=>.d (ksD o)
def Bj(l:List (List Int)):z (ocells l)=z l:=by simp[ocells]
def uB(a b:List (List Int)):ocells (a++b)=ocells a++ocells b:=by simp[ocells]
def pF{l:List Int}{b:Int}(h:∀v∈l,v<=b):∀{d:Int},d<=b->d<=Emit.deepest l d/\Emit.deepest l d<=b:=by
 induction l with
 |nil=>intro d hd;exact⟨C5 _,hd⟩
 |cons a l c=>
   intro d hd;have U:=h a a8;have:=c (λv e=>h v (by simp[e])) (d:=max d a) a7;rw[Emit.qx];omega
def OH{w:Int}{fs:List Src.CFn}(ds:List (List Int))(ar:z ds=z fs)(a6:0<=w/\w<=1000000)(hl:z fs<=1000000)(a1:∀o∈ds,(∀v∈o,v<=100000000)/\z o<=1000000000)
 (hD:∀f o,ds[f]?=S o->ax Tryz.prog 72 [iX w fs,iv .i64 (f:Nat)] (·=.tup [.one (.d (ksD o)),bv T])):
  ax Tryz.prog 46 [iX w fs] (·=Hi ds (Emit.dk (z fs) 0 ds w).1 (Emit.dk (z fs) 0 ds w).2.1 (Emit.dk (z fs) 0 ds w).2.2):=by
 refine hdR Tryz.func46 rfl [.cell 2 111] λg=>?_;have b1:iX w fs=.agg [.d (.int .i64 w),.d (.sl (fs.map sfD))]:=rfl;rw[b1]at hD|-;have b5:IntKind.i64.wrap ((z fs:Int)-1)=(z fs:Int)-1:=by rw[wrap_i64]<;>omega
 simp only[go_sem,j6,b5]
 refine xZ _ (((ej (t:=3) (o:=3) (b:=34) (j:=0) (sz:=1) (off:=0) (cells:=[.d .nsl,.d .nsl,.d .nsl,.d (.int .i64 w)]) Vy Vy rfl b9).trans
   (ej (t:=3) (o:=3) (b:=41) (j:=1) (sz:=1) (off:=0) (cells:=[.osl 34 (g 34+1) 1 0 0,.d .nsl,.d .nsl,.d (.int .i64 w)]) VN VN rfl b9)).trans
   (ej (t:=3) (o:=3) (b:=55) (j:=2) (sz:=1) (off:=0) (cells:=[.osl 34 (g 34+1) 1 0 0,.osl 41 (g 41+1) 1 0 0,.d .nsl,.d (.int .i64 w)]) VN VN rfl b9))
  (λn s=>∃(k:Nat)(h:List (List Int))(back base:List Int)(data:Int),n+k=z fs/\z h=k/\z back=k/\z base=k/\(h=ds.take k/\Emit.dk (z fs) 0 h w=(back,base,data))/\0<=data/\data<=1000000+100000001*k/\s.f 1=.one (.ptr 1 (s.gen 1) 0)/\s.f 2=.one (.ptr 2 (s.gen 2) 0)/\s.f 3=.one (.ptr 3 (s.gen 3) 0)/\s.f 20=iv .i64 (z fs)/\s.f 21=iv .i64 k/\s.f 4=iv .i64 ((z fs:Int)-1)/\
    s.obj 1=S [.d (.int .i64 w),.d (.sl (fs.map sfD))]/\(∃a b c d,s.obj 2=S [a,b,c,d])/\s.obj 3=S [.osl 34 (s.gen 34) 1 0 k,.osl 41 (s.gen 41) 1 0 k,.osl 55 (s.gen 55) 1 0 k,.d (.int .i64 data)]/\s.obj 34=S (ocells h)/\s.obj 41=S (icells back)/\s.obj 55=S (icells base)) (z fs) ?_ ?_
 .simp only[St.claimAt]
  refine⟨0,[],[],[],w,rfl,rfl,rfl,rfl,⟨rfl,rfl⟩,a6.1,a7,?_⟩;simp only[go_sem,b5];exact⟨⟨_,_,_,_,rfl,rfl,rfl,rfl⟩,rfl,rfl⟩
 clear g;rintro n g gn ob ⟨k,h,back,base,data,hk,H,W,L,⟨X,hP⟩,e1,Y,f1,f2,f3,u,p,f4,o1,⟨a0,b0,c0,d0,o2⟩,B,r,az,q⟩;simp only at f1 f2 f3 u p f4 o1 o2 B r az q;have E:=ac (k:=k) a7;by_cases af:k<z fs
 case neg=>
  have Q:¬(k:Int)<(z fs:Int):=a7;obtain rfl:k=z fs:=a7;simp only[go_sem,f1,f2,f3,u,p,Q,o2,B]
  have P:∀{A:Type}(l:List A)(e:A->D),(l.map λa=>C.d (e a))=l.flatMap λa=>([e a]:List D).map C.d:=by
   intro A l e
   induction l with
   |nil=>rfl
   |cons b l ih=>rw[l9,G2,ih];rfl
  have r1:∀{s:St},s.gen 34=gn 34->s.obj 34=ob 34->Frz s (.osl 34 (gn 34) 1 0 (z fs)) (.sl (h.map λo=>[ksD o])):=λ{s}hg ho=>by
   refine dN (s:=s) hg h (λo=>[ksD o]) (ho.trans r) (P h ksD) (λa _ y hy=>?_) (λ_ _=>rfl) H;rw[E0.1 hy];rfl
  have r2:∀{s:St},s.gen 41=gn 41->s.obj 41=ob 41->Frz s (.osl 41 (gn 41) 1 0 (z fs)) (ksD back):=λ{s}hg ho=>by
   refine dN (s:=s) hg back (λo=>[.int .i64 o]) (ho.trans az) (P back _) (λa _ y hy=>?_) (λ_ _=>rfl) W;rw[E0.1 hy];rfl
  have r3:∀{s:St},s.gen 55=gn 55->s.obj 55=ob 55->Frz s (.osl 55 (gn 55) 1 0 (z fs)) (ksD base):=λ{s}hg ho=>by
   refine dN (s:=s) hg base (λo=>[.int .i64 o]) (ho.trans q) (P base _) (λa _ y hy=>?_) (λ_ _=>rfl) L;rw[E0.1 hy];rfl
  refine⟨_,⟨[.sl (h.map λo=>[ksD o]),ksD back,ksD base,.int .i64 data],rfl,λi c Z=>?_,rfl⟩,?_⟩
  rotate_left
  .rw[s6 a7]at X
   subst X;rw[hP];rfl
  match i,Z with
  |0,Z=>cases Z;exact⟨_,rfl,r1 rfl VF⟩
  |1,Z=>cases Z;exact⟨_,rfl,r2 rfl VF⟩
  |2,Z=>cases Z;exact⟨_,rfl,r3 rfl VF⟩
  |3,Z=>cases Z;exact⟨_,rfl,.d _⟩
 have Q:(k:Int)<(z fs:Int):=a7;have bf:(0:Int)<=(k:Int):=a7;have ad:=Bj h;have cm:=ct back;have av:=ct base;simp only[go_sem,f1,f2,f3,u,p,f4,Q,o1];obtain⟨out,J⟩:=getq (show k<z ds by omega);obtain⟨al,a'⟩:=a1 out (l6 J);have an:h++[out]=ds.take (k+1):=by rw[X,D0,J];rfl
 have bk:=Emit.yH (z fs) h 0 w out;rw[hP]at bk;simp only[H,C7]at bk;refine fD rfl (hD k out J) j0 ?_;rintro _ rfl;simp only[go_sem,f1,f3,B,r,ad,H,aW,az,cm,W,f4];refine⟨l7 _,⟨b9,a7⟩,l7 _,⟨b9,a7⟩,?_⟩;have bz:IntKind.i64.wrap (data+1)=data+1:=by rw[wrap_i64]<;>omega
 by_cases b6:(k:Int)=(z fs:Int)-1
 .skip
  simp only[go_sem,w8 b6,q,av,L,f3,ksD,j6];refine⟨l7 _,⟨b9,a7⟩,?_⟩
  refine dZ (λm s=>∃(j:Nat)(V:Int),m+j=z out/\Emit.deepest (out.drop j) V=Emit.deepest out 0/\0<=V/\V<=100000000/\s.f 1=.one (.ptr 1 (s.gen 1) 0)/\s.f 2=.one (.ptr 2 (s.gen 2) 0)/\s.f 3=.one (.ptr 3 (s.gen 3) 0)/\s.f 20=iv .i64 (z fs)/\s.f 21=iv .i64 k/\s.f 4=iv .i64 ((z fs:Int)-1)/\s.f 57=.one (.d (.sl (out.map λk=>[.int .i64 k])))/\s.f 58=iv .i64 (z out)/\s.f 59=iv .i64 j/\s.f 8=iv .i64 V/\
   s.obj 1=S [.d (.int .i64 w),.d (.sl (fs.map sfD))]/\s.obj 2=S [a0,b0,c0,d0]/\s.obj 3=S [.osl 34 (s.gen 34) 1 0 (k+1),.osl 41 (s.gen 41) 1 0 (k+1),.osl 55 (s.gen 55) 1 0 (k+1),.d (.int .i64 (data))]/\s.obj 34=S (ocells (h++[out]))/\s.obj 41=S (icells (back++[data]))/\s.obj 55=S (icells (base++[data]))) (z out) ?_ ?_
  .exact Lw
  clear f1 f2 f3 u p f4 o1 o2 B r az q;rintro m g gn ob ⟨j,V,hj,O,dc,d',f1,f2,f3,u,p,f4,x,I,K,U,o1,o2,B,r,az,q⟩;simp only at f1 f2 f3 u p f4 x I K U o1 o2 B r az q;have cu:=ac (k:=j) a7;by_cases G:j<z out
  .exact oC
  have bd:¬(j:Int)<(z out:Int):=a7;have ca:IntKind.i64.wrap (data+V)=data+V:=by rw[wrap_i64]<;>omega
  simp only[go_sem,x,I,K,U,bd,f3,B,ca,p,E,j6];refine dG (n-1) a7 ⟨k+1,h++[out],back++[data],base++[data],data+V,a7,by simp;omega,by simp;omega,by simp;omega,⟨an,bk.trans ?_⟩,a7,a7,?_⟩
  .rw[l8 (show k+1=z fs by omega)]
   rw[y9 a7]at O;rw[<-O];rfl
  exact Vx
 .skip
  simp only[go_sem,b6,bz,q,av,L,f3,ksD,j6];refine⟨l7 _,⟨b9,a7⟩,?_⟩
  refine dZ (λm s=>∃(j:Nat)(V:Int),m+j=z out/\Emit.deepest (out.drop j) V=Emit.deepest out 0/\0<=V/\V<=100000000/\s.f 1=.one (.ptr 1 (s.gen 1) 0)/\s.f 2=.one (.ptr 2 (s.gen 2) 0)/\s.f 3=.one (.ptr 3 (s.gen 3) 0)/\s.f 20=iv .i64 (z fs)/\s.f 21=iv .i64 k/\s.f 4=iv .i64 ((z fs:Int)-1)/\s.f 57=.one (.d (.sl (out.map λk=>[.int .i64 k])))/\s.f 58=iv .i64 (z out)/\s.f 59=iv .i64 j/\s.f 8=iv .i64 V/\
   s.obj 1=S [.d (.int .i64 w),.d (.sl (fs.map sfD))]/\s.obj 2=S [a0,b0,c0,d0]/\s.obj 3=S [.osl 34 (s.gen 34) 1 0 (k+1),.osl 41 (s.gen 41) 1 0 (k+1),.osl 55 (s.gen 55) 1 0 (k+1),.d (.int .i64 ((data+1)))]/\s.obj 34=S (ocells (h++[out]))/\s.obj 41=S (icells (back++[data]))/\s.obj 55=S (icells (base++[(data+1)]))) (z out) ?_ ?_
  .exact Lw
  clear f1 f2 f3 u p f4 o1 o2 B r az q;rintro m g gn ob ⟨j,V,hj,O,dc,d',f1,f2,f3,u,p,f4,x,I,K,U,o1,o2,B,r,az,q⟩;simp only at f1 f2 f3 u p f4 x I K U o1 o2 B r az q;have cu:=ac (k:=j) a7;by_cases G:j<z out
  .exact oC
  have bd:¬(j:Int)<(z out:Int):=a7;have ca:IntKind.i64.wrap ((data+1)+V)=(data+1)+V:=by rw[wrap_i64]<;>omega
  simp only[go_sem,x,I,K,U,bd,f3,B,ca,p,E,j6];refine dG (n-1) a7 ⟨k+1,h++[out],back++[data],base++[(data+1)],(data+1)+V,a7,by simp;omega,by simp;omega,by simp;omega,⟨an,bk.trans ?_⟩,a7,a7,?_⟩
  .rw[j8 (show ¬k+1=z fs by omega)]
   rw[y9 a7]at O;rw[<-O];rfl
  exact Vx
abbrev gS:=Int×Int×Int×Int
def zn(x:gS):List C:=[.d (.int .i64 x.1),.d (.int .i64 x.2.1),.d (.int .i64 x.2.2.1),.d (.int .i64 x.2.2.2)]
def eT(l:List gS):List C:=l.flatMap zn
def iJ(l:List gS):z (eT l)=z l*4:=by
 induction l with
 |nil=>rfl
 |cons a l b=>simp only[eT,G2,j7,zn,j9,l4]at b|-;omega
def El(l m:List gS):eT (l++m)=eT l++eT m:=by simp[eT]
def wo{B:Nat}(l:List gS):∀c∈eT l,kQ B c:=λc Z=>by
 unfold eT at Z;obtain⟨x,_,I⟩:=List.mem_flatMap.1 Z;simp only[zn,A3,A9,E6]at I;rcases I with rfl|rfl|rfl|rfl<;>trivial
def Tj{B G D u:Nat}{code:List gS}{c0 c1 n o q r d0 s d2 t v:C}{op a b c:Int}{g:Nat->Nat}{ob:Obs}(hB:∀i,B<=i->ob i=N)(Q:G<B)(hD:D<B)(E:G≠D)(f:g G=u)(ho:ob G=S [c0,c1,n,o,q,r,.osl D (g D) 4 0 (z code),d0,s,d2,t,v])(Z:ob D=S (eT code))(j:∀x∈[c0,c1,n,o,q,r,d0,s,d2,t,v],kQ B x)(hl:z code<=100000000):
  cM Tryz.prog 74 [.one (.ptr G u 0),iv .i64 op,iv .i64 a,iv .i64 b,iv .i64 c] g ob (λ_ g' Y=>(∀i,i≠D->g' i=g i)/\Y G=S [c0,c1,n,o,q,r,.osl D (g' D) 4 0 (z code+1),d0,s,d2,t,v]/\Y D=S (eT (code++[(op,a,b,c)]))/\∀i,i≠G->i≠D->Y i=ob i) (λ_ _ _=>False):=by
 refine hdM B [G,D] Tryz.func74 rfl [] VC hB λO bn s0 w0=>?_;have H:∀k,(G=B+k)=False:=λk=>by simp;omega
 have J:∀k,(D=B+k)=False:=λk=>by simp;omega
 have K:(G=D)=False:=by simp[E]
 have w:(D=G)=False:=by simp[B8 E]
 simp only[go_sem,H,J,K,w,ho,Z,f,iJ,aW];refine⟨l7 _,⟨b9,a7⟩,?_⟩;refine⟨_,ae.refl _,?_⟩;simp only[go_sem]
 have L:List.take (z code*4) (eT code)++[C.d (.int .i64 op),C.d (.int .i64 a),C.d (.int .i64 b),C.d (.int .i64 c)]=eT (code++[(op,a,b,c)]):=by
  rw[s6 (by rw[iJ];exact l7 _),El];simp[eT,zn]
 rw[L];refine⟨⟨λi hi hn=>?_,λi hi A l=>?_⟩,[],rfl,λi hi=>?_,?_,?_,λi hi y=>?_⟩
 .have U:i≠G:=λe=>hn WY
  have V:i≠D:=λe=>hn WY;exact⟨nu,nu⟩
 .simp only[A3,A9,E6]at hi
  rcases hi with rfl|rfl
  .simp[upd]at l
   subst l;intro x I;simp only[A3,A9,E6]at I j;rcases I with h|h|h|h|h|h|h|h|h|h|h|h
   all_goals first|(subst h;exact hD)|exact j x (by simp[h])
  .simp[upd,w]at l
   subst l;exact wo _
 .exact SJ
 .simp[je,eY,upd]
 .simp[eY,upd,w]
 .unfold eY
  rw[j8 (by simp[hi,y])]
end
section
open Go Go.Am Go.Lower
open Go.Emit (Wr)
section
def CJ{B B':Nat}(hB:B<=B'){c:C}(h:kQ B c):kQ B' c:=by
 cases c with
 |d x=>trivial
 |osl id _ _ _ _=>exact G9 h hB
 |ptr id _ _=>exact G9 h hB
 |mp id _ _=>exact G9 h hB
 |lsl _=>trivial
 |raw _=>trivial
 |clo f q=>
   intro p a;have:=h p a;cases p with
   |d x=>trivial
   |ptr id _ _=>exact G9 this hB
abbrev kg:=Int×Int×Int
def mY(l:List kg):List C:=l.flatMap λx=>[.d (.int .i64 x.1),.d (.int .i64 x.2.1),.d (.int .i64 x.2.2)]
def zo(l:List kg):z (mY l)=z l*3:=by
 induction l with
 |nil=>rfl
 |cons a l b=>simp only[mY,G2,j7,j9,l4]at b|-;omega
def Hj(l m:List kg):mY (l++m)=mY l++mY m:=by simp[mY]
def Hk{B:Nat}(l:List kg):∀c∈mY l,kQ B c:=λc Z=>by
 unfold mY at Z;obtain⟨x,_,I⟩:=List.mem_flatMap.1 Z;simp only[A3,A9,E6]at I;rcases I with rfl|rfl|rfl<;>trivial
structure br where
 (c0 c1 c2 c3 c4 c5 d0 d1 d3 d4:C)
def br.cells(k:br)(D a n H h m:Nat):List C:=[k.c0,k.c1,k.c2,k.c3,k.c4,k.c5,.osl D a 4 0 n,k.d0,k.d1,.osl H h 3 0 m,k.d3,k.d4]
def br.all(k:br):List C:=[k.c0,k.c1,k.c2,k.c3,k.c4,k.c5,k.d0,k.d1,k.d3,k.d4]
structure ep (B G D H:Nat) (k:br) (code:List gS) (holes:List kg) (g:Nat->Nat) (ob:Obs):Prop where
 top:∀i,B<=i->ob i=none
 gB:G<B
 dB:D<B
 hB:H<B
 gd:G≠D
 gh:G≠H
 dh:D≠H
 oG:ob G=some (k.cells D (g D) code.length H (g H) holes.length)
 oD:ob D=some (eT code)
 oH:ob H=some (mY holes)
 low:∀x∈k.all,kQ B x
variable{k:br}{g:Nat->Nat}{ob:Obs}{B B' G D H:Nat}{code:List gS}{holes:List kg}
def ep.up(ar:ep B G D H k code holes g ob)(h:B<=B'):ep B' G D H k code holes g ob:=
 ⟨λi a=>ar.top i a7,by have:=ar.gB;omega,by have:=ar.dB;omega,by have:=ar.hB;omega,ar.gd,ar.gh,ar.dh,ar.oG,ar.oD,ar.oH,λx I=>CJ h (ar.low x I)⟩
def ep.upd{B G D H i:Nat}{k:br}{code:List gS}{holes:List kg}{g:Nat->Nat}{ob:Obs}(ar:ep B G D H k code holes g ob)(h:i<B)(c:i≠G)(a:i≠D)(b:i≠H)(x:Nat)(y:Option (List C)):ep B G D H k code holes (Am.upd g i x) (Am.upd ob i y):=
 ⟨λj d=>by simp only[Am.upd];rw[j8 a7];exact ar.top j d,ar.gB,ar.dB,ar.hB,ar.gd,ar.gh,ar.dh,by simp only[Am.upd];rw[j8 (B8 c),j8 (B8 a),j8 (B8 b)];exact ar.oG,by simp only[Am.upd];rw[j8 (B8 a)];exact ar.oD,by simp only[Am.upd];rw[j8 (B8 b)];exact ar.oH,ar.low⟩
def ep.to{B G D H:Nat}{g g':Nat->Nat}{ob Y:Obs}(ar:ep B G D H k code holes g ob)(a:∀i,B<=i->Y i=N)(U:g' D=g D)(b:g' H=g H)(c:Y G=ob G)(d:Y D=ob D)(e:Y H=ob H):ep B G D H k code holes g' Y:=
 ⟨a,ar.gB,ar.dB,ar.hB,ar.gd,ar.gh,ar.dh,by rw[U,b,c];exact ar.oG,by rw[d];exact ar.oD,by rw[e];exact ar.oH,ar.low⟩
structure cD (B G D H:Nat) (g:Nat->Nat) (ob:Obs) (g':Nat->Nat) (Y:Obs):Prop where
 gen:∀i,i<B->i≠D->i≠H->g' i=g i
 fr:∀i,i<B->i≠G->i≠D->i≠H->Y i=ob i
def cD.refl{B G D H:Nat}:cD B G D H g ob g ob:=⟨λ_ _ _ _=>rfl,λ_ _ _ _ _=>rfl⟩
def cD.trans{B G D H:Nat}{g c g2:Nat->Nat}{ob av d:Obs}(a:cD B G D H g ob c av)(b:cD B G D H c av g2 d):cD B G D H g ob g2 d:=
 ⟨λi h x y=>(b.gen i h x y).trans (a.gen i h x y),λi h x y X=>(b.fr i h x y X).trans (a.fr i h x y X)⟩
def cD.down{g b:Nat->Nat}{ob av:Obs}(a:cD B' G D H g ob b av)(h:B<=B'):cD B G D H g ob b av:=⟨λi q=>a.gen i a7,λi q=>a.fr i a7⟩
def cN(f:FuncId)(xs:List AV)(w:Nat->Wr)(k:br):Prop:=
 ∀(B G D H u:Nat)(code:List gS)(holes:List kg)(g:Nat->Nat)(ob:Obs),ep B G D H k code holes g ob->g G=u->z code+(w (z code)).code.length<=100000000->z holes+(w (z code)).holes.length<=100000000->
  cM Tryz.prog f (.one (.ptr G u 0)::xs) g ob (λ_ a Y=>ep B G D H k (code++(w (z code)).code) (holes++(w (z code)).holes) a Y/\cD B G D H g ob a Y) (λ_ _ _=>False)
def ep.pack{B b G D H:Nat}{code l:List gS}{holes a:List kg}{s:St}{j o:List AV}(ar:ep B G D H k code holes g ob)(c:ep b G D H k l a s.gen s.obj)(t:cD B G D H g ob s.gen s.obj){f:List gS}{p:List kg}(d:f=l)(h:p=a)(hf:dY B s j o):bi B [G,D,H] g ob (λ_ g' Y=>ep B G D H k f p g' Y/\cD B G D H g ob g' Y) s j:=by
 subst d h;have n:∀{i},i∈[G,D,H]↔i=G\/i=D\/i=H:=λ{i}=>by simp
 refine⟨⟨λi q u=>?_,λi q v r=>?_⟩,o,hf,⟨λi q=>?_,ar.gB,ar.dB,ar.hB,ar.gd,ar.gh,ar.dh,?_,?_,?_,ar.low⟩,λi q y m=>?_,λi q E y m=>?_⟩
 .have J:i≠G:=λe=>u WY
  have w:i≠D:=λe=>u WY;have A:i≠H:=λe=>u WY;exact⟨t.gen i q w A,t.fr i q J w A⟩
 .rcases n.1 q with rfl|rfl|rfl
  .have r:=c.oG.symm.trans r
   cases r;intro x I;have bs:=ar.low;simp only[br.cells,br.all,A3,A9,E6]at I bs;rcases I with e|e|e|e|e|e|e|e|e|e|e|e
   all_goals first|(subst e;first|exact ar.dB|exact ar.hB)|exact bs x (by simp[e])
  .have r:=c.oD.symm.trans r
   cases r;exact wo _
  .have r:=c.oH.symm.trans r
   cases r;exact Hk _
 .unfold eY
  have:=ar.gB;have:=ar.dB;have:=ar.hB;rw[j8 (λe=>by rcases n.1 e with e|e|e<;>omega)];exact ar.top i q
 .simp only[eY,je,A3,A9,E6,Sv,Sw,B1]
  exact c.oG
 .simp only[eY,A3,A9,E6,Sv,Sw,B1]
  exact c.oD
 .simp only[eY,A3,A9,E6,Sv,Sw,B1]
  exact c.oH
 .unfold je
  split
  .exact t.gen i q y m
  .rfl
 .unfold eY
  rw[j8 (λe=>by rcases n.1 e with e|e|e;exact E e;exact y e;exact m e)]
def eq(op a b c:Int)(k:br):cN 74 [iv .i64 op,iv .i64 a,iv .i64 b,iv .i64 c] (Emit.ao op a b c) k:=by
 intro B G D H u code holes g ob ar l hl o;have al:=ar.gh;have j:=ar.dh;refine(Tj (d2:=.osl H (g H) 3 0 (z holes)) ar.top ar.gB ar.dB ar.gd l ar.oG ar.oD ?_ (by simp only[Emit.ao,j9,l4]at hl;omega)).mono ?_ (λ_ _ _ h=>h)
 .intro x I
  have bs:=ar.low;simp only[br.all,A3,A9,E6]at I bs;rcases I with e|e|e|e|e|e|e|e|e|e|e
  all_goals first|(subst e;exact ar.hB)|exact bs x (by simp[e])
 rintro _ p Y ⟨U,m,n,f⟩;refine⟨⟨λi d=>?_,ar.gB,ar.dB,ar.hB,ar.gd,ar.gh,ar.dh,?_,n,?_,ar.low⟩,λi _ d _=>U i d,λi _ d y _=>f i d y⟩
 .have:=ar.gB;have:=ar.dB
  rw[f i a7 a7];exact ar.top i d
 .rw[m,U H (B8 j)]
  simp only[br.cells,Emit.ao,j7,j9,l4,s7,C7]
 .rw[f H (B8 al) (B8 j)]
  simp only[Emit.ao,s7];exact ar.oH
section
variable{O:Bs}{rd:Option Nat}{t:St->Am.Loc->List Deferred->World->Prop}
def aS{d:ff}{e:Nat}(a6:aY O t){o:Oper}{s:St}{K:St->Prop}{c:Box K}{f:FuncId}{args:Array Operand}{tys:Array TypeId}(ho:o.op=.call ⟨.value (.func f),args,tys⟩){xs:List AV}{w:Nat->Wr}(hw:cN f xs w k)(b G D H u:Nat)(code:List gS)(holes:List kg)
 (I:args.toList.map s.ev=.one (.ptr G u 0)::xs)(hg:s.gen G=u)(ar:ep b G D H k code holes s.gen s.obj)(hl:z code+(w (z code)).code.length<=100000000)(a:z holes+(w (z code)).holes.length<=100000000)
 (i:∀r g' Y,ep b G D H k (code++(w (z code)).code) (holes++(w (z code)).holes) g' Y->cD b G D H s.gen s.obj g' Y->K (St.put ⟨s.f,g',Y⟩ o.dst r)):bm (spF Tryz.prog rd O t e d) o s c:=by
 refine cj (R:=λ_ g' Y=>ep b G D H k (code++(w (z code)).code) (holes++(w (z code)).holes) g' Y/\cD b G D H s.gen s.obj g' Y) (L:=λ_ _ _=>False) a6 ho Xm (λ_ _ _ h=>h.elim) ?_;rintro r g' Y ⟨U,j⟩;exact i r g' Y U j
end
end
end
section
open Go Go.Am Go.Lower
open Go.Emit (Wr ao aq ak ru dS)
attribute[local congr]ite_cc
section
structure mt (k:br) (fs:List Src.CFn) (P:Emit.Plan) (f:Nat) (V:Int):Prop where
 s:k.c1=.d (.sl (fs.map sfD))
 ds:k.c2=.d (.sl (P.depths.map λo=>[ksD o]))
 bk:k.c3=.d (ksD P.back)
 b:k.c4=.d (ksD P.base)
 fn:k.d3=.d (.int .i64 (f:Nat))
 d:k.d4=.d (.int .i64 V)
 fl:f<fs.length
 dl:P.depths.length=fs.length
 bl:P.back.length=fs.length
 l:P.base.length=fs.length
 fz:fs.length<=1000000
 bz:∀x∈P.base,0<=x/\x<=1000000000000000
 dz:-1<=V/\V<=1000000000
 pz:∀x∈fs,0<=x.params/\x.params<=1000000/\0<=x.first/\x.first<=1000000000000000
variable{k:br}{fs:List Src.CFn}{P:Emit.Plan}{f:Nat}{V:Int}
def kK(j:mt k fs P f V)(reg a:Int)(hb:0<=a/\a<=1000000):cN 121 [iv .i64 reg,iv .i64 a] (Emit.db P f V reg a) k:=by
 intro B G D H u code holes g ob ar s hl v;have A:=ar.gB;have E:=ar.dB;have I:=ar.hB;refine hdM B [G,D,H] Tryz.func121 rfl [] VC ar.top λO bn s0 w0=>?_;have q:=ar.oG;unfold br.cells at q;rw[j.b,j.fn,j.d]at q;have J:=j.fl;have K:=j.l;obtain⟨n,c⟩:=getq (show f<z P.base by omega);have h:=j.bz n (l6 c);have gj:=j.dz;have x:(0:Int)<=(f:Int):=a7;have az:(f:Int)<(z P.base:Int):=a7;have e:f<z P.base:=a7;have t:IntKind.i64.wrap (n+V)=n+V:=by rw[wrap_i64]<;>omega
 have w:IntKind.i64.wrap (n+V-a)=n+V-a:=by rw[wrap_i64]<;>omega
 simp only[go_sem];refine aF c8 ?_;simp only[go_sem,q,s,ksD,j6,x,az,e,c,t,w];refine aS aa rfl (eq 16 reg 0 (n+V-a) k) (B+27) G D H u code holes (by simp only[go_sem,t,w]) s (ar.up a7) hl v ?_;intro r L Y Q y;simp only[go_sem];refine⟨_,ae.refl _,?_⟩;simp only[go_sem];exact ar.pack Q (y.down a7) (by simp only[Emit.db,ao,c,A5]) rfl (o:=[]) rfl
def mu(j:mt k fs P f V)(reg a:Int)(hb:0<=a/\a<=1000000):cN 118 [iv .i64 reg,iv .i64 a] (Emit.cP P f V reg a) k:=by
 intro B G D H u code holes g ob ar s hl v;have A:=ar.gB;have E:=ar.dB;have I:=ar.hB;refine hdM B [G,D,H] Tryz.func118 rfl [] VC ar.top λO bn s0 w0=>?_;have q:=ar.oG;unfold br.cells at q;rw[j.b,j.fn,j.d]at q;have J:=j.fl;have K:=j.l;obtain⟨n,c⟩:=getq (show f<z P.base by omega);have h:=j.bz n (l6 c);have gj:=j.dz;have x:(0:Int)<=(f:Int):=a7;have az:(f:Int)<(z P.base:Int):=a7;have e:f<z P.base:=a7;have t:IntKind.i64.wrap (n+V)=n+V:=by rw[wrap_i64]<;>omega
 have w:IntKind.i64.wrap (n+V-a)=n+V-a:=by rw[wrap_i64]<;>omega
 simp only[go_sem];refine aF c8 ?_;simp only[go_sem,q,s,ksD,j6,x,az,e,c,t,w];refine aS aa rfl (eq 17 reg 0 (n+V-a) k) (B+27) G D H u code holes (by simp only[go_sem,t,w]) s (ar.up a7) hl v ?_;intro r L Y Q y;simp only[go_sem];refine⟨_,ae.refl _,?_⟩;simp only[go_sem];exact ar.pack Q (y.down a7) (by simp only[Emit.cP,ao,c,A5]) rfl (o:=[]) rfl
def Ni{n:Int}:IntKind.u32.wrap ((BitVec.ofInt 32 n &&&BitVec.ofInt 32 65535).toNat:Int)=n%65536:=by
 rw[show (65535:Int)=((65535:Nat):Int)from rfl,BitVec.toNat_and,Q4,Q4,show (((65535:Nat):Int)%(2^32:Nat)).toNat=65535 by omega,show (n%(2^32:Nat)).toNat &&&65535=(n%(2^32:Nat)).toNat%65536 from Nat.and_two_pow_sub_one_eq_mod _ 16,IntKind.wrap_u32];omega
def OI{n:Int}:n.fdiv ((2:Int)^min 16 32)=n/65536:=by
 rw[show (2:Int)^min 16 32=65536 from rfl,Q5 _ a7]
def Hl(reg n:Int):cN 117 [iv .i64 reg,iv .u32 n] (Emit.jA reg n) k:=by
 intro B G D H u code holes g ob ar b hl a;have v:=ar.gB;have x:=ar.dB;have y:=ar.hB;refine hdM B [G,D,H] Tryz.func117 rfl [] VC ar.top λO bn s0 w0=>?_;have e:IntKind.i64.wrap (n%65536)=n%65536:=by rw[wrap_i64]<;>omega
 have w:IntKind.i64.wrap (n/65536)=Emit.hi16 n:=by rw[IntKind.wrap_i64];unfold Emit.hi16;omega
 by_cases hn:65535<n
 .have d:Emit.jA reg n=ak (ao 1 reg 0 (n%65536)) (ao 2 reg 0 (Emit.hi16 n)):=l8 hn
  rw[d]at hl a|-;simp only[ak,ao,j7,j9,l4]at hl a;simp only[go_sem,hn];erw[Ni];rw[e];refine aS aa rfl (eq 1 reg 0 (n%65536) k) (B+20) G D H u code holes Vy b (ar.up a7) Xr a ?_;intro r j q Q K1;simp only[go_sem,hn];have l:(n.fdiv ((2:Int)^min 16 32))=n/65536:=OI;refine aS aa rfl (eq 2 reg 0 (Emit.hi16 n) k) (B+20) G D H u _ _ (by simp only[go_sem,l,w]) ((K1.gen G a7 ar.gd ar.gh).trans b) Q V1 V7 ?_;intro r A E s t;simp only[go_sem];refine⟨_,ae.refl _,?_⟩;simp only[go_sem];exact ar.pack s ((K1.trans t).down a7) Xj Xj (o:=[]) rfl
 .have d:Emit.jA reg n=ao 1 reg 0 (n%65536):=j8 hn
  rw[d]at hl a|-;simp only[go_sem,hn];erw[Ni];rw[e];refine aS aa rfl (eq 1 reg 0 (n%65536) k) (B+20) G D H u code holes Vy b (ar.up a7) hl a ?_;intro r j q Q K1;simp only[go_sem,hn];exact Bc
def KL(j:mt k fs P f V):cN 132 [] (Emit.jQ fs P f V) k:=by
 intro B G D H u code holes g ob ar l hl n;have cy:=ar.gB;have cz:=ar.dB;have c6:=ar.hB;refine hdM B [G,D,H] Tryz.func132 rfl [] VC ar.top λO bn s0 w0=>?_;have q:=ar.oG;unfold br.cells at q;rw[j.b,j.fn,j.d,j.s,j.bk]at q;have I:=j.fl;have dd:=j.fz;have cm:=j.bl;have J:IntKind.i64.wrap ((z fs:Int)-1)=(z fs:Int)-1:=by rw[wrap_i64]<;>omega
 obtain⟨x,c⟩:=getq (show f<z P.back by omega);obtain⟨W,a⟩:=getq I;have y:(0:Int)<=(f:Int):=a7;have az:(f:Int)<(z fs:Int):=a7;have K:(f:Int)<(z P.back:Int):=a7;have e:f<z P.back:=a7;simp only[go_sem];refine aF c8 ?_;by_cases U:(f:Int)=(z fs:Int)-1
 .have v:Emit.jQ fs P f V=ao 26 0 0 0:=l8 a7
  rw[v]at hl n|-;simp only[go_sem,q,l,j6,J,w8 U];refine aS aa rfl (eq 26 0 0 0 k) (B+45) G D H u code holes Vy l (ar.up a7) hl n ?_;intro r Y Z Q K1;simp only[go_sem];exact Bc
 .simp only[go_sem,q,l,j6,J,U]
  refine aF c8 ?_;simp only[go_sem,q,l,j6,y,az,I,a,sfD];cases bz:W.word
  .have v:Emit.jQ fs P f V=ak (ao 16 14 0 x) (ao 22 14 0 0):=by
    unfold Emit.jQ;rw[j8 a7,a];simp only[z7,A5,bz,c,D7,A8]
   rw[v]at hl n|-;simp only[ak,ao,j7,j9,l4]at hl n;simp only[go_sem];refine aF c8 ?_;simp only[go_sem,q,l,ksD,j6,y,K,e,c];refine aS aa rfl (eq 16 14 0 x k) (B+45) G D H u code holes Vy l (ar.up a7) Xr n ?_;intro r2 g2 bo A w;simp only[go_sem];refine aS aa rfl (eq 22 14 0 0 k) (B+45) G D H u _ _ VZ ((w.gen G Xh ar.gd ar.gh).trans l) A V1 V7 ?_;intro r3 g3 b7 X L;simp only[go_sem];refine⟨_,ae.refl _,?_⟩;simp only[go_sem];exact ar.pack X ((w.trans L).down a7) Xj Xj (o:=[]) rfl
  .have v:Emit.jQ fs P f V=ak (Emit.db P f V 1 1) (ak (ao 16 14 0 x) (ao 22 14 0 0)):=by
    unfold Emit.jQ;rw[j8 a7,a];simp only[z7,A5,bz,c,B1]
   rw[v]at hl n|-;simp only[ak,ao,Emit.db,j7,j9,l4]at hl n;simp only[go_sem];refine aS aa rfl (kK j 1 1 b9) (B+45) G D H u code holes Vy l (ar.up a7) (by simp only[ao,Emit.db,j9,l4];omega) (by simp only[ao,Emit.db,l4];omega) ?_;intro r1 Y Z Q K1;have E:Y G=u:=(K1.gen G a7 ar.gd ar.gh).trans l;have t:=Q.oG;unfold br.cells at t;rw[j.b,j.fn,j.d,j.s,j.bk]at t;simp only[go_sem];refine aF c8 ?_;simp only[go_sem,t,E,ksD,j6,y,K,e,c];refine aS aa rfl (eq 16 14 0 x k) (B+45) G D H u _ _ Vy E Q (by simp only[ao,Emit.db,j7,j9,l4];omega) (by simp only[ao,Emit.db,s7,l4];omega) ?_;intro r2 g2 bo A w;simp only[go_sem];refine aS aa rfl (eq 22 14 0 0 k) (B+45) G D H u _ _ VZ ((w.gen G Xh ar.gd ar.gh).trans E) A (by simp only[ao,Emit.db,j7,j9,l4];omega) (by simp only[ao,Emit.db,s7,l4];omega) ?_;intro r3 g3 b7 X L;simp only[go_sem];refine⟨_,ae.refl _,?_⟩;simp only[go_sem];exact ar.pack X ((K1.trans (w.trans L)).down a7) (by simp only[ak,ao,Emit.db,u7]) (by simp only[ak,ao,Emit.db,u7]) (o:=[]) rfl
end
def KM{k:br}(a b:Int)(h0:0<=a)(i:a<=b)(hb:b<=1000000000000000):cN 135 [iv .i64 a,iv .i64 b] (Emit.iq a b) k:=by
 intro B G D H u code holes g ob ar V hl e;have cy:=ar.gB;have cz:=ar.dB;have c6:=ar.hB;refine hdM B [G,D,H] Tryz.func135 rfl [] VC ar.top λO bn s0 w0=>?_;have Y:IntKind.i64.wrap (b-a)=b-a:=by rw[wrap_i64]<;>omega
 by_cases q:b-a<=6
 .have W:Emit.iq a b=Emit.iU a (b-a).toNat:=l8 q
  rw[W]at hl e|-
  have v:∀(j n:Nat),z (Emit.iU a j n).code=j/\(Emit.iU a j n).holes=[]:=by
   intro j
   induction j with
   |zero=>intro n;exact⟨rfl,rfl⟩
   |succ j Z=>intro n;exact⟨by simp[Emit.iU,ak,ao,(Z _).1],by simp[Emit.iU,ak,ao,(Z _).2]⟩
  rw[(v _ _).1]at hl;simp only[go_sem,Y,q];refine aw (λm K=>∃j:Nat,m+j=(b-a).toNat/\K.f 0=.one (.ptr G u 0)/\K.f 2=iv .i64 b/\K.f 6=iv .i64 (a+j)/\ep (B+41) G D H k (code++(Emit.iU a j (z code)).code) (holes++(Emit.iU a j (z code)).holes) K.gen K.obj/\cD (B+41) G D H g ob K.gen K.obj) (b-a).toNat ?_ ?_
  .refine⟨0,rfl,?_⟩
   simp only[go_sem,Emit.iU,dS,s7];exact⟨a8,ar.up a7,.refl⟩
  rintro m f g1 av ⟨j,hm,q0,A,E,Q,K1⟩;simp only at q0 A E Q K1;by_cases af:a+j<b
  .have s:IntKind.i64.wrap (a+j+1)=a+j+1:=by rw[wrap_i64]<;>omega
   simp only[go_sem,q0,A,E,af];refine aS aa rfl (eq 17 0 0 (a+j) k) (B+41) G D H u _ _ WX ((K1.gen G a7 ar.gd ar.gh).trans V) Q (by simp only[j7,(v _ _).1,ao,j9,l4];omega) (by simp only[j7,(v _ _).2,ao,l4];rw[(v _ _).2]at e;simpa using e) ?_;intro r g2 bo l U;simp only[go_sem,E,s];refine ah (m-1) a7 ⟨j+1,a7,?_⟩;simp only[go_sem,q0,A];refine⟨by first|omega|(rw[show a+(j:Int)+1=a+((j+1:Nat):Int) by omega]),?_,K1.trans U⟩;simp only[Emit.iU,ak,<-u7];exact l
  .obtain rfl:j=(b-a).toNat:=a7
   simp only[go_sem,A,E,af];exact Bc
 .have W:Emit.iq a b=λn=>⟨[(1,1,0,a),(1,2,0,b),(17,0,1,0),(4,1,1,15),(14,3,1,2),(20,3,0,(n:Int)+2)],[]⟩:=j8 q
  rw[W]at hl e|-;simp only[j9,l4]at hl e;have b0:∀x:Nat,x<=100000000->IntKind.i64.wrap (x:Int)=(x:Int):=λx I=>by rw[wrap_i64]<;>omega
  simp only[go_sem,Y,q];refine aS aa rfl (eq 1 1 0 a k) (B+41) G D H u code holes VZ V (ar.up Xh) V1 V7 ?_;intro r1 g1 av Q K1;have b6:g1 G=u:=(K1.gen G a7 ar.gd ar.gh).trans V;simp only[go_sem];refine aS aa rfl (eq 1 2 0 b k) (B+41) G D H u _ _ VZ b6 Q V1 V7 ?_;intro r2 g2 bo l U;have an:g2 G=u:=(U.gen G a7 ar.gd ar.gh).trans b6;have I:=l.oG;unfold br.cells at I;simp only[go_sem,I,an];refine⟨by rw[l.oD];rfl,?_⟩;refine aS aa rfl (eq 17 0 1 0 k) (B+41) G D H u _ _ VZ an l V1 V7 ?_;intro r3 g3 b7 X L;have t:g3 G=u:=(L.gen G a7 ar.gd ar.gh).trans an;simp only[go_sem];refine aS aa rfl (eq 4 1 1 15 k) (B+41) G D H u _ _ VZ t X V1 V7 ?_;intro r4 g4 bf J K4;have y:g4 G=u:=(K4.gen G a7 ar.gd ar.gh).trans t;simp only[go_sem];refine aS aa rfl (eq 14 3 1 2 k) (B+41) G D H u _ _ VZ y J V1 V7 ?_;intro r5 g5 b' S5 K5;have w:g5 G=u:=(K5.gen G a7 ar.gd ar.gh).trans y;simp only[go_sem];refine aS aa rfl (eq 20 3 0 ((z code:Int)+2) k) (B+41) G D H u _ _ (by (first|rfl|simp only[go_sem,ao,j7,j9,l4]);rfl) w S5 (by simp only[ao,j7,j9,l4];omega) (by simp only[ao,s7,l4];omega) ?_;intro r6 g6 P c d;simp only[go_sem];refine⟨_,ae.refl _,?_⟩;simp only[go_sem];exact ar.pack c ((K1.trans (U.trans (L.trans (K4.trans (K5.trans d))))).down a7) (by simp only[ao,u7,C3,A6]) (by simp only[ao,s7]) (o:=[]) rfl
def Bk{k:br}(op a f pl:Int):cN 127 [iv .i64 op,iv .i64 a,iv .i64 f,iv .i64 pl] (aq op a f pl) k:=by
 intro B G D H u code holes g ob ar hg hl hh;have hG:=ar.gB;have hD:=ar.dB;have b:=ar.hB;have cb:=ar.gd;have al:=ar.gh;have L:=ar.dh;have Z:=ar.oD;have e:=ar.oH;simp only[aq,j9,l4]at hl hh;refine hdM B [G,D,H] Tryz.func127 rfl [] VC ar.top λO bn s0 w0=>?_;have q:=ar.oG;unfold br.cells at q;have s:∀k,(G=B+k)=False:=λk=>by simp;omega
 have t:∀k,(D=B+k)=False:=λk=>by simp;omega
 have w:∀k,(H=B+k)=False:=λk=>by simp;omega
 have A:(G=H)=False:=by simp[al]
 have E:(H=G)=False:=by simp[B8 al]
 simp only[go_sem];refine bY aA mixed aa [B+23,H,G] [([0],[0,1,2],[],F),([0],[0],[],F),([11],[0],[],F),([12],[0],[],F),([13],[0],[],F),([0],[],[],F),([15],[],[],F),([16],[],[],F),([17],[],[],F),([18],[],[],F),([3],[],[],F),([4],[],[],F),([19,20,21],[],[],F),([22],[],[0],F),([14,23],[],[1],F),([10],[],[],F),([25],[],[],F),([26,24],[],[],T)] 3 rfl c8 rfl VC ?_;have c:=zo holes;have bz:=iJ code;simp only[go_sem]
 iterate 10 (apply aj;(case hg=>first|exact x9|exact⟨_,rfl,by decide,rfl⟩);(case U=>intro V ga W n J;simp only[go_sem,s,t,w,A,E,q,hg,Z,bz]at J|-;exact J))
 iterate 3 (apply aj;(case hg=>first|exact x9|exact⟨_,rfl,by decide,rfl⟩);(case U=>intro V ga W n J;simp only[go_sem,s,t,w,A,E]at J|-;exact J))
 (apply bF;(case hg=>first|exact x9|exact⟨_,rfl,by decide,rfl⟩);(case U=>intro V ga W n J;simp only[go_sem,aW]at J|-;exact J))
 refine bF (a:=1) (v:=.one (.osl H (nxC (apC 160 (g H) 0) (g H)) 3 0 (z holes+1))) (x:=nxC (apC 160 (g H) 0) (g H)) (y:=S (mY (holes++[((z code:Int),f,pl)]))) x9 (λV ga W n J=>?_) ?_
 .have e1:List.take (z holes*3) (mY holes)++[C.d (.int .i64 (z code:Int)),C.d (.int .i64 f),C.d (.int .i64 pl)]=mY (holes++[((z code:Int),f,pl)]):=by
   rw[s6 (by rw[c];exact l7 _),Hj];simp[mY]
  simp only[go_sem,aW,e,c,s,t,w,A,E]at J|-;exact U2
 iterate 2 (apply aj;(case hg=>first|exact x9|exact⟨_,rfl,by decide,rfl⟩);(case U=>intro V ga W n J;simp only[go_sem,s,t,w,A,E,q,hg]at J|-;exact J))
 refine bZ x9 ?_;intro n a';simp only[go_sem,s,t,w,A,E,q,hg];refine a' _ ?_;clear a' n;have j:(D=H)=False:=by simp[L]
 have l:(D=G)=False:=by simp[B8 cb]
 simp only[go_sem];obtain⟨h,fx⟩:∃x,nxC (apC 160 (g H) 0) (g H)=x:=⟨_,rfl⟩
 rw[fx];refine aS aa rfl (eq op a 0 0 k) (B+31) G D H u code (holes++[((z code:Int),f,pl)]) VZ (by simp only[upd];rw[j8 al];(repeat rw[j8 (by omega)]);exact hg) ⟨λi hi=>nt (ar.top i (by omega)),by omega,by omega,by omega,cb,al,L,?_,?_,?_,λx I=>CJ (by omega) (ar.low x I)⟩ (by simp only[ao,j9,l4];omega) (by simp only[ao,j7,j9,l4];omega) ?_
 .simp only[upd,br.cells,j7,j9,l4]
  rw[l8 trivial,j8 L]
  (repeat rw[j8 (by omega)])
  try rfl
 .simp only[upd]
  rw[j8 (B8 cb),j8 L]
  (repeat rw[j8 (by omega)])
  exact Z
 .simp only[upd]
  rw[j8 (B8 al)]
  try rw[l8 trivial]
 intro r g' Y Q K1;simp only[go_sem];refine⟨_,ae.refl _,?_⟩;simp only[go_sem];refine ar.pack Q ⟨λi hi e2 K=>(K1.gen i a7 e2 K).trans ?_,λi hi e1 e2 K=>(K1.fr i a7 e1 e2 K).trans ?_⟩ (by simp only[aq,ao]) (by simp only[aq,ao,s7]) (o:=[]) rfl
 .simp only[upd];rw[j8 K,j8 a7]
 .simp only[upd];rw[j8 e1,j8 K];(repeat rw[j8 (by omega)])
def zp(P:Emit.Plan)(f:Nat)(V params first:Int):∀j n:Nat,z (Emit.kE P f V params first j n).code=2*j/\(Emit.kE P f V params first j n).holes=[]
 |0,n=>⟨by simp[Emit.kE,dS],by simp[Emit.kE,dS]⟩
 |j+1,n=>by
   have a:=zp P f V params first j
   exact⟨by simp[Emit.kE,ak,ao,Emit.db,(a _).1];omega,by simp[Emit.kE,ak,ao,Emit.db,(a _).2]⟩
def OJ{k:br}{fs:List Src.CFn}{P:Emit.Plan}{f:Nat}{V:Int}(hP:mt k fs P f V)(x:Ins){c:Nat}{y:Src.CFn}(Z:x.a=(c:Int))(hy:fs[c]?=S y):cN 130 [.agg ((bE x).map .d)] (Emit.sq fs P f V x.a) k:=by
 intro B G D H u code holes g ob ar hg hl hh;have cy:=ar.gB;have cz:=ar.dB;have c6:=ar.hB;have cb:=ar.gd;have al:=ar.gh;have cx:=ar.dh;refine hdM B [G,D,H] Tryz.func130 rfl [] VC ar.top λO bn s0 w0=>?_;obtain⟨op,a,b,n⟩:=x;simp only at Z;subst Z
 have e0:Emit.sq fs P f V (c:Int)=ak (Emit.kE P f V y.params y.first y.params.toNat) (ak (aq 21 14 (c:Int) (-1)) (if y.word then Emit.cP P f V 1 y.params else dS)):=by
  unfold Emit.sq;rw[B3,hy]
 rw[e0]at hl hh|-;have q:=ar.oG;unfold br.cells at q;rw[hP.s]at q;have b0:c<z fs:=(l5.1 hy).1;have bd:(0:Int)<=(c:Int):=a7;have W:(c:Int)<(z fs:Int):=a7;obtain⟨dc,d',ca,az⟩:=hP.pz y (l6 hy);have n1:∀k,(G=B+k)=False:=λk=>by simp;omega
 have n2:∀k,(D=B+k)=False:=λk=>by simp;omega
 have n3:∀k,(H=B+k)=False:=λk=>by simp;omega
 simp only[go_sem,bE];refine bY aA mixed aa [B+4] [([0],[0],[],F),([6],[0],[],F),([7],[0],[],F),([8],[0],[],F),([9],[0],[],F),([3],[0],[],F),([11],[0],[],F),([10,12],[0],[],F),([13],[0],[],F),([],[],[0],F),([4,14],[],[],T)] 1 rfl c8 rfl a8 ?_;simp only[go_sem]
 iterate 7 (apply aj;(case hg=>first|exact x9|exact⟨_,rfl,by decide,rfl⟩);(case U=>intro fa ga oa K' J;simp only[go_sem,n1,n2,n3,q,hg]at J|-;exact J))
 iterate 2 (apply aj;(case hg=>first|exact x9|exact⟨_,rfl,by decide,rfl⟩);(case U=>intro fa ga oa K' J;simp only[go_sem,n1,n2,n3,q,hg,bd,W,b0,hy,j6,sfD]at J|-;exact J))
 (apply bF;(case hg=>first|exact x9|exact⟨_,rfl,by decide,rfl⟩);(case U=>intro fa ga oa K' J;simp only[go_sem,n1,n2,n3]at J|-;exact J))
 refine bZ x9 ?_;intro K' a';simp only[go_sem,n1,n2,n3];refine a' _ ?_;clear a' K';simp only[go_sem];have b2:=zp P f V y.params y.first
 have l:z code+(2*y.params.toNat+2)<=100000000+1:=by
  have U:(ak (Emit.kE P f V y.params y.first y.params.toNat) (ak (aq 21 14 (c:Int) (-1)) (if y.word then Emit.cP P f V 1 y.params else dS)) (z code)).code.length≥2*y.params.toNat+1:=by
   simp only[ak,aq,j7,(b2 _ _).1,j9,l4];omega
  omega
 have p:z holes+1<=100000000:=by
  have U:(ak (Emit.kE P f V y.params y.first y.params.toNat) (ak (aq 21 14 (c:Int) (-1)) (if y.word then Emit.cP P f V 1 y.params else dS)) (z code)).holes.length≥1:=by
   simp only[ak,aq,j7,(b2 _ _).2,j9,l4];omega
  omega
 refine aw (λm K=>∃j:Nat,m+j=y.params.toNat/\K.f 0=.one (.ptr G u 0)/\K.f 3=.one (.ptr (B+3) (K.gen (B+3)) 0)/\K.f 4=.one (.ptr (B+4) (K.gen (B+4)) 0)/\K.f 16=iv .i64 y.params/\K.f 17=iv .i64 j/\K.obj (B+3)=S [.d (.int .i64 op),.d (.int .i64 c),.d (.int .i64 b),.d (.int .u32 n)]/\
  K.obj (B+4)=S [.d (.int .i64 y.params),.d (.int .i64 y.slots),.d (.int .i64 y.first),.d (.bool y.word),.d (sP (codeOf y.word y.body))]/\ep (B+43) G D H k (code++(Emit.kE P f V y.params y.first j (z code)).code) (holes++(Emit.kE P f V y.params y.first j (z code)).holes) K.gen K.obj/\cD B G D H g ob K.gen K.obj) y.params.toNat ?_ ?_
 .refine⟨0,rfl,?_⟩
  simp only[go_sem,Emit.kE,dS,s7,n1,n2,n3];exact⟨(ar.up (B':=B+43) a7).to (λi hi=>nt (ar.top i a7)) (nu) (nu) (nu) (nu) (nu),⟨λi U h2 h3=>nu,λi U h2 h3 h4=>nu⟩⟩
 rintro m fa g1 av ⟨j,hm,q0,q3,q4,A,e,p3,p4,Q,K1⟩;simp only at q0 q3 q4 A e p3 p4 Q K1;have b6:g1 G=u:=(K1.gen G a7 ar.gd ar.gh).trans hg;have lg:=(Emit.kE P f V y.params y.first j (z code))
 by_cases af:(j:Int)<y.params
 .have b4:IntKind.i64.wrap (y.params-j)=y.params-j:=by rw[wrap_i64]<;>omega
  have w:IntKind.i64.wrap (y.first+j)=y.first+j:=by rw[wrap_i64]<;>omega
  have cu:=ac (k:=j) a7;simp only[go_sem,q0,q3,q4,A,e,af,p4,b4];refine aS aa rfl (kK hP 1 (y.params-j) a7) (B+43) G D H u _ _ WX b6 Q (by simp only[j7,(b2 _ _).1,ao,Emit.db,j9,l4];omega) (by simp only[j7,(b2 _ _).2,ao,Emit.db,l4];omega) ?_;intro r g2 bo S2 K2;have an:g2 G=u:=(K2.gen G a7 ar.gd ar.gh).trans b6;have a1:=(K2.fr (B+4) a7 a7 a7 a7).trans p4;have t:=(K2.fr (B+3) a7 a7 a7 a7).trans p3;have h:=K2.gen (B+4) a7 a7 a7;have v:=K2.gen (B+3) a7 a7 a7;simp only[go_sem,q0,q3,q4,A,e,a1,h,w];refine aS aa rfl (eq 17 1 0 (y.first+j) k) (B+43) G D H u _ _ WX an S2 (by simp only[j7,(b2 _ _).1,ao,Emit.db,j9,l4];omega) (by simp only[j7,(b2 _ _).2,ao,Emit.db,l4];omega) ?_;intro r g3 b7 X L;have E:=(L.fr (B+4) a7 a7 a7 a7).trans a1;have I:=(L.fr (B+3) a7 a7 a7 a7).trans t;have Y:=(L.gen (B+4) a7 a7 a7).trans h;have ad:=(L.gen (B+3) a7 a7 a7).trans v;simp only[go_sem,e,cu];refine ah (m-1) a7 ⟨j+1,a7,?_⟩;simp only[go_sem,q0,q3,q4,A,I,E,ad,Y];refine⟨?_,K1.trans ((K2.trans L).down a7)⟩;simp only[Emit.kE,ak,<-u7];simp only[j7,C0]at X;exact X
 .have hj:j=y.params.toNat:=a7
  subst hj;simp only[go_sem,q0,q3,q4,A,e,af,p3];refine aS aa rfl (Bk 21 14 (c:Int) (-1)) (B+43) G D H u _ _ WX b6 Q (by simp only[j7,(b2 _ _).1,aq,j9,l4];omega) (by simp only[j7,(b2 _ _).2,aq,j9,l4];omega) ?_;intro r g2 bo S2 K2;have an:g2 G=u:=(K2.gen G a7 ar.gd ar.gh).trans b6;have a1:=(K2.fr (B+4) a7 a7 a7 a7).trans p4;have h:=K2.gen (B+4) a7 a7 a7;cases bz:y.word with
  |false=>
    rw[bz]at a1 hl hh;simp only[go_sem,q0,q4,a1,h];refine⟨_,ae.refl _,?_⟩;simp only[go_sem];exact ar.pack S2 (K1.trans (K2.down a7)) (by simp[ak,dS,u7,aq]) (by simp[ak,dS,u7,aq]) (o:=[]) rfl
  |true=>
    rw[bz]at a1 hl hh;simp only[go_sem,q0,q4,a1,h];refine aS aa rfl (mu hP 1 y.params a7) (B+43) G D H u _ _ WX an S2 ?_ ?_ ?_
    .simp only[ak,aq,Emit.cP,ao,j7,(b2 _ _).1,j9,l4,B1]at hl|-;omega
    .simp only[ak,aq,Emit.cP,ao,j7,(b2 _ _).2,j9,l4,B1]at hh|-;omega
    intro r g3 b7 X L;simp only[go_sem];refine⟨_,ae.refl _,?_⟩;simp only[go_sem];exact ar.pack X (K1.trans ((K2.trans L).down a7)) (by simp[ak,dS,u7,aq,Emit.cP,ao]) (by simp[ak,dS,u7,aq,Emit.cP,ao]) (o:=[]) rfl
section
variable{k:br}{fs:List Src.CFn}{P:Emit.Plan}{f:Nat}{V:Int}
def OK(hP:mt k fs P f V)(a b n:Int):cN 116 [.agg ((bE ⟨1,a,b,n⟩).map .d)] (Emit.jR fs P f V ⟨1,a,b,n⟩) k:=by
 intro B G D H u code holes g ob ar j hl hh;have E:=ar.gB;have I:=ar.dB;have J:=ar.hB;have K:=ar.gd;have al:=ar.gh;have L:=ar.dh;refine hdM B [G,D,H] Tryz.func116 rfl [] VC ar.top λO bn s0 w0=>?_;have U:∀k,(G=B+k)=False:=λk=>by simp;omega
 have W:∀k,(D=B+k)=False:=λk=>by simp;omega
 have Y:∀k,(H=B+k)=False:=λk=>by simp;omega
 have q:=ar.oG;unfold br.cells at q;rw[hP.fn]at q;have s:Emit.jR fs P f V ⟨1,a,b,n⟩=(ak (Emit.jA 1 n) (Emit.cP P f V 1 0)):=by simp[Emit.jR]
 rw[s]at hl hh|-;simp only[ak,ao,aq,Emit.db,Emit.cP,j7,j9,l4]at hl hh;simp only[go_sem,bE];obtain⟨l,h⟩:∃x,nxC 222 (g (B+3))=x:=⟨_,rfl⟩
 have t:ep (B+10) G D H k code holes (upd g (B+3) l) (upd ob (B+3) (S [.d (.int .i64 1),.d (.int .i64 a),.d (.int .i64 b),.d (.int .u32 n)])):=(ar.up a7).upd a7 a7 a7 a7 _ _;have v:cD B G D H g ob (upd g (B+3) l) (upd ob (B+3) (S [.d (.int .i64 1),.d (.int .i64 a),.d (.int .i64 b),.d (.int .u32 n)])):=⟨λi w _ _=>nu,λi w _ _ _=>nu⟩
 have A:upd g (B+3) l G=u:=by simp only[upd];rw[j8 a7];exact j
 rw[h];refine aS aa rfl (Hl 1 n) (B+10) G D H u _ _ VH A t VI VJ ?_;intro r g1 y Q K1;have b6:g1 G=u:=(K1.gen G a7 ar.gd ar.gh).trans A;have c:y (B+3)=S [.d (.int .i64 1),.d (.int .i64 a),.d (.int .i64 b),.d (.int .u32 n)]:=(K1.fr (B+3) a7 a7 a7 a7).trans VA;exact n8
def OL(hP:mt k fs P f V)(a b n:Int):cN 119 [.agg ((bE ⟨2,a,b,n⟩).map .d)] (Emit.jR fs P f V ⟨2,a,b,n⟩) k:=by
 intro B G D H u code holes g ob ar j hl hh;have E:=ar.gB;have I:=ar.dB;have J:=ar.hB;have K:=ar.gd;have al:=ar.gh;have L:=ar.dh;refine hdM B [G,D,H] Tryz.func119 rfl [] VC ar.top λO bn s0 w0=>?_;have U:∀k,(G=B+k)=False:=λk=>by simp;omega
 have W:∀k,(D=B+k)=False:=λk=>by simp;omega
 have Y:∀k,(H=B+k)=False:=λk=>by simp;omega
 have q:=ar.oG;unfold br.cells at q;rw[hP.fn]at q;have s:Emit.jR fs P f V ⟨2,a,b,n⟩=(ak (ao 16 1 0 a) (Emit.cP P f V 1 0)):=by simp[Emit.jR]
 rw[s]at hl hh|-;simp only[ak,ao,aq,Emit.db,Emit.cP,j7,j9,l4]at hl hh;simp only[go_sem,bE];obtain⟨l,h⟩:∃x,nxC 222 (g (B+3))=x:=⟨_,rfl⟩
 have t:ep (B+10) G D H k code holes (upd g (B+3) l) (upd ob (B+3) (S [.d (.int .i64 2),.d (.int .i64 a),.d (.int .i64 b),.d (.int .u32 n)])):=(ar.up a7).upd a7 a7 a7 a7 _ _;have v:cD B G D H g ob (upd g (B+3) l) (upd ob (B+3) (S [.d (.int .i64 2),.d (.int .i64 a),.d (.int .i64 b),.d (.int .u32 n)])):=⟨λi w _ _=>nu,λi w _ _ _=>nu⟩
 have A:upd g (B+3) l G=u:=by simp only[upd];rw[j8 a7];exact j
 rw[h];refine aS aa rfl (eq 16 1 0 a k) (B+10) G D H u _ _ VH A t VI VJ ?_;intro r g1 y Q K1;have b6:g1 G=u:=(K1.gen G a7 ar.gd ar.gh).trans A;have c:y (B+3)=S [.d (.int .i64 2),.d (.int .i64 a),.d (.int .i64 b),.d (.int .u32 n)]:=(K1.fr (B+3) a7 a7 a7 a7).trans VA;exact n8
def OM(j:mt k fs P f V)(a b n:Int):cN 120 [.agg ((bE ⟨3,a,b,n⟩).map .d)] (Emit.jR fs P f V ⟨3,a,b,n⟩) k:=by
 intro B G D H u code holes g ob ar t hl hh;have K:=ar.gB;have L:=ar.dB;have U:=ar.hB;have W:=ar.gd;have al:=ar.gh;have Y:=ar.dh;refine hdM B [G,D,H] Tryz.func120 rfl [] VC ar.top λO bn s0 w0=>?_;have Z:∀k,(G=B+k)=False:=λk=>by simp;omega
 have n2:∀k,(D=B+k)=False:=λk=>by simp;omega
 have n3:∀k,(H=B+k)=False:=λk=>by simp;omega
 have q:=ar.oG;unfold br.cells at q;rw[j.fn]at q;have w:Emit.jR fs P f V ⟨3,a,b,n⟩=(ak (Emit.db P f V 1 1) (ao 17 1 0 a)):=by simp[Emit.jR]
 rw[w]at hl hh|-;simp only[ak,ao,aq,Emit.db,Emit.cP,j7,j9,l4]at hl hh;simp only[go_sem,bE];obtain⟨l,h⟩:∃x,nxC 222 (g (B+3))=x:=⟨_,rfl⟩
 have y:ep (B+10) G D H k code holes (upd g (B+3) l) (upd ob (B+3) (S [.d (.int .i64 3),.d (.int .i64 a),.d (.int .i64 b),.d (.int .u32 n)])):=(ar.up a7).upd a7 a7 a7 a7 _ _;have v:cD B G D H g ob (upd g (B+3) l) (upd ob (B+3) (S [.d (.int .i64 3),.d (.int .i64 a),.d (.int .i64 b),.d (.int .u32 n)])):=⟨λi E _ _=>nu,λi E _ _ _=>nu⟩
 have A:upd g (B+3) l G=u:=by simp only[upd];rw[j8 a7];exact t
 rw[h];refine aS aa rfl (kK j 1 1 b9) (B+10) G D H u _ _ VH A y VI VJ ?_;intro r s I Q K1;have J:s G=u:=(K1.gen G a7 ar.gd ar.gh).trans A;have c:I (B+3)=S [.d (.int .i64 3),.d (.int .i64 a),.d (.int .i64 b),.d (.int .u32 n)]:=(K1.fr (B+3) a7 a7 a7 a7).trans VA;have e:s (B+3)=l:=(K1.gen (B+3) a7 a7 a7).trans VA;simp only[go_sem,c,e];refine aS aa rfl (eq 17 1 0 a k) (B+10) G D H u _ _ VP J Q VQ VR ?_;exact gO
def ON(w:mt k fs P f V)(a b n:Int):cN 122 [.agg ((bE ⟨4,a,b,n⟩).map .d)] (Emit.jR fs P f V ⟨4,a,b,n⟩) k:=by
 intro B G D H u code holes g ob ar U hl hh;have cy:=ar.gB;have cz:=ar.dB;have c6:=ar.hB;have cb:=ar.gd;have al:=ar.gh;have cx:=ar.dh;refine hdM B [G,D,H] Tryz.func122 rfl [] VC ar.top λO bn s0 w0=>?_;have n1:∀k,(G=B+k)=False:=λk=>by simp;omega
 have n2:∀k,(D=B+k)=False:=λk=>by simp;omega
 have n3:∀k,(H=B+k)=False:=λk=>by simp;omega
 have q:=ar.oG;unfold br.cells at q;rw[w.fn]at q;have W:Emit.jR fs P f V ⟨4,a,b,n⟩=(ak (Emit.db P f V 1 1) (ak (ao 25 1 0 b) (ak (ao 16 1 1 a) (Emit.cP P f V 1 1)))):=by simp[Emit.jR]
 rw[W]at hl hh|-;simp only[ak,ao,aq,Emit.db,Emit.cP,j7,j9,l4]at hl hh;simp only[go_sem,bE];obtain⟨l,h⟩:∃x,nxC 222 (g (B+3))=x:=⟨_,rfl⟩
 have Y:ep (B+16) G D H k code holes (upd g (B+3) l) (upd ob (B+3) (S [.d (.int .i64 4),.d (.int .i64 a),.d (.int .i64 b),.d (.int .u32 n)])):=(ar.up a7).upd a7 a7 a7 a7 _ _;have v:cD B G D H g ob (upd g (B+3) l) (upd ob (B+3) (S [.d (.int .i64 4),.d (.int .i64 a),.d (.int .i64 b),.d (.int .u32 n)])):=⟨λi Z _ _=>nu,λi Z _ _ _=>nu⟩
 have A:upd g (B+3) l G=u:=by simp only[upd];rw[j8 a7];exact U
 rw[h];refine aS aa rfl (kK w 1 1 b9) (B+16) G D H u _ _ VH A Y VI VJ ?_;intro r y av Q K1;have E:y G=u:=(K1.gen G a7 ar.gd ar.gh).trans A;have c:av (B+3)=S [.d (.int .i64 4),.d (.int .i64 a),.d (.int .i64 b),.d (.int .u32 n)]:=(K1.fr (B+3) a7 a7 a7 a7).trans VA;have e:y (B+3)=l:=(K1.gen (B+3) a7 a7 a7).trans VA;simp only[go_sem,c,e];refine aS aa rfl (eq 25 1 0 b k) (B+16) G D H u _ _ VP E Q VQ VR ?_;intro r I bo S2 K2;have an:I G=u:=(K2.gen G a7 ar.gd ar.gh).trans E;have j:bo (B+3)=S [.d (.int .i64 4),.d (.int .i64 a),.d (.int .i64 b),.d (.int .u32 n)]:=(K2.fr (B+3) a7 a7 a7 a7).trans c;have m:I (B+3)=l:=(K2.gen (B+3) a7 a7 a7).trans e;simp only[go_sem,j,m];refine aS aa rfl (eq 16 1 1 a k) (B+16) G D H u _ _ WJ an S2 WK WL ?_;intro r K b7 X L;have t:K G=u:=(L.gen G a7 ar.gd ar.gh).trans an;have p:b7 (B+3)=S [.d (.int .i64 4),.d (.int .i64 a),.d (.int .i64 b),.d (.int .u32 n)]:=(L.fr (B+3) a7 a7 a7 a7).trans j;have s:K (B+3)=l:=(L.gen (B+3) a7 a7 a7).trans m;simp only[go_sem,p,s];refine aS aa rfl (mu w 1 1 b9) (B+16) G D H u _ _ Xc t X Xd Xe ?_;exact j1
def OO(w:mt k fs P f V)(a b n:Int):cN 123 [.agg ((bE ⟨5,a,b,n⟩).map .d)] (Emit.jR fs P f V ⟨5,a,b,n⟩) k:=by
 intro B G D H u code holes g ob ar U hl hh;have cy:=ar.gB;have cz:=ar.dB;have c6:=ar.hB;have cb:=ar.gd;have al:=ar.gh;have cx:=ar.dh;refine hdM B [G,D,H] Tryz.func123 rfl [] VC ar.top λO bn s0 w0=>?_;have n1:∀k,(G=B+k)=False:=λk=>by simp;omega
 have n2:∀k,(D=B+k)=False:=λk=>by simp;omega
 have n3:∀k,(H=B+k)=False:=λk=>by simp;omega
 have q:=ar.oG;unfold br.cells at q;rw[w.fn]at q;have W:Emit.jR fs P f V ⟨5,a,b,n⟩=(ak (Emit.db P f V 1 2) (ak (ao 25 1 0 b) (ak (Emit.db P f V 2 1) (ao 17 2 1 a)))):=by simp[Emit.jR]
 rw[W]at hl hh|-;simp only[ak,ao,aq,Emit.db,Emit.cP,j7,j9,l4]at hl hh;simp only[go_sem,bE];obtain⟨l,h⟩:∃x,nxC 222 (g (B+3))=x:=⟨_,rfl⟩
 have Y:ep (B+16) G D H k code holes (upd g (B+3) l) (upd ob (B+3) (S [.d (.int .i64 5),.d (.int .i64 a),.d (.int .i64 b),.d (.int .u32 n)])):=(ar.up a7).upd a7 a7 a7 a7 _ _;have v:cD B G D H g ob (upd g (B+3) l) (upd ob (B+3) (S [.d (.int .i64 5),.d (.int .i64 a),.d (.int .i64 b),.d (.int .u32 n)])):=⟨λi Z _ _=>nu,λi Z _ _ _=>nu⟩
 have A:upd g (B+3) l G=u:=by simp only[upd];rw[j8 a7];exact U
 rw[h];refine aS aa rfl (kK w 1 2 b9) (B+16) G D H u _ _ VH A Y VI VJ ?_;intro r y av Q K1;have E:y G=u:=(K1.gen G a7 ar.gd ar.gh).trans A;have c:av (B+3)=S [.d (.int .i64 5),.d (.int .i64 a),.d (.int .i64 b),.d (.int .u32 n)]:=(K1.fr (B+3) a7 a7 a7 a7).trans VA;have e:y (B+3)=l:=(K1.gen (B+3) a7 a7 a7).trans VA;simp only[go_sem,c,e];refine aS aa rfl (eq 25 1 0 b k) (B+16) G D H u _ _ VP E Q VQ VR ?_;intro r I bo S2 K2;have an:I G=u:=(K2.gen G a7 ar.gd ar.gh).trans E;have j:bo (B+3)=S [.d (.int .i64 5),.d (.int .i64 a),.d (.int .i64 b),.d (.int .u32 n)]:=(K2.fr (B+3) a7 a7 a7 a7).trans c;have m:I (B+3)=l:=(K2.gen (B+3) a7 a7 a7).trans e;simp only[go_sem,j,m];refine aS aa rfl (kK w 2 1 b9) (B+16) G D H u _ _ WJ an S2 WK WL ?_;intro r K b7 X L;have t:K G=u:=(L.gen G a7 ar.gd ar.gh).trans an;have p:b7 (B+3)=S [.d (.int .i64 5),.d (.int .i64 a),.d (.int .i64 b),.d (.int .u32 n)]:=(L.fr (B+3) a7 a7 a7 a7).trans j;have s:K (B+3)=l:=(L.gen (B+3) a7 a7 a7).trans m;simp only[go_sem,p,s];refine aS aa rfl (eq 17 2 1 a k) (B+16) G D H u _ _ Xc t X Xd Xe ?_;exact j1
def OP(w:mt k fs P f V)(a b n:Int):cN 124 [.agg ((bE ⟨6,a,b,n⟩).map .d)] (Emit.jR fs P f V ⟨6,a,b,n⟩) k:=by
 intro B G D H u code holes g ob ar U hl hh;have cy:=ar.gB;have cz:=ar.dB;have c6:=ar.hB;have cb:=ar.gd;have al:=ar.gh;have cx:=ar.dh;refine hdM B [G,D,H] Tryz.func124 rfl [] VC ar.top λO bn s0 w0=>?_;have n1:∀k,(G=B+k)=False:=λk=>by simp;omega
 have n2:∀k,(D=B+k)=False:=λk=>by simp;omega
 have n3:∀k,(H=B+k)=False:=λk=>by simp;omega
 have q:=ar.oG;unfold br.cells at q;rw[w.fn]at q;have W:Emit.jR fs P f V ⟨6,a,b,n⟩=(ak (Emit.db P f V 1 2) (ak (Emit.db P f V 2 1) (ak (ao a 1 1 2) (Emit.cP P f V 1 2)))):=by simp[Emit.jR]
 rw[W]at hl hh|-;simp only[ak,ao,aq,Emit.db,Emit.cP,j7,j9,l4]at hl hh;simp only[go_sem,bE];obtain⟨l,h⟩:∃x,nxC 222 (g (B+3))=x:=⟨_,rfl⟩
 have Y:ep (B+14) G D H k code holes (upd g (B+3) l) (upd ob (B+3) (S [.d (.int .i64 6),.d (.int .i64 a),.d (.int .i64 b),.d (.int .u32 n)])):=(ar.up a7).upd a7 a7 a7 a7 _ _;have v:cD B G D H g ob (upd g (B+3) l) (upd ob (B+3) (S [.d (.int .i64 6),.d (.int .i64 a),.d (.int .i64 b),.d (.int .u32 n)])):=⟨λi Z _ _=>nu,λi Z _ _ _=>nu⟩
 have A:upd g (B+3) l G=u:=by simp only[upd];rw[j8 a7];exact U
 rw[h];refine aS aa rfl (kK w 1 2 b9) (B+14) G D H u _ _ VH A Y VI VJ ?_;intro r y av Q K1;have E:y G=u:=(K1.gen G a7 ar.gd ar.gh).trans A;have c:av (B+3)=S [.d (.int .i64 6),.d (.int .i64 a),.d (.int .i64 b),.d (.int .u32 n)]:=(K1.fr (B+3) a7 a7 a7 a7).trans VA;have e:y (B+3)=l:=(K1.gen (B+3) a7 a7 a7).trans VA;simp only[go_sem,c,e];refine aS aa rfl (kK w 2 1 b9) (B+14) G D H u _ _ VP E Q VQ VR ?_;intro r I bo S2 K2;have an:I G=u:=(K2.gen G a7 ar.gd ar.gh).trans E;have j:bo (B+3)=S [.d (.int .i64 6),.d (.int .i64 a),.d (.int .i64 b),.d (.int .u32 n)]:=(K2.fr (B+3) a7 a7 a7 a7).trans c;have m:I (B+3)=l:=(K2.gen (B+3) a7 a7 a7).trans e;simp only[go_sem,j,m];refine aS aa rfl (eq a 1 1 2 k) (B+14) G D H u _ _ WJ an S2 WK WL ?_;intro r K b7 X L;have t:K G=u:=(L.gen G a7 ar.gd ar.gh).trans an;have p:b7 (B+3)=S [.d (.int .i64 6),.d (.int .i64 a),.d (.int .i64 b),.d (.int .u32 n)]:=(L.fr (B+3) a7 a7 a7 a7).trans j;have s:K (B+3)=l:=(L.gen (B+3) a7 a7 a7).trans m;simp only[go_sem,p,s];refine aS aa rfl (mu w 1 2 b9) (B+14) G D H u _ _ Xc t X Xd Xe ?_;exact j1
def OQ(w:mt k fs P f V)(a b n:Int):cN 125 [.agg ((bE ⟨7,a,b,n⟩).map .d)] (Emit.jR fs P f V ⟨7,a,b,n⟩) k:=by
 intro B G D H u code holes g ob ar J hl hh;have cy:=ar.gB;have cz:=ar.dB;have c6:=ar.hB;have cb:=ar.gd;have al:=ar.gh;have cx:=ar.dh;refine hdM B [G,D,H] Tryz.func125 rfl [] VC ar.top λO bn s0 w0=>?_;have n1:∀k,(G=B+k)=False:=λk=>by simp;omega
 have n2:∀k,(D=B+k)=False:=λk=>by simp;omega
 have n3:∀k,(H=B+k)=False:=λk=>by simp;omega
 have q:=ar.oG;unfold br.cells at q;rw[w.fn]at q;have K:Emit.jR fs P f V ⟨7,a,b,n⟩=(ak (Emit.db P f V 1 1) (ak (ao 15 1 1 0) (Emit.cP P f V 1 1))):=by simp[Emit.jR]
 rw[K]at hl hh|-;simp only[ak,ao,aq,Emit.db,Emit.cP,j7,j9,l4]at hl hh;simp only[go_sem,bE];obtain⟨l,h⟩:∃x,nxC 222 (g (B+3))=x:=⟨_,rfl⟩
 have U:ep (B+10) G D H k code holes (upd g (B+3) l) (upd ob (B+3) (S [.d (.int .i64 7),.d (.int .i64 a),.d (.int .i64 b),.d (.int .u32 n)])):=(ar.up a7).upd a7 a7 a7 a7 _ _;have v:cD B G D H g ob (upd g (B+3) l) (upd ob (B+3) (S [.d (.int .i64 7),.d (.int .i64 a),.d (.int .i64 b),.d (.int .u32 n)])):=⟨λi W _ _=>nu,λi W _ _ _=>nu⟩
 have A:upd g (B+3) l G=u:=by simp only[upd];rw[j8 a7];exact J
 rw[h];refine aS aa rfl (kK w 1 1 b9) (B+10) G D H u _ _ VH A U VI VJ ?_;intro r y Y Q s;have E:y G=u:=(s.gen G a7 ar.gd ar.gh).trans A;have c:Y (B+3)=S [.d (.int .i64 7),.d (.int .i64 a),.d (.int .i64 b),.d (.int .u32 n)]:=(s.fr (B+3) a7 a7 a7 a7).trans VA;have e:y (B+3)=l:=(s.gen (B+3) a7 a7 a7).trans VA;simp only[go_sem,c,e];refine aS aa rfl (eq 15 1 1 0 k) (B+10) G D H u _ _ VP E Q VQ VR ?_;intro r I Z S2 t;have an:I G=u:=(t.gen G a7 ar.gd ar.gh).trans E;have j:Z (B+3)=S [.d (.int .i64 7),.d (.int .i64 a),.d (.int .i64 b),.d (.int .u32 n)]:=(t.fr (B+3) a7 a7 a7 a7).trans c;have m:I (B+3)=l:=(t.gen (B+3) a7 a7 a7).trans e;simp only[go_sem,j,m];refine aS aa rfl (mu w 1 1 b9) (B+10) G D H u _ _ WJ an S2 WK WL ?_;intro r g3 b7 X L;simp only[go_sem];refine⟨_,ae.refl _,?_⟩;simp only[go_sem];exact ar.pack X (v.trans (cD.down (s.trans (t.trans L)) a7)) Xs Xs (o:=[]) rfl
def OR(j:mt k fs P f V)(a b n:Int):cN 126 [.agg ((bE ⟨8,a,b,n⟩).map .d)] (Emit.jR fs P f V ⟨8,a,b,n⟩) k:=by
 intro B G D H u code holes g ob ar e hl hh;have J:=ar.gB;have K:=ar.dB;have L:=ar.hB;have U:=ar.gd;have al:=ar.gh;have W:=ar.dh;refine hdM B [G,D,H] Tryz.func126 rfl [] VC ar.top λO bn s0 w0=>?_;have s:∀k,(G=B+k)=False:=λk=>by simp;omega
 have t:∀k,(D=B+k)=False:=λk=>by simp;omega
 have w:∀k,(H=B+k)=False:=λk=>by simp;omega
 have q:=ar.oG;unfold br.cells at q;rw[j.fn]at q;have y:Emit.jR fs P f V ⟨8,a,b,n⟩=(aq 18 0 f a):=by simp[Emit.jR]
 rw[y]at hl hh|-;simp only[go_sem,bE];obtain⟨l,h⟩:∃x,nxC 222 (g (B+3))=x:=⟨_,rfl⟩
 have E:ep (B+12) G D H k code holes (upd g (B+3) l) (upd ob (B+3) (S [.d (.int .i64 8),.d (.int .i64 a),.d (.int .i64 b),.d (.int .u32 n)])):=(ar.up a7).upd a7 a7 a7 a7 _ _;have v:cD B G D H g ob (upd g (B+3) l) (upd ob (B+3) (S [.d (.int .i64 8),.d (.int .i64 a),.d (.int .i64 b),.d (.int .u32 n)])):=⟨λi I _ _=>nu,λi I _ _ _=>nu⟩
 have A:upd g (B+3) l G=u:=by simp only[upd];rw[j8 a7];exact e
 rw[h];refine aF c8 ?_;simp only[go_sem,s,t,w,q,e];refine aS aa rfl (Bk 18 0 f a) (B+12) G D H u _ _ VH A E VI VJ ?_;exact q9
def OS(j:mt k fs P f V)(a b n:Int):cN 128 [.agg ((bE ⟨9,a,b,n⟩).map .d)] (Emit.jR fs P f V ⟨9,a,b,n⟩) k:=by
 intro B G D H u code holes g ob ar y hl hh;have L:=ar.gB;have U:=ar.dB;have W:=ar.hB;have Y:=ar.gd;have al:=ar.gh;have Z:=ar.dh;refine hdM B [G,D,H] Tryz.func128 rfl [] VC ar.top λO bn s0 w0=>?_;have n1:∀k,(G=B+k)=False:=λk=>by simp;omega
 have n2:∀k,(D=B+k)=False:=λk=>by simp;omega
 have n3:∀k,(H=B+k)=False:=λk=>by simp;omega
 have q:=ar.oG;unfold br.cells at q;rw[j.fn]at q;have E:Emit.jR fs P f V ⟨9,a,b,n⟩=(ak (Emit.db P f V 1 1) (aq 19 1 f a)):=by simp[Emit.jR]
 rw[E]at hl hh|-;simp only[ak,ao,aq,Emit.db,Emit.cP,j7,j9,l4]at hl hh;simp only[go_sem,bE];obtain⟨l,h⟩:∃x,nxC 222 (g (B+3))=x:=⟨_,rfl⟩
 have I:ep (B+14) G D H k code holes (upd g (B+3) l) (upd ob (B+3) (S [.d (.int .i64 9),.d (.int .i64 a),.d (.int .i64 b),.d (.int .u32 n)])):=(ar.up a7).upd a7 a7 a7 a7 _ _;have v:cD B G D H g ob (upd g (B+3) l) (upd ob (B+3) (S [.d (.int .i64 9),.d (.int .i64 a),.d (.int .i64 b),.d (.int .u32 n)])):=⟨λi J _ _=>nu,λi J _ _ _=>nu⟩
 have A:upd g (B+3) l G=u:=by simp only[upd];rw[j8 a7];exact y
 rw[h];refine aS aa rfl (kK j 1 1 b9) (B+14) G D H u _ _ VH A I VI VJ ?_;intro r s K Q K1;have w:s G=u:=(K1.gen G a7 ar.gd ar.gh).trans A;have c:K (B+3)=S [.d (.int .i64 9),.d (.int .i64 a),.d (.int .i64 b),.d (.int .u32 n)]:=(K1.fr (B+3) a7 a7 a7 a7).trans VA;have e:s (B+3)=l:=(K1.gen (B+3) a7 a7 a7).trans VA;simp only[go_sem,c,e];refine aF c8 ?_;have t:=Q.oG;unfold br.cells at t;rw[j.fn]at t;simp only[go_sem,t,w,c,e];refine aS aa rfl (Bk 19 1 f a) (B+14) G D H u _ _ VP w Q VQ VR ?_;exact gO
def KN(e:mt k fs P f V)(a b n:Int){c:Nat}{y:Src.CFn}(Z:a=(c:Int))(j:fs[c]?=S y):cN 129 [.agg ((bE ⟨10,a,b,n⟩).map .d)] (Emit.jR fs P f V ⟨10,a,b,n⟩) k:=by
 intro B G D H u code holes g ob ar s hl hh;have I:=ar.gB;have J:=ar.dB;have K:=ar.hB;have L:=ar.gd;have al:=ar.gh;have U:=ar.dh;refine hdM B [G,D,H] Tryz.func129 rfl [] VC ar.top λO bn s0 w0=>?_;have W:∀k,(G=B+k)=False:=λk=>by simp;omega
 have Y:∀k,(D=B+k)=False:=λk=>by simp;omega
 have n3:∀k,(H=B+k)=False:=λk=>by simp;omega
 have q:=ar.oG;unfold br.cells at q;rw[e.fn]at q;have t:Emit.jR fs P f V ⟨10,a,b,n⟩=(Emit.sq fs P f V a):=by simp[Emit.jR]
 rw[t]at hl hh|-;simp only[go_sem,bE];obtain⟨l,h⟩:∃x,nxC 222 (g (B+3))=x:=⟨_,rfl⟩
 have w:ep (B+7) G D H k code holes (upd g (B+3) l) (upd ob (B+3) (S [.d (.int .i64 10),.d (.int .i64 a),.d (.int .i64 b),.d (.int .u32 n)])):=(ar.up a7).upd a7 a7 a7 a7 _ _;have v:cD B G D H g ob (upd g (B+3) l) (upd ob (B+3) (S [.d (.int .i64 10),.d (.int .i64 a),.d (.int .i64 b),.d (.int .u32 n)])):=⟨λi E _ _=>nu,λi E _ _ _=>nu⟩
 have A:upd g (B+3) l G=u:=by simp only[upd];rw[j8 a7];exact s
 rw[h];refine aS aa rfl (OJ e ⟨10,a,b,n⟩ Z j) (B+7) G D H u _ _ VH A w VI VJ ?_;exact q9
def KO(e:mt k fs P f V)(a b n:Int):cN 131 [.agg ((bE ⟨11,a,b,n⟩).map .d)] (Emit.jR fs P f V ⟨11,a,b,n⟩) k:=by
 intro B G D H u code holes g ob ar j hl hh;have y:=ar.gB;have E:=ar.dB;have I:=ar.hB;have J:=ar.gd;have al:=ar.gh;have K:=ar.dh;refine hdM B [G,D,H] Tryz.func131 rfl [] VC ar.top λO bn s0 w0=>?_;have L:∀k,(G=B+k)=False:=λk=>by simp;omega
 have U:∀k,(D=B+k)=False:=λk=>by simp;omega
 have W:∀k,(H=B+k)=False:=λk=>by simp;omega
 have q:=ar.oG;unfold br.cells at q;rw[e.fn]at q;have s:Emit.jR fs P f V ⟨11,a,b,n⟩=(Emit.jQ fs P f V):=by simp[Emit.jR]
 rw[s]at hl hh|-;simp only[go_sem,bE];obtain⟨l,h⟩:∃x,nxC 222 (g (B+3))=x:=⟨_,rfl⟩
 have t:ep (B+6) G D H k code holes (upd g (B+3) l) (upd ob (B+3) (S [.d (.int .i64 11),.d (.int .i64 a),.d (.int .i64 b),.d (.int .u32 n)])):=(ar.up a7).upd a7 a7 a7 a7 _ _;have v:cD B G D H g ob (upd g (B+3) l) (upd ob (B+3) (S [.d (.int .i64 11),.d (.int .i64 a),.d (.int .i64 b),.d (.int .u32 n)])):=⟨λi w _ _=>nu,λi w _ _ _=>nu⟩
 have A:upd g (B+3) l G=u:=by simp only[upd];rw[j8 a7];exact j
 rw[h];refine aS aa rfl (KL e) (B+6) G D H u _ _ VH A t VI VJ ?_;exact q9
def KP(j:mt k fs P f V)(a b n:Int):cN 133 [.agg ((bE ⟨12,a,b,n⟩).map .d)] (Emit.jR fs P f V ⟨12,a,b,n⟩) k:=by
 intro B G D H u code holes g ob ar t hl hh;have K:=ar.gB;have L:=ar.dB;have U:=ar.hB;have W:=ar.gd;have al:=ar.gh;have Y:=ar.dh;refine hdM B [G,D,H] Tryz.func133 rfl [] VC ar.top λO bn s0 w0=>?_;have Z:∀k,(G=B+k)=False:=λk=>by simp;omega
 have n2:∀k,(D=B+k)=False:=λk=>by simp;omega
 have n3:∀k,(H=B+k)=False:=λk=>by simp;omega
 have q:=ar.oG;unfold br.cells at q;rw[j.fn]at q;have w:Emit.jR fs P f V ⟨12,a,b,n⟩=(ak (ao 23 1 0 0) (Emit.cP P f V 1 0)):=by simp[Emit.jR]
 rw[w]at hl hh|-;simp only[ak,ao,aq,Emit.db,Emit.cP,j7,j9,l4]at hl hh;simp only[go_sem,bE];obtain⟨l,h⟩:∃x,nxC 222 (g (B+3))=x:=⟨_,rfl⟩
 have y:ep (B+8) G D H k code holes (upd g (B+3) l) (upd ob (B+3) (S [.d (.int .i64 12),.d (.int .i64 a),.d (.int .i64 b),.d (.int .u32 n)])):=(ar.up a7).upd a7 a7 a7 a7 _ _;have v:cD B G D H g ob (upd g (B+3) l) (upd ob (B+3) (S [.d (.int .i64 12),.d (.int .i64 a),.d (.int .i64 b),.d (.int .u32 n)])):=⟨λi E _ _=>nu,λi E _ _ _=>nu⟩
 have A:upd g (B+3) l G=u:=by simp only[upd];rw[j8 a7];exact t
 rw[h];refine aS aa rfl (eq 23 1 0 0 k) (B+8) G D H u _ _ VH A y VI VJ ?_;intro r s I Q K1;have J:s G=u:=(K1.gen G a7 ar.gd ar.gh).trans A;have c:I (B+3)=S [.d (.int .i64 12),.d (.int .i64 a),.d (.int .i64 b),.d (.int .u32 n)]:=(K1.fr (B+3) a7 a7 a7 a7).trans VA;have e:s (B+3)=l:=(K1.gen (B+3) a7 a7 a7).trans VA;simp only[go_sem,c,e];refine aS aa rfl (mu j 1 0 b9) (B+8) G D H u _ _ VP J Q VQ VR ?_;exact gO
def KQ(j:mt k fs P f V)(a b n:Int):cN 134 [.agg ((bE ⟨13,a,b,n⟩).map .d)] (Emit.jR fs P f V ⟨13,a,b,n⟩) k:=by
 intro B G D H u code holes g ob ar t hl hh;have K:=ar.gB;have L:=ar.dB;have U:=ar.hB;have W:=ar.gd;have al:=ar.gh;have Y:=ar.dh;refine hdM B [G,D,H] Tryz.func134 rfl [] VC ar.top λO bn s0 w0=>?_;have Z:∀k,(G=B+k)=False:=λk=>by simp;omega
 have n2:∀k,(D=B+k)=False:=λk=>by simp;omega
 have n3:∀k,(H=B+k)=False:=λk=>by simp;omega
 have q:=ar.oG;unfold br.cells at q;rw[j.fn]at q;have w:Emit.jR fs P f V ⟨13,a,b,n⟩=(ak (Emit.db P f V 1 1) (ao 24 1 0 0)):=by simp[Emit.jR]
 rw[w]at hl hh|-;simp only[ak,ao,aq,Emit.db,Emit.cP,j7,j9,l4]at hl hh;simp only[go_sem,bE];obtain⟨l,h⟩:∃x,nxC 222 (g (B+3))=x:=⟨_,rfl⟩
 have y:ep (B+8) G D H k code holes (upd g (B+3) l) (upd ob (B+3) (S [.d (.int .i64 13),.d (.int .i64 a),.d (.int .i64 b),.d (.int .u32 n)])):=(ar.up a7).upd a7 a7 a7 a7 _ _;have v:cD B G D H g ob (upd g (B+3) l) (upd ob (B+3) (S [.d (.int .i64 13),.d (.int .i64 a),.d (.int .i64 b),.d (.int .u32 n)])):=⟨λi E _ _=>nu,λi E _ _ _=>nu⟩
 have A:upd g (B+3) l G=u:=by simp only[upd];rw[j8 a7];exact t
 rw[h];refine aS aa rfl (kK j 1 1 b9) (B+8) G D H u _ _ VH A y VI VJ ?_;intro r s I Q K1;have J:s G=u:=(K1.gen G a7 ar.gd ar.gh).trans A;have c:I (B+3)=S [.d (.int .i64 13),.d (.int .i64 a),.d (.int .i64 b),.d (.int .u32 n)]:=(K1.fr (B+3) a7 a7 a7 a7).trans VA;have e:s (B+3)=l:=(K1.gen (B+3) a7 a7 a7).trans VA;simp only[go_sem,c,e];refine aS aa rfl (eq 24 1 0 0 k) (B+8) G D H u _ _ VP J Q VQ VR ?_;exact gO
end
end
end Go.Proofs.YtlacbjnmkhndiaaGreatDoor.Low
namespace Go.Am
section
attribute[local congr]ite_cc
section
variable{s:St}{K:St->Prop}{o:Oper}{t:TypeId}{m ix x:Operand}{t1 t2:TypeId}{id c1 g g2 sz n:Nat}{cells A:List C}{k:Box K}
section
variable{P:Program}{E:Nat->TI}{O:Bs}{β:Loc}{w:World}{rd:Option Nat}{Φ:St->Loc->List Deferred->World->Prop}{B0:Nat}{Ψ:ff}{L:Pan}
def vp(w:World)(f g ty c:TypeId)(b o n d b0 sz:Nat)(a:Addr)(cs:List Value)(arr:Array Value)(el:TypeId)(H l:Nat)
 (L:P.underlying f=S (.slice c))(q:(P.info? c).map (·.size)=S sz)(r:n*sz=z cs)
 (e:∀j v,cs[j]?=S v->w.cell? (a.add j)=S v)(a6:w.heap[b]?=S (.cells arr el (H,l)))(hf:l<=H\/arr.size<=H)(Q:o+z cs<=arr.size)(U:∀v∈cs,v.oneCell'=T):
  (Builtin.copy_ #[f,g] ty #[.slice (S ⟨b,o,N⟩) n d,.slice (S a) n b0]).run P w=.ok (goInt n) (w.setCells b o cs):=by
 have hl:=run_loadCells_list (P:=P) w a cs e;have u:=run_storeCells_cells (P:=P) b o cs 0 w (λj y=>by simp[World.cell?,a6];omega) (λj y=>rq a6 hf a7) U;cases p:P.info? c with
 |none=>simp[p]at q
 |some i=>
   have l:i.size=sz:=by simpa[p]using q
   simp[Builtin.copy_,run_underlying L,Builtin.lenOf,Builtin.firstCells,sizeOf,typeInfo,p,l,r,hl,u]
def DG(hT:bb P E){B:Nat}{x y:Operand}(ho:o.op=.call ⟨.builtin .copy,#[x,y],#[t1,t2]⟩)(av:cZ E t1=T)
 (I:s.ev x=.one (.osl id g sz 0 n))(hg:s.gen id=g)(hy:s.ev y=.one (.osl c1 g2 sz 0 n))(an:s.gen c1=g2)(az:(aR E t1).size=sz)(t:s.obj id=S cells)(ch:z cells=n*sz)(b6:s.obj c1=S A)(cc:z A=n*sz)(bk:0<n)
 (hk:K (St.put {s with obj:=upd s.obj id (S A)} o.dst (iv .i64 n))):bm (spB P B) o s k:=by
 refine⟨λW=>W=St.put {s with obj:=upd s.obj id (S A)} o.dst (iv .i64 n),λO al β a w V hd next Q hn=>?_,λ_ e=>e▸hk⟩;obtain⟨e,c4,cb,L,b2⟩:=eo hT av;rw[cb]at az;have hv:=V.ev x;rw[I]at hv;simp only[ag,ay]at hv;have hv:=hv.2.2 hg (by simp[t]);have d:=V.ev y;rw[hy]at d;simp only[ag,ay]at d;have d:=d.2.2 an (by simp[b6]);have af:=d.spot;rcases oF (off:=0) (n:=n*sz) V af b6 a7 with⟨bs,r,vs,cz,hl,cd⟩|⟨r,_⟩
 case inr=>rw[r]at d;have:=d.1;omega
 cases p:β id with
 |none=>rw[p]at hv;have:=hv.1;omega
 |some ad=>
   rw[p]at hv;obtain⟨b5,⟨cap,hv,Z,_⟩|⟨h0,_⟩⟩:=hv
   case inr=>omega
   rw[r]at d;obtain⟨_,⟨b3,d,b0,_⟩|⟨h0,_⟩⟩:=d
   case inr=>omega
   have bl:=V.obj id cells t;rw[p]at bl;obtain⟨hB,arr,el,H,hi,a6,ar,bd,ca⟩:=bl.cells b5
   have b1:(P.info? e).map (·.size)=S sz:=by
    obtain⟨i,q1,q2,_⟩:=b2.info;rw[q1,z7,q2,az]
   have bf:=vp (P:=P) w t1 t2 o.type e ad.block (ad.off+0) n cap b3 sz ⟨bs.block,bs.off+0,N⟩ vs arr el H hi L b1 hl.symm (λj v hj=>by rw[dO];exact cd j v hj) a6 ar.1 a7 cz.one
   have cf:(execOp a.eval o).run P w=.ok (.value (goInt n)) (w.setCells ad.block (ad.off+0) vs):=by
    simp only[J6]at bf hv d|-;simp[execOp,ho,resolve,invoke,hv,d,builtin,bf]
   obtain⟨bn,f1,f2,f3⟩:=fj ad.block vs (ad.off+0) w arr el (H,hi) a6
   have X:∀i,(upd s.obj id (S A) i).isSome=(s.obj i).isSome:=λi=>by
    simp only[upd];split
    .rename_i he;rw[he,t];rfl
    .rfl
   have q:eQ O β s.gen s.obj w β s.gen (upd s.obj id (S A)) (w.setCells ad.block (ad.off+0) vs):=by
    refine⟨λb hb=>?_,λ_=>l7 _,λi _ bo=>?_⟩
    .have bz:b≠ad.block:=λhe=>hb.2.2 id ad (by simp[t]) p he.symm
     exact SP
    .exact qc
   have b4:bw O β s w A vs:=by
    rw[D3,s6 a7]at cz;exact cz
   have J:Rel O al {s with obj:=upd s.obj id (S A)} β a (w.setCells ad.block (ad.off+0) vs):=by
    refine⟨V.defers,V.size,λi=>ag.keep q _ (V.f i),λi m l=>?_,λi i' a1 a2 U h2=>V.inj i i' a1 a2 (by rw[<-X i];exact U) (by rw[<-X i'];exact h2),by rw[setCells_size];exact V.base⟩;by_cases b8:i=id
    .subst b8
     simp only[upd,B1,v7]at l;subst l;rw[p];refine .ofCells b5 ⟨hB,bn,el,H,hi,f1,by rw[f2];exact ar,by rw[f2];omega,λj c Z=>?_⟩;have e0:j<z A:=(l5.1 Z).1;rw[f3,l8 a7,show ad.off+j-(ad.off+0)=j by omega];obtain⟨u,cx,G⟩:=b4.2 j c Z;exact⟨u,cx,G.keep q⟩
    .have Y:s.obj i=S m:=by
      have h:=l;simp only[upd,j8 b8]at h;exact h
     refine(V.obj i m Y).keep q (λa' b'=>heap_setCells_other _ _ _ _ _ (λhb=>b8 (V.inj i id a' ad (by simp[Y]) (by simp[t]) b' p hb)))
   have b7:Tr O β s w β {s with obj:=upd s.obj id (S A)} (w.setCells ad.block (ad.off+0) vs):=
    ⟨by rw[setCells_size];exact l7 _,λb hb=>heap_setCells_other _ _ _ _ _ a7,q,kS _ _ _ _⟩
   refine fy cf (hn _ β _ _ rfl (J.put hd ?_) (b7.trans (Tr.same (St.put_gen _ _ _) (St.put_obj _ _ _) rfl)));simp only[ag,ay];exact .int _ _
def AE(a6:aY O Φ)(hT:bb P E){x y:Operand}(ho:o.op=.call ⟨.builtin .copy,#[x,y],#[t1,t2]⟩)(av:cZ E t1=T)
 (I:s.ev x=.one (.osl id g sz 0 n))(a:s.gen id=g)(b:s.ev y=.one (.osl c1 g2 sz 0 n))(c:s.gen c1=g2)(az:(aR E t1).size=sz)(t:s.obj id=S cells)(d:z cells=n*sz)(e:s.obj c1=S A)(f:z A=n*sz)(bk:0<n)
 (i:K (St.put {s with obj:=upd s.obj id (S A)} o.dst (iv .i64 n))):bm (spF P rd O Φ B0 Ψ) o s k:=
 yi a6 W6 (DG (B:=0) (k:=k) hT ho av I a b c az t d e f bk i)
def AF(a6:aY O Φ){t:Nat}{args:Array Operand}{tys:Array TypeId}(ho:o.op=.call ⟨.value (.tmp t),args,tys⟩){f:FuncId}(hf:s.f t=.one (.d (.fn f))){R:AV->(Nat->Nat)->Obs->Prop}
 (hp:cM P f (args.toList.map s.ev) s.gen s.obj R L)(I:∀ch g' Y,L ch g' Y->Ψ ch ⟨s.f,g',Y⟩)(hk:∀r g' Y,R r g' Y->K (St.put ⟨s.f,g',Y⟩ o.dst r)):bm (spF P rd O Φ B0 Ψ) o s k:=by
 refine⟨λW=>∃r g' Y,R r g' Y/\W=St.put ⟨s.f,g',Y⟩ o.dst r,λal β a ds w V X c next Q hn g=>?_,λ_⟨r,g',Y,V,e⟩=>e▸hk r g' Y V⟩;have j:aM o=T:=by simp[aM,ho]
 refine gp j ?_;have hv:=V.f t;rw[hf]at hv;simp only[ag,ay]at hv;have hv:a.tmps.getD t undef=.func (.func f) #[] #[]:=by generalize a.tmps.getD t undef=v at hv;cases hv;rfl
 have l:(execOp a.eval o).run P w=.ok (.enter f (args.map a.eval)) w:=by
  exact lv
 unfold Oper.wp;rw[l];exact R0
def yr(hT:bb P E){B:Nat}(ho:o.op=.insert t m ix x)(h:ed E t s (s.ev m) (s.ev ix) (s.ev x) (bx λW=>K (W.put o.dst uv))):bm (spB P B) o s k:=by
 refine⟨K,λO al β a w V hd next Q b=>?_,λ_ h=>h⟩;obtain⟨W,G,U,c,d,e⟩:=lG hT V h (V.ev m) (V.ev ix) (V.ev x);exact tS (G:=G) (by simp[execOp,ho,c]) (b _ _ _ _ U (d.put hd cI) (e.trans (Tr.same (St.put_gen _ _ _) (St.put_obj _ _ _) rfl)))
def wZ(a6:aY O Φ)(hT:bb P E)(ho:o.op=.insert t m ix x)(h:ed E t s (s.ev m) (s.ev ix) (s.ev x) (bx λW=>K (W.put o.dst uv))):bm (spF P rd O Φ B0 Ψ) o s k:=
 yi a6 W6 (yr (B:=0) (k:=k) hT ho h)
end
section
variable{ar:Sp}{E:Nat->TI}
@[go_sem]def NN{dst:Option Tmp}{ty:TypeId}{ps:String}{a:Array Edge}{gd:Option (Nat×Bool)}:opA ar E ⟨dst,.insert t m ix x,ty,ps,a,gd⟩ s k=bm ar ⟨dst,.insert t m ix x,ty,ps,a,gd⟩ s k:=B7 rfl rfl
end
end
end
end Go.Am
namespace Go.Proofs.YtlacbjnmkhndiaaGreatDoor.Low
section
open Go Go.Am Go.Lower
open Go.Emit (Wr ao aq ak ru dS)
attribute[local congr]ite_cc
section
def Hm:List C:=[.d (.int .i64 1),.d (.fn 116),.d (.int .i64 2),.d (.fn 119),.d (.int .i64 3),.d (.fn 120),.d (.int .i64 4),.d (.fn 122),.d (.int .i64 5),.d (.fn 123),.d (.int .i64 6),.d (.fn 124),.d (.int .i64 7),.d (.fn 125),.d (.int .i64 8),.d (.fn 126),.d (.int .i64 9),.d (.fn 128),.d (.int .i64 10),.d (.fn 129),.d (.int .i64 11),.d (.fn 131),.d (.int .i64 12),.d (.fn 133),.d (.int .i64 13),.d (.fn 134)]
def Bl{g:Nat->Nat}{ob:Obs}(B:Nat):
  cM Tryz.prog 73 [] g ob (λr g' Y=>r=.one (.mp (B+1) (g' (B+1)) 3)/\Y (B+1)=S Hm/\∀i,i<B\/B+3<=i->g' i=g i/\Y i=ob i) (λ_ _ _=>False):=by
 refine hdX B Tryz.func73 rfl [.tmp 0] λO bn s0 w0=>?_;have c:∀a b:Int,jT (.int .i64 a) (.int .i64 b)=decide (a=b):=λa b=>by simp[jT]
 simp only[go_sem]
 iterate 13 (refine wZ aa aA rfl ?_;simp only[go_sem,mset,c,B4,L2,RZ,D7])
 refine⟨_,ae.refl _,?_⟩;simp only[go_sem];exact⟨rfl,rfl,λi d=>⟨nu,nu⟩⟩
structure CK (fs:List Src.CFn) (x:Ins):Prop where
 op:1<=x.op/\x.op<=13
 c:x.op=10->∃(c:Nat)(y:Src.CFn),x.a=(c:Int)/\fs[c]?=some y
variable{k:br}{fs:List Src.CFn}{P:Emit.Plan}
def Tl{f:Nat}{V:Int}(e:mt k fs P f V){x:Ins}(h:CK fs x):∃fn,mget Hm (.int .i64 x.op)=S (.d (.fn fn))/\cN fn [.agg ((bE x).map .d)] (Emit.jR fs P f V x) k:=by
 obtain⟨⟨U,g⟩,Z⟩:=h;obtain⟨op,a,b,n⟩:=x;simp only at U g Z;have:op=1\/op=2\/op=3\/op=4\/op=5\/op=6\/op=7\/op=8\/op=9\/op=10\/op=11\/op=12\/op=13:=a7;rcases this with rfl|rfl|rfl|rfl|rfl|rfl|rfl|rfl|rfl|rfl|rfl|rfl|rfl
 .exact⟨116,rfl,OK e a b n⟩
 .exact⟨119,rfl,OL e a b n⟩
 .exact⟨120,rfl,OM e a b n⟩
 .exact⟨122,rfl,ON e a b n⟩
 .exact⟨123,rfl,OO e a b n⟩
 .exact⟨124,rfl,OP e a b n⟩
 .exact⟨125,rfl,OQ e a b n⟩
 .exact⟨126,rfl,OR e a b n⟩
 .exact⟨128,rfl,OS e a b n⟩
 .obtain⟨c,y,i,j⟩:=Z rfl
  exact⟨129,rfl,KN e a b n i j⟩
 .exact⟨131,rfl,KO e a b n⟩
 .exact⟨133,rfl,KP e a b n⟩
 .exact⟨134,rfl,KQ e a b n⟩
section
variable{O:Bs}{rd:Option Nat}{j:St->Am.Loc->List Deferred->World->Prop}
def KR{e:ff}{g:Nat}(a6:aY O j){o:Oper}{s:St}{K:St->Prop}{c:Box K}{t:Nat}{f:FuncId}{args:Array Operand}{tys:Array TypeId}(ho:o.op=.call ⟨.value (.tmp t),args,tys⟩)(hf:s.f t=.one (.d (.fn f))){xs:List AV}{w:Nat->Wr}(hw:cN f xs w k)(b G D H u:Nat)(code:List gS)(holes:List kg)
 (I:args.toList.map s.ev=.one (.ptr G u 0)::xs)(hg:s.gen G=u)(ar:ep b G D H k code holes s.gen s.obj)(hl:z code+(w (z code)).code.length<=100000000)(a:z holes+(w (z code)).holes.length<=100000000)
 (i:∀r g' Y,ep b G D H k (code++(w (z code)).code) (holes++(w (z code)).holes) g' Y->cD b G D H s.gen s.obj g' Y->K (St.put ⟨s.f,g',Y⟩ o.dst r)):bm (spF Tryz.prog rd O j g e) o s c:=by
 refine AF (R:=λ_ g' Y=>ep b G D H k (code++(w (z code)).code) (holes++(w (z code)).holes) g' Y/\cD b G D H s.gen s.obj g' Y) (L:=λ_ _ _=>False) a6 ho hf Xm (λ_ _ _ h=>h.elim) ?_;rintro r g' Y ⟨U,l⟩;exact i r g' Y U l
end
def br.at(k:br)(f:Nat)(c:C):br:={k with d3:=.d (.int .i64 (f:Nat)),d4:=c}
structure zq (k:br) (fs:List Src.CFn) (P:Emit.Plan) (E Pl gE gP:Nat):Prop where
 s:k.c1=.d (.sl (fs.map sfD))
 ds:k.c2=.d (.sl (P.depths.map λo=>[ksD o]))
 bk:k.c3=.d (ksD P.back)
 b:k.c4=.d (ksD P.base)
 e:k.d0=.osl E gE 1 0 fs.length
 p:k.d1=.osl Pl gP 1 0 fs.length
 dl:P.depths.length=fs.length
 bl:P.back.length=fs.length
 l:P.base.length=fs.length
 fz:fs.length<=1000000
 bz:∀x∈P.base,0<=x/\x<=1000000000000000
 dz:∀ds∈P.depths,∀d∈ds,-1<=d/\d<=1000000000
 pz:∀x∈fs,0<=x.params/\x.params<=1000000/\0<=x.first/\x.first<=1000000000000
 sz:∀x∈fs,x.params<=x.slots/\x.slots<=1000000
def zq.at{k:br}{fs:List Src.CFn}{P:Emit.Plan}{E Pl gE gP:Nat}(h:zq k fs P E Pl gE gP)(f:Nat)(c:C):zq (k.at f c) fs P E Pl gE gP:=⟨h.s,h.ds,h.bk,h.b,h.e,h.p,h.dl,h.bl,h.l,h.fz,h.bz,h.dz,h.pz,h.sz⟩
def zq.toP{E Pl gE gP:Nat}(h:zq k fs P E Pl gE gP){f:Nat}{V:Int}(hf:f<z fs)(hd:-1<=V/\V<=1000000000):mt (k.at f (.d (.int .i64 V))) fs P f V:=
 ⟨h.s,h.ds,h.bk,h.b,rfl,rfl,hf,h.dl,h.bl,h.l,h.fz,h.bz,hd,λx I=>by have:=h.pz x I;omega⟩
end
section
structure Em (B G D H E Pl gE gP M gM:Nat) (k:br) (fs:List Src.CFn) (P:Emit.Plan) (code:List gS) (holes:List kg) (ent:List Int) (plc:List C) (g:Nat->Nat) (ob:Obs):Prop where
 ar:ep B G D H k code holes g ob
 q:zq k fs P E Pl gE gP
 gE:g E=gE
 gP:g Pl=gP
 gM:g M=gM
 oE:ob E=some (icells ent)
 oP:ob Pl=some plc
 oM:ob M=some Hm
 eB:E<B
 pB:Pl<B
 mB:M<B
 el:ent.length=fs.length
 pl:plc.length=fs.length
 d:[G,D,H,E,Pl,M].Nodup
def Oth(B G D H E Pl:Nat)(g:Nat->Nat)(ob:Obs)(g':Nat->Nat)(Y:Obs):Prop:=∀i,i<B->i≠G->i≠D->i≠H->i≠E->i≠Pl->g' i=g i/\Y i=ob i
variable{code:List gS}{holes:List kg}
def ep.re{B G D H:Nat}{k a:br}{g g':Nat->Nat}{ob Y:Obs}(ar:ep B G D H k code holes g ob)(b:∀i,B<=i->Y i=N)(U:g' D=g D)(c:g' H=g H)(d:Y G=S (a.cells D (g D) (z code) H (g H) (z holes)))(e:Y D=ob D)(f:Y H=ob H)(j:∀x∈a.all,kQ B x):ep B G D H a code holes g' Y:=
 ⟨b,ar.gB,ar.dB,ar.hB,ar.gd,ar.gh,ar.dh,by rw[U,c];exact d,by rw[e];exact ar.oD,by rw[f];exact ar.oH,j⟩
def br.at_low{B:Nat}{k:br}{f:Nat}{c c':C}(h:∀x∈(k.at f c).all,kQ B x)(Z:kQ B c'):∀x∈(k.at f c').all,kQ B x:=λx I=>by
 simp only[br.all,br.at,A3,A9,E6]at I h;rcases I with e|e|e|e|e|e|e|e|e|e
 all_goals first|(subst e;trivial)|(subst e;exact Z)|exact h x (by simp[e])
def Tm{ar:Sp}{E:Nat->TI}{id:Nat}{ops:Array Oper}{s:St}{Q:Exit->St->Prop}{q:Box Q}(I:St->Prop)(a:I s)(h:∀f g ob,I ⟨f,g,ob⟩->ky ar E id ops ⟨f,g,ob⟩ q):ky ar E id ops s q:=h s.f s.gen s.obj a
def Tn(B G D H E Pl gE gP M gM u:Nat)(k:br)(fs:List Src.CFn)(P:Emit.Plan)(code:List gS)(holes:List kg)(ent:List Int)(plc:List C)(g:Nat->Nat)(ob:Obs)(f:Nat)(W:Src.CFn)(K:St):Prop:=
 K.f 0=.one (.ptr G u 0)/\K.f 1=iv .i64 f/\K.f 2=.one (.mp M gM 3)/\K.f 6=.one (.ptr (B+6) (K.gen (B+6)) 0)/\K.obj (B+6)=S [.d (.int .i64 W.params),.d (.int .i64 W.slots),.d (.int .i64 W.first),.d (.bool W.word),.d (sP (codeOf W.word W.body))]/\
 ep (B+122) G D H (k.at f k.d4) (code++(Emit.jg fs P f (z code)).code) (holes++(Emit.jg fs P f (z code)).holes) K.gen K.obj/\K.obj E=S (icells (ent.set f (z code)))/\K.gen E=gE/\K.obj Pl=S plc/\K.gen Pl=gP/\K.gen G=u/\Oth B G D H E Pl g ob K.gen K.obj
def Bm{B G D H E Pl gE gP M gM u:Nat}{k:br}{fs:List Src.CFn}{P:Emit.Plan}{ent:List Int}{plc:List C}{g:Nat->Nat}{ob:Obs}(b2:Em B G D H E Pl gE gP M gM k fs P code holes ent plc g ob)(hg:g G=u)
 {f:Nat}{W:Src.CFn}{ds:List Int}(hf:fs[f]?=S W)(ar:P.depths[f]?=S ds){A:Lower.Code}(ch:codeOf W.word W.body=A)(c7:z ds=z A)(hz:z A<=100000000)(an:∀x∈A,CK fs x.1)
 (hl:∀j,j<=z A->z code+(Emit.eM fs P f A ds j (z code)).code.length<=100000000)(hh:∀j,j<=z A->z holes+(Emit.eM fs P f A ds j (z code)).holes.length<=100000000):
  cM Tryz.prog 75 [.one (.ptr G u 0),iv .i64 f,.one (.mp M gM 3)] g ob (λ_ g' Y=>(∃c4,Em (B+122) G D H E Pl gE gP M gM (k.at f c4) fs P (code++(Emit.eM fs P f A ds (z A) (z code)).code) (holes++(Emit.eM fs P f A ds (z A) (z code)).holes) (ent.set f (z code)) (plc.set f (.osl (B+71) (g' (B+71)) 1 0 (z A))) g' Y)/\
   Y (B+71)=S (icells (Emit.placesOf fs P f A ds (z code)))/\g' G=u/\Oth B G D H E Pl g ob g' Y) (λ_ _ _=>False):=by
 have b3:f<z fs:=(l5.1 hf).1;have hQ:=b2.q;have cy:=b2.ar.gB;have cz:=b2.ar.dB;have c6:=b2.ar.hB;have h8:=b2.eB;have h9:=b2.pB;have fl:=b2.mB;have ad:=b2.d;simp only[N7,A3,A9,E6,R7,M3,Ss,L8]at ad;obtain⟨⟨cb,al,ec,ek,fm⟩,⟨cx,o,ef,gk⟩,⟨dp,eh,gl⟩,⟨fo,gm⟩,gn⟩:=ad;refine hdX B Tryz.func75 rfl [] λO bn s0 w0=>?_;have ho:=b2.ar.oG;unfold br.cells at ho;rw[hQ.s,hQ.ds,hQ.bk,hQ.b,hQ.e,hQ.p]at ho;have dd:=hQ.fz;have ca:(0:Int)<=(f:Int):=a7;have az:(f:Int)<(z fs:Int):=a7;have a6:=b2.el;have cf:=b2.pl;have n1:∀k,(G=B+k)=False:=λk=>by simp;omega
 have n2:∀k,(E=B+k)=False:=λk=>by simp;omega
 have n3:∀k,(Pl=B+k)=False:=λk=>by simp;omega
 have n4:∀k,(D=B+k)=False:=λk=>by simp;omega
 have n5:∀k,(H=B+k)=False:=λk=>by simp;omega
 have n6:(E=G)=False:=by simp[B8 ec]
 have n7:(Pl=G)=False:=by simp[B8 ek]
 have Z:(G=E)=False:=by simp[ec]
 have b5:IntKind.i64.wrap ((z fs:Int)-1)=(z fs:Int)-1:=by rw[wrap_i64]<;>omega
 have e7:=b2.gE;have gr:=b2.gP;have gv:=b2.oE;simp only[go_sem,ho,hg,j6,ca,az,b3,hf,sfD,n1];refine aF c8 ?_;have m1:∀k,(B+k=G)=False:=λk=>by simp;omega
 have m2:∀k,(B+k=E)=False:=λk=>by simp;omega
 have m3:∀k,(B+k=Pl)=False:=λk=>by simp;omega
 have V:(D=G)=False:=by simp[B8 cb]
 have hc:(D=E)=False:=by simp[o]
 have ft:(H=G)=False:=by simp[B8 al]
 have hj:(H=E)=False:=by simp[dp]
 have hk:(Pl=E)=False:=by simp[B8 fo]
 have gx:(E=Pl)=False:=by simp[fo]
 have hn:(G=Pl)=False:=by simp[ek]
 have hs:(S (eT code)).isSome=T:=rfl;have cm:=hQ.bl;obtain⟨bf,c⟩:=getq (show f<z P.back by omega);have cc:(f:Int)<(z P.back:Int):=a7;have b7:f<z P.back:=a7;have t:=l6 hf;obtain⟨dc,d',bz,b1⟩:=hQ.pz W t;obtain⟨b0,a1⟩:=hQ.sz W t;have b4:IntKind.i64.wrap (W.first+W.params)=W.first+W.params:=by rw[wrap_i64]<;>omega
 have w:IntKind.i64.wrap (W.first+W.slots)=W.first+W.slots:=by rw[wrap_i64]<;>omega
 have b8:=hl 0 (L0 _);have ha:=hh 0 (L0 _);simp only[Emit.eM]at b8 ha
 have S0:∀(g':Nat->Nat)(Y:Obs),(∀i,B+122<=i->Y i=N)->g' D=g D->g' H=g H->Y D=ob D->Y H=ob H->Y G=S [k.c0,k.c1,k.c2,k.c3,k.c4,k.c5,.osl D (g D) 4 0 (z code),k.d0,k.d1,.osl H (g H) 3 0 (z holes),.d (.int .i64 (f:Nat)),k.d4]->ep (B+122) G D H (k.at f k.d4) code holes g' Y:=λg' Y U h2 h3 h4 h5 h6=>by
  have SU:=b2.ar.up (B':=B+122) a7;refine⟨U,SU.gB,SU.dB,SU.hB,SU.gd,SU.gh,SU.dh,?_,by rw[h4];exact SU.oD,by rw[h5];exact SU.oH,λx I=>?_⟩
  .rw[h6,h2,h3];rfl
  .have bs:=SU.low
   simp only[br.all,br.at,A3,A9,E6]at I bs;rcases I with e|e|e|e|e|e|e|e|e|e
   all_goals first|(subst e;trivial)|exact bs x (by simp[e])
 by_cases b':(f:Int)=(z fs:Int)-1
 case' pos=>
  have e0:Emit.jg fs P f=dS:=l8 a7;simp only[go_sem,ho,hg,j6,ca,az,b3,hf,sfD,n1,n2,n4,n6,Z,V,hc,ft,hj,e7,gv,a6,ct,b2.ar.oD,b5,w8 b'];refine⟨a7,?_⟩;refine Tm (Tn B G D H E Pl gE gP M gM u k fs P code holes ent plc g ob f W) ⟨by simp only[go_sem],by simp only[go_sem],by simp only[go_sem],by simp only[go_sem],?_,?_,?_,?_,?_,?_,?_,λi hi U h2 h3 h4 h5=>⟨?_,?_⟩⟩ ?_
  .simp only;(try simp only[upd]);(repeat rw[j8 (by omega)])
   rw[l8 trivial]
  .rw[e0]
   simp only[dS,s7];refine S0 _ _ (λi hi=>?_) ?_ ?_ ?_ ?_ ?_
   .exact nt (b2.ar.top i a7)
   .exact gT
   .exact gT
   .exact gT
   .exact gT
   .simp only[upd];rw[j8 ec,l8 trivial,hQ.s,hQ.ds,hQ.bk,hQ.b,hQ.e,hQ.p]
  .simp only[upd];rw[l8 trivial,iA]
  .exact nt (e7)
  .exact nt (b2.oP)
  .exact nt (gr)
  .exact nt (hg)
  .exact gT
  .exact gT
 case' neg=>
  have e0:Emit.jg fs P f=ak (ao 17 14 0 bf) (Emit.iq (W.first+W.params) (W.first+W.slots)):=by
   unfold Emit.jg;rw[j8 a7,hf,c];rfl
  simp only[go_sem,ho,hg,j6,ca,az,b3,hf,sfD,n1,n2,n4,n6,Z,V,hc,ft,hj,e7,gv,a6,ct,b2.ar.oD,b5,b',c,cc,b7,ksD];refine⟨a7,?_⟩;rw[e0]at b8 ha;simp only[ak,ao,j7,j9,l4,C7]at b8 ha;refine aS aa rfl (eq 17 14 0 bf (k.at f k.d4)) (B+122) G D H u code holes Vy ?_ (S0 _ _ (λi hi=>?_) ?_ ?_ ?_ ?_ ?_) Xr (by simp only[ao,l4];omega) ?_
  .exact nt (hg)
  .exact nt (b2.ar.top i a7)
  .exact gT
  .exact gT
  .exact gT
  .exact gT
  .simp only[upd];rw[j8 ec,l8 trivial,hQ.s,hQ.ds,hQ.bk,hQ.b,hQ.e,hQ.p];rfl
  intro r1 g1 av Q K1;have b6:g1 G=u:=(K1.gen G a7 cb al).trans (nt (hg));have p6:av (B+6)=S [.d (.int .i64 W.params),.d (.int .i64 W.slots),.d (.int .i64 W.first),.d (.bool W.word),.d (sP (codeOf W.word W.body))]:=(K1.fr (B+6) Xh Xh Xh Xh).trans (by (try simp only[upd]);(repeat rw[j8 (by omega)]);rw[l8 trivial]);have g6:g1 (B+6)=nxC 127 (g (B+6)):=(K1.gen (B+6) a7 a7 a7).trans VA;simp only[go_sem,p6,g6,b4,w];refine aS aa rfl (KM (W.first+W.params) (W.first+W.slots) Xh Xh Xh) (B+122) G D H u _ _ Vy b6 Q (by simp only[ao,j7,j9,l4,C7];omega) (by simp only[ao,j7,j9,l4,C7,s7];omega) ?_;intro r2 g2 bo S2 K2;have ht:=(K2.fr (B+6) a7 a7 a7 a7).trans p6;have hv:=(K2.gen (B+6) a7 a7 a7).trans g6;simp only[go_sem];refine Tm (Tn B G D H E Pl gE gP M gM u k fs P code holes ent plc g ob f W) ⟨by simp only[go_sem],by simp only[go_sem],by simp only[go_sem],by simp only[go_sem,hv],ht,?_,?_,?_,?_,?_,(K2.gen G a7 cb al).trans b6,λi hi U h2 h3 h4 h5=>⟨?_,?_⟩⟩ ?_
  .rw[e0]
   simp only[ak,<-u7];simp only[j7]at S2;exact S2
  .refine(K2.fr E a7 (B8 ec) (B8 o) (B8 dp)).trans ((K1.fr E a7 (B8 ec) (B8 o) (B8 dp)).trans ?_)
   simp only[upd];rw[l8 trivial,iA]
  .refine(K2.gen E a7 (B8 o) (B8 dp)).trans ((K1.gen E a7 (B8 o) (B8 dp)).trans ?_)
   exact nt (e7)
  .refine(K2.fr Pl a7 (B8 ek) (B8 ef) (B8 eh)).trans ((K1.fr Pl a7 (B8 ek) (B8 ef) (B8 eh)).trans ?_)
   exact nt (b2.oP)
  .refine(K2.gen Pl a7 (B8 ef) (B8 eh)).trans ((K1.gen Pl a7 (B8 ef) (B8 eh)).trans ?_)
   exact nt (gr)
  .refine(K2.gen i a7 h2 h3).trans ((K1.gen i a7 h2 h3).trans ?_)
   exact gT
  .refine(K2.fr i a7 U h2 h3).trans ((K1.fr i a7 U h2 h3).trans ?_)
   exact gT
 all_goals
  clear ho S0;rintro fa g1 av ⟨q0,q1,q2,q6,o6,Q,et,ev,r,h,b6,O1⟩;simp only at q0 q1 q2 q6 o6 Q et ev r h b6 O1;have ho:=Q.oG;unfold br.cells at ho;rw[(hQ.at f k.d4).s,(hQ.at f k.d4).ds,(hQ.at f k.d4).bk,(hQ.at f k.d4).b,(hQ.at f k.d4).e,(hQ.at f k.d4).p]at ho
  skip
  refine bY aA mixed aa [B+71,Pl] [([0],[0],[],F),([63],[0],[],F),([64],[0],[],F),([65],[0],[],F),([1],[0],[],F),([6],[],[],F),([68],[],[],F),([69],[],[],F),([70],[],[0],F),([66,67],[],[],F),([72,71],[],[],T)] 2 rfl c8 rfl VC ?_;simp only[go_sem]
  iterate 5 (apply aj;(case hg=>first|exact x9|exact⟨_,rfl,by decide,rfl⟩);(case U=>intro fa ga oa K' J;simp only[go_sem,q0,q1,q2,q6,b6,n1,n3,n7,ho,j6]at J|-;exact J))
  iterate 3 (apply aj;(case hg=>first|exact x9|exact⟨_,rfl,by decide,rfl⟩);(case U=>intro fa ga oa K' J;simp only[go_sem,q0,q1,q2,q6,o6,n1,n3,n7,ho,ch,j6]at J|-;exact J))
  refine bF (a:=0) (v:=.one (.osl (B+71) (nxC 4 (g1 (B+71))) 1 0 (z A))) (x:=nxC 4 (g1 (B+71))) (y:=S (icells (List.replicate (z A) 0))) x9 (λfa ga oa K' J=>?_) ?_
  .simp only[go_sem,aW,n1,n3,n7]at J|-
   refine⟨l7 _,a7,a7,?_⟩;rw[show (List.replicate (z A) [C.d (.int .i64 0)]).flatten=icells (List.replicate (z A) 0) by rw[nN,icells,O2]];exact J
  (apply aj;(case hg=>first|exact x9|exact⟨_,rfl,by decide,rfl⟩);(case U=>intro fa ga oa K' J;simp only[go_sem,q0,q1,q2,q6,r,h,n1,n3,n7,ca,az,b3,cf]at J|-;exact J))
  refine bZ x9 ?_;intro K' a';simp only[go_sem,n1,n3,n7,r,h,cf];refine⟨a7,a' _ ?_⟩;clear a' K';simp only[go_sem,q0,q1,q2,q6,o6,n3,m3,ch,j6];have hb:List.replicate (z A) (0:Int)=(List.range 0).map (λj=>((z code+(Emit.eM fs P f A ds j (z code)).code.length:Nat):Int))++List.replicate (z A-0) 0:=a8
  refine aw (λm K=>∃(j:Nat)(c4:C),m+j=z A/\K.f 0=.one (.ptr G u 0)/\K.f 1=iv .i64 f/\K.f 2=.one (.mp M gM 3)/\K.f 74=.one (.d (sP A))/\K.f 75=iv .i64 (z A)/\K.f 76=iv .i64 j/\
   ep (B+122) G D H (k.at f c4) (code++(Emit.eM fs P f A ds j (z code)).code) (holes++(Emit.eM fs P f A ds j (z code)).holes) K.gen K.obj/\K.gen G=u/\K.obj E=S (icells (ent.set f (z code)))/\K.gen E=gE/\K.obj Pl=S (plc.set f (.osl (B+71) (K.gen (B+71)) 1 0 (z A)))/\K.gen Pl=gP/\
   K.obj (B+71)=S (icells ((List.range j).map (λj=>((z code+(Emit.eM fs P f A ds j (z code)).code.length:Nat):Int))++List.replicate (z A-j) 0))/\Oth B G D H E Pl g ob K.gen K.obj) (z A) ?_ ?_
  .refine⟨0,k.d4,rfl,?_⟩
   simp only[go_sem,q0,q1,q2,n1,n2,n3,m1,m2,m3,gx,b6,et,ev,h];refine⟨Q.to (λi hi=>nt (Q.top i hi)) ?_ ?_ ?_ ?_ ?_,?_,λi hi U h2 h3 h4 h5=>⟨?_,?_⟩⟩
   .exact gT
   .exact gT
   .exact gT
   .exact gT
   .exact gT
   .rfl
   .exact nt ((O1 i hi U h2 h3 h4 h5).1)
   .exact nt ((O1 i hi U h2 h3 h4 h5).2)
  clear ho hb Q et ev r h b6 O1 q0 q1 q2 q6 o6 e7 gr gv;clear fa g1 av;rintro m fa g1 av ⟨j,c4,hm,q0,q1,q2,e4,e2,e5,Q,b6,et,ev,r,h,e6,O1⟩;simp only at q0 q1 q2 e4 e2 e5 Q b6 et ev r h e6 O1;by_cases af:j<z A
  case neg=>
   have bd:¬(j:Int)<(z A:Int):=a7;obtain rfl:j=z A:=a7;simp only[go_sem,e2,e5,bd];refine⟨_,ae.refl _,?_⟩;simp only[go_sem];rw[J5,L1,s7]at e6;exact⟨⟨c4,⟨Q,hQ.at f c4,ev,h,((O1 M fl (B8 fm) (B8 gk) (B8 gl) (B8 gm) (B8 gn)).1).trans b2.gM,et,r,((O1 M fl (B8 fm) (B8 gk) (B8 gl) (B8 gm) (B8 gn)).2).trans b2.oM,a7,a7,a7,by rw[C2];exact a6,by rw[C2];exact cf,b2.d⟩⟩,e6,b6,O1⟩
  have bd:(j:Int)<(z A:Int):=a7;have cv:(0:Int)<=(j:Int):=a7;obtain⟨⟨x,dx⟩,I⟩:∃y,A[j]?=S y:=⟨_,v8 af⟩
  obtain⟨d,hd⟩:=getq (show j<z ds by omega);have gj:=hQ.dz ds (l6 ar) d (l6 hd);have e3:f<z P.depths:=by have:=hQ.dl;omega
  have fw:(f:Int)<(z P.depths:Int):=by have:=hQ.dl;omega
  have f':j<z ds:=a7;have gb:(j:Int)<(z ds:Int):=a7;have cu:=ac (k:=j) a7;have gi:bE x=[.int .i64 x.op,.int .i64 x.a,.int .i64 x.b,.int .u32 x.n]:=rfl;have ho:=Q.oG;unfold br.cells at ho;rw[(hQ.at f c4).s,(hQ.at f c4).ds,(hQ.at f c4).bk,(hQ.at f c4).b,(hQ.at f c4).e,(hQ.at f c4).p]at ho;have hp:(plc.set f (.osl (B+71) (g1 (B+71)) 1 0 (z A)))[f]?=S (.osl (B+71) (g1 (B+71)) 1 0 (z A)):=by rw[B9,l8 rfl,l8 a7]
  simp only[go_sem,q0,q1,q2,e4,e2,e5,bd,cv,I,sP,j6,gi];have e8:((List.range j).map (λj=>((z code+(Emit.eM fs P f A ds j (z code)).code.length:Nat):Int))++List.replicate (z A-j) 0).length=z A:=by simp;omega
  obtain⟨L,hL⟩:∃L,(List.range j).map (λj=>((z code+(Emit.eM fs P f A ds j (z code)).code.length:Nat):Int))++List.replicate (z A-j) 0=L:=⟨_,rfl⟩
  rw[hL]at e6 e8;have hs:∀l,(S (eT l)).isSome=T:=λ_=>rfl;refine aF c8 ?_;obtain⟨hq,fu⟩:=O1 M fl (B8 fm) (B8 gk) (B8 gl) (B8 gm) (B8 gn);rw[b2.gM]at hq;rw[b2.oM]at fu;have hy:∀k,(M=B+k)=False:=λk=>by simp;omega
  have h0:(M=G)=False:=by simp[B8 fm]
  have hr:L.set j ((code++(Emit.eM fs P f A ds j (z code)).code).length:Nat)=(List.range (j+1)).map (λj=>((z code+(Emit.eM fs P f A ds j (z code)).code.length:Nat):Int))++List.replicate (z A-(j+1)) 0:=by
   rw[<-hL,I6 _ _ a8,j6,List.length_range,J5,Qb,B5,u7];congr 1;obtain⟨X,hz⟩:∃X,z A-j=X+1:=⟨z A-j-1,a7⟩
   rw[hz,show z A-(j+1)=X by omega,F6,G7,j7];rfl
  have e9:=br.at_low (c':=.d (.int .i64 d)) Q.low trivial;by_cases e1:0<=d
  .obtain⟨fn,e',hw⟩:=Tl (hQ.toP b3 gj) (an _ (l6 I))
   simp only at e' hw
   have hU:Emit.eM fs P f A ds (j+1)=ak (Emit.eM fs P f A ds j) (Emit.jR fs P f d x):=by
    rw[Emit.eM,I,hd];simp only[e1,B1]
   simp only[go_sem,q0,q1,q2,e4,e2,e5,ho,b6,r,h,n1,n2,n3,n4,n5,m1,m2,m3,n7,V,ft,hk,gx,hn,hp,C2,cf,ca,az,b3,e6,ct,e8,cv,bd,af,Q.oD,ar,hd,e3,fw,f',gb,ksD,j6,setAt,iA,w8 e1,hy,h0,hq,fu,e',sb,A5];refine⟨a7,?_⟩;refine KR aa rfl Vy hw (B+122) G D H u _ _ (by simp only[go_sem,gi]) ?_ (ep.re Q (λi hi=>?_) ?_ ?_ ?_ ?_ ?_ e9) ?_ ?_ ?_
   .exact nt (b6)
   .exact nt (Q.top i hi)
   .exact gT
   .exact gT
   .exact U6
   .exact gT
   .exact gT
   .have:=hl (j+1) a7
    rw[hU]at this;simp only[ak,j7]at this|-;omega
   .have:=hh (j+1) a7
    rw[hU]at this;simp only[ak,j7]at this|-;omega
   intro r2 g2 bo S2 K2;have h7:g2 (B+71)=g1 (B+71):=(K2.gen (B+71) a7 a7 a7).trans (nu);simp only[go_sem,e5,cu];refine ah (m-1) a7 ⟨j+1,.d (.int .i64 d),a7,?_⟩;simp only[go_sem,q0,q1,q2,e4,e2,sP];refine⟨?_,(K2.gen G a7 cb al).trans ?_,(K2.fr E a7 (B8 ec) (B8 o) (B8 dp)).trans ?_,(K2.gen E a7 (B8 o) (B8 dp)).trans ?_,(K2.fr Pl a7 (B8 ek) (B8 ef) (B8 eh)).trans ?_,(K2.gen Pl a7 (B8 ef) (B8 eh)).trans ?_,(K2.fr (B+71) a7 a7 a7 a7).trans ?_,λi hi U h2 h3 h4 h5=>⟨(K2.gen i a7 h2 h3).trans ?_,(K2.fr i a7 U h2 h3).trans ?_⟩⟩
   .rw[hU]
    simp only[ak,<-u7];simp only[j7]at S2;exact S2
   .exact nt (b6)
   .exact nt (et)
   .exact nt (ev)
   .rw[h7];exact nt (r)
   .exact nt (h)
   .simp only[upd];rw[j8 a7,l8 trivial,hr,Qb]
   .exact nt ((O1 i hi U h2 h3 h4 h5).1)
   .exact nt ((O1 i hi U h2 h3 h4 h5).2)
  .have hU:Emit.eM fs P f A ds (j+1)=ak (Emit.eM fs P f A ds j) dS:=by
    rw[Emit.eM,I,hd];simp only[e1,A8]
   simp only[go_sem,q0,q1,q2,e4,e2,e5,ho,b6,r,h,n1,n2,n3,n4,n5,m1,m2,m3,n7,V,ft,hk,gx,hn,hp,C2,cf,ca,az,b3,e6,ct,e8,cv,bd,af,Q.oD,ar,hd,e3,fw,f',gb,ksD,j6,setAt,iA,e1];refine⟨a7,?_⟩;refine ah (m-1) a7 ⟨j+1,.d (.int .i64 d),a7,?_⟩;simp only[go_sem,q0,q1,q2,e4,e2,sP,n1,n2,n3,m1,m2,m3,b6,et,ev,h,n6,n7,r,cu];refine⟨?_,?_,λi hi U h2 h3 h4 h5=>⟨?_,?_⟩⟩
   .rw[hU]
    simp only[ak,dS,s7];refine ep.re Q (λi hi=>?_) ?_ ?_ ?_ ?_ ?_ e9
    .exact nt (Q.top i hi)
    .exact gT
    .exact gT
    .exact U6
    .exact gT
    .exact gT
   .rw[hr,Qb]
   .exact nt ((O1 i hi U h2 h3 h4 h5).1)
   .exact nt ((O1 i hi U h2 h3 h4 h5).2)
end
end
section
open Go Go.Am Go.Lower
open Go.Emit (Wr ao aq ak ru dS fZ dH)
section
structure wq (fs:List Src.CFn) (P:Emit.Plan) (d:fZ) (f:Nat):Prop where
 ok:∀x,fs[f]?=some x->∀i∈codeOf x.word x.body,CK fs i.1
 dl:∀x ds,fs[f]?=some x->P.depths[f]?=some ds->ds.length=(codeOf x.word x.body).length
 X:∀x,fs[f]?=some x->(codeOf x.word x.body).length<=100000000
 l:∀x ds,fs[f]?=some x->P.depths[f]?=some ds->∀j,j<=(codeOf x.word x.body).length->d.code.length+(Emit.eM fs P f (codeOf x.word x.body) ds j d.code.length).code.length<=100000000
 h:∀x ds,fs[f]?=some x->P.depths[f]?=some ds->∀j,j<=(codeOf x.word x.body).length->d.holes.length+(Emit.eM fs P f (codeOf x.word x.body) ds j d.code.length).holes.length<=100000000
structure rK (B0 B G D H E Pl gE gP M gM:Nat) (k:br) (fs:List Src.CFn) (P:Emit.Plan) (d:fZ) (c:List (Nat×Nat)) (g:Nat->Nat) (ob:Obs):Prop where
 b2:∃plc,Em B G D H E Pl gE gP M gM k fs P d.code d.holes d.ent plc g ob/\∀f id,(f,id)∈c->∃l,d.pls[f]?=some l/\plc[f]?=some (.osl id (g id) 1 0 l.length)/\ob id=some (icells l)/\B0<=id/\id<B
 pl:d.pls.length=fs.length
variable{fs:List Src.CFn}{P:Emit.Plan}
def Bn{d:fZ}{f:Nat}(h:z d.pls=z fs):z (dH fs P d f).pls=z fs:=by
 unfold dH;split
 .simp only[C2];exact h
 .exact h
def xv(fs:List Src.CFn)(P:Emit.Plan)(f:Nat)(A:Lower.Code)(ds:List Int)(n:Nat):z (Emit.placesOf fs P f A ds n)=z A:=by simp[Emit.placesOf]
def uC{n B G D H E Pl gE gP M gM u:Nat}{k:br}{d:fZ}{c:List (Nat×Nat)}{g:Nat->Nat}{ob:Obs}(X:rK n B G D H E Pl gE gP M gM k fs P d c g ob)(i:n<=B)(fl:G<n/\D<n/\H<n/\E<n/\Pl<n)(hg:g G=u){f:Nat}(hf:f<z fs)(ok:wq fs P d f)(r:∀x∈c,x.1≠f):
  cM Tryz.prog 75 [.one (.ptr G u 0),iv .i64 f,.one (.mp M gM 3)] g ob (λ_ g' Y=>(∃p,rK n (B+122) G D H E Pl gE gP M gM (k.at f p) fs P (dH fs P d f) (c++[(f,B+71)]) g' Y)/\g' G=u/\Oth B G D H E Pl g ob g' Y) (λ_ _ _=>False):=by
 obtain⟨⟨plc,b2,s⟩,t⟩:=X;obtain⟨W,a⟩:=getq hf;obtain⟨ds,ar⟩:=getq (show f<z P.depths by rw[b2.q.dl];exact hf);have v:=ok.X W a;refine(Bm b2 hg a ar rfl (ok.dl W ds a ar) v (ok.ok W a) (ok.l W ds a ar) (ok.h W ds a ar)).mono ?_ (λ_ _ _ h=>h);rintro _ g' Y ⟨⟨p,j⟩,m,e,O⟩
 have b:dH fs P d f=⟨d.code++(Emit.eM fs P f (codeOf W.word W.body) ds (z (codeOf W.word W.body)) (z d.code)).code,d.holes++(Emit.eM fs P f (codeOf W.word W.body) ds (z (codeOf W.word W.body)) (z d.code)).holes,d.ent.set f (z d.code),d.pls.set f (Emit.placesOf fs P f (codeOf W.word W.body) ds (z d.code))⟩:=by
  unfold dH;rw[a,ar]
 refine⟨⟨p,⟨_,by rw[b];exact j,λf1 id o=>?_⟩,Bn t⟩,e,O⟩;rw[b];rcases C4.1 o with o|o
 .obtain⟨l,U,w,y,A,I⟩:=s f1 id o
  have bz:f1≠f:=r _ o;obtain⟨o1,J⟩:=O id I a7 a7 a7 a7 a7;exact⟨l,by simp only;rw[B9,j8 (B8 bz)];exact U,by rw[B9,j8 (B8 bz),o1];exact w,by rw[J];exact y,A,a7⟩
 .obtain⟨rfl,rfl⟩:f1=f/\id=B+71:=by simpa using o
  refine⟨Emit.placesOf fs P f1 (codeOf W.word W.body) ds (z d.code),by simp only;rw[B9,l8 rfl,l8 a7],?_,m,a7,a7⟩;rw[B9,l8 rfl,l8 (by rw[b2.pl];exact hf),xv]
end
def CL:∀{l:List kg}{j:Nat}{h:kg},l[j]?=S h->((mY l).drop (j*3)).take 3=[.d (.int .i64 h.1),.d (.int .i64 h.2.1),.d (.int .i64 h.2.2)]
 |a::l,0,h,e=>by
   cases e;simp[mY]
 |a::l,j+1,h,e=>by
   have b:=CL (l:=l) (j:=j) (h:=h) (by simpa using e);rw[show mY (a::l)=[C.d (.int .i64 a.1),.d (.int .i64 a.2.1),.d (.int .i64 a.2.2)]++mY l by simp[mY],show (j+1)*3=3+j*3 by omega,List.drop_append,y9 a8,A6];simpa using b
def kL(a:gS)(l:List gS):eT (a::l)=[C.d (.int .i64 a.1),.d (.int .i64 a.2.1),.d (.int .i64 a.2.2.1),.d (.int .i64 a.2.2.2)]++eT l:=by simp[eT,zn]
def pP:∀{l:List gS}{j:Nat}{x:gS}{v:Int},l[j]?=S x->(eT l).set (j*4+3) (.d (.int .i64 v))=eT (l.set j (x.1,x.2.1,x.2.2.1,v))
 |a::l,0,x,v,e=>by
   cases e;simp[kL]
 |a::l,j+1,x,v,e=>by
   have b:=pP (l:=l) (j:=j) (x:=x) (v:=v) (by simpa using e);rw[kL,N8,kL,<-b,I6 _ _ VC];simp only[j9,l4];rw[show (j+1)*4+3-(0+1+1+1+1)=j*4+3 by omega]
end
section
open Go Go.Am Go.Lower
open Go.Emit (Wr ao aq ak ru dS fZ dH)
attribute[local congr]ite_cc
section
section
variable{ar:Sp}{E:Nat->TI}
@[go_sem]def To{dst:Option Tmp}{ty:TypeId}{ps:String}{b:Array Edge}{gd:Option (Nat×Bool)}{s:St}{K:St->Prop}{k:Box K}{a:Array Operand}{ts:Array TypeId}:opA ar E ⟨dst,.call ⟨.builtin .copy,a,ts⟩,ty,ps,b,gd⟩ s k=bm ar ⟨dst,.call ⟨.builtin .copy,a,ts⟩,ty,ps,b,gd⟩ s k:=B7 rfl rfl
end
def Em.up{B B' G D H E Pl gE gP M gM:Nat}{k:br}{fs:List Src.CFn}{P:Emit.Plan}{code:List gS}{holes:List kg}{ent:List Int}{plc:List C}{g:Nat->Nat}{ob:Obs}(b2:Em B G D H E Pl gE gP M gM k fs P code holes ent plc g ob)(h:B<=B'):Em B' G D H E Pl gE gP M gM k fs P code holes ent plc g ob:=
 ⟨b2.ar.up h,b2.q,b2.gE,b2.gP,b2.gM,b2.oE,b2.oP,b2.oM,by have:=b2.eB;omega,by have:=b2.pB;omega,by have:=b2.mB;omega,b2.el,b2.pl,b2.d⟩
def rK.up{a B B' G D H E Pl gE gP M gM:Nat}{k:br}{fs:List Src.CFn}{P:Emit.Plan}{d:fZ}{c:List (Nat×Nat)}{g:Nat->Nat}{ob:Obs}(X:rK a B G D H E Pl gE gP M gM k fs P d c g ob)(h:B<=B'):rK a B' G D H E Pl gE gP M gM k fs P d c g ob:=by
 obtain⟨⟨plc,b2,b⟩,e⟩:=X;exact⟨⟨plc,b2.up h,λf id i=>by obtain⟨l,U,j,m,n,o⟩:=b f id i;exact⟨l,U,j,m,n,a7⟩⟩,e⟩
def rK.to{a B G D H E Pl gE gP M gM:Nat}{k:br}{fs:List Src.CFn}{P:Emit.Plan}{d:fZ}{c:List (Nat×Nat)}{g g':Nat->Nat}{ob Y:Obs}(X:rK a B G D H E Pl gE gP M gM k fs P d c g ob)(r:∀i,B<=i->Y i=N)(h:∀i,i=G\/i=D\/i=H\/i=E\/i=Pl\/i=M\/(a<=i/\i<B)->g' i=g i/\Y i=ob i):rK a B G D H E Pl gE gP M gM k fs P d c g' Y:=by
 obtain⟨⟨plc,b2,s⟩,t⟩:=X;have u:=h G a8;have hD:=h D a8;have b:=h H a8;have e:=h E a8;have m:=h Pl a8;have j:=h M a8;refine⟨⟨plc,⟨b2.ar.to r hD.1 b.1 u.2 hD.2 b.2,b2.q,by rw[e.1];exact b2.gE,by rw[m.1];exact b2.gP,by rw[j.1];exact b2.gM,by rw[e.2];exact b2.oE,by rw[m.2];exact b2.oP,by rw[j.2];exact b2.oM,b2.eB,b2.pB,b2.mB,b2.el,b2.pl,b2.d⟩,λf id v=>?_⟩,t⟩;obtain⟨l,U,w,x,n,o⟩:=s f id v;have p:=h id (by simp[n,o]);exact⟨l,U,by rw[p.1];exact w,by rw[p.2];exact x,n,o⟩
variable{fs:List Src.CFn}{P:Emit.Plan}
def wr{d:fZ}{f:Nat}:z d.code<=z (dH fs P d f).code:=by
 unfold dH;split
 .simp only[j7];omega
 .exact l7 _
def nE{fs:List Src.CFn}{P:Emit.Plan}:∀k,0<z (Emit.pg fs P k).code
 |0=>G9 a8 (wr (d:=⟨[(1,15,0,1)],[],List.replicate (z fs) 0,List.replicate (z fs) []⟩))
 |k+1=>G9 (nE k) wr
def mP(B n:Nat)(k:Nat):List (Nat×Nat):=(n-1,B+271)::(List.range k).map λf=>(f,B+471+200*f)
def Bo(B n k:Nat):mP B n (k+1)=mP B n k++[(k,B+400+200*k+71)]:=by
 simp only[mP,Qb,B5,l9,w9,C3];rw[show B+471+200*k=B+400+200*k+71 by omega]
def Hn(d:fZ)(n:Nat)(h:kg):Prop:=
 (0<=h.1/\h.1<(z d.code:Int))/\(0<=h.2.1/\h.2.1<(n:Int))/\(0<=h.2.2->∃l:List Int,d.pls[h.2.1.toNat]?=S l/\h.2.2<(z l:Int))
def KS{B G D H E Pl gE gP u:Nat}{k:br}{g:Nat->Nat}{ob:Obs}(ar:ep B G D H k [] [] g ob)(q:zq k fs P E Pl gE gP)(hg:g G=u)(gl:g E=gE)(gm:g Pl=gP)(oE:ob E=S (icells (List.replicate (z fs) 0)))(oP:ob Pl=S (List.replicate (z fs) (.d .nsl)))(eB:E<B)(pB:Pl<B)
 (gn:[G,D,H,E,Pl].Nodup)(hn:0<z fs)(ok0:wq fs P ⟨[(1,15,0,1)],[],List.replicate (z fs) 0,List.replicate (z fs) []⟩ (z fs-1))(okj:∀j,j<z fs-1->wq fs P (Emit.pg fs P j) j)
 (hz:z (Emit.whole fs P).code<=100000000)(gr:z (Emit.whole fs P).holes<=100000000)(f':∀h∈(Emit.whole fs P).holes,Hn (Emit.whole fs P) (z fs) h):
  cM Tryz.prog 47 [.one (.ptr G u 0)] g ob (λr g' Y=>r=.one (.osl (B+37) (g' (B+37)) 4 0 (z (Emit.whole fs P).code))/\Y (B+37)=S (eT (Emit.filled (Emit.whole fs P)))/\Oth B G D H E Pl g ob g' Y) (λ_ _ _=>False):=by
 have cy:=ar.gB;have cz:=ar.dB;have c6:=ar.hB;have ad:=gn;simp only[N7,A3,A9,E6,R7,M3,Ss,L8]at ad;obtain⟨⟨cb,al,ec,ek⟩,⟨cx,o,ef⟩,⟨dp,eh⟩,fo⟩:=ad;have dd:=q.fz;refine hdX B Tryz.func47 rfl [.tmp 2] λO bn s0 w0=>?_;have b5:IntKind.i64.wrap ((z fs:Int)-1)=((z fs-1:Nat):Int):=by rw[wrap_i64]<;>omega
 simp only[go_sem];refine cj (L:=λ_ _ _=>False) aa rfl (by simp only[go_sem];exact Bl (B+100)) (λ_ _ _ h=>h.elim) ?_;rintro r g1 av ⟨rfl,fu,cm⟩;have Q:ep (B+200) G D H k [] [] g1 av:=(ar.up (B':=B+200) a7).to (λi hi=>by rw[(cm i a7).2];exact ar.top i a7) (cm D a7).1 (cm H a7).1 (cm G a7).2 (cm D a7).2 (cm H a7).2;have b6:g1 G=u:=(cm G a7).1.trans hg;have ho:=Q.oG;unfold br.cells at ho;rw[q.s,q.ds,q.bk,q.b,q.e,q.p]at ho;simp only[go_sem,ho,b6,j6,b5];refine aS aa rfl (eq 1 15 0 1 k) (B+200) G D H u [] [] Vy b6 Q (by simp[ao]) (by simp[ao]) ?_;intro r g2 bo S2 K2;simp only[A6,s7,ao]at S2;have an:g2 G=u:=(K2.gen G a7 cb al).trans b6;have ga:g2 (B+101)=g1 (B+101):=K2.gen (B+101) a7 a7 a7
 have X0:rK (B+102) (B+200) G D H E Pl gE gP (B+101) (g1 (B+101)) k fs P ⟨[(1,15,0,1)],[],List.replicate (z fs) 0,List.replicate (z fs) []⟩ [] g2 bo:=by
  refine⟨⟨List.replicate (z fs) (.d .nsl),⟨S2,q,?_,?_,ga,?_,?_,?_,a7,a7,a7,a8,a8,?_⟩,λf id hm=>by cases hm⟩,a8⟩
  .exact(K2.gen E a7 (B8 o) (B8 dp)).trans ((cm E a7).1.trans gl)
  .exact(K2.gen Pl a7 (B8 ef) (B8 eh)).trans ((cm Pl a7).1.trans gm)
  .exact(K2.fr E a7 (B8 ec) (B8 o) (B8 dp)).trans ((cm E a7).2.trans oE)
  .exact(K2.fr Pl a7 (B8 ek) (B8 ef) (B8 eh)).trans ((cm Pl a7).2.trans oP)
  .exact(K2.fr (B+101) a7 a7 a7 a7).trans fu
  .simp only[N7,A3,A9,E6,R7,M3,Ss,L8]
   exact⟨⟨cb,al,ec,ek,a7⟩,⟨cx,o,ef,a7⟩,⟨dp,eh,a7⟩,⟨fo,a7⟩,a7⟩
 simp only[go_sem];refine cj (L:=λ_ _ _=>False) aa rfl (by simp only[go_sem];exact uC (k:=k) X0 a7 ⟨a7,a7,a7,a7,a7⟩ an (f:=z fs-1) a7 ok0 (λx I=>by cases I)) (λ_ _ _ h=>h.elim) ?_;rintro r g3 b7 ⟨⟨c4,X3⟩,t,O3⟩;have gv:=(O3 (B+101) a7 a7 a7 a7 a7 a7).1;rw[ga]at gv;have gx:rK (B+102) (B+400+200*0) G D H E Pl gE gP (B+101) (g1 (B+101)) (k.at (z fs-1) c4) fs P (Emit.pg fs P 0) (mP B (z fs) 0) g3 b7:=X3.up a7;simp only[go_sem]
 refine aw (λm K=>∃(j:Nat)(kk:br),m+j=z fs-1/\K.f 0=.one (.ptr G u 0)/\K.f 3=.one (.mp (B+101) (g1 (B+101)) 3)/\K.f 23=iv .i64 (z fs-1:Nat)/\K.f 24=iv .i64 j/\K.gen G=u/\
  rK (B+102) (B+400+200*j) G D H E Pl gE gP (B+101) (g1 (B+101)) kk fs P (Emit.pg fs P j) (mP B (z fs) j) K.gen K.obj/\Oth B G D H E Pl g ob K.gen K.obj) (z fs-1) ?_ ?_
 .refine⟨0,k.at (z fs-1) c4,rfl,?_⟩
  simp only[go_sem];refine⟨t,gx,λi hi U h2 h3 h4 h5=>?_⟩;obtain⟨a1,a2⟩:=O3 i a7 U h2 h3 h4 h5;obtain⟨b1,b2⟩:=cm i a7;exact⟨a1.trans ((K2.gen i a7 h2 h3).trans b1),a2.trans ((K2.fr i a7 U h2 h3).trans b2)⟩
 clear ho;rintro m fa g4 bf ⟨j,kk,hm,q0,q3,e1,Z,y,X4,O4⟩;simp only at q0 q3 e1 Z y X4 O4;by_cases af:j<z fs-1
 case pos=>
  have bd:(j:Int)<((z fs-1:Nat):Int):=a7;have cu:=ac (k:=j) a7
  have bz:∀x∈mP B (z fs) j,x.1≠j:=λx I=>by
   simp only[mP,A3,E3,D5]at I;rcases I with rfl|⟨a,ha,rfl⟩
   .simp only;omega
   .simp only;omega
  simp only[go_sem,q0,q3,e1,Z,bd];refine cj (L:=λ_ _ _=>False) aa rfl (by simp only[go_sem,q0,q3];exact uC (k:=kk) X4 a7 ⟨a7,a7,a7,a7,a7⟩ y (f:=j) a7 (okj j af) bz) (λ_ _ _ h=>h.elim) ?_;rintro r g5 b' ⟨⟨c5,X5⟩,w,O5⟩;simp only[go_sem,Z,cu];refine ah (m-1) a7 ⟨j+1,kk.at j c5,a7,?_⟩;simp only[go_sem,q0,q3,e1];refine⟨w,?_,λi hi U h2 h3 h4 h5=>?_⟩
  .rw[Bo]
   exact X5.up a7
  .obtain⟨a1,a2⟩:=O5 i a7 U h2 h3 h4 h5
   obtain⟨b1,b2⟩:=O4 i hi U h2 h3 h4 h5;exact⟨a1.trans b1,a2.trans b2⟩
 obtain rfl:j=z fs-1:=a7;have bd:¬((z fs-1:Nat):Int)<((z fs-1:Nat):Int):=a7;have hb:Emit.pg fs P (z fs-1)=Emit.whole fs P:=rfl;rw[hb]at X4;obtain⟨W,hW⟩:∃W,Emit.whole fs P=W:=⟨_,rfl⟩
 rw[hW]at X4 hz gr f'|-;have gb:=X4;obtain⟨⟨plc,F4,e2⟩,cf⟩:=X4;have ho:=F4.ar.oG;unfold br.cells at ho;rw[F4.q.s,F4.q.ds,F4.q.bk,F4.q.b,F4.q.e,F4.q.p]at ho;have n1:∀k,(G=B+k)=False:=λk=>by simp;omega
 have n2:∀k,(D=B+k)=False:=λk=>by simp;omega
 simp only[go_sem,q0,q3,e1,Z,bd,ho,y,n1];have hc:0<z W.code:=by rw[<-hW];exact nE _
 refine⟨by rw[F4.ar.oD];rfl,l7 _,a7,a7,?_⟩;obtain⟨gC,cc⟩:∃x,nxC (aW Tt 114+1) (g4 (B+37))=x:=⟨_,rfl⟩
 rw[cc];refine AE (cells:=(List.replicate (z W.code) [C.d (.int .i64 0),C.d (.int .i64 0),C.d (.int .i64 0),C.d (.int .i64 0)]).flatten) (A:=eT W.code) (n:=z W.code) (sz:=4) (id:=B+37) (g:=gC) (c1:=D) (g2:=g4 D) aa aA rfl rfl Vy VA Vy (nu) rfl VA ?_ (nt (F4.ar.oD)) (iJ _) hc ?_
 .simp[List.length_flatten]
 have n3:∀k,(H=B+k)=False:=λk=>by simp;omega
 have n4:∀k,(E=B+k)=False:=λk=>by simp;omega
 have n5:∀k,(Pl=B+k)=False:=λk=>by simp;omega
 simp only[go_sem,q0,ho,y,n1,n2,n3];refine⟨by rw[F4.ar.oH];rfl,?_⟩;have e6:=iJ W.code;obtain⟨k4,hd⟩:∃k4:br,zq k4 fs P E Pl gE gP/\rK (B+102) (B+400+200*(z fs-1)) G D H E Pl gE gP (B+101) (g1 (B+101)) k4 fs P W (mP B (z fs) (z fs-1)) g4 bf:=⟨kk,F4.q,gb⟩
 refine aw (λm K=>∃j:Nat,m+j=z W.holes/\K.f 0=.one (.ptr G u 0)/\K.f 6=.one (.osl (B+37) gC 4 0 (z W.code))/\K.f 47=.one (.osl H (K.gen H) 3 0 (z W.holes))/\K.f 48=iv .i64 (z W.holes)/\K.f 49=iv .i64 j/\K.gen G=u/\K.gen (B+37)=gC/\K.obj (B+37)=S (eT ((W.holes.take j).foldl (Emit.fill W) W.code))/\
  rK (B+102) (B+400+200*(z fs-1)) G D H E Pl gE gP (B+101) (g1 (B+101)) kk fs P W (mP B (z fs) (z fs-1)) K.gen K.obj/\Oth B G D H E Pl g ob K.gen K.obj) (z W.holes) ?_ ?_
 .refine⟨0,rfl,?_⟩
  simp only[go_sem,q0,n1,n2,n3,y,L5,Q3];refine⟨gb.to (λi hi=>?_) (λi hi=>⟨?_,?_⟩),λi hi U h2 h3 h4 h5=>⟨?_,?_⟩⟩
  .exact nt (F4.ar.top i hi)
  .have:i≠B+37:=a7
   exact gT
  .have:i≠B+37:=a7
   exact gT
  .exact nt ((O4 i hi U h2 h3 h4 h5).1)
  .exact nt ((O4 i hi U h2 h3 h4 h5).2)
 clear ho hd k4;rintro m hq g5 b' ⟨j,hr,p0,p6,dc,dh,dx,w,bl,c7,X5,O5⟩;simp only at p0 p6 dc dh dx w bl c7 X5 O5;have gd:=X5;obtain⟨⟨hj,F5,e7⟩,c2⟩:=X5;have ho:=F5.ar.oG;unfold br.cells at ho;rw[F5.q.s,F5.q.ds,F5.q.bk,F5.q.b,F5.q.e,F5.q.p]at ho;have fx:g5 H=g5 H:=rfl
 have e8:∀l:List kg,z (l.foldl (Emit.fill W) W.code)=z W.code:=λl=>by
  have:∀(l:List kg)(c:List gS),z (l.foldl (Emit.fill W) c)=z c:=by
   intro l
   induction l with
   |nil=>intro c;rfl
   |cons a l ih=>
     intro c;rw[H7,ih];unfold Emit.fill;split
     .rw[C2]
     .rfl
  exact this l W.code
 by_cases af:j<z W.holes
 case pos=>
  have bd:(j:Int)<(z W.holes:Int):=a7;have cv:(0:Int)<=(j:Int):=a7;obtain⟨h,hh⟩:=getq af;have b4:=CL hh;obtain⟨⟨X,c0⟩,⟨ca,az⟩,e4⟩:=f' h (l6 hh);have cu:=ac (k:=j) a7;have b0:=zo W.holes;obtain⟨hA,hF,hP⟩:=h;simp only at b4 X c0 ca az e4;obtain⟨a,rfl⟩:∃a:Nat,hA=(a:Int):=⟨hA.toNat,a7⟩
  obtain⟨f,rfl⟩:∃f:Nat,hF=(f:Int):=⟨hF.toNat,a7⟩
  obtain⟨V,dz⟩:∃c,(W.holes.take j).foldl (Emit.fill W) W.code=c:=⟨_,rfl⟩
  have cd:z V=z W.code:=by rw[<-dz];exact e8 _
  rw[dz]at c7;have gh:a<z V:=a7;have et:(a:Int)<(z W.code:Int):=a7;have ev:a<z W.code:=a7;obtain⟨x,I⟩:∃x,V[a]?=S x:=⟨_,v8 gh⟩
  have b3:f<z fs:=a7;have a6:=F5.el;have c2:=F5.pl;obtain⟨e,he⟩:=getq (show f<z W.ent by omega);have e3:=iJ V
  have J:(W.holes.take (j+1)).foldl (Emit.fill W) W.code=V.set a (x.1,x.2.1,x.2.2.1,Emit.place W ((a:Int),(f:Int),hP)):=by
   rw[D0,hh,Option.toList,O9,dz];simp only[H7,Q3,Emit.fill,B3,I]
  have m1:∀k,(B+k=G)=False:=λk=>by simp;omega
  have m2:∀k,(B+k=D)=False:=λk=>by simp;omega
  have m4:∀k,(B+k=E)=False:=λk=>by simp;omega
  have m5:∀k,(B+k=Pl)=False:=λk=>by simp;omega
  have gi:=F5.oE;have gj:=F5.gE;have e9:=F5.oP;have e':=F5.gP;have fl:(f:Int)<(z fs:Int):=a7;have ch:=pP (v:=e) I;simp only[go_sem,p0,p6,dc,dh,dx,bd,cv,af,F5.ar.oH,b0,b4];refine⟨a7,?_⟩;refine aF c8 ?_;have bs:∀(v:Int),Emit.place W ((a:Int),(f:Int),hP)=v->V.set a (x.1,x.2.1,x.2.2.1,v)=(W.holes.take (j+1)).foldl (Emit.fill W) W.code:=λv hv=>by rw[J,hv]
  by_cases hp:0<=hP
  .obtain⟨p,rfl⟩:∃p:Nat,hP=(p:Int):=⟨hP.toNat,a7⟩
   obtain⟨l,hl,fw⟩:=e4 hp;rw[B3]at hl
   obtain⟨id,b8⟩:∃id,(f,id)∈mP B (z fs) (z fs-1):=by
    by_cases e:f=z fs-1
    .exact⟨B+271,by rw[e];simp[mP]⟩
    .exact⟨B+471+200*f,by simp only[mP,A3,E3,D5];exact .inr ⟨f,a7,rfl⟩⟩
   obtain⟨l',k1,k2,k3,k4,k5⟩:=e7 f id b8;rw[hl]at k1;cases k1;obtain⟨v,hv⟩:=getq (show p<z l by omega);have d':(p:Int)<(z l:Int):=a7;have a':p<z l:=a7;have fm:(0:Int)<=(p:Int):=a7;have i1:∀k,k<=100->(id=B+k)=False:=λk hk=>by simp;omega
   have i8:=i1 8 b9;have hf:=i1 37 b9;have e5:(V.set a (x.1,x.2.1,x.2.2.1,e))[a]?=S (x.1,x.2.1,x.2.2.1,e):=by rw[B9,l8 rfl,l8 gh]
   have c':=pP (v:=v) e5;rw[List.set_set]at c';have gk:=iJ (V.set a (x.1,x.2.1,x.2.2.1,e))
   have ft:Emit.place W ((a:Int),(f:Int),(p:Int))=v:=by
    simp only[Emit.place,hp,B1,B3,hl,A5,hv]
   simp only[go_sem,p0,p6,ho,w,n1,n4,n5,m1,m2,m4,m5,gi,gj,e9,e',ca,fl,b3,a6,c2,ct,iz,he,c7,bl,X,et,ev,e3,cd,setAt,ch,w8 hp];refine⟨a7,?_⟩;refine aF c8 ?_;simp only[go_sem,p0,p6,ho,w,n1,n4,n5,m1,m2,m4,m5,e9,e',ca,fl,b3,c2,ct,iz,X,et,ev,gk,cd,C2,setAt,c',k2,k3,i8,hf,d',a',fm,hv,bl];exact lb
  .have ft:Emit.place W ((a:Int),(f:Int),hP)=e:=by
    simp only[Emit.place,hp,A8,B3,he,A5]
   simp only[go_sem,p0,p6,ho,w,n1,n4,n5,m1,m2,m4,m5,gi,gj,e9,e',ca,fl,b3,a6,c2,ct,iz,he,c7,bl,X,et,ev,e3,cd,setAt,ch,hp];exact lb
 have bd:¬(j:Int)<(z W.holes:Int):=a7;have e0:j=z W.holes:=a7;rw[e0,H8]at c7;simp only[go_sem,p0,p6,dc,dh,dx,bd];refine⟨_,ae.refl _,?_⟩;simp only[go_sem,bl];exact⟨rfl,c7,O5⟩
end
end
end Go.Proofs.YtlacbjnmkhndiaaGreatDoor.Low
namespace Go.Proofs.YtlacbjnmkhndiaaGreatDoor
section
open Go Go.Shelf
end
section
open Go Go.Am Go.Asm
end
section
open Go Go.Am Go.Asm Go.RowKit Go.Sort Go.Lib Go.Proofs
end
section
open Go Go.Am Go.RowKit
end
end Go.Proofs.YtlacbjnmkhndiaaGreatDoor
namespace Go.Proofs
section
open Go.Shelf
end
end Go.Proofs
namespace Go.Proofs.YtlacbjnmkhndiaaGreatDoor
section
open Go Go.Am Go.Asm Go.Shelf
end
section
open Go Go.Am Go.Asm
def yR(op:Nat):(Asm.shape op=(T,F,1)\/Asm.shape op=(T,T,0)\/Asm.shape op=(T,T,2)\/Asm.shape op=(T,T,1)\/Asm.shape op=(F,F,1)\/Asm.shape op=(T,F,0)\/Asm.shape op=(F,F,0)):=by
 unfold Asm.shape
 repeat' split
 all_goals simp
end
end Go.Proofs.YtlacbjnmkhndiaaGreatDoor
namespace Go.Asm
section
end
end Go.Asm
namespace Go.Proofs.YtlacbjnmkhndiaaGreatDoor
section
open Go Go.Am Go.Asm
def eO(code:List Nat):D:=.sl (code.map λn=>[.int .u32 (n:Nat)])
def eZ(m:List Nat×Nat):AV:=.agg [.d (eO m.1),.d (.int .i64 (m.2:Nat))]
def uq{s:St}{id g n:Nat}{code:List Nat}(hg:s.gen id=g)(ho:s.obj id=S (code.map λn=>C.d (.int .u32 (n:Nat))))(b:z code=n):Frz s (.osl id g 1 0 n) (eO code):=by
 refine dN hg code (λn=>[.int .u32 (n:Nat)]) ho ?_ (λa _ x I=>?_) (λa _=>rfl) b
 .clear ho b;induction code with|nil=>rfl|cons a l c=>simpa using c
 .simp at I;subst I;rfl
end
section
open Go Go.Am Go.Asm
attribute[local congr]ite_cc
def Gc(op:Nat):Str:=(if (Asm.shape op).1=T then [97]else [])++(if (Asm.shape op).2.1=T then [98]else [])++(if (Asm.shape op).2.2=2 then [114]else if (Asm.shape op).2.2=1 then [99]else [])
def dI(op:Int):Str:=if jt op.toNat=T then Gc op.toNat else [63]
def xm{op:Int}(h:op.toNat=0\/28<=op.toNat):dI op=[63]:=by
 unfold dI;rw[j8];unfold jt;simp;omega
def AW{op:Int}(U:4<=op)(a:op<=15):dI op=[97,98,114]:=by
 obtain⟨k,rfl⟩:∃k:Nat,op=k:=⟨op.toNat,a7⟩
 have b:∀k:Nat,k<16->4<=k->dI (k:Int)=[97,98,114]:=b9;exact b k a7 a7
def Gd(op:Int):ax Tryz.prog 205 [iv .i64 op] (·=sv (dI op)):=by
 refine hdP Tryz.func205 rfl [2] λg=>?_;by_cases V:1<=op/\op<=27
 case neg=>
  rw[xm a7];simp only[go_sem,show ¬op=1 by omega,show ¬op=2 by omega,show ¬op=3 by omega,show ¬op=16 by omega,show ¬op=17 by omega,show ¬op=18 by omega,show ¬op=19 by omega,show ¬op=20 by omega,show ¬op=21 by omega,show ¬op=22 by omega,show ¬op=23 by omega,show ¬op=24 by omega,show ¬op=25 by omega,show ¬op=26 by omega,show ¬op=27 by omega];exact λh q=>by omega
 by_cases a:4<=op/\op<=15
 .rw[AW a.1 a.2]
  simp only[go_sem,show ¬op=1 by omega,show ¬op=2 by omega,show ¬op=3 by omega,show ¬op=16 by omega,show ¬op=17 by omega,show ¬op=18 by omega,show ¬op=19 by omega,show ¬op=20 by omega,show ¬op=21 by omega,show ¬op=22 by omega,show ¬op=23 by omega,show ¬op=24 by omega,show ¬op=25 by omega,show ¬op=26 by omega,show ¬op=27 by omega,a.1,a.2]
 rcases(show op=1\/op=2\/op=3\/op=16\/op=17\/op=18\/op=19\/op=20\/op=21\/op=22\/op=23\/op=24\/op=25\/op=26\/op=27 by omega)with rfl|rfl|rfl|rfl|rfl|rfl|rfl|rfl|rfl|rfl|rfl|rfl|rfl|rfl|rfl
 all_goals
  simp only[go_sem];rfl
def ur(s:Str)(c:UInt8):Bool:=s.contains c
def RT(s:Str)(c:UInt8)(hl:z s<=1000000):ax Tryz.prog 206 [sv s,iv .u8 c.toNat] (·=bv (ur s c)):=by
 refine hdP Tryz.func206 rfl [4] λg=>?_;simp only[go_sem];refine eF (λn K=>∃k:Nat,n+k=z s/\K.f 0=sv s/\K.f 1=iv .u8 c.toNat/\K.f 5=iv .i64 k/\∀x∈s.take k,x≠c) (z s) ?_ ?_
 .refine⟨0,a7,?_⟩
  simp only[go_sem];exact λx I=>by simp at I
 rintro n f g q ⟨k,r,d,i,j,u⟩;simp only at d i j;have o:=ac (k:=k) a7;by_cases p:k<z s
 .obtain⟨x,I⟩:=getq p
  have Q:(k:Int)<(z s:Int):=a7;have l:(0:Int)<=(k:Int):=a7;by_cases a:x=c
  .subst a
   simp only[go_sem,d,i,j,Q,l,I];have:ur s x=T:=by unfold ur;rw[Js];exact l6 I
   rw[this]
  .have w:¬(x.toNat:Int)=(c.toNat:Int):=λe=>a (P9.1 a7)
   simp only[go_sem,d,i,j,Q,l,I,w,o];refine cH (n-1) a7 ⟨k+1,a7,?_⟩;simp only[go_sem,d,i];intro y b;rw[D0,I,C4]at b;rcases b with b|b
   .exact u y b
   .simp at b;rw[b];exact a
 .have Q:¬(k:Int)<(z s:Int):=a7
  simp only[go_sem,d,i,j,Q];rw[s6 a7]at u
  have:ur s c=F:=by
   unfold ur;cases h:s.contains c with
   |false=>rfl
   |true=>exact absurd rfl (u c (Js.1 h))
  rw[this]
def rG(b:Bool)(v i:Int):ax Tryz.prog 207 [bv b,iv .i64 v,iv .i64 i] (·=bv (inW v i b)):=by
 refine hdP Tryz.func207 rfl [6] λg=>?_;exact UH
def yT(op:Int):(jt op.toNat=F/\dI op=[63])\/(jt op.toNat=T/\(
  (Asm.shape op.toNat=(T,F,1)/\dI op=[97,99])\/(Asm.shape op.toNat=(T,T,0)/\dI op=[97,98])\/(Asm.shape op.toNat=(T,T,2)/\dI op=[97,98,114])\/(Asm.shape op.toNat=(T,T,1)/\dI op=[97,98,99])\/
  (Asm.shape op.toNat=(F,F,1)/\dI op=[99])\/(Asm.shape op.toNat=(T,F,0)/\dI op=[97])\/(Asm.shape op.toNat=(F,F,0)/\dI op=[]))):=by
 unfold dI;cases a:jt op.toNat
 .exact .inl ⟨rfl,a8⟩
 .refine .inr ⟨rfl,?_⟩
  unfold Gc;rcases yR op.toNat with h|h|h|h|h|h|h<;>simp[h]
def Ge(op a b c:Int):ax Tryz.prog 192 [po op a b c] (·=bv (eI op a b c)):=by
 refine hdP Tryz.func192 rfl [2] λg=>?_;unfold po;simp only[go_sem];refine bJ rfl (by simp only[go_sem];exact Gd op) ?_;rintro _ rfl
 have n:∀s:Str,z s<=3->∀k:Nat,k<256->ax Tryz.prog 206 [sv s,iv .u8 k] (·=bv (ur s (UInt8.ofNat k))):=λs j k hk=>by
  have:=RT s (UInt8.ofNat k) a7
  rwa [show (UInt8.ofNat k).toNat=k by rw[Mt];omega]at this
 rcases yT op with⟨hk,hp⟩|⟨hk,⟨j,hp⟩|⟨j,hp⟩|⟨j,hp⟩|⟨j,hp⟩|⟨j,hp⟩|⟨j,hp⟩|⟨j,hp⟩⟩
 .rw[hp,show eI op a b c=F by unfold eI;rw[hk];rfl]
  simp only[go_sem];refine bJ rfl (by simp only[go_sem];exact n [63] b9 114 b9) ?_;rintro _ rfl;rw[show ur [63] (UInt8.ofNat 114)=F by decide];simp only[go_sem];refine cO aA mixed c8 ?_;simp only[go_sem,reduceCtorEq]
 all_goals
  have l:z (dI op)<=3:=by rw[hp];decide
  have bz:(dI op=[63])=False:=by rw[hp];simp
  have f:ur (dI op) (UInt8.ofNat 97)=(Asm.shape op.toNat).1:=by rw[hp,j];decide
  have h:ur (dI op) (UInt8.ofNat 98)=(Asm.shape op.toNat).2.1:=by rw[hp,j];decide
  have i:ur (dI op) (UInt8.ofNat 99)=decide ((Asm.shape op.toNat).2.2=1):=by rw[hp,j];decide
  have e:ur (dI op) (UInt8.ofNat 114)=decide ((Asm.shape op.toNat).2.2=2):=by rw[hp,j];decide
  have d:eI op a b c=(inW a 15 (Asm.shape op.toNat).1&&(inW b 15 (Asm.shape op.toNat).2.1&&inW c (pn op.toNat) (decide ((Asm.shape op.toNat).2.2≠0)))):=by unfold eI;rw[hk,x6]
  unfold pn at d;rw[j]at f h i e d;simp only[RZ,L2,Nat.reduceEqDiff,ne_eq,Q9,M3,B1,A8,reduceCtorEq]at f h i e d;rw[d];clear hp j d hk;simp only[go_sem];refine bJ rfl (by simp only[go_sem];exact n (dI op) l 114 b9) ?_;rintro _ rfl;rw[e];simp only[go_sem];refine cO aA mixed c8 ?_;simp only[go_sem,bz];refine aP rfl (n (dI op) l 97 b9) (ci rfl) rfl ?_;rw[f];simp only[go_sem];refine aP rfl (rG _ _ _) (ci rfl) rfl ?_;generalize inW a 15 _=o;cases o
  .simp only[go_sem]
   try simp
  simp only[go_sem];refine aP rfl (n (dI op) l 98 b9) (ci rfl) rfl ?_;rw[h];simp only[go_sem];refine aP rfl (rG _ _ _) (ci rfl) rfl ?_;generalize inW b 15 _=p;cases p
  .simp only[go_sem]
   try simp
  simp only[go_sem];refine aP rfl (n (dI op) l 99 b9) (ci rfl) rfl ?_;rw[i];simp only[go_sem]
  try
   refine aP rfl (n (dI op) l 114 b9) (ci rfl) rfl ?_;rw[e];simp only[go_sem]
  refine aP rfl (rG _ _ _) (ci rfl) rfl ?_;simp only[go_sem]
  try rfl
end
section
open Go Go.Am Go.Asm
def zK(code:List Nat)(d:Int):AV:=.agg [.d (eO code),.d (.int .i64 d)]
end
end Go.Proofs.YtlacbjnmkhndiaaGreatDoor
namespace Go.Am
section
attribute[local congr]ite_cc
def Hp{P:Program}{rd:Option Nat}{O:Bs}{b:St->Loc->List Deferred->World->Prop}{e:Nat}{f:ff}(a6:aY O b){o:Oper}{s:St}(d:St){K:St->Prop}{k:Box K}(g:ae s d)(h:bm (spF P rd O b e f) o d k):bm (spF P rd O b e f) o s k:=by
 obtain⟨R,i,J⟩:=h;refine⟨R,λal j a ds w V X c next Q m I=>?_,J⟩;obtain⟨l,n,p⟩:=g O al j a w V;exact i al l a ds w n (a6 _ _ _ _ _ _ _ X p) c next Q m I
end
end Go.Am
namespace Go.Proofs.YtlacbjnmkhndiaaGreatDoor.Low
section
open Go Go.Am Go.Lower
open Go.Emit (Wr ao aq ak ru dS fZ dH)
attribute[local congr]ite_cc
def nO(x:gS):Bool:=eI x.1 x.2.1 x.2.2.1 x.2.2.2
def kY(x:gS):Nat:=Asm.word x.1.toNat x.2.1.toNat x.2.2.1.toNat x.2.2.2.toNat
def wt(fs:List Src.CFn)(P:Emit.Plan):AV:=
 if 32768<P.data then .tup [zK [] 0,iv .i64 2]
 else
  let c:=Emit.filled (Emit.whole fs P)
  if 16384<z c then .tup [zK [] 0,iv .i64 2]
  else if c.all nO then .tup [zK (c.map kY) P.data,iv .i64 0]else .tup [zK [] 0,iv .i64 2]
structure Tp (w:Int) (fs:List Src.CFn) (P:Emit.Plan):Prop where
 n:0<fs.length
 dl:P.depths.length=fs.length
 bl:P.back.length=fs.length
 l:P.base.length=fs.length
 fz:fs.length<=1000000
 bz:∀x∈P.base,0<=x/\x<=1000000000000000
 dz:∀ds∈P.depths,∀d∈ds,-1<=d/\d<=1000000000
 pz:∀x∈fs,0<=x.params/\x.params<=1000000/\0<=x.first/\x.first<=1000000000000
 sz:∀x∈fs,x.params<=x.slots/\x.slots<=1000000
 d0:0<=P.data
 ok0:wq fs P ⟨[(1,15,0,1)],[],List.replicate fs.length 0,List.replicate fs.length []⟩ (fs.length-1)
 okj:∀j,j<fs.length-1->wq fs P (Emit.pg fs P j) j
 X:(Emit.whole fs P).code.length<=100000000
 zh:(Emit.whole fs P).holes.length<=100000000
 ho:∀h∈(Emit.whole fs P).holes,Hn (Emit.whole fs P) fs.length h
def zr(d:fZ):∀(l:List kg)(c:List gS),z (l.foldl (Emit.fill d) c)=z c
 |[],c=>rfl
 |a::l,c=>by
   rw[H7,zr d l];unfold Emit.fill;split
   .rw[C2]
   .rfl
def zt:∀{l:List gS}{j:Nat}{x:gS},l[j]?=S x->((eT l).drop (j*4)).take 4=zn x
 |a::l,0,x,e=>by
   cases e;simp[kL,zn]
 |a::l,j+1,x,e=>by
   have b:=zt (l:=l) (j:=j) (x:=x) (by simpa using e);rw[kL,show (j+1)*4=4+j*4 by omega,List.drop_append,y9 a8,A6];simpa using b
def wcells(l:List Nat):List C:=l.map λn=>.d (.int .u32 (n:Nat))
def Bp(l:List Nat):z (wcells l)=z l:=by simp[wcells]
def nP{s:St}{n:Int}:ql s [.agg [.d .nsl,.d (.int .i64 0)],iv .i64 n] (.tup [zK [] 0,iv .i64 n]):=by
 refine⟨_,⟨zK [] 0,_,rfl,⟨[eO [],.int .i64 0],rfl,λi c l=>?_,rfl⟩,_,_,rfl,⟨_,.d _,rfl⟩,rfl⟩,rfl⟩
 match i,l with
 |0,l=>cases l;exact⟨_,rfl,.d _⟩
 |1,l=>cases l;exact⟨_,rfl,.d _⟩
def Wp{o:cF}{w:Int}{fs:List Src.CFn}{P:Emit.Plan}(ok:P.data<=32768->Tp w fs P)(cf:ax Tryz.prog 46 [iX w fs] (·=Hi P.depths P.back P.base P.data)):bP Tryz.prog 1 o 21 [iX w fs] (·=wt fs P):=by
 refine hdG Tryz.func21 rfl [.cell 2 31,.tmp 3] λO bn s0 w0 g=>?_;obtain⟨X,hz⟩:∃X,wt fs P=X:=⟨_,rfl⟩
 rw[hz];unfold wt at hz;have b1:iX w fs=.agg [.d (.int .i64 w),.d (.sl (fs.map sfD))]:=rfl;rw[b1]at cf|-;simp only[go_sem];refine jr aE rfl (by simp only[go_sem];exact cf) j0 ?_;rintro _ rfl;unfold Hi;by_cases hd:32768<P.data
 .rw[l8 hd]at hz
  subst hz;simp only[go_sem,hd];exact⟨_,nP,rfl⟩
 rw[j8 hd]at hz;have k:=ok a7;simp only[go_sem,hd];have dd:=k.fz;have bk:(List.replicate (z fs) [C.d .nsl]).flatten=List.replicate (z fs) (C.d .nsl):=nN _ _;refine bY aA mixed aE [23,27,29] [([1],[0,1],[],F),([4],[0,1],[],F),([1],[1],[],F),([20],[1],[],F),([21],[1],[],F),([22],[1],[0],F),([1],[0],[],F),([24],[0],[],F),([25],[0],[],F),([26],[0],[1],F),([18,19,23,27],[],[],F),([28],[],[2],F),([29],[],[],T)] 3 rfl c8 rfl b9 ?_;simp only[go_sem]
 iterate 5 (apply aj;(case hg=>first|exact x9|exact⟨_,rfl,by decide,rfl⟩);(case U=>intro fa ga oa K' J;simp only[go_sem,j6]at J|-;exact J))
 refine bF (a:=0) (v:=.one (.osl 23 (nxC 4 (g 23)) 1 0 (z fs))) (x:=nxC 4 (g 23)) (y:=S (icells (List.replicate (z fs) 0))) x9 (λfa ga oa K' J=>?_) ?_
 .simp only[go_sem,aW]at J|-
  refine⟨l7 _,a7,a7,?_⟩;rw[show (List.replicate (z fs) [C.d (.int .i64 0)]).flatten=icells (List.replicate (z fs) 0) by rw[nN,icells,O2]];exact J
 iterate 3 (apply aj;(case hg=>first|exact x9|exact⟨_,rfl,by decide,rfl⟩);(case U=>intro fa ga oa K' J;simp only[go_sem,j6]at J|-;exact J))
 refine bF (a:=1) (v:=.one (.osl 27 (nxC (aW Tt 108+1) (g 27)) 1 0 (z fs))) (x:=nxC (aW Tt 108+1) (g 27)) (y:=S (List.replicate (z fs) (.d .nsl))) x9 (λfa ga oa K' J=>?_) ?_
 .simp only[go_sem]at J|-
  refine⟨l7 _,a7,a7,?_⟩;rw[bk];exact J
 (apply aj;(case hg=>first|exact x9|exact⟨_,rfl,by decide,rfl⟩);(case U=>intro fa ga oa K' J;simp only[go_sem]at J|-;exact J))
 (apply bF;(case hg=>first|exact x9|exact⟨_,rfl,by decide,rfl⟩);(case U=>intro fa ga oa K' J;simp only[go_sem]at J|-;exact J))
 refine bZ x9 ?_;intro K' a';simp only[go_sem];refine a' _ ?_;clear a' K';obtain⟨ad,az⟩:∃x,nxC 4 (g 23)=x:=⟨_,rfl⟩
 obtain⟨al,bf⟩:∃x,nxC (aW Tt 108+1) (g 27)=x:=⟨_,rfl⟩
 rw[az,bf];have b7:P.depths.map (λo=>[ksD o])=P.depths.map (λo=>[ksD o]):=rfl;simp only[go_sem]
 refine Hp aE _ ((ej (t:=5) (o:=29) (b:=200) (j:=6) (sz:=4) (off:=0) (cells:=[.d (.int .i64 w),.d (.sl (fs.map sfD)),.d (.sl (P.depths.map λo=>[ksD o])),.d (ksD P.back),.d (ksD P.base),.d (.int .i64 P.data),.d .nsl,.osl 23 ad 1 0 (z fs),.osl 27 al 1 0 (z fs),.d .nsl,.d (.int .i64 0),.d (.int .i64 0)]) Vy Vy rfl b9).trans
  (ej (t:=5) (o:=29) (b:=201) (j:=9) (sz:=3) (off:=0) (cells:=[.d (.int .i64 w),.d (.sl (fs.map sfD)),.d (.sl (P.depths.map λo=>[ksD o])),.d (ksD P.back),.d (ksD P.base),.d (.int .i64 P.data),.osl 200 (g 200+1) 4 0 0,.osl 23 ad 1 0 (z fs),.osl 27 al 1 0 (z fs),.d .nsl,.d (.int .i64 0),.d (.int .i64 0)]) VN VN rfl b9)) ?_
 simp only[St.claimAt];refine cj (L:=λ_ _ _=>False) (R:=λr g' Y=>r=.one (.osl 1037 (g' 1037) 4 0 (z (Emit.whole fs P).code))/\Y 1037=S (eT (Emit.filled (Emit.whole fs P)))/\∀i,i<10->g' i=(upd (upd (upd g 1 (nxC 70 (g 1))) 2 (nxC 32 (g 2))) 4 (nxC 112 (g 4))) i/\Y i=(upd (upd (upd (λ_=>N) 1 (S [C.d (D.int IntKind.i64 w),C.d (D.sl (List.map sfD fs))])) 2 (S [C.d D.nsl,C.d (D.int IntKind.i64 0)])) 4 (S [C.d (D.sl (P.depths.map λo=>[ksD o])),C.d (ksD P.back),C.d (ksD P.base),C.d (D.int IntKind.i64 P.data)])) i) aE rfl ?_ (λ_ _ _ h=>h.elim) ?_
 .simp only[go_sem]
  refine(KS (B:=1000) (G:=29) (D:=200) (H:=201) (E:=23) (Pl:=27) (gE:=ad) (gP:=al) (P:=P) (fs:=fs) (k:=⟨.d (.int .i64 w),.d (.sl (fs.map sfD)),.d (.sl (P.depths.map λo=>[ksD o])),.d (ksD P.back),.d (ksD P.base),.d (.int .i64 P.data),.osl 23 ad 1 0 (z fs),.osl 27 al 1 0 (z fs),.d (.int .i64 0),.d (.int .i64 0)⟩)
   ⟨λi hi=>?_,b9,b9,b9,b9,b9,b9,?_,?_,?_,?_⟩ ⟨rfl,rfl,rfl,rfl,rfl,rfl,k.dl,k.bl,k.l,k.fz,k.bz,k.dz,k.pz,k.sz⟩ ?_ ?_ ?_ ?_ ?_ b9 b9 b9 k.n k.ok0 k.okj k.X k.zh k.ho).mono ?_ (λ_ _ _ h=>h)
  .exact gT
  .simp[upd,br.cells]
  .simp[upd];rfl
  .simp[upd];rfl
  .intro x I
   simp only[br.all,A3,A9,E6]at I;rcases I with e|e|e|e|e|e|e|e|e|e
   all_goals (subst e;first|trivial|(show (23:Nat)<1000;decide)|(show (27:Nat)<1000;decide))
  .simp[upd]
  .simp[upd]
  .simp[upd]
  .simp[upd]
  .simp[upd]
  rintro r g' Y ⟨U,h2,h3⟩;refine⟨U,h2,λi hi=>?_⟩;obtain⟨a1,a2⟩:=h3 i a7 a7 a7 a7 a7 a7;refine⟨a1.trans ?_,a2.trans ?_⟩
  .simp only[upd]
   (repeat rw[j8 (show ¬i=201 by omega)])
   (repeat rw[j8 (show ¬i=200 by omega)])
   (repeat rw[j8 (show ¬i=29 by omega)])
   (repeat rw[j8 (show ¬i=27 by omega)])
   (repeat rw[j8 (show ¬i=23 by omega)])
  .simp only[upd]
   (repeat rw[j8 (show ¬i=201 by omega)])
   (repeat rw[j8 (show ¬i=200 by omega)])
   (repeat rw[j8 (show ¬i=29 by omega)])
   (repeat rw[j8 (show ¬i=27 by omega)])
   (repeat rw[j8 (show ¬i=23 by omega)])
   split
   .rfl
   .rfl
 rintro r g1 av ⟨rfl,A,O1⟩;have e2:=O1 2 b9;have e4:=O1 4 b9;simp[upd]at e2 e4;obtain⟨e2,o2⟩:=e2;obtain⟨e4,o4⟩:=e4;clear O1;obtain⟨W,hW⟩:∃W,Emit.whole fs P=W:=⟨_,rfl⟩
 rw[hW]at A hz;have b3:=k.X;rw[hW]at b3|-;obtain⟨c,Z⟩:∃c,Emit.filled W=c:=⟨_,rfl⟩
 have b0:z W.code=z c:=by rw[<-Z];exact(zr W W.holes W.code).symm
 simp only[Z]at hz;rw[Z]at A;rw[b0]at b3|-;obtain⟨gC,cc⟩:∃x,g1 1037=x:=⟨_,rfl⟩
 rw[cc];have e3:=iJ c;by_cases q:16384<z c
 .rw[l8 q]at hz
  subst hz;have hb:(16384:Int)<(z c:Int):=a7;simp only[go_sem,hb,cc,A,e2,o2];exact⟨_,nP,rfl⟩
 rw[j8 q]at hz;have hb:¬(16384:Int)<(z c:Int):=a7;simp only[go_sem,hb,cc,A,e2,o2];refine⟨l7 _,a7,a7,?_⟩
 have b6:(List.replicate (z c) [C.d (.int .u32 0)]).flatten=wcells ((c.take 0).map kY++List.replicate (z c-0) 0):=by
  rw[nN];simp[wcells]
 refine aw (λm K=>∃j:Nat,m+j=z c/\(c.take j).all nO=T/\K.f 2=.one (.ptr 2 (K.gen 2) 0)/\K.f 4=.one (.ptr 4 (K.gen 4) 0)/\K.f 7=.one (.osl 38 (K.gen 38) 1 0 (z c))/\K.f 39=.one (.osl 1037 gC 4 0 (z c))/\K.f 40=iv .i64 (z c)/\K.f 41=iv .i64 j/\K.gen 1037=gC/\
  K.obj 1037=S (eT c)/\K.obj 38=S (wcells ((c.take j).map kY++List.replicate (z c-j) 0))/\(∃x y,K.obj 2=S [x,y])/\K.obj 4=S [.d (.sl (P.depths.map λo=>[ksD o])),.d (ksD P.back),.d (ksD P.base),.d (.int .i64 P.data)]) (z c) ?_ ?_
 .refine⟨0,rfl,rfl,?_⟩
  simp only[go_sem,cc,A,e2,e4,o2,o4];exact⟨by rw[b6];simp,_,_,rfl,rfl⟩
 clear e2 e4 o2 o4 A cc b6 az bf;rintro m fa g2 bo ⟨j,hm,bs,q2,q4,q7,b2,an,ar,cc,A,p,⟨x0,y0,o2⟩,o4⟩;simp only at q2 q4 q7 b2 an ar cc A p o2 o4
 have b5:(wcells ((c.take j).map kY++List.replicate (z c-j) 0)).length=z c:=by
  rw[Bp,j7,j6,D1,G0];omega
 by_cases af:j<z c
 case neg=>
  obtain rfl:j=z c:=a7;have bd:¬(z c:Int)<(z c:Int):=a7;rw[H8]at bs p;rw[J5,L1,s7]at p;rw[l8 bs]at hz;subst hz;simp only[go_sem,q2,q4,q7,an,ar,bd,o2,o4];refine⟨_,⟨_,⟨zK (c.map kY) P.data,_,rfl,⟨[eO (c.map kY),.int .i64 P.data],rfl,λi y hy=>?_,rfl⟩,_,_,rfl,⟨_,.d _,rfl⟩,rfl⟩,rfl⟩,rfl⟩
  match i,hy with
  |0,hy=>
    cases hy;refine⟨_,rfl,dN (s:=⟨_,_,_⟩) (cells:=wcells (c.map kY)) rfl (c.map kY) (λn=>[.int .u32 (n:Nat)]) ?_ ?_ (λ_ _ y hy=>by simp at hy;subst hy;rfl) (λ_ _=>rfl) a8⟩
    .simp only[upd]
     exact p
    .unfold wcells
     generalize c.map kY=l
     induction l with
     |nil=>rfl
     |cons b l ih=>rw[l9,G2,ih];rfl
  |1,hy=>cases hy;exact⟨_,rfl,.d _⟩
 have bd:(j:Int)<(z c:Int):=a7;have cv:(0:Int)<=(j:Int):=a7;obtain⟨x,I⟩:∃x,c[j]?=S x:=⟨_,v8 af⟩
 have b4:=zt I;unfold zn at b4;have cu:=ac (k:=j) a7;simp only[go_sem,q2,q4,q7,b2,an,ar,bd,cv,af,cc,A,e3,b4];refine⟨a7,?_⟩;refine ip rfl (by simp only[go_sem];exact Gg x.1 x.2.1 x.2.2.1 x.2.2.2) ?_;rintro _ rfl;cases V:nO x
 .have Q:eI x.1 x.2.1 x.2.2.1 x.2.2.2=F:=V
  have a6:c.all nO=F:=by
   rw[Bool.eq_false_iff];intro h;rw[y8]at h;rw[h x (l6 I)]at V;cases V
  rw[a6]at hz;simp only[D7,A8]at hz;subst hz;simp only[go_sem,Q,D7,q2,o2];exact⟨_,nP,rfl⟩
 .have Q:eI x.1 x.2.1 x.2.2.1 x.2.2.2=T:=V
  have u:(wcells ((c.take j).map kY++List.replicate (z c-j) 0)).set j (.d (.int .u32 (kY x:Nat)))=wcells ((c.take (j+1)).map kY++List.replicate (z c-(j+1)) 0):=by
   obtain⟨n,hn⟩:∃n,z c-j=n+1:=⟨z c-j-1,a7⟩
   rw[hn,show z c-(j+1)=n by omega,D0,I,Option.toList,B5,u7];unfold wcells;rw[B5,I6 _ _ VC];simp only[j6,D1,B5,l9,w9,F6];rw[show j-min j (z c)=0 by omega];rfl
  simp only[go_sem,Q,q2,q4,q7,p,b5,af,bd,cv];refine⟨a7,?_⟩;simp only[go_sem,ar,cu,setAt];refine ah (m-1) a7 ⟨j+1,a7,?_,?_⟩
  .rw[D0,I,Option.toList,H5,bs]
   simp[V]
  simp only[go_sem,q2,q4,q7,b2,an,cc,A,o2,o4,cu];exact⟨u▸rfl,_,_,rfl,rfl⟩
end
end Go.Proofs.YtlacbjnmkhndiaaGreatDoor.Low
namespace Go.Emit
section
open Go.Lower (Ins Code Sig codeOf takes next Inv left Good OkI fC)
section
def Fits(L M:Nat)(Q:Int×Int->Prop)(w:Nat->Wr):Prop:=∀n,z (w n).code<=L/\z (w n).holes<=M/\∀h∈(w n).holes,(n:Int)<=h.1/\h.1<(n:Int)+z (w n).code/\Q h.2
variable{P:Plan}{f:Nat}{fs:List Src.CFn}{d r b:Int}
section
variable{L a M y:Nat}{Q:Int×Int->Prop}{v w:Nat->Wr}
def Fits.mono(h:Fits L M Q w)(c:L<=a)(j:M<=y):Fits a y Q w:=λn=>⟨C8 (h n).1 c,C8 (h n).2.1 j,(h n).2.2⟩
def gQ:Fits 0 0 Q dS:=λ_=>⟨l7 _,l7 _,λ_ h=>by cases h⟩
def cr{a b c d:Int}:Fits 1 0 Q (ao a b c d):=λ_=>⟨l7 _,l7 _,λ_ h=>by cases h⟩
def oJ{a b f pl:Int}(hq:Q (f,pl)):Fits 1 1 Q (aq a b f pl):=λn=>⟨l7 _,l7 _,λh hh=>by
 obtain rfl:h=((n:Int),f,pl):=by simpa[aq]using hh
 exact⟨C5 _,by simp[aq];omega,hq⟩⟩
def Fits.seq(i:Fits L M Q v)(j:Fits a y Q w):Fits (L+a) (M+y) Q (ak v w):=λn=>by
 obtain⟨m,o,E⟩:=i n;obtain⟨p,b2,k⟩:=j (n+z (v n).code);refine⟨by simp only[ak,j7];omega,by simp only[ak,j7];omega,λh c=>?_⟩;simp only[ak,C4,j7]at c|-;rcases c with c|c
 .obtain⟨g,l,e⟩:=E h c
  exact⟨g,a7,e⟩
 .obtain⟨g,l,e⟩:=k h c
  exact⟨a7,a7,e⟩
def eR:Fits 1 0 Q (db P f d r b):=cr
def ir:Fits 1 0 Q (cP P f d r b):=cr
def yK{r n:Int}:Fits 2 0 Q (jA r n):=by
 unfold jA;split
 .exact cr.seq cr
 .exact cr.mono b9 b9
def AP{d:Int}:Fits 3 0 Q (jQ fs P f d):=by
 unfold jQ;split
 .exact cr.mono b9 b9
 .simp only
  split
  .exact eR.seq (cr.seq cr)
  .exact(cr.seq cr).mono b9 b9
def uh{a:Int}:∀k,Fits k 0 Q (iU a k)
 |0=>gQ
 |k+1=>(uh k).seq cr
def AQ{a b:Int}:Fits 6 0 Q (iq a b):=by
 by_cases h:b-a<=6
 .have e:iq a b=iU a (b-a).toNat:=l8 h
  rw[e];exact(uh _).mono a7 b9
 .have e:iq a b=λn=>⟨[(1,1,0,a),(1,2,0,b),(17,0,1,0),(4,1,1,15),(14,3,1,2),(20,3,0,(n:Int)+2)],[]⟩:=j8 h
  rw[e];exact λn=>⟨l7 _,l7 _,λ_ h=>by cases h⟩
def ry{P:Plan}{f:Nat}{d p i:Int}:∀k,Fits (2*k) 0 Q (kE P f d p i k)
 |0=>gQ
 |k+1=>((ry k).seq (eR.seq cr)).mono a7 b9
def DN{d a:Int}{ar:Nat}(e:∀y,fs[a.toNat]?=S y->y.params.toNat<=ar/\Q (a,-1)):Fits (2*ar+2) 1 Q (sq fs P f d a):=by
 unfold sq;cases g:fs[a.toNat]? with
 |none=>exact gQ.mono a7 b9
 |some y=>
   obtain⟨U,c⟩:=e y g;simp only;split
   .exact((ry _).seq ((oJ c).seq ir)).mono a7 b9
   .exact((ry _).seq ((oJ c).seq gQ)).mono a7 b9
def FR{d:Int}{x:Ins}{ar:Nat}(s:x.op=10->∀y,fs[x.a.toNat]?=S y->y.params.toNat<=ar/\Q (x.a,-1))(p:x.op=8\/x.op=9->Q ((f:Int),x.a)):Fits (2*ar+5) 1 Q (jR fs P f d x):=by
 by_cases U:x.op=1
 .rw[show jR fs P f d x=_ from l8 U]
  exact(yK.seq ir).mono a7 b9
 by_cases c:x.op=2
 .rw[show jR fs P f d x=_ from(j8 U).trans (l8 c)]
  exact(cr.seq ir).mono a7 b9
 by_cases g:x.op=3
 .rw[show jR fs P f d x=_ from(j8 U).trans ((j8 c).trans (l8 g))]
  exact(eR.seq cr).mono a7 b9
 by_cases i:x.op=4
 .rw[show jR fs P f d x=_ from(j8 U).trans ((j8 c).trans ((j8 g).trans (l8 i)))]
  exact(eR.seq (cr.seq (cr.seq ir))).mono a7 b9
 by_cases j:x.op=5
 .rw[show jR fs P f d x=_ from(j8 U).trans ((j8 c).trans ((j8 g).trans ((j8 i).trans (l8 j))))]
  exact(eR.seq (cr.seq (eR.seq cr))).mono a7 b9
 by_cases k:x.op=6
 .rw[show jR fs P f d x=_ from(j8 U).trans ((j8 c).trans ((j8 g).trans ((j8 i).trans ((j8 j).trans (l8 k)))))]
  exact(eR.seq (eR.seq (cr.seq ir))).mono a7 b9
 by_cases q:x.op=7
 .rw[show jR fs P f d x=_ from(j8 U).trans ((j8 c).trans ((j8 g).trans ((j8 i).trans ((j8 j).trans ((j8 k).trans (l8 q))))))]
  exact(eR.seq (cr.seq ir)).mono a7 b9
 have w:jR fs P f d x=if x.op=8 then aq 18 0 f x.a
 else if x.op=9 then ak (db P f d 1 1) (aq 19 1 f x.a)
 else if x.op=10 then sq fs P f d x.a
 else if x.op=11 then jQ fs P f d
 else if x.op=12 then ak (ao 23 1 0 0) (cP P f d 1 0)
 else if x.op=13 then ak (db P f d 1 1) (ao 24 1 0 0)
 else dS:=(j8 U).trans ((j8 c).trans ((j8 g).trans ((j8 i).trans ((j8 j).trans ((j8 k).trans (j8 q))))))
 rw[w];by_cases l:x.op=8
 .rw[l8 l]
  exact(oJ (p (.inl l))).mono a7 b9
 rw[j8 l];by_cases m:x.op=9
 .rw[l8 m]
  exact(eR.seq (oJ (p (.inr m)))).mono a7 b9
 rw[j8 m];by_cases o:x.op=10
 .rw[l8 o]
  exact(DN (s o)).mono a7 b9
 rw[j8 o];by_cases H:x.op=11
 .rw[l8 H]
  exact AP.mono a7 b9
 rw[j8 H];by_cases e:x.op=12
 .rw[l8 e]
  exact(cr.seq ir).mono a7 b9
 rw[j8 e];by_cases G:x.op=13
 .rw[l8 G]
  exact(eR.seq cr).mono a7 b9
 rw[j8 G];exact gQ.mono a7 b9
def DO:Fits 7 0 Q (jg fs P f):=by
 unfold jg;split
 .exact gQ.mono b9 b9
 .cases fs[f]? with
  |none=>exact gQ.mono b9 b9
  |some y=>exact(cr.seq AQ).mono b9 b9
def vZ{fs:List Src.CFn}{P:Plan}{f:Nat}{A:Lower.Code}{ds:List Int}{ar:Nat}(h:∀x∈A,(x.1.op=10->∀y,fs[x.1.a.toNat]?=S y->y.params.toNat<=ar/\Q (x.1.a,-1))/\(x.1.op=8\/x.1.op=9->Q ((f:Int),x.1.a))):∀k,Fits (7+k*(2*ar+5)) k Q (eM fs P f A ds k)
 |0=>DO.mono a7 a7
 |k+1=>by
   have c:=vZ (P:=P) (ds:=ds) h k;rw[eM];cases I:A[k]? with
   |none=>exact(c.seq gQ).mono (by rw[E7];omega) a7
   |some x=>
     cases hd:ds[k]? with
     |none=>exact(c.seq gQ).mono (by rw[E7];omega) a7
     |some d=>
       simp only;obtain⟨U,e⟩:=h x (l6 I);split
       .exact(c.seq (FR U e)).mono (by rw[E7];omega) a7
       .exact(c.seq gQ).mono (by rw[E7];omega) a7
end
end
section
def bW(x:Src.CFn):Lower.Code:=codeOf x.word x.body
def szF(fs:List Src.CFn)(ar f:Nat):Nat:=match fs[f]? with|some x=>7+z (bW x)*(2*ar+5)|none=>0
def rz(fs:List Src.CFn)(ar:Nat):Nat->Nat
 |0=>0
 |k+1=>rz fs ar k+szF fs ar k
def DP(fs:List Src.CFn)(ar:Nat){a b:Nat}(h:a<=b):rz fs ar a<=rz fs ar b:=by
 induction h with
 |refl=>exact l7 _
 |step _ c=>exact C8 c (L4 _ _)
def xk(fs:List Src.CFn)(ar:Nat):∀k,k<=z fs->rz fs ar k<=7*k+((fs.take k).map λx=>z (bW x)).sum*(2*ar+5)
 |0,_=>by simp[rz]
 |k+1,h=>by
   have b:=xk fs ar k a7;have a:fs[k]?=S (fs[k]'a7):=v8 a7;rw[rz,D0,a];simp only[szF,a,Option.toList,B5,L6,l9,w9,D9,QI,E7,J6];omega
def MO(fs:List Src.CFn)(q:Int×Int):Prop:=(0<=q.1/\q.1<(z fs:Int))/\(0<=q.2->∃x,fs[q.1.toNat]?=S x/\q.2<(z (bW x):Int))
structure qy (fs:List Src.CFn) (P:Plan) (ar:Nat):Prop where
 n:0<fs.length
 dl:P.depths.length=fs.length
 c:∀x∈fs,∀y∈bW x,y.1.op=10->∃(k:Nat)(X:Src.CFn),y.1.a=(k:Int)/\fs[k]?=some X
 j:∀x∈fs,∀y∈bW x,y.1.op=8\/y.1.op=9->0<=y.1.a/\y.1.a<((bW x).length:Int)
 p:∀x∈fs,x.params.toNat<=ar
variable{fs:List Src.CFn}{P:Plan}{x:Src.CFn}
def qy.fits{ar:Nat}(h:qy fs P ar){f:Nat}(I:fs[f]?=S x)(ds:List Int)(k:Nat):Fits (7+k*(2*ar+5)) k (MO fs) (eM fs P f (bW x) ds k):=by
 have a:=l6 I;have n:f<z fs:=(l5.1 I).1;refine vZ (λy d=>⟨λo X e=>?_,λr=>?_⟩) k
 .obtain⟨c,b,g,i⟩:=h.c x a y d o
  have:c<z fs:=(l5.1 i).1;exact⟨h.p X (l6 e),⟨by simp only[g];omega,λl=>by simp only at l;omega⟩⟩
 .obtain⟨q,m⟩:=h.j x a y d r
  exact⟨⟨by simp only;omega,by simp only;omega⟩,λ_=>⟨x,by simp only[B3];exact I,m⟩⟩
structure nF (fs:List Src.CFn) (d:fZ) (done:Nat->Prop) (al:Nat):Prop where
 c:d.code.length<=al
 hl:d.holes.length<=al
 h:∀x∈d.holes,0<=x.1/\x.1<(d.code.length:Int)/\MO fs x.2
 pl:d.pls.length=fs.length
 el:d.ent.length=fs.length
 p:∀f,done f->∃x l,fs[f]?=some x/\d.pls[f]?=some l/\l.length=(bW x).length
def kr{d:fZ}{f:Nat}{ds:List Int}(I:fs[f]?=S x)(hd:P.depths[f]?=S ds):dH fs P d f =
  ⟨d.code++(eM fs P f (bW x) ds (z (bW x)) (z d.code)).code,d.holes++(eM fs P f (bW x) ds (z (bW x)) (z d.code)).holes,d.ent.set f (z d.code),d.pls.set f (placesOf fs P f (bW x) ds (z d.code))⟩:=by
 unfold dH;rw[I,hd];rfl
def nF.add{ar:Nat}(H:qy fs P ar){d:fZ}{done:Nat->Prop}{al f:Nat}(h:nF fs d done al)(hf:f<z fs):nF fs (dH fs P d f) (λi=>done i\/i=f) (al+szF fs ar f):=by
 obtain⟨x,I⟩:∃x,fs[f]?=S x:=⟨_,v8 hf⟩
 obtain⟨ds,hd⟩:∃ds,P.depths[f]?=S ds:=⟨_,v8 (by rw[H.dl];exact hf)⟩
 obtain⟨f1,r,g⟩:=H.fits I ds (z (bW x)) (z d.code);have az:szF fs ar f=7+z (bW x)*(2*ar+5):=by unfold szF;rw[I]
 have s:z (bW x)<=z (bW x)*(2*ar+5):=Sc _ a7;rw[kr I hd,az];refine⟨?_,?_,λy a=>?_,?_,?_,λi j=>?_⟩
 .simp only[j7];have:=h.c;omega
 .simp only[j7];have:=h.hl;omega
 .simp only[C4,j7]at a|-
  rcases a with a|a
  .obtain⟨b,k,E⟩:=h.h y a
   exact⟨b,a7,E⟩
  .obtain⟨b,k,E⟩:=g y a
   exact⟨a7,a7,E⟩
 .simp only[C2];exact h.pl
 .simp only[C2];exact h.el
 .simp only
  by_cases e:i=f
  .subst e
   exact⟨x,_,I,by rw[B9,l8 rfl,l8 (by rw[h.pl];exact hf)],by simp[placesOf]⟩
  .obtain⟨n,l,m,o,q⟩:=h.p i (j.resolve_right e)
   exact⟨n,l,m,by rw[B9,j8 (B8 e)];exact o,q⟩
def sX{fs:List Src.CFn}{P:Plan}{ar:Nat}(H:qy fs P ar):∀k,k<=z fs-1->nF fs (pg fs P k) (λi=>i<k\/i=z fs-1) (1+szF fs ar (z fs-1)+rz fs ar k)
 |0,_=>by
   have g:=H.n;have d:nF fs ⟨[(1,15,0,1)],[],List.replicate (z fs) 0,List.replicate (z fs) []⟩ (λ_=>False) 1:=⟨a8,a8,(λ_ h=>by cases h),a8,a8,(λ_ h=>False.elim h)⟩
   have U:=d.add H (f:=z fs-1) a7;refine⟨U.c,U.hl,U.h,U.pl,U.el,λi a=>U.p i (.inr (a.resolve_left a7))⟩
 |k+1,j=>by
   have b:=(sX H k a7).add H (f:=k) a7;refine⟨by have:=b.c;rw[rz];exact C8 this a7,by have:=b.hl;rw[rz];exact C8 this a7,b.h,b.pl,b.el,λi a=>b.p i ?_⟩;rcases a with a|a
   .by_cases e:i=k
    .exact .inr e
    .exact .inl (.inl a7)
   .exact .inl (.inr a)
def DQ(fs:List Src.CFn)(ar:Nat){k:Nat}(c:0<z fs)(a:k<=z fs-1):szF fs ar (z fs-1)+rz fs ar k<=rz fs ar (z fs):=by
 obtain⟨m,b⟩:∃m,z fs=m+1:=⟨z fs-1,a7⟩
 have U:=DP fs ar a;rw[b]at U|-;rw[show m+1-1=m by omega]at U|-;rw[rz];omega
end
end
section
open Go.Lower (Ins Code Sig codeOf takes next Inv left Good OkI fC)
open Go.Src (ab cR mH kN wF ai sigs aX dX mZ aD CFn)
section
def rA(n:Nat):∀(l:List (List Int))(k:Nat)(w:Int),(∀o∈l,0<=deepest o 0)->w<=(dk n k l w).2.2/\∀x∈(dk n k l w).2.1,w<=x/\x<=(dk n k l w).2.2
 |[],k,w,_=>⟨C5 _,λ_ h=>by cases h⟩
 |o::l,k,w,h=>by
   have c:=h o a8;simp only[dk];have a:=rA n l (k+1) ((if k+1=n then w else w+1)+deepest o 0) (λo ho=>h o VW);have b:w<=(if k+1=n then w else w+1):=by split<;>omega
   refine⟨a7,λx I=>?_⟩;rcases A3.1 I with rfl|I
   .exact⟨b,a7⟩
   .have:=a.2 x I
    exact⟨a7,a7⟩
def fO:∀(l:List Int)(d:Int),d<=deepest l d
 |[],d=>C5 _
 |a::l,d=>by rw[qx];have:=fO l (max d a);omega
def MP:∀(l:List Asm.Str)(m:Src.Pl)(w:Int),w<=(Src.gV l m w).2
 |[],m,w=>C5 _
 |n::l,m,w=>by rw[Src.gV];have:=MP l ((n,w,0)::m) (w+1);omega
def MQ:∀(l:List (Asm.Str×Int))(m:Src.Pl)(w:Int),(∀a∈l,0<=a.2)->w<=(Src.gA l m w).2
 |[],m,w,_=>C5 _
 |n::l,m,w,h=>by rw[Src.gA];have:=MQ l ((n.1,w,n.2)::m) (w+n.2) (λa b=>h a (by simp[b]));have:=h n a8;omega
variable{p:Src.Prog}{x:CFn}
def AR(h:aX p=0):0<=(ai p).2:=by
 obtain⟨V,_,_⟩:=Src.zU h;unfold dX at V;simp only[s5,y8]at V
 have b:∀a∈p.arrays,0<=a.2:=λa c=>by
  have:=V.2.1 a c;exact xc
 unfold ai;have U:=MP p.vars [] 0;have d:=MQ p.arrays (Src.gV p.vars [] 0).1 (Src.gV p.vars [] 0).2 b;omega
def MR{k:Nat}(I:(ab p).funcs[k]?=S x):∃f w,p.funcs[k]?=S f/\(ai p).2<=w/\x=Src.lR (ai p).1 f w/\w+(z f.params+z f.locals)<=(ab p).words:=by
 unfold ab at I|-;simp only at I|-
 have c:k<z p.funcs:=by
  have:=(l5.1 I).1;rw[kN]at this;exact this
 obtain⟨f,a⟩:∃f,p.funcs[k]?=S f:=⟨_,v8 c⟩
 obtain⟨G,U,b,d⟩:=mH (ai p).1 p.funcs (ai p).2 k f a;rw[I]at b;exact⟨f,G,a,U,G6 b,d⟩
def FS(I:x∈(ab p).funcs):∃f w,f∈p.funcs/\(ai p).2<=w/\x=Src.lR (ai p).1 f w/\w+(z f.params+z f.locals)<=(ab p).words:=by
 obtain⟨k,a⟩:=D6 I;obtain⟨f,w,U,b⟩:=MR a;exact⟨f,w,l6 U,b⟩
def xl(p:Src.Prog):z (ab p).funcs=z p.funcs:=kN _ _ _
def FT(p:Src.Prog):(ab p).funcs.map (λx=>(x.params,x.word))=sigs p.funcs:=by
 apply M5;intro k;unfold sigs;rw[x8,x8];cases I:(ab p).funcs[k]? with
 |none=>
   have:z p.funcs<=k:=by rw[<-xl];exact N0.1 I
   rw[E5 this];rfl
 |some x=>
   obtain⟨f,w,U,_,rfl,_⟩:=MR I;rw[U];rfl
def rB(h:aX p=0)(I:x∈(ab p).funcs):
  let E:=λk=>((bW x)[k]?).map Prod.snd
  E 0=S 0/\Lower.Good (sigs p.funcs) x.word E 0 (bW x):=by
 obtain⟨k,a⟩:=D6 I;exact Lower.zT (Src.BL h a)
def FU(h:aX p=0)(I:x∈(ab p).funcs){y:Ins×Int}(f:y∈bW x):(1<=y.1.op/\y.1.op<=13)/\(y.1.op=10->∃(c:Nat)(X:CFn),y.1.a=(c:Int)/\(ab p).funcs[c]?=S X)/\(y.1.op=8\/y.1.op=9->0<=y.1.a/\y.1.a<(z (bW x):Int)):=by
 obtain⟨k,g⟩:=D6 I;obtain⟨i,d⟩:=D6 f;obtain⟨t,q,b,_⟩:=fC (rB h I).2 d;refine⟨by have:=rv b;omega,λo=>?_,λr=>Lower.LM (Src.BL h g) d r⟩;by_cases j:y.1.a<0
 .simp[takes,o,j]at b
 .obtain⟨c,Z⟩:∃c:Nat,y.1.a=(c:Int):=⟨y.1.a.toNat,a7⟩
  cases e:(sigs p.funcs)[c]? with
  |none=>simp[takes,o,Z,e]at b
  |some s=>
    have hl:c<z (ab p).funcs:=by
     have:=(l5.1 e).1;rw[<-FT,j6]at this;exact this
    exact⟨c,_,Z,v8 hl⟩
def Od{f:Nat}{ds:List Int}(hd:(cK (ab p).words (ab p).funcs).depths[f]?=S ds):∃x,(ab p).funcs[f]?=S x/\ds=bq (bW x):=by
 unfold cK at hd;simp only[x8]at hd;obtain⟨x,U,a⟩:=G1.1 hd;exact⟨x,U,a.symm⟩
def wb(h:aX p=0)(I:x∈(ab p).funcs):z (bq (bW x))=z (bW x)/\∀d∈bq (bW x),-1<=d/\d<=(z (bW x):Int):=by
 obtain⟨b,c⟩:=rB h I;obtain⟨a,_⟩:=ka (λ_=>rfl) b c;refine⟨a.inv.1,λd hd=>?_⟩;obtain⟨k,e⟩:=D6 hd;have:=a.le d hd;rcases a.inv.2.1 k d e with h|⟨_,h⟩<;>omega
def MS(h:aX p=0){ar:Nat}(b:∀f∈p.funcs,z f.params<=ar):qy (ab p).funcs (cK (ab p).words (ab p).funcs) ar:=by
 obtain⟨V,_,_⟩:=Src.zU h;have hl:1<=z p.funcs:=by unfold dX at V;simp at V;exact V.1.1.1
 refine⟨by rw[xl];exact hl,by simp[cK],λx I y a=>(FU h I a).2.1,λx I y a=>(FU h I a).2.2,λx I=>?_⟩;obtain⟨f,w,U,_,rfl,_⟩:=FS I;simp only[Src.lR,B3];exact b f U
def pG{A:Type}(f g:A->Nat)(h:∀x,f x<=6*g x+2):∀l:List A,(l.map f).sum<=6*(l.map g).sum+2*z l
 |[]=>by simp
 |a::l=>by
   have:=pG f g h l;have:=h a;simp only[l9,D9,j9];omega
def RM{ar:Nat}(hl:z p.funcs<=64)(b:(p.funcs.map λf=>aD f.body).sum<=ar):rz (ab p).funcs ar (z (ab p).funcs)<=448+(6*ar+128)*(2*ar+5):=by
 have U:=xk (ab p).funcs ar (z (ab p).funcs) (l7 _);rw[H8]at U;have c:=pG (λx:CFn=>z (bW x)) (λx=>Src.mZ x.body) (λx=>Src.QD x.word x.body) (ab p).funcs;have d:((ab p).funcs.map λx=>Src.mZ x.body).sum=(p.funcs.map λf=>aD f.body).sum:=Src.zX _ _ _;have e:=xl p;have a:((ab p).funcs.map λx=>z (bW x)).sum<=6*ar+128:=a7;have:=K9 (2*ar+5) a;omega
end
end
end Go.Emit
