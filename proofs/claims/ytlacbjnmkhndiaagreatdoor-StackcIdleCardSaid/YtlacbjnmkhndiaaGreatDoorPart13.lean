/- A part of the proof; no conditions. -/
import Derived.Test.YtlacbjnmkhndiaaGreatDoorPart12
import Derived.Shelf.Strconv.Itoa3
import Derived.Test.YtlacbjnmkhndiaaGreatDoorProg
import Derived.WalkKit
import Derived.Lib.Builder
import Derived.Shelf.Strings.Repeat
set_option linter.unusedSimpArgs false
set_option linter.unusedVariables false
set_option linter.defProp false
open List renaming length -> z
open Option renaming some -> S, none -> N
open Bool renaming true -> T, false -> F
set_option maxHeartbeats 64000000
set_option maxRecDepth 100000
namespace Go.Proofs.YtlacbjnmkhndiaaGreatDoor.Low
section
open Go Go.Am Go.Lower
attribute[local congr]ite_cc
section
def AX{s:St}{cs:List D}(h:cs.all (λx=>match x with|.nsl=>F|_=>T)=T):lW s (.agg (cs.map .d)) (.agg (cs.map .d)):=by
 refine⟨cs,a8,λi c Z=>?_,rfl⟩;rw[w9]at Z;cases a:cs[i]? with
 |none=>rw[a]at Z;cases Z
 |some x=>
   rw[a]at Z;cases Z;refine⟨x,rfl,?_⟩;have:=x9.1 h x (l7 a);have b:iC x=x:=by cases x<;>simp_all[iC]
   have e:=Frz.d (s:=s) x
   rwa [b]at e
def Jw(n k:Nat)(h:k<n):(List.replicate k (-1:Int)++List.replicate (n-k) 0).set k (-1)=List.replicate (k+1) (-1)++List.replicate (n-(k+1)) 0:=by
 rw[J0 _ _ a8,G4,Lz];obtain⟨m,a⟩:∃m,n-k=m+1:=⟨n-k-1,a7⟩
 rw[a,show n-(k+1)=m by omega,F9,H2,List.replicate_succ' (n:=k),v7];rfl
variable{E:Nat->Option Int}{word:Bool}
def Gy{n:Nat}(d:0<n)(hT:E 0=S 0):Inv E n ((List.replicate n (-1:Int)).set 0 0) [0]/\left ((List.replicate n (-1:Int)).set 0 0)+1=n/\(∀v∈(List.replicate n (-1:Int)).set 0 0,v<=0):=by
 obtain⟨m,rfl⟩:∃m,n=m+1:=⟨n-1,a7⟩
 rw[F9,H2];refine⟨⟨a8,λk v h=>?_,λa b=>?_⟩,?_,λv c=>?_⟩
 .cases k with
  |zero=>simp at h;subst h;exact .inr ⟨hT,C7 _⟩
  |succ k=>rw[u7,I2]at h;split at h<;>simp at h;exact .inl h.symm
 .obtain rfl:a=0:=by simpa using b
  exact⟨0,rfl,hT,C7 _⟩
 .unfold left
  rw[U0,Vh];simp
 .rcases A0.1 c with rfl|h
  .exact C7 _
  .have:=F6 h;omega
def px{A:Type}(n:Nat)(x:A):(List.replicate n [x]).flatten=List.replicate n x:=by
 induction n with
 |zero=>rfl
 |succ n a=>rw[F9,E7,a,F9];rfl
def AY(x:Ins):z (bU x)=4:=rfl
def nI(l:List Nat):List Int:=l.map λk:Nat=>(k:Int)
def AZ{A:Type}(l:List A):l=[]\/∃b a,l=b++[a]:=by
 exact Xx
structure Mid (E:Nat->Option Int) (n:Nat) (out:List Int) (c:List Nat):Prop where
 inv:Inv E n out c
 le:∀v∈out,v+left out<=n
def Mid.popL{n:Nat}{out:List Int}{a:Nat}{c:List Nat}(h:Mid E n out (c++[a])):Mid E n out c/\∃v,out[a]?=S v/\E a=S v/\0<=v/\v+left out<=n:=by
 obtain⟨v,U,d,e⟩:=h.inv.2.2 a a8;exact⟨⟨⟨h.inv.1,h.inv.2.1,λb hb=>h.inv.2.2 b ZU⟩,h.le⟩,v,U,d,e,h.le v (l7 U)⟩
def Mid.find{E:Nat->Option Int}{n k:Nat}{out:List Int}{c:List Nat}{b v d:Int}(h:Mid E n out c)(hT:E k=S b)(a:0<=b)(e:out[k]?=S v)(f:v<0)(hd:b<=d+1)(i:d+left out<=n):
  Mid E n (out.set k b) (c++[k])/\left (out.set k b)+z (c++[k])=left out+z c/\d+left (out.set k b)<=n:=by
 obtain⟨U,g⟩:=h.inv.find hT a e f;have Z:=mr e f a;refine⟨⟨U,λu L=>?_⟩,g,a7⟩;rcases J6 L with L|rfl
 .have:=h.le u L;omega
 .omega
def Jx{ps:Sig}{c:Lower.Code}(h:Lower.Good ps word E 0 c){i:Nat}{x:Ins}{d:Int}(a:c[i]?=S (x,d)):OkI ps word E i x d:=by
 have:=gu h a
 rwa [C5]at this
def Nn{ps:Sig}{x:Ins}{t p:Int}(h:takes ps word x=S (t,p)):0<=p/\p<=1:=by
 rcases AW h with U|U|U|U|U|U|U|U|U|U|U|U|U
 all_goals try (obtain⟨rfl,rfl⟩:_=t/\_=p:=by simpa[takes,U]using h)
 all_goals try (exact⟨by decide,by decide⟩)
 .simp only[takes,U]at h
  simp at h;obtain⟨_,a,⟨_,_,b⟩|⟨_,_,b⟩⟩:=h<;>omega
 .cases word<;>simp[takes,U]at h<;>omega
def Jy{w:Int}{fs:List Src.CFn}{f:Nat}{Z:Src.CFn}(hf:fs[f]?=S Z){A:Lower.Code}(ch:codeOf Z.word Z.body=A)(hl:z A<=100000000)(hT:∀k,E k=(A[k]?).map Prod.snd)(h0:E 0=S 0)(hg:Lower.Good (Nl fs) Z.word E 0 A):
  aJ Tryz.prog 72 [jK w fs,ae f] (λr=>(Inv E (z A) (Emit.bG A) []/\∀v∈Emit.bG A,v<=z A)/\r=.tup [.one (.d (ksD (Emit.bG A))),bv T]):=by
 refine hdP Tryz.func72 rfl [4,5] λg=>?_;have b0:f<z fs:=(l6.1 hf).1;have eg:¬z fs<=f:=a7
 have hn:0<z A:=by
  cases hq:A with
  |nil=>rw[hT]at h0;simp[hq]at h0
  |cons=>simp
 have bk:¬(z A:Int)=0:=a7;have ca:¬(f:Int)<0:=a7;have eh:¬(z fs:Int)<=(f:Int):=a7;have ek:(f:Int)<(z fs:Int):=a7;have eo:(0:Int)<=(f:Int):=a7
 have et:∀k v,E k=S v->k<z A:=λk v h=>by
  rw[hT]at h;cases hq:A[k]? with
  |none=>rw[hq]at h;cases h
  |some=>exact(l6.1 hq).1
 unfold jK;simp only[go_sem,hf,b0,eg,ca,eo,eh,ek,bk,sfD,ch,j7];refine⟨l8 _,a7,a7,?_⟩
 refine eI (λn s=>∃k:Nat,n+k=z A/\s.f 1=ae f/\s.f 2=aj 2 (s.gen 2) 0/\s.f 6=.one (.d (uH A))/\s.f 7=dL 42 (s.gen 42) 1 0 (z A)/\s.f 44=ae (z A)/\s.f 45=ae k/\
  s.obj 2=S [ag w,aq (fs.map sfD)]/\s.obj 42=S (icells (List.replicate k (-1)++List.replicate (z A-k) 0))/\∀j,200<=j->s.obj j=N) (z A) ?_ ?_
 .refine⟨0,rfl,?_⟩
  simp only[go_sem];refine⟨?_,λj hj=>nu⟩;rw[px,icells,A8,P6,P6,L6,A7]
 clear g;rintro n g gn ob ⟨k,hk,f1,f2,f6,f7,cx,c8,o2,i,ar⟩;simp only at f1 f2 f6 f7 cx c8 o2 i ar;have hw:=ah (k:=k) a7;have cm:(icells (List.replicate k (-1)++List.replicate (z A-k) 0)).length=z A:=by rw[cP,j8,G4,G4];omega
 by_cases af:k<z A
 .have Q:(k:Int)<(z A:Int):=a7
  have bf:(0:Int)<=(k:Int):=a7;simp only[go_sem,f1,f2,f6,f7,cx,c8,o2,i,Q,bf,af,cm,hw];refine⟨a7,?_⟩;refine ee (n-1) a7 ⟨k+1,a7,?_⟩;simp only[go_sem,f1,f2,f6,f7,cx,o2,i,hw,setAt];exact⟨by rw[jk,Jw (z A) k af],λj hj=>nt (ar j hj)⟩
 have bs:k=z A:=a7;subst bs;have Q:¬(z A:Int)<(z A:Int):=a7;rw[Lz,L6,s9]at i;simp only[go_sem,f1,f2,f6,f7,cx,c8,o2,i,Q,cP,G4,hn];refine⟨a7,a7,?_⟩;refine DU _ (eP (t:=9) (o:=9) (b:=200) (j:=0) (sz:=1) (off:=0) (cells:=[.d .nsl]) XD XD rfl b9) ?_;simp only[St.claimAt];refine cJ rfl (by simp only[go_sem];exact(Jv (B:=300) (E:=9) (D:=200) (l:=[]) (x:=0) (λj hj=>nt (ar j a7)) b9 b9 b9 ⟨by simp[upd],[],by simp[upd,icells]⟩ XL a8).toR) ?_;rintro _ g2 bo ⟨pl,q1,q2⟩;have e2:=q1 2 b9;have cz:=q1 42 b9;have e9:=q1 9 b9;have p2:=q2 2 b9 b9;have ad:=q2 42 b9 b9;simp[upd]at e2 cz e9 p2 ad;have b3:∀j,300<=j->bo j=N:=λj hj=>by rw[q2 j a7 a7];exact nt (ar j a7)
 obtain⟨s1,s2,s3⟩:=Gy (E:=E) hn h0;simp only[go_sem];refine eI (λm s=>∃(out:List Int)(c:List Nat),m=left out+z c/\m<=z A/\Mid E (z A) out c/\Emit.search A (left out+z c) (out,c)=Emit.bG A/\s.f 1=ae f/\s.f 2=aj 2 (s.gen 2) 0/\s.f 6=.one (.d (uH A))/\s.f 7=dL 42 (s.gen 42) 1 0 (z A)/\s.f 9=aj 9 (s.gen 9) 0/\s.obj 2=S [ag w,aq (fs.map sfD)]/\s.obj 42=S (icells out)/\uc 9 200 (nI c) s.gen s.obj/\(∀j,300<=j->s.obj j=N)) (z A) ?_ ?_
 .refine⟨(List.replicate (z A) (-1)).set 0 0,[0],by rw[l4,l5];exact s2.symm,l8 _,⟨s1,λv hv=>by have:=s3 v hv;omega⟩,by rw[l4,l5,s2];rfl,?_⟩
  simp only[go_sem,f1,f2,f6,f7,e2,cz,e9,p2,ad,o2];exact⟨jk _ _ _,pl,b3⟩
 clear f1 f2 f6 f7 cx c8 o2 i hk af hw s1 s2 s3 ar b3 e2 cz e9 p2 ad pl q1 q2 cm Q;clear n g gn ob g2 bo;rintro n g gn ob ⟨out,c,hm,c1,G,P,f1,f2,f6,f7,f9,o2,i,pl,ar⟩;simp only at f1 f2 f6 f7 f9 o2 i pl ar;have cb:z (nI c)=z c:=by simp[nI]
 simp only[go_sem,f9];refine cJ rfl (by simp only[go_sem,f9];exact(Rt (B:=300) (E:=9) (D:=200) (l:=nI c) ar b9 pl rfl).toR) ?_;rintro _ g2 bo ⟨rfl,rfl,rfl⟩;rw[cb];rcases AZ c with rfl|⟨c,a,rfl⟩
 .rw[Emit.CL]at P
  subst P;simp only[go_sem,f7,l5];refine⟨_,⟨_,eu (s:=⟨_,_,_⟩) rfl (Emit.bG A) (λk=>[.int .i64 k]) i ?_ (λ_ _ y hy=>by simp at hy;subst hy;rfl) (λ_ _=>rfl) G.inv.1,rfl⟩,⟨G.inv,λv hv=>by have:=G.le v hv;omega⟩,rfl⟩;simp only[icells,s6,x7];clear i G hm;generalize Emit.bG A=out
  induction out with
  |nil=>rfl
  |cons b out ih=>rw[s6,G8,ih];rfl
 obtain⟨c2,v,hv,c7,b1,b4⟩:=G.popL;have bl:=et a v c7;have bn:=c7;rw[hT]at bn;obtain⟨⟨x,v'⟩,I,d'⟩:=G5.1 bn;obtain rfl:v'=v:=d';obtain⟨t,p,an,J,ef,dh,av⟩:=Jx hg I;have az:(0:Int)<((z c+1:Nat):Int):=a7;have b2:nI (c++[a])=nI c++[(a:Int)]:=by simp[nI]
 rw[b2]at pl;have bz:z (c++[a])=z c+1:=a8;rw[bz];have Y:z c<=1000000000:=by rw[bz]at hm;omega
 have ds:Emit.search A (n-1) (Emit.visit A ((next x a).drop 0) (out,c))=Emit.bG A:=by
  rw[bz,<-C2,Emit.Ar A _ out c a I]at P;rw[hm,bz];exact P
 have b6:z (nI c)=z c:=by simp[nI]
 simp only[go_sem,az,f9];refine cJ rfl (by simp only[go_sem,f9];exact(Wg (B:=300) (E:=9) (D:=200) (l:=nI c) (x:=(a:Int)) ar b9 b9 b9 pl rfl a7).toR) ?_;rintro _ g3 b7 ⟨rfl,c',rfl,q3⟩;have p2:=q3 2 b9;have ad:=q3 42 b9;rw[o2]at p2;rw[i]at ad;have b8:∀j,300<=j->b7 j=N:=λj hj=>by rw[q3 j a7];exact ar j hj
 simp only[go_sem];refine dr aO mixed c9 ?_;have W:=G.inv.1;have X:(0:Int)<=(a:Int):=a7;have cf:(a:Int)<(z A:Int):=a7;have e4:a<z out:=a7;simp only[go_sem,f1,f2,f6,f7,p2,ad,bl,I,X,cf,j7,AY,hv,jj,cP,W];have dc:v'<=1000000000:=a7;refine bc rfl (Ju hf an J ef dc dh) ⟨_,_,rfl,AX (cs:=[.int .i64 w,.sl (fs.map sfD)]) rfl,_,_,rfl,⟨_,.d _,rfl⟩,_,_,rfl,AX (cs:=bU x) rfl,_,_,rfl,⟨_,.d _,rfl⟩,rfl⟩ rfl ?_;have hp:=Nn an;obtain⟨V,O⟩:∃q:Int,(if x.op=11 then 0 else v'-t+p)=q:=⟨_,rfl⟩
 rw[O]
 have ev:∀y∈next x a,∃k':Nat,y=(k':Int)/\E k'=S V/\0<=V/\V<=v'+1:=λy hy=>by
  obtain⟨k',U,h2⟩:=av y hy
  have H:¬x.op=11:=by
   intro e;unfold next at hy;rw[j9 a7,j9 a7,l9 e]at hy;cases hy
  rw[j9 H]at O;exact⟨k',U,by rw[h2,O],a7,a7⟩
 simp only[go_sem,f1,f2,f6,f7,p2,ad,bl,I,X,cf,j7,AY];refine gw rfl (Rr (at':=a) (x:=x) a7) j4 ?_;rintro _ rfl;simp only[go_sem,j7,ksD];refine eI (λm s=>∃(out:List Int)(c:List Nat)(j:Nat),m+j=z (next x a)/\left out+z c+1=n/\Mid E (z A) out c/\Emit.search A (n-1) (Emit.visit A ((next x a).drop j) (out,c))=Emit.bG A/\v'+left out<=z A/\s.f 11=ae V/\s.f 79=.one (.d (ksD (next x a)))/\s.f 80=ae (z (next x a))/\s.f 81=ae j/\s.f 1=ae f/\s.f 2=aj 2 (s.gen 2) 0/\s.f 6=.one (.d (uH A))/\s.f 7=dL 42 (s.gen 42) 1 0 (z A)/\s.f 9=aj 9 (s.gen 9) 0/\s.obj 2=S [ag w,aq (fs.map sfD)]/\s.obj 42=S (icells out)/\uc 9 200 (nI c) s.gen s.obj/\(∀j,300<=j->s.obj j=N)) (z (next x a)) ?_ ?_
 .refine⟨out,c,0,rfl,by rw[hm,bz];omega,c2,ds,b4,?_⟩
  simp only[go_sem,f1,f2,f6,f7,f9,p2,ad,ksD];exact⟨c',b8⟩
 clear f1 f2 f6 f7 f9 o2 i pl c' p2 ad q3 ar b8 hm G c2 P ds hv b4 W e4 bz b2 cb b6 Y az dc;clear g g3 bo b7 out c;rintro m g gn ob ⟨out,c,j,hj,hm,G,P,b4,a6,b',cu,c4,f1,f2,f6,f7,f9,o2,i,pl,ar⟩;simp only at a6 b' cu c4 f1 f2 f6 f7 f9 o2 i pl ar;have W:=G.inv.1
 have c0:z (next x a)<=2:=by
  unfold next;by_cases e1:x.op=8
  .simp[e1]
  .by_cases e2:x.op=9
   .simp[e2]
   .by_cases e3:x.op=11<;>simp[e1,e2,e3]
 have cc:=ah (k:=j) a7;by_cases af:j<z (next x a)
 case neg=>
  have bd:¬(j:Int)<(z (next x a):Int):=a7;simp only[go_sem,b',cu,c4,bd,ksD];refine ee (n-1) a7 ⟨out,c,a7,a7,G,?_,?_⟩
  .rw[y9 a7]at P
   rw[show left out+z c=n-1 by omega];exact P
  simp only[go_sem,f1,f2,f6,f7,f9,o2,i];exact⟨pl,ar⟩
 have bd:(j:Int)<(z (next x a):Int):=a7;have cv:(0:Int)<=(j:Int):=a7;obtain⟨y,hy⟩:=getq af;obtain⟨k,rfl,dd,dx,e0⟩:=ev y (l7 hy);rw[C3 af,show (next x a)[j]=(k:Int)from(l6.1 hy).2]at P;have b5:=et k _ dd;have K:¬z A<=k:=a7;have al:¬(z A:Int)<=(k:Int):=a7;have a1:(k:Int)<(z A:Int):=a7;have dz:(0:Int)<=(k:Int):=a7;have bf:¬(k:Int)<0:=a7;obtain⟨u,L⟩:=getq (show k<z out by omega);rcases G.inv.seen dd L with c6|a'
 .have ec:¬0<=u:=a7
  obtain⟨m1,m2,m3⟩:=G.find dd dx L c6 e0 b4;rw[Emit.vE (u:=u) (d:=V) (by rw[B6];exact L) c6 (by rw[B6,<-hT];exact dd),B6]at P;simp only[go_sem,f1,f2,f6,f7,f9,a6,b',cu,c4,o2,i,af,bd,cv,hy,b5,K,al,a1,dz,bf,L,c6,ec,W,j7,jj,cP,ksD,setAt];refine⟨a7,?_⟩;have b3:∀j,300<=j->upd ob 42 (S (icells (out.set k V))) j=N:=λj hj=>by simp only[upd];rw[j9 a7];exact ar j hj
  have e5:uc 9 200 (nI c) gn (upd ob 42 (S (icells (out.set k V)))):=⟨by simp[upd];exact pl.t,by simp[upd];exact pl.d⟩
  rw[jk];refine cJ rfl (by simp only[go_sem,f9];exact(Jv (B:=300) (E:=9) (D:=200) (l:=nI c) (x:=(k:Int)) b3 b9 b9 b9 e5 rfl (by simp[nI];omega)).toR) ?_;rintro _ g2 bo ⟨c',q1,q2⟩;have e2:=q1 2 b9;have cz:=q1 42 b9;have e9:=q1 9 b9;have p2:=q2 2 b9 b9;have ad:=q2 42 b9 b9;simp[upd]at p2 ad;rw[o2]at p2;simp only[go_sem,c4,cc];refine ee (m-1) a7 ⟨out.set k V,c++[k],j+1,a7,a7,m1,P,m3,?_⟩;simp only[go_sem,f1,f2,f6,f7,f9,a6,b',cu,e2,cz,e9,p2,ad,ksD];exact⟨by rw[show nI (c++[k])=nI c++[(k:Int)] by simp[nI]];exact c',λj hj=>by rw[q2 j a7 a7];exact b3 j hj⟩
 .subst a'
  have cy:¬u<0:=a7;rw[Emit.vF (u:=u) (by rw[B6];exact L) cy]at P;simp only[go_sem,f1,f2,f6,f7,f9,a6,b',cu,c4,o2,i,af,bd,cv,hy,b5,K,al,a1,dz,bf,L,dx,cy,W,j7,jj,cP,ksD,cc];refine ee (m-1) a7 ⟨out,c,j+1,a7,hm,G,P,b4,?_⟩;simp only[go_sem,f1,f2,f6,f7,f9,a6,b',cu,o2,i,ksD];exact⟨pl,ar⟩
end
end
end Go.Proofs.YtlacbjnmkhndiaaGreatDoor.Low
namespace Go.Emit
section
open Go.Lower (Ins Code Sig codeOf takes next Inv left Good OkI gu)
section
variable{ps:Sig}{word:Bool}
def sR{x:Ins}{r:Int×Int}(h:takes ps word x=S r):x.op=1\/x.op=2\/x.op=3\/x.op=4\/x.op=5\/x.op=6\/x.op=7\/x.op=8\/x.op=9\/x.op=10\/x.op=11\/x.op=12\/x.op=13:=by
 unfold takes at h;by_cases U:x.op=1\/x.op=2\/x.op=12
 .omega
 exact oL
def Ik{x:Ins}{t p:Int}(h:takes ps word x=S (t,p)):0<=p/\p<=1:=by
 rcases sR h with U|U|U|U|U|U|U|U|U|U|U|U|U
 all_goals try (obtain⟨rfl,rfl⟩:_=t/\_=p:=by simpa[takes,U]using h)
 all_goals try (exact⟨by decide,by decide⟩)
 .simp only[takes,U]at h
  simp at h;obtain⟨_,a,⟨_,_,b⟩|⟨_,_,b⟩⟩:=h<;>omega
 .cases word<;>simp[takes,U]at h<;>omega
structure vI (E:Nat->Option Int) (A:Lower.Code) (out:List Int) (c:List Nat):Prop where
 inv:Inv E A.length out c
 le:∀v∈out,v+left out<=A.length
 clo:∀(k:Nat)(v:Int),out[k]?=some v->0<=v->k∈c\/∀x d,A[k]?=some (x,d)->∀y∈next x k,∃u,out[y.toNat]?=some u/\0<=u
def vI.find{E:Nat->Option Int}{A:Lower.Code}{k:Nat}{out:List Int}{c:List Nat}{b v d:Int}(h:vI E A out c)(hT:E k=S b)(f:0<=b)(g:out[k]?=S v)(m:v<0)(hd:b<=d+1)(B:d+left out<=z A):
  vI E A (out.set k b) (c++[k])/\left (out.set k b)+z (c++[k])=left out+z c/\d+left (out.set k b)<=z A:=by
 obtain⟨U,o⟩:=h.inv.find hT f g m;have Z:=Lower.mr g m f;have p:=(l6.1 g).1;refine⟨⟨U,λu L=>?_,λj u n L=>?_⟩,o,a7⟩
 .rcases J6 L with L|rfl
  .have:=h.le u L;omega
  .omega
 .have a:∀(i:Nat)(u:Int),out[i]?=S u->0<=u->∃l,(out.set k b)[i]?=S l/\0<=l:=λi u r L=>by
   by_cases e:k=i
   .subst e;exact⟨b,by rw[C0,l9 rfl,l9 p],f⟩
   .exact⟨u,by rw[C0,j9 e];exact r,L⟩
  by_cases e:k=j
  .subst e;exact .inl a8
  .rw[C0,j9 e]at n
   rcases h.clo j u n L with q|q
   .exact .inl (by simp[q])
   .refine .inr λx d I y s=>?_
    obtain⟨l,t,w⟩:=q x d I y s;exact a _ _ t w
def sS{E:Nat->Option Int}{A:Lower.Code}(hT:∀k,E k=(A[k]?).map Prod.snd){v:Int}:∀(l:List Int)(out:List Int)(c:List Nat),vI E A out c->(∀y∈l,∃(k:Nat)(V:Int),y=(k:Int)/\E k=S V/\0<=V/\V<=v+1)->v+left out<=z A->
  vI E A (visit A l (out,c)).1 (visit A l (out,c)).2/\left (visit A l (out,c)).1+z (visit A l (out,c)).2=left out+z c/\(∀(i:Nat)(u:Int),out[i]?=S u->0<=u->(visit A l (out,c)).1[i]?=S u)/\(∀y∈l,∃u,(visit A l (out,c)).1[y.toNat]?=S u/\0<=u)/\(∀k∈c,k∈(visit A l (out,c)).2)
 |[],out,c,h,_,_=>⟨h,rfl,λ_ _ q _=>q,λ_ q=>(by cases q),λ_ q=>q⟩
 |y::l,out,c,h,hl,B=>by
   obtain⟨k,V,rfl,f,n,U⟩:=hl y a8
   have b5:k<z out:=by
    rw[h.inv.1];rw[hT]at f;rcases U3 k (z A)with q|q
    .exact q
    .rw[F3 q]at f;cases f
   obtain⟨u,L⟩:∃u,out[k]?=S u:=⟨_,v8 b5⟩
   have x:∀y∈l,∃(k:Nat)(V:Int),y=(k:Int)/\E k=S V/\0<=V/\V<=v+1:=λy a=>hl y (by simp[a]);by_cases o:u<0
   .obtain⟨G,H,I⟩:=h.find f n L o U B
    rw[vE (u:=u) (d:=V) (by rw[B6];exact L) o (by rw[B6,<-hT];exact f),B6];obtain⟨r,s,g,t,w⟩:=sS hT l (out.set k V) (c++[k]) G x I
    have keep:∀(i:Nat)(b:Int),out[i]?=S b->0<=b->(out.set k V)[i]?=S b:=λi b m p=>by
     have:k≠i:=λe=>by subst e;rw[m]at L;cases L;omega
     rw[C0,j9 this];exact m
    refine⟨r,s.trans H,λi b m p=>g i b (keep i b m p) p,λy a=>?_,λj J=>w j (by simp[J])⟩;rcases A0.1 a with rfl|a
    .exact⟨V,g _ V (by rw[B6,C0,l9 rfl,l9 b5]) n,n⟩
    .exact t y a
   .rw[vF (u:=u) (by rw[B6];exact L) o]
    obtain⟨r,s,g,t,w⟩:=sS hT l out c h x B;refine⟨r,s,g,λy a=>?_,w⟩;rcases A0.1 a with rfl|a
    .exact⟨u,by rw[B6];exact g k u L a7,a7⟩
    .exact t y a
def yT{A:Type}(l:List A):l=[]\/∃b a,l=b++[a]:=by
 exact Xx
def vJ{ps:Sig}{word:Bool}{E:Nat->Option Int}{A:Lower.Code}(hT:∀k,E k=(A[k]?).map Prod.snd)(hg:Lower.Good ps word E 0 A):∀(m:Nat)(out:List Int)(c:List Nat),m=left out+z c->vI E A out c->
  vI E A (search A m (out,c)) []/\∀(i:Nat)(u:Int),out[i]?=S u->0<=u->(search A m (out,c))[i]?=S u
 |0,out,c,hm,h=>by
   obtain rfl:c=[]:=z6 a7;exact⟨h,λ_ _ q _=>q⟩
 |m+1,out,c,hm,h=>by
   rcases yT c with rfl|⟨c,a,rfl⟩
   .rw[CL];exact⟨h,λ_ _ q _=>q⟩
   .obtain⟨v,hv,c7,b1⟩:=h.inv.2.2 a a8
    have W:=c7;rw[hT]at W;obtain⟨⟨x,H⟩,I,d'⟩:=G5.1 W;obtain rfl:H=v:=d';obtain⟨t,p,an,J,ef,dh,av⟩:=(by have:=gu hg I;rwa [C5]at this:OkI ps word E a x H)
    have hp:=Ik an;rw[Ar A m out c a I]
    have cb:∀y∈next x a,∃(k:Nat)(V:Int),y=(k:Int)/\E k=S V/\0<=V/\V<=H+1:=λy O=>by
     obtain⟨k,U,X⟩:=av y O;exact⟨k,_,U,X,a7,a7⟩
    have b4:=h.le H (l7 hv)
    -- a is taken off,s c6 r places behind ek j: visit with a put back in o
    have X:vI E A out (c++[a]):=h;obtain⟨w,q2,Y,q4,q5⟩:=sS hT (next x a) out (c++[a]) h cb b4
    have e:∀(l:List Int)(out:List Int)(t0 B:List Nat),(visit A l (out,t0++B)).1=(visit A l (out,B)).1/\(visit A l (out,t0++B)).2=t0++(visit A l (out,B)).2:=by
     intro l
     induction l with
     |nil=>intro out t0 B;exact⟨rfl,rfl⟩
     |cons y l ih=>
       intro out t0 B;simp only[visit];split
       .rw[v7];exact ih _ _ _
       .exact ih _ _ _
    have Q:=e (next x a) out c [];have f:=e (next x a) out (c++[a]) [];rw[s9]at Q f;rw[f.1,f.2]at w q2;rw[f.1]at Y q4;rw[show visit A (next (x,H).fst a) (out,c)=((visit A (next x a) (out,[])).1,c++(visit A (next x a) (out,[])).2)from Prod.ext Q.1 Q.2]
    have G:vI E A (visit A (next x a) (out,[])).1 (c++(visit A (next x a) (out,[])).2):=by
     refine⟨⟨w.inv.1,w.inv.2.1,λb K=>w.inv.2.2 b (by rcases C1.1 K with K|K<;>simp[K])⟩,w.le,λk u hk L=>?_⟩;rcases w.clo k u hk L with Z|Z
     .simp only[v7,C1,A0,B3,F2,I9]at Z
      rcases Z with Z|rfl|Z
      .exact .inl (by simp[Z])
      .refine .inr λn d g y O=>?_
       rw[I]at g;cases g;exact q4 y O
      .exact .inl (by simp[Z])
     .exact .inr Z
    obtain⟨r1,r2⟩:=vJ hT hg m _ _ (by simp only[j8,l4,l5]at hm q2|-;omega) G;exact⟨r1,λi u hi L=>r2 i u (Y i u hi L) L⟩
def kV{E:Nat->Option Int}{A:Lower.Code}(hT:∀k,E k=(A[k]?).map Prod.snd)(c:E 0=S 0)(hg:Lower.Good ps word E 0 A):vI E A (bG A) []/\(bG A)[0]?=S 0:=by
 have j:0<z A:=by
  cases e:A with
  |nil=>rw[hT]at c;simp[e]at c
  |cons=>simp
 obtain⟨m,b⟩:∃m,z A=m+1:=⟨z A-1,a7⟩
 have hl:left ((List.replicate (z A) (-1)).set 0 0)+z [0]=z A:=by
  rw[b,F9,H2];unfold left;rw[U0,Vh];simp
 have G:vI E A ((List.replicate (z A) (-1)).set 0 0) [0]:=by
  have l:left ((List.replicate (z A) (-1)).set 0 0)<=z A:=a7;refine⟨⟨a8,λk v h=>?_,λa f=>?_⟩,λv d=>?_,λk v h d=>?_⟩
  .rw[b,F9,H2]at h
   cases k with
   |zero=>simp at h;subst h;exact .inr ⟨c,C7 _⟩
   |succ k=>rw[u7,I2]at h;split at h<;>simp at h;exact .inl h.symm
  .obtain rfl:a=0:=by simpa using f
   exact⟨0,by rw[b,F9,H2];rfl,c,C7 _⟩
  .have:v<=0:=by
    rw[b,F9,H2]at d;rcases A0.1 d with rfl|h
    .exact C7 _
    .have:=F6 h;omega
   omega
  .rw[b,F9,H2]at h
   cases k with
   |zero=>exact .inl a8
   |succ k=>rw[u7,I2]at h;split at h<;>simp at h;omega
 obtain⟨g,i⟩:=vJ hT hg (z A) _ _ hl.symm G;exact⟨g,i 0 0 (by rw[b,F9,H2];rfl) (C7 _)⟩
end
end
end Go.Emit
namespace Go.Proofs.YtlacbjnmkhndiaaGreatDoor.Low
section
open Go Go.Am Go.Lower
attribute[local congr]ite_cc
def Jz(h:List (List Int))(back base:List Int)(data:Int):AV:=.agg [aq (h.map λo=>[ksD o]),.d (ksD back),.d (ksD base),ag data]
def ocells(l:List (List Int)):List C:=l.map λo=>.d (ksD o)
def De(l:List (List Int)):z (ocells l)=z l:=by simp[ocells]
def we(a b:List (List Int)):ocells (a++b)=ocells a++ocells b:=by simp[ocells]
def qM{l:List Int}{b:Int}(h:∀v∈l,v<=b):∀{d:Int},d<=b->d<=Emit.deepest l d/\Emit.deepest l d<=b:=by
 induction l with
 |nil=>intro d hd;exact⟨C7 _,hd⟩
 |cons a l c=>
   intro d hd;have U:=h a a8;have:=c (λv e=>h v (by simp[e])) (d:=max d a) a7;rw[Emit.rK];omega
def Ru{w:Int}{fs:List Src.CFn}(ds:List (List Int))(ar:z ds=z fs)(ad:0<=w/\w<=1000000)(hl:z fs<=1000000)(a1:∀o∈ds,(∀v∈o,v<=100000000)/\z o<=1000000000)
 (hD:∀f o,ds[f]?=S o->aJ Tryz.prog 72 [jK w fs,ae (f:Nat)] (·=.tup [.one (.d (ksD o)),bv T])):
  aJ Tryz.prog 46 [jK w fs] (·=Jz ds (Emit.dN (z fs) 0 ds w).1 (Emit.dN (z fs) 0 ds w).2.1 (Emit.dN (z fs) 0 ds w).2.2):=by
 refine hdR Tryz.func46 rfl [.cell 2 111] λg=>?_;have b1:jK w fs=.agg [ag w,aq (fs.map sfD)]:=rfl;rw[b1]at hD|-;have b3:IntKind.i64.wrap ((z fs:Int)-1)=(z fs:Int)-1:=by rw[wrap_i64]<;>omega
 simp only[go_sem,j7,b3]
 refine zL _ (((eP (t:=3) (o:=3) (b:=34) (j:=0) (sz:=1) (off:=0) (cells:=[.d .nsl,.d .nsl,.d .nsl,ag w]) XD XD rfl b9).trans
   (eP (t:=3) (o:=3) (b:=41) (j:=1) (sz:=1) (off:=0) (cells:=[.osl 34 (g 34+1) 1 0 0,.d .nsl,.d .nsl,ag w]) X2 X2 rfl b9)).trans
   (eP (t:=3) (o:=3) (b:=55) (j:=2) (sz:=1) (off:=0) (cells:=[.osl 34 (g 34+1) 1 0 0,.osl 41 (g 41+1) 1 0 0,.d .nsl,ag w]) X2 X2 rfl b9))
  (λn s=>∃(k:Nat)(h:List (List Int))(back base:List Int)(data:Int),n+k=z fs/\z h=k/\z back=k/\z base=k/\(h=ds.take k/\Emit.dN (z fs) 0 h w=(back,base,data))/\0<=data/\data<=1000000+100000001*k/\s.f 1=aj 1 (s.gen 1) 0/\s.f 2=aj 2 (s.gen 2) 0/\s.f 3=aj 3 (s.gen 3) 0/\s.f 20=ae (z fs)/\s.f 21=ae k/\s.f 4=ae ((z fs:Int)-1)/\
    s.obj 1=S [ag w,aq (fs.map sfD)]/\(∃a b c d,s.obj 2=S [a,b,c,d])/\s.obj 3=S [.osl 34 (s.gen 34) 1 0 k,.osl 41 (s.gen 41) 1 0 k,.osl 55 (s.gen 55) 1 0 k,ag data]/\s.obj 34=S (ocells h)/\s.obj 41=S (icells back)/\s.obj 55=S (icells base)) (z fs) ?_ ?_
 .simp only[St.claimAt]
  refine⟨0,[],[],[],w,rfl,rfl,rfl,rfl,⟨rfl,rfl⟩,ad.1,a7,?_⟩;simp only[go_sem,b3];exact⟨⟨_,_,_,_,rfl,rfl,rfl,rfl⟩,rfl,rfl⟩
 clear g;rintro n g gn ob ⟨k,h,back,base,data,hk,H,lb,U,⟨X,hP⟩,eo,an,f1,f2,f3,p,q,f4,o1,⟨a0,b0,c0,d0,o2⟩,B,u,x,r⟩;simp only at f1 f2 f3 p q f4 o1 o2 B u x r;have E:=ah (k:=k) a7;by_cases af:k<z fs
 case neg=>
  have Q:¬(k:Int)<(z fs:Int):=a7;obtain rfl:k=z fs:=a7;simp only[go_sem,f1,f2,f3,p,q,Q,o2,B]
  have P:∀{A:Type}(l:List A)(e:A->D),(l.map λa=>C.d (e a))=l.flatMap λa=>([e a]:List D).map C.d:=by
   intro A l e
   induction l with
   |nil=>rfl
   |cons b l ih=>rw[s6,G8,ih];rfl
  have r1:∀{s:St},s.gen 34=gn 34->s.obj 34=ob 34->Frz s (.osl 34 (gn 34) 1 0 (z fs)) (.sl (h.map λo=>[ksD o])):=λ{s}hg ho=>by
   refine eu (s:=s) hg h (λo=>[ksD o]) (ho.trans u) (P h ksD) (λa _ y hy=>?_) (λ_ _=>rfl) H;rw[E3.1 hy];rfl
  have r2:∀{s:St},s.gen 41=gn 41->s.obj 41=ob 41->Frz s (.osl 41 (gn 41) 1 0 (z fs)) (ksD back):=λ{s}hg ho=>by
   refine eu (s:=s) hg back (λo=>[.int .i64 o]) (ho.trans x) (P back _) (λa _ y hy=>?_) (λ_ _=>rfl) lb;rw[E3.1 hy];rfl
  have r3:∀{s:St},s.gen 55=gn 55->s.obj 55=ob 55->Frz s (.osl 55 (gn 55) 1 0 (z fs)) (ksD base):=λ{s}hg ho=>by
   refine eu (s:=s) hg base (λo=>[.int .i64 o]) (ho.trans r) (P base _) (λa _ y hy=>?_) (λ_ _=>rfl) U;rw[E3.1 hy];rfl
  refine⟨_,⟨[.sl (h.map λo=>[ksD o]),ksD back,ksD base,.int .i64 data],rfl,λi c Z=>?_,rfl⟩,?_⟩
  rotate_left
  .rw[s7 a7]at X
   subst X;rw[hP];rfl
  match i,Z with
  |0,Z=>cases Z;exact⟨_,rfl,r1 rfl XL⟩
  |1,Z=>cases Z;exact⟨_,rfl,r2 rfl XL⟩
  |2,Z=>cases Z;exact⟨_,rfl,r3 rfl XL⟩
  |3,Z=>cases Z;exact⟨_,rfl,.d _⟩
 have Q:(k:Int)<(z fs:Int):=a7;have bf:(0:Int)<=(k:Int):=a7;have W:=De h;have cm:=cP back;have cb:=cP base;simp only[go_sem,f1,f2,f3,p,q,f4,Q,o1];obtain⟨out,J⟩:=getq (show k<z ds by omega);obtain⟨al,a6⟩:=a1 out (l7 J);have az:h++[out]=ds.take (k+1):=by rw[X,D2,J];rfl
 have av:=Emit.Au (z fs) h 0 w out;rw[hP]at av;simp only[H,C5]at av;refine gw rfl (hD k out J) j4 ?_;rintro _ rfl;simp only[go_sem,f1,f3,B,u,W,H,ba,x,cm,lb,f4];refine⟨l8 _,⟨b9,a7⟩,l8 _,⟨b9,a7⟩,?_⟩;have b6:IntKind.i64.wrap (data+1)=data+1:=by rw[wrap_i64]<;>omega
 by_cases b5:(k:Int)=(z fs:Int)-1
 .skip
  simp only[go_sem,x6 b5,r,cb,U,f3,ksD,j7];refine⟨l8 _,⟨b9,a7⟩,?_⟩
  refine eI (λm s=>∃(j:Nat)(V:Int),m+j=z out/\Emit.deepest (out.drop j) V=Emit.deepest out 0/\0<=V/\V<=100000000/\s.f 1=aj 1 (s.gen 1) 0/\s.f 2=aj 2 (s.gen 2) 0/\s.f 3=aj 3 (s.gen 3) 0/\s.f 20=ae (z fs)/\s.f 21=ae k/\s.f 4=ae ((z fs:Int)-1)/\s.f 57=.one (aq (out.map λk=>[.int .i64 k]))/\s.f 58=ae (z out)/\s.f 59=ae j/\s.f 8=ae V/\
   s.obj 1=S [ag w,aq (fs.map sfD)]/\s.obj 2=S [a0,b0,c0,d0]/\s.obj 3=S [.osl 34 (s.gen 34) 1 0 (k+1),.osl 41 (s.gen 41) 1 0 (k+1),.osl 55 (s.gen 55) 1 0 (k+1),ag (data)]/\s.obj 34=S (ocells (h++[out]))/\s.obj 41=S (icells (back++[data]))/\s.obj 55=S (icells (base++[data]))) (z out) ?_ ?_
  .exact G2
  clear f1 f2 f3 p q f4 o1 o2 B u x r;rintro m g gn ob ⟨j,V,hj,O,c8,dd,f1,f2,f3,p,q,f4,I,K,L,Y,o1,o2,B,u,x,r⟩;simp only at f1 f2 f3 p q f4 I K L Y o1 o2 B u x r;have cc:=ah (k:=j) a7;by_cases G:j<z out
  .exact oj
  have bd:¬(j:Int)<(z out:Int):=a7;have cd:IntKind.i64.wrap (data+V)=data+V:=by rw[wrap_i64]<;>omega
  simp only[go_sem,I,K,L,Y,bd,f3,B,cd,q,E,j7];refine ee (n-1) a7 ⟨k+1,h++[out],back++[data],base++[data],data+V,a7,by simp;omega,by simp;omega,by simp;omega,⟨az,av.trans ?_⟩,a7,a7,?_⟩
  .rw[l9 (show k+1=z fs by omega)]
   rw[y9 a7]at O;rw[<-O];rfl
  simp only[go_sem,f1,f2,f3,p,f4,o1,o2,u,x,r];exact⟨_,_,_,_,rfl,rfl,rfl,rfl⟩
 .skip
  simp only[go_sem,b5,b6,r,cb,U,f3,ksD,j7];refine⟨l8 _,⟨b9,a7⟩,?_⟩
  refine eI (λm s=>∃(j:Nat)(V:Int),m+j=z out/\Emit.deepest (out.drop j) V=Emit.deepest out 0/\0<=V/\V<=100000000/\s.f 1=aj 1 (s.gen 1) 0/\s.f 2=aj 2 (s.gen 2) 0/\s.f 3=aj 3 (s.gen 3) 0/\s.f 20=ae (z fs)/\s.f 21=ae k/\s.f 4=ae ((z fs:Int)-1)/\s.f 57=.one (aq (out.map λk=>[.int .i64 k]))/\s.f 58=ae (z out)/\s.f 59=ae j/\s.f 8=ae V/\
   s.obj 1=S [ag w,aq (fs.map sfD)]/\s.obj 2=S [a0,b0,c0,d0]/\s.obj 3=S [.osl 34 (s.gen 34) 1 0 (k+1),.osl 41 (s.gen 41) 1 0 (k+1),.osl 55 (s.gen 55) 1 0 (k+1),ag ((data+1))]/\s.obj 34=S (ocells (h++[out]))/\s.obj 41=S (icells (back++[data]))/\s.obj 55=S (icells (base++[(data+1)]))) (z out) ?_ ?_
  .exact G2
  clear f1 f2 f3 p q f4 o1 o2 B u x r;rintro m g gn ob ⟨j,V,hj,O,c8,dd,f1,f2,f3,p,q,f4,I,K,L,Y,o1,o2,B,u,x,r⟩;simp only at f1 f2 f3 p q f4 I K L Y o1 o2 B u x r;have cc:=ah (k:=j) a7;by_cases G:j<z out
  .exact oj
  have bd:¬(j:Int)<(z out:Int):=a7;have cd:IntKind.i64.wrap ((data+1)+V)=(data+1)+V:=by rw[wrap_i64]<;>omega
  simp only[go_sem,I,K,L,Y,bd,f3,B,cd,q,E,j7];refine ee (n-1) a7 ⟨k+1,h++[out],back++[data],base++[(data+1)],(data+1)+V,a7,by simp;omega,by simp;omega,by simp;omega,⟨az,av.trans ?_⟩,a7,a7,?_⟩
  .rw[j9 (show ¬k+1=z fs by omega)]
   rw[y9 a7]at O;rw[<-O];rfl
  simp only[go_sem,f1,f2,f3,p,f4,o1,o2,u,x,r];exact⟨_,_,_,_,rfl,rfl,rfl,rfl⟩
abbrev iR:=Int×Int×Int×Int
def Ba(x:iR):List C:=[ag x.1,ag x.2.1,ag x.2.2.1,ag x.2.2.2]
def fI(l:List iR):List C:=l.flatMap Ba
def jv(l:List iR):z (fI l)=z l*4:=by
 induction l with
 |nil=>rfl
 |cons a l b=>simp only[fI,G8,j8,Ba,l4,l5]at b|-;omega
def Gz(l m:List iR):fI (l++m)=fI l++fI m:=by simp[fI]
def xV{B:Nat}(l:List iR):∀c∈fI l,lV B c:=λc Z=>by
 unfold fI at Z;obtain⟨x,_,I⟩:=List.mem_flatMap.1 Z;simp only[Ba,A0,B3,F2]at I;rcases I with rfl|rfl|rfl|rfl<;>trivial
def Wh{B G D u:Nat}{code:List iR}{c0 n o q r s d0 t d2 v w:C}{op a b c:Int}{g:Nat->Nat}{ob:Obs}(hB:∀i,B<=i->ob i=N)(V:G<B)(hD:D<B)(H:G≠D)(f:g G=u)(ho:ob G=S [c0,n,o,q,r,s,.osl D (g D) 4 0 (z code),d0,t,d2,v,w])(Z:ob D=S (fI code))(j:∀x∈[c0,n,o,q,r,s,d0,t,d2,v,w],lV B x)(hl:z code<=100000000):
  dj Tryz.prog 74 [aj G u 0,ae op,ae a,ae b,ae c] g ob (λ_ g' Y=>(∀i,i≠D->g' i=g i)/\Y G=S [c0,n,o,q,r,s,.osl D (g' D) 4 0 (z code+1),d0,t,d2,v,w]/\Y D=S (fI (code++[(op,a,b,c)]))/\∀i,i≠G->i≠D->Y i=ob i) (λ_ _ _=>False):=by
 refine hdM B [G,D] Tryz.func74 rfl [] XH hB λO bn s0 w0=>?_;have J:∀k,(G=B+k)=False:=λk=>by simp;omega
 have K:∀k,(D=B+k)=False:=λk=>by simp;omega
 have L:(G=D)=False:=by simp[H]
 have A:(D=G)=False:=by simp[B7 H]
 simp only[go_sem,J,K,L,A,ho,Z,f,jv,ba];refine⟨l8 _,⟨b9,a7⟩,?_⟩;refine⟨_,ai.refl _,?_⟩;simp only[go_sem]
 have Q:List.take (z code*4) (fI code)++[C.d (.int .i64 op),C.d (.int .i64 a),C.d (.int .i64 b),C.d (.int .i64 c)]=fI (code++[(op,a,b,c)]):=by
  rw[s7 (by rw[jv];exact l8 _),Gz];simp[fI,Ba]
 rw[Q];refine⟨⟨λi hi hn=>?_,λi hi E l=>?_⟩,[],rfl,λi hi=>?_,?_,?_,λi hi y=>?_⟩
 .have U:i≠G:=λe=>hn Zc
  have W:i≠D:=λe=>hn Zc;exact⟨nu,nu⟩
 .simp only[A0,B3,F2]at hi
  rcases hi with rfl|rfl
  .simp[upd]at l
   subst l;intro x I;simp only[A0,B3,F2]at I j;rcases I with h|h|h|h|h|h|h|h|h|h|h|h
   all_goals first|(subst h;exact hD)|exact j x (by simp[h])
  .simp[upd,A]at l
   subst l;exact xV _
 .exact Vq
 .simp[jP,fN,upd]
 .simp[fN,upd,A]
 .unfold fN
  rw[j9 (by simp[hi,y])]
end
section
open Go Go.Am Go.Lower
open Go.Emit (Wr)
section
def ER{B B':Nat}(hB:B<=B'){c:C}(h:lV B c):lV B' c:=by
 cases c with
 |d x=>trivial
 |osl id _ _ _ _=>exact H4 h hB
 |ptr id _ _=>exact H4 h hB
 |mp id _ _=>exact H4 h hB
 |lsl _=>trivial
 |raw _=>trivial
 |clo f q=>
   intro p a;have:=h p a;cases p with
   |d x=>trivial
   |ptr id _ _=>exact H4 this hB
abbrev kX:=Int×Int×Int
def og(l:List kX):List C:=l.flatMap λx=>[ag x.1,ag x.2.1,ag x.2.2]
def Bb(l:List kX):z (og l)=z l*3:=by
 induction l with
 |nil=>rfl
 |cons a l b=>simp only[og,G8,j8,l4,l5]at b|-;omega
def JA(l m:List kX):og (l++m)=og l++og m:=by simp[og]
def JB{B:Nat}(l:List kX):∀c∈og l,lV B c:=λc Z=>by
 unfold og at Z;obtain⟨x,_,I⟩:=List.mem_flatMap.1 Z;simp only[A0,B3,F2]at I;rcases I with rfl|rfl|rfl<;>trivial
structure bH where
 (c0 c1 c2 c3 c4 c5 d0 d1 d3 d4:C)
def bH.cells(k:bH)(D a n H h m:Nat):List C:=[k.c0,k.c1,k.c2,k.c3,k.c4,k.c5,.osl D a 4 0 n,k.d0,k.d1,.osl H h 3 0 m,k.d3,k.d4]
def bH.all(k:bH):List C:=[k.c0,k.c1,k.c2,k.c3,k.c4,k.c5,k.d0,k.d1,k.d3,k.d4]
structure eR (B G D H:Nat) (k:bH) (code:List iR) (holes:List kX) (g:Nat->Nat) (ob:Obs):Prop where
 top:∀i,B<=i->ob i=none
 gB:G<B
 dB:D<B
 hB:H<B
 gd:G≠D
 gh:G≠H
 dh:D≠H
 oG:ob G=some (k.cells D (g D) code.length H (g H) holes.length)
 oD:ob D=some (fI code)
 oH:ob H=some (og holes)
 low:∀x∈k.all,lV B x
variable{k:bH}{g:Nat->Nat}{ob:Obs}{B B' G D H:Nat}{code:List iR}{holes:List kX}
def eR.up(ar:eR B G D H k code holes g ob)(h:B<=B'):eR B' G D H k code holes g ob:=
 ⟨λi a=>ar.top i a7,by have:=ar.gB;omega,by have:=ar.dB;omega,by have:=ar.hB;omega,ar.gd,ar.gh,ar.dh,ar.oG,ar.oD,ar.oH,λx I=>ER h (ar.low x I)⟩
def eR.upd{B G D H i:Nat}{k:bH}{code:List iR}{holes:List kX}{g:Nat->Nat}{ob:Obs}(ar:eR B G D H k code holes g ob)(h:i<B)(c:i≠G)(a:i≠D)(b:i≠H)(x:Nat)(y:Option (List C)):eR B G D H k code holes (Am.upd g i x) (Am.upd ob i y):=
 ⟨λj d=>by simp only[Am.upd];rw[j9 a7];exact ar.top j d,ar.gB,ar.dB,ar.hB,ar.gd,ar.gh,ar.dh,by simp only[Am.upd];rw[j9 (B7 c),j9 (B7 a),j9 (B7 b)];exact ar.oG,by simp only[Am.upd];rw[j9 (B7 a)];exact ar.oD,by simp only[Am.upd];rw[j9 (B7 b)];exact ar.oH,ar.low⟩
def eR.to{B G D H:Nat}{g g':Nat->Nat}{ob Y:Obs}(ar:eR B G D H k code holes g ob)(a:∀i,B<=i->Y i=N)(U:g' D=g D)(b:g' H=g H)(c:Y G=ob G)(d:Y D=ob D)(e:Y H=ob H):eR B G D H k code holes g' Y:=
 ⟨a,ar.gB,ar.dB,ar.hB,ar.gd,ar.gh,ar.dh,by rw[U,b,c];exact ar.oG,by rw[d];exact ar.oD,by rw[e];exact ar.oH,ar.low⟩
structure cY (B G D H:Nat) (g:Nat->Nat) (ob:Obs) (g':Nat->Nat) (Y:Obs):Prop where
 gen:∀i,i<B->i≠D->i≠H->g' i=g i
 fr:∀i,i<B->i≠G->i≠D->i≠H->Y i=ob i
def cY.refl{B G D H:Nat}:cY B G D H g ob g ob:=⟨λ_ _ _ _=>rfl,λ_ _ _ _ _=>rfl⟩
def cY.trans{B G D H:Nat}{g c g2:Nat->Nat}{ob av d:Obs}(a:cY B G D H g ob c av)(b:cY B G D H c av g2 d):cY B G D H g ob g2 d:=
 ⟨λi h x y=>(b.gen i h x y).trans (a.gen i h x y),λi h x y X=>(b.fr i h x y X).trans (a.fr i h x y X)⟩
def cY.down{g b:Nat->Nat}{ob av:Obs}(a:cY B' G D H g ob b av)(h:B<=B'):cY B G D H g ob b av:=⟨λi q=>a.gen i a7,λi q=>a.fr i a7⟩
def dn(f:FuncId)(xs:List AV)(w:Nat->Wr)(k:bH):Prop:=
 ∀(B G D H u:Nat)(code:List iR)(holes:List kX)(g:Nat->Nat)(ob:Obs),eR B G D H k code holes g ob->g G=u->z code+(w (z code)).code.length<=100000000->z holes+(w (z code)).holes.length<=100000000->
  dj Tryz.prog f (aj G u 0::xs) g ob (λ_ a Y=>eR B G D H k (code++(w (z code)).code) (holes++(w (z code)).holes) a Y/\cY B G D H g ob a Y) (λ_ _ _=>False)
def eR.pack{B b G D H:Nat}{code c:List iR}{holes a:List kX}{s:St}{j o:List AV}(ar:eR B G D H k code holes g ob)(d:eR b G D H k c a s.gen s.obj)(t:cY B G D H g ob s.gen s.obj){h:List iR}{p:List kX}(f:h=c)(l:p=a)(hf:eH B s j o):bB B [G,D,H] g ob (λ_ g' Y=>eR B G D H k h p g' Y/\cY B G D H g ob g' Y) s j:=by
 subst f l;have n:∀{i},i∈[G,D,H]↔i=G\/i=D\/i=H:=λ{i}=>by simp
 refine⟨⟨λi q u=>?_,λi q v r=>?_⟩,o,hf,⟨λi q=>?_,ar.gB,ar.dB,ar.hB,ar.gd,ar.gh,ar.dh,?_,?_,?_,ar.low⟩,λi q y m=>?_,λi q E y m=>?_⟩
 .have J:i≠G:=λe=>u Zc
  have w:i≠D:=λe=>u Zc;have A:i≠H:=λe=>u Zc;exact⟨t.gen i q w A,t.fr i q J w A⟩
 .rcases n.1 q with rfl|rfl|rfl
  .have r:=d.oG.symm.trans r
   cases r;intro x I;have bs:=ar.low;simp only[bH.cells,bH.all,A0,B3,F2]at I bs;rcases I with e|e|e|e|e|e|e|e|e|e|e|e
   all_goals first|(subst e;first|exact ar.dB|exact ar.hB)|exact bs x (by simp[e])
  .have r:=d.oD.symm.trans r
   cases r;exact xV _
  .have r:=d.oH.symm.trans r
   cases r;exact JB _
 .unfold fN
  have:=ar.gB;have:=ar.dB;have:=ar.hB;rw[j9 (λe=>by rcases n.1 e with e|e|e<;>omega)];exact ar.top i q
 .simp only[fN,jP,A0,B3,F2,Vk,Vl,B5]
  exact d.oG
 .simp only[fN,A0,B3,F2,Vk,Vl,B5]
  exact d.oD
 .simp only[fN,A0,B3,F2,Vk,Vl,B5]
  exact d.oH
 .unfold jP
  split
  .exact t.gen i q y m
  .rfl
 .unfold fN
  rw[j9 (λe=>by rcases n.1 e with e|e|e;exact E e;exact y e;exact m e)]
def eS(op a b c:Int)(k:bH):dn 74 [ae op,ae a,ae b,ae c] (Emit.aD op a b c) k:=by
 intro B G D H u code holes g ob ar l hl o;have al:=ar.gh;have j:=ar.dh;refine(Wh (d2:=.osl H (g H) 3 0 (z holes)) ar.top ar.gB ar.dB ar.gd l ar.oG ar.oD ?_ (by simp only[Emit.aD,l4,l5]at hl;omega)).mono ?_ (λ_ _ _ h=>h)
 .intro x I
  have bs:=ar.low;simp only[bH.all,A0,B3,F2]at I bs;rcases I with e|e|e|e|e|e|e|e|e|e|e
  all_goals first|(subst e;exact ar.hB)|exact bs x (by simp[e])
 rintro _ p Y ⟨U,m,n,f⟩;refine⟨⟨λi d=>?_,ar.gB,ar.dB,ar.hB,ar.gd,ar.gh,ar.dh,?_,n,?_,ar.low⟩,λi _ d _=>U i d,λi _ d y _=>f i d y⟩
 .have:=ar.gB;have:=ar.dB
  rw[f i a7 a7];exact ar.top i d
 .rw[m,U H (B7 j)]
  simp only[bH.cells,Emit.aD,j8,l4,l5,s9,C5]
 .rw[f H (B7 al) (B7 j)]
  simp only[Emit.aD,s9];exact ar.oH
section
variable{O:Bs}{rd:Option Nat}{t:St->Am.Loc->List Deferred->World->Prop}
def bj{d:fT}{e:Nat}(a6:bp O t){o:Oper}{s:St}{K:St->Prop}{c:Box K}{f:FuncId}{args:Array Operand}{tys:Array TypeId}(ho:o.op=.call ⟨.value (.func f),args,tys⟩){xs:List AV}{w:Nat->Wr}(hw:dn f xs w k)(b G D H u:Nat)(code:List iR)(holes:List kX)
 (I:args.toList.map s.ev=aj G u 0::xs)(hg:s.gen G=u)(ar:eR b G D H k code holes s.gen s.obj)(hl:z code+(w (z code)).code.length<=100000000)(a:z holes+(w (z code)).holes.length<=100000000)
 (i:∀r g' Y,eR b G D H k (code++(w (z code)).code) (holes++(w (z code)).holes) g' Y->cY b G D H s.gen s.obj g' Y->K (St.put ⟨s.f,g',Y⟩ o.dst r)):bC (spF Tryz.prog rd O t e d) o s c:=by
 refine cH (R:=λ_ g' Y=>eR b G D H k (code++(w (z code)).code) (holes++(w (z code)).holes) g' Y/\cY b G D H s.gen s.obj g' Y) (L:=λ_ _ _=>False) a6 ho ZN (λ_ _ _ h=>h.elim) ?_;rintro r g' Y ⟨U,j⟩;exact i r g' Y U j
end
end
end
section
open Go Go.Am Go.Lower
open Go.Emit (Wr aD aE ax sQ eC)
attribute[local congr]ite_cc
section
structure nA (k:bH) (fs:List Src.CFn) (P:Emit.Plan) (f:Nat) (V:Int):Prop where
 s:k.c1=aq (fs.map sfD)
 ds:k.c2=aq (P.depths.map λo=>[ksD o])
 bk:k.c3=.d (ksD P.back)
 b:k.c4=.d (ksD P.base)
 fn:k.d3=ag (f:Nat)
 d:k.d4=ag V
 fl:f<fs.length
 dl:P.depths.length=fs.length
 bl:P.back.length=fs.length
 l:P.base.length=fs.length
 fz:fs.length<=1000000
 bz:∀x∈P.base,0<=x/\x<=1000000000000000
 dz:-1<=V/\V<=1000000000
 pz:∀x∈fs,0<=x.p/\x.p<=1000000/\0<=x.first/\x.first<=1000000000000000
variable{k:bH}{fs:List Src.CFn}{P:Emit.Plan}{f:Nat}{V:Int}
def lK(j:nA k fs P f V)(reg a:Int)(hb:0<=a/\a<=1000000):dn 121 [ae reg,ae a] (Emit.dJ P f V reg a) k:=by
 intro B G D H u code holes g ob ar s hl v;have A:=ar.gB;have E:=ar.dB;have I:=ar.hB;refine hdM B [G,D,H] Tryz.func121 rfl [] XH ar.top λO bn s0 w0=>?_;have q:=ar.oG;unfold bH.cells at q;rw[j.b,j.fn,j.d]at q;have J:=j.fl;have K:=j.l;obtain⟨n,c⟩:=getq (show f<z P.base by omega);have h:=j.bz n (l7 c);have L:=j.dz;have x:(0:Int)<=(f:Int):=a7;have az:(f:Int)<(z P.base:Int):=a7;have e:f<z P.base:=a7;have t:IntKind.i64.wrap (n+V)=n+V:=by rw[wrap_i64]<;>omega
 have w:IntKind.i64.wrap (n+V-a)=n+V-a:=by rw[wrap_i64]<;>omega
 simp only[go_sem];refine aP c9 ?_;simp only[go_sem,q,s,ksD,j7,x,az,e,c,t,w];refine bj aa rfl (eS 16 reg 0 (n+V-a) k) (B+27) G D H u code holes (by simp only[go_sem,t,w]) s (ar.up a7) hl v ?_;intro r U Y Q y;simp only[go_sem];refine⟨_,ai.refl _,?_⟩;simp only[go_sem];exact ar.pack Q (y.down a7) (by simp only[Emit.dJ,aD,c,A6]) rfl (o:=[]) rfl
def nB(j:nA k fs P f V)(reg a:Int)(hb:0<=a/\a<=1000000):dn 118 [ae reg,ae a] (Emit.du P f V reg a) k:=by
 intro B G D H u code holes g ob ar s hl v;have A:=ar.gB;have E:=ar.dB;have I:=ar.hB;refine hdM B [G,D,H] Tryz.func118 rfl [] XH ar.top λO bn s0 w0=>?_;have q:=ar.oG;unfold bH.cells at q;rw[j.b,j.fn,j.d]at q;have J:=j.fl;have K:=j.l;obtain⟨n,c⟩:=getq (show f<z P.base by omega);have h:=j.bz n (l7 c);have L:=j.dz;have x:(0:Int)<=(f:Int):=a7;have az:(f:Int)<(z P.base:Int):=a7;have e:f<z P.base:=a7;have t:IntKind.i64.wrap (n+V)=n+V:=by rw[wrap_i64]<;>omega
 have w:IntKind.i64.wrap (n+V-a)=n+V-a:=by rw[wrap_i64]<;>omega
 simp only[go_sem];refine aP c9 ?_;simp only[go_sem,q,s,ksD,j7,x,az,e,c,t,w];refine bj aa rfl (eS 17 reg 0 (n+V-a) k) (B+27) G D H u code holes (by simp only[go_sem,t,w]) s (ar.up a7) hl v ?_;intro r U Y Q y;simp only[go_sem];refine⟨_,ai.refl _,?_⟩;simp only[go_sem];exact ar.pack Q (y.down a7) (by simp only[Emit.du,aD,c,A6]) rfl (o:=[]) rfl
def PV{n:Int}:IntKind.u32.wrap ((BitVec.ofInt 32 n &&&BitVec.ofInt 32 65535).toNat:Int)=n%65536:=by
 rw[show (65535:Int)=((65535:Nat):Int)from rfl,BitVec.toNat_and,Td,Td,show (((65535:Nat):Int)%(2^32:Nat)).toNat=65535 by omega,show (n%(2^32:Nat)).toNat &&&65535=(n%(2^32:Nat)).toNat%65536 from Nat.and_two_pow_sub_one_eq_mod _ 16,IntKind.wrap_u32];omega
def Rv{n:Int}:n.fdiv ((2:Int)^min 16 32)=n/65536:=by
 rw[show (2:Int)^min 16 32=65536 from rfl,Te _ a7]
def JC(reg n:Int):dn 117 [ae reg,iv .u32 n] (Emit.ko reg n) k:=by
 intro B G D H u code holes g ob ar b hl a;have v:=ar.gB;have x:=ar.dB;have y:=ar.hB;refine hdM B [G,D,H] Tryz.func117 rfl [] XH ar.top λO bn s0 w0=>?_;have e:IntKind.i64.wrap (n%65536)=n%65536:=by rw[wrap_i64]<;>omega
 have w:IntKind.i64.wrap (n/65536)=Emit.hi16 n:=by rw[IntKind.wrap_i64];unfold Emit.hi16;omega
 by_cases hn:65535<n
 .have d:Emit.ko reg n=ax (aD 1 reg 0 (n%65536)) (aD 2 reg 0 (Emit.hi16 n)):=l9 hn
  rw[d]at hl a|-;simp only[ax,aD,j8,l4,l5]at hl a;simp only[go_sem,hn];erw[PV];rw[e];refine bj aa rfl (eS 1 reg 0 (n%65536) k) (B+20) G D H u code holes XD b (ar.up a7) ZS a ?_;intro r l q Q K1;simp only[go_sem,hn];have j:(n.fdiv ((2:Int)^min 16 32))=n/65536:=Rv;refine bj aa rfl (eS 2 reg 0 (Emit.hi16 n) k) (B+20) G D H u _ _ (by simp only[go_sem,j,w]) ((K1.gen G a7 ar.gd ar.gh).trans b) Q YA YG ?_;intro r A E s t;simp only[go_sem];refine⟨_,ai.refl _,?_⟩;simp only[go_sem];exact ar.pack s ((K1.trans t).down a7) ZK ZK (o:=[]) rfl
 .have d:Emit.ko reg n=aD 1 reg 0 (n%65536):=j9 hn
  rw[d]at hl a|-;simp only[go_sem,hn];erw[PV];rw[e];refine bj aa rfl (eS 1 reg 0 (n%65536) k) (B+20) G D H u code holes XD b (ar.up a7) hl a ?_;intro r l q Q K1;simp only[go_sem,hn];exact y2
def No(j:nA k fs P f V):dn 132 [] (Emit.kK fs P f V) k:=by
 intro B G D H u code holes g ob ar l hl n;have cy:=ar.gB;have cz:=ar.dB;have c6:=ar.hB;refine hdM B [G,D,H] Tryz.func132 rfl [] XH ar.top λO bn s0 w0=>?_;have q:=ar.oG;unfold bH.cells at q;rw[j.b,j.fn,j.d,j.s,j.bk]at q;have E:=j.fl;have dc:=j.fz;have cm:=j.bl;have I:IntKind.i64.wrap ((z fs:Int)-1)=(z fs:Int)-1:=by rw[wrap_i64]<;>omega
 obtain⟨x,c⟩:=getq (show f<z P.back by omega);obtain⟨Z,a⟩:=getq E;have y:(0:Int)<=(f:Int):=a7;have az:(f:Int)<(z fs:Int):=a7;have J:(f:Int)<(z P.back:Int):=a7;have e:f<z P.back:=a7;simp only[go_sem];refine aP c9 ?_;by_cases K:(f:Int)=(z fs:Int)-1
 .have v:Emit.kK fs P f V=aD 26 0 0 0:=l9 a7
  rw[v]at hl n|-;simp only[go_sem,q,l,j7,I,x6 K];refine bj aa rfl (eS 26 0 0 0 k) (B+45) G D H u code holes XD l (ar.up a7) hl n ?_;intro r U W Q K1;simp only[go_sem];exact y2
 .simp only[go_sem,q,l,j7,I,K]
  refine aP c9 ?_;simp only[go_sem,q,l,j7,y,az,E,a,sfD];cases b6:Z.word
  .have v:Emit.kK fs P f V=ax (aD 16 14 0 x) (aD 22 14 0 0):=by
    unfold Emit.kK;rw[j9 a7,a];simp only[A3,A6,b6,c,E0,B1]
   rw[v]at hl n|-;simp only[ax,aD,j8,l4,l5]at hl n;simp only[go_sem];refine aP c9 ?_;simp only[go_sem,q,l,ksD,j7,y,J,e,c];refine bj aa rfl (eS 16 14 0 x k) (B+45) G D H u code holes XD l (ar.up a7) ZS n ?_;intro Y g2 bo A w;simp only[go_sem];refine bj aa rfl (eS 22 14 0 0 k) (B+45) G D H u _ _ Yy ((w.gen G ZI ar.gd ar.gh).trans l) A YA YG ?_;intro r3 g3 b7 X L;simp only[go_sem];refine⟨_,ai.refl _,?_⟩;simp only[go_sem];exact ar.pack X ((w.trans L).down a7) ZK ZK (o:=[]) rfl
  .have v:Emit.kK fs P f V=ax (Emit.dJ P f V 1 1) (ax (aD 16 14 0 x) (aD 22 14 0 0)):=by
    unfold Emit.kK;rw[j9 a7,a];simp only[A3,A6,b6,c,B5]
   rw[v]at hl n|-;simp only[ax,aD,Emit.dJ,j8,l4,l5]at hl n;simp only[go_sem];refine bj aa rfl (lK j 1 1 b9) (B+45) G D H u code holes XD l (ar.up a7) (by simp only[aD,Emit.dJ,l4,l5];omega) (by simp only[aD,Emit.dJ,l5];omega) ?_;intro r1 U W Q K1;have bz:U G=u:=(K1.gen G a7 ar.gd ar.gh).trans l;have t:=Q.oG;unfold bH.cells at t;rw[j.b,j.fn,j.d,j.s,j.bk]at t;simp only[go_sem];refine aP c9 ?_;simp only[go_sem,t,bz,ksD,j7,y,J,e,c];refine bj aa rfl (eS 16 14 0 x k) (B+45) G D H u _ _ XD bz Q (by simp only[aD,Emit.dJ,j8,l4,l5];omega) (by simp only[aD,Emit.dJ,s9,l5];omega) ?_;intro Y g2 bo A w;simp only[go_sem];refine bj aa rfl (eS 22 14 0 0 k) (B+45) G D H u _ _ Yy ((w.gen G ZI ar.gd ar.gh).trans bz) A (by simp only[aD,Emit.dJ,j8,l4,l5];omega) (by simp only[aD,Emit.dJ,s9,l5];omega) ?_;intro r3 g3 b7 X L;simp only[go_sem];refine⟨_,ai.refl _,?_⟩;simp only[go_sem];exact ar.pack X ((K1.trans (w.trans L)).down a7) (by simp only[ax,aD,Emit.dJ,v7]) (by simp only[ax,aD,Emit.dJ,v7]) (o:=[]) rfl
end
def Np{k:bH}(a b:Int)(h0:0<=a)(d:a<=b)(hb:b<=1000000000000000):dn 135 [ae a,ae b] (Emit.je a b) k:=by
 intro B G D H u code holes g ob ar W hl l;have cy:=ar.gB;have cz:=ar.dB;have c6:=ar.hB;refine hdM B [G,D,H] Tryz.func135 rfl [] XH ar.top λO bn s0 w0=>?_;have Z:IntKind.i64.wrap (b-a)=b-a:=by rw[wrap_i64]<;>omega
 by_cases v:b-a<=6
 .have Y:Emit.je a b=Emit.jH a (b-a).toNat:=l9 v
  rw[Y]at hl l|-
  have A:∀(j n:Nat),z (Emit.jH a j n).code=j/\(Emit.jH a j n).holes=[]:=by
   intro j
   induction j with
   |zero=>intro n;exact⟨rfl,rfl⟩
   |succ j ih=>intro n;exact⟨by simp[Emit.jH,ax,aD,(ih _).1],by simp[Emit.jH,ax,aD,(ih _).2]⟩
  rw[(A _ _).1]at hl;simp only[go_sem,Z,v];refine aG (λm K=>∃j:Nat,m+j=(b-a).toNat/\K.f 0=aj G u 0/\K.f 2=ae b/\K.f 6=ae (a+j)/\eR (B+41) G D H k (code++(Emit.jH a j (z code)).code) (holes++(Emit.jH a j (z code)).holes) K.gen K.obj/\cY (B+41) G D H g ob K.gen K.obj) (b-a).toNat ?_ ?_
  .refine⟨0,rfl,?_⟩
   simp only[go_sem,Emit.jH,eC,s9];exact⟨a8,ar.up a7,.refl⟩
  rintro m f g1 av ⟨j,hm,q0,E,U,Q,K1⟩;simp only at q0 E U Q K1;by_cases af:a+j<b
  .have s:IntKind.i64.wrap (a+j+1)=a+j+1:=by rw[wrap_i64]<;>omega
   simp only[go_sem,q0,E,U,af];refine bj aa rfl (eS 17 0 0 (a+j) k) (B+41) G D H u _ _ Zb ((K1.gen G a7 ar.gd ar.gh).trans W) Q (by simp only[j8,(A _ _).1,aD,l4,l5];omega) (by simp only[j8,(A _ _).2,aD,l5];rw[(A _ _).2]at l;simpa using l) ?_;intro r g2 bo q V;simp only[go_sem,U,s];refine ao (m-1) a7 ⟨j+1,a7,?_⟩;simp only[go_sem,q0,E];refine⟨by first|omega|(rw[show a+(j:Int)+1=a+((j+1:Nat):Int) by omega]),?_,K1.trans V⟩;simp only[Emit.jH,ax,<-v7];exact q
  .obtain rfl:j=(b-a).toNat:=a7
   simp only[go_sem,E,U,af];exact y2
 .have Y:Emit.je a b=λn=>⟨[(1,1,0,a),(1,2,0,b),(17,0,1,0),(4,1,1,15),(14,3,1,2),(20,3,0,(n:Int)+2)],[]⟩:=j9 v
  rw[Y]at hl l|-;simp only[l4,l5]at hl l;have bl:∀x:Nat,x<=100000000->IntKind.i64.wrap (x:Int)=(x:Int):=λx I=>by rw[wrap_i64]<;>omega
  simp only[go_sem,Z,v];refine bj aa rfl (eS 1 1 0 a k) (B+41) G D H u code holes Yy W (ar.up ZI) YA YG ?_;intro r1 g1 av Q K1;have bz:g1 G=u:=(K1.gen G a7 ar.gd ar.gh).trans W;simp only[go_sem];refine bj aa rfl (eS 1 2 0 b k) (B+41) G D H u _ _ Yy bz Q YA YG ?_;intro r2 g2 bo q V;have an:g2 G=u:=(V.gen G a7 ar.gd ar.gh).trans bz;have I:=q.oG;unfold bH.cells at I;simp only[go_sem,I,an];refine⟨by rw[q.oD];rfl,?_⟩;refine bj aa rfl (eS 17 0 1 0 k) (B+41) G D H u _ _ Yy an q YA YG ?_;intro r3 g3 b7 X L;have t:g3 G=u:=(L.gen G a7 ar.gd ar.gh).trans an;simp only[go_sem];refine bj aa rfl (eS 4 1 1 15 k) (B+41) G D H u _ _ Yy t X YA YG ?_;intro r4 g4 bf J K4;have y:g4 G=u:=(K4.gen G a7 ar.gd ar.gh).trans t;simp only[go_sem];refine bj aa rfl (eS 14 3 1 2 k) (B+41) G D H u _ _ Yy y J YA YG ?_;intro r5 g5 b' S5 K5;have w:g5 G=u:=(K5.gen G a7 ar.gd ar.gh).trans y;simp only[go_sem];refine bj aa rfl (eS 20 3 0 ((z code:Int)+2) k) (B+41) G D H u _ _ (by (first|rfl|simp only[go_sem,aD,j8,l4,l5]);rfl) w S5 (by simp only[aD,j8,l4,l5];omega) (by simp only[aD,s9,l5];omega) ?_;intro r6 g6 P c e;simp only[go_sem];refine⟨_,ai.refl _,?_⟩;simp only[go_sem];exact ar.pack c ((K1.trans (V.trans (L.trans (K4.trans (K5.trans e))))).down a7) (by simp only[aD,v7,C6,A7]) (by simp only[aD,s9]) (o:=[]) rfl
def Df{k:bH}(op a f pl:Int):dn 127 [ae op,ae a,ae f,ae pl] (aE op a f pl) k:=by
 intro B G D H u code holes g ob ar hg hl hh;have hG:=ar.gB;have hD:=ar.dB;have b:=ar.hB;have cb:=ar.gd;have al:=ar.gh;have L:=ar.dh;have Z:=ar.oD;have e:=ar.oH;simp only[aE,l4,l5]at hl hh;refine hdM B [G,D,H] Tryz.func127 rfl [] XH ar.top λO bn s0 w0=>?_;have q:=ar.oG;unfold bH.cells at q;have s:∀k,(G=B+k)=False:=λk=>by simp;omega
 have t:∀k,(D=B+k)=False:=λk=>by simp;omega
 have w:∀k,(H=B+k)=False:=λk=>by simp;omega
 have A:(G=H)=False:=by simp[al]
 have E:(H=G)=False:=by simp[B7 al]
 simp only[go_sem];refine cB aO mixed aa [B+23,H,G] [([0],[0,1,2],[],F),([0],[0],[],F),([11],[0],[],F),([12],[0],[],F),([13],[0],[],F),([0],[],[],F),([15],[],[],F),([16],[],[],F),([17],[],[],F),([18],[],[],F),([3],[],[],F),([4],[],[],F),([19,20,21],[],[],F),([22],[],[0],F),([14,23],[],[1],F),([10],[],[],F),([25],[],[],F),([26,24],[],[],T)] 3 rfl c9 rfl XH ?_;have c:=Bb holes;have b2:=jv code;simp only[go_sem]
 iterate 10 (apply aw;(case hg=>first|exact y8|exact⟨_,rfl,by decide,rfl⟩);(case U=>intro V ga W n J;simp only[go_sem,s,t,w,A,E,q,hg,Z,b2]at J|-;exact J))
 iterate 3 (apply aw;(case hg=>first|exact y8|exact⟨_,rfl,by decide,rfl⟩);(case U=>intro V ga W n J;simp only[go_sem,s,t,w,A,E]at J|-;exact J))
 (apply bV;(case hg=>first|exact y8|exact⟨_,rfl,by decide,rfl⟩);(case U=>intro V ga W n J;simp only[go_sem,ba]at J|-;exact J))
 refine bV (a:=1) (v:=dL H (nxC (apC 160 (g H) 0) (g H)) 3 0 (z holes+1)) (x:=nxC (apC 160 (g H) 0) (g H)) (y:=S (og (holes++[((z code:Int),f,pl)]))) y8 (λV ga W n J=>?_) ?_
 .have e1:List.take (z holes*3) (og holes)++[C.d (.int .i64 (z code:Int)),C.d (.int .i64 f),C.d (.int .i64 pl)]=og (holes++[((z code:Int),f,pl)]):=by
   rw[s7 (by rw[c];exact l8 _),JA];simp[og]
  simp only[go_sem,ba,e,c,s,t,w,A,E]at J|-;exact Xp
 iterate 2 (apply aw;(case hg=>first|exact y8|exact⟨_,rfl,by decide,rfl⟩);(case U=>intro V ga W n J;simp only[go_sem,s,t,w,A,E,q,hg]at J|-;exact J))
 refine cC y8 ?_;intro n a';simp only[go_sem,s,t,w,A,E,q,hg];refine a' _ ?_;clear a' n;have j:(D=H)=False:=by simp[L]
 have l:(D=G)=False:=by simp[B7 cb]
 simp only[go_sem];obtain⟨h,ft⟩:∃x,nxC (apC 160 (g H) 0) (g H)=x:=⟨_,rfl⟩
 rw[ft];refine bj aa rfl (eS op a 0 0 k) (B+31) G D H u code (holes++[((z code:Int),f,pl)]) Yy (by simp only[upd];rw[j9 al];(repeat rw[j9 (by omega)]);exact hg) ⟨λi hi=>nt (ar.top i (by omega)),by omega,by omega,by omega,cb,al,L,?_,?_,?_,λx I=>ER (by omega) (ar.low x I)⟩ (by simp only[aD,l4,l5];omega) (by simp only[aD,j8,l4,l5];omega) ?_
 .simp only[upd,bH.cells,j8,l4,l5]
  rw[l9 trivial,j9 L]
  (repeat rw[j9 (by omega)])
  try rfl
 .simp only[upd]
  rw[j9 (B7 cb),j9 L]
  (repeat rw[j9 (by omega)])
  exact Z
 .simp only[upd]
  rw[j9 (B7 al)]
  try rw[l9 trivial]
 intro r g' Y Q K1;simp only[go_sem];refine⟨_,ai.refl _,?_⟩;simp only[go_sem];refine ar.pack Q ⟨λi hi e2 K=>(K1.gen i a7 e2 K).trans ?_,λi hi e1 e2 K=>(K1.fr i a7 e1 e2 K).trans ?_⟩ (by simp only[aE,aD]) (by simp only[aE,aD,s9]) (o:=[]) rfl
 .simp only[upd];rw[j9 K,j9 a7]
 .simp only[upd];rw[j9 e1,j9 K];(repeat rw[j9 (by omega)])
def Bd(P:Emit.Plan)(f:Nat)(V a first:Int):∀j n:Nat,z (Emit.lE P f V a first j n).code=2*j/\(Emit.lE P f V a first j n).holes=[]
 |0,n=>⟨by simp[Emit.lE,eC],by simp[Emit.lE,eC]⟩
 |j+1,n=>by
   have b:=Bd P f V a first j
   exact⟨by simp[Emit.lE,ax,aD,Emit.dJ,(b _).1];omega,by simp[Emit.lE,ax,aD,Emit.dJ,(b _).2]⟩
def Rw{k:bH}{fs:List Src.CFn}{P:Emit.Plan}{f:Nat}{V:Int}(hP:nA k fs P f V)(x:Ins){c:Nat}{y:Src.CFn}(Z:x.a=(c:Int))(hy:fs[c]?=S y):dn 130 [.agg ((bU x).map .d)] (Emit.tZ fs P f V x.a) k:=by
 intro B G D H u code holes g ob ar hg hl hh;have cy:=ar.gB;have cz:=ar.dB;have c6:=ar.hB;have cb:=ar.gd;have al:=ar.gh;have cx:=ar.dh;refine hdM B [G,D,H] Tryz.func130 rfl [] XH ar.top λO bn s0 w0=>?_;obtain⟨op,a,b,n⟩:=x;simp only at Z;subst Z
 have e0:Emit.tZ fs P f V (c:Int)=ax (Emit.lE P f V y.p y.first y.p.toNat) (ax (aE 21 14 (c:Int) (-1)) (if y.word then Emit.du P f V 1 y.p else eC)):=by
  unfold Emit.tZ;rw[B6,hy]
 rw[e0]at hl hh|-;have q:=ar.oG;unfold bH.cells at q;rw[hP.s]at q;have b5:c<z fs:=(l6.1 hy).1;have bd:(0:Int)<=(c:Int):=a7;have W:(c:Int)<(z fs:Int):=a7;obtain⟨c8,dd,ca,az⟩:=hP.pz y (l7 hy);have n1:∀k,(G=B+k)=False:=λk=>by simp;omega
 have n2:∀k,(D=B+k)=False:=λk=>by simp;omega
 have n3:∀k,(H=B+k)=False:=λk=>by simp;omega
 simp only[go_sem,bU];refine cB aO mixed aa [B+4] [([0],[0],[],F),([6],[0],[],F),([7],[0],[],F),([8],[0],[],F),([9],[0],[],F),([3],[0],[],F),([11],[0],[],F),([10,12],[0],[],F),([13],[0],[],F),([],[],[0],F),([4,14],[],[],T)] 1 rfl c9 rfl a8 ?_;simp only[go_sem]
 iterate 7 (apply aw;(case hg=>first|exact y8|exact⟨_,rfl,by decide,rfl⟩);(case U=>intro fa ga oa K' J;simp only[go_sem,n1,n2,n3,q,hg]at J|-;exact J))
 iterate 2 (apply aw;(case hg=>first|exact y8|exact⟨_,rfl,by decide,rfl⟩);(case U=>intro fa ga oa K' J;simp only[go_sem,n1,n2,n3,q,hg,bd,W,b5,hy,j7,sfD]at J|-;exact J))
 (apply bV;(case hg=>first|exact y8|exact⟨_,rfl,by decide,rfl⟩);(case U=>intro fa ga oa K' J;simp only[go_sem,n1,n2,n3]at J|-;exact J))
 refine cC y8 ?_;intro K' a';simp only[go_sem,n1,n2,n3];refine a' _ ?_;clear a' K';simp only[go_sem];have bl:=Bd P f V y.p y.first
 have l:z code+(2*y.p.toNat+2)<=100000000+1:=by
  have U:(ax (Emit.lE P f V y.p y.first y.p.toNat) (ax (aE 21 14 (c:Int) (-1)) (if y.word then Emit.du P f V 1 y.p else eC)) (z code)).code.length≥2*y.p.toNat+1:=by
   simp only[ax,aE,j8,(bl _ _).1,l4,l5];omega
  omega
 have t:z holes+1<=100000000:=by
  have U:(ax (Emit.lE P f V y.p y.first y.p.toNat) (ax (aE 21 14 (c:Int) (-1)) (if y.word then Emit.du P f V 1 y.p else eC)) (z code)).holes.length≥1:=by
   simp only[ax,aE,j8,(bl _ _).2,l4,l5];omega
  omega
 refine aG (λm K=>∃j:Nat,m+j=y.p.toNat/\K.f 0=aj G u 0/\K.f 3=aj (B+3) (K.gen (B+3)) 0/\K.f 4=aj (B+4) (K.gen (B+4)) 0/\K.f 16=ae y.p/\K.f 17=ae j/\K.obj (B+3)=S [ag op,ag c,ag b,.d (.int .u32 n)]/\
  K.obj (B+4)=S [ag y.p,ag y.slots,ag y.first,bE y.word,.d (uH (codeOf y.word y.body))]/\eR (B+43) G D H k (code++(Emit.lE P f V y.p y.first j (z code)).code) (holes++(Emit.lE P f V y.p y.first j (z code)).holes) K.gen K.obj/\cY B G D H g ob K.gen K.obj) y.p.toNat ?_ ?_
 .refine⟨0,rfl,?_⟩
  simp only[go_sem,Emit.lE,eC,s9,n1,n2,n3];exact⟨(ar.up (B':=B+43) a7).to (λi hi=>nt (ar.top i a7)) (nu) (nu) (nu) (nu) (nu),⟨λi U h2 h3=>nu,λi U h2 h3 h4=>nu⟩⟩
 rintro m fa g1 av ⟨j,hm,q0,q3,q4,A,e,p3,p4,Q,K1⟩;simp only at q0 q3 q4 A e p3 p4 Q K1;have bz:g1 G=u:=(K1.gen G a7 ar.gd ar.gh).trans hg;have lg:=(Emit.lE P f V y.p y.first j (z code))
 by_cases af:(j:Int)<y.p
 .have b4:IntKind.i64.wrap (y.p-j)=y.p-j:=by rw[wrap_i64]<;>omega
  have w:IntKind.i64.wrap (y.first+j)=y.first+j:=by rw[wrap_i64]<;>omega
  have cc:=ah (k:=j) a7;simp only[go_sem,q0,q3,q4,A,e,af,p4,b4];refine bj aa rfl (lK hP 1 (y.p-j) a7) (B+43) G D H u _ _ Zb bz Q (by simp only[j8,(bl _ _).1,aD,Emit.dJ,l4,l5];omega) (by simp only[j8,(bl _ _).2,aD,Emit.dJ,l5];omega) ?_;intro r g2 bo S2 K2;have an:g2 G=u:=(K2.gen G a7 ar.gd ar.gh).trans bz;have ad:=(K2.fr (B+4) a7 a7 a7 a7).trans p4;have v:=(K2.fr (B+3) a7 a7 a7 a7).trans p3;have h:=K2.gen (B+4) a7 a7 a7;have E:=K2.gen (B+3) a7 a7 a7;simp only[go_sem,q0,q3,q4,A,e,ad,h,w];refine bj aa rfl (eS 17 1 0 (y.first+j) k) (B+43) G D H u _ _ Zb an S2 (by simp only[j8,(bl _ _).1,aD,Emit.dJ,l4,l5];omega) (by simp only[j8,(bl _ _).2,aD,Emit.dJ,l5];omega) ?_;intro r g3 b7 X L;have I:=(L.fr (B+4) a7 a7 a7 a7).trans ad;have Y:=(L.fr (B+3) a7 a7 a7 a7).trans v;have a1:=(L.gen (B+4) a7 a7 a7).trans h;have a6:=(L.gen (B+3) a7 a7 a7).trans E;simp only[go_sem,e,cc];refine ao (m-1) a7 ⟨j+1,a7,?_⟩;simp only[go_sem,q0,q3,q4,A,Y,I,a6,a1];refine⟨?_,K1.trans ((K2.trans L).down a7)⟩;simp only[Emit.lE,ax,<-v7];simp only[j8,C2]at X;exact X
 .have hj:j=y.p.toNat:=a7
  subst hj;simp only[go_sem,q0,q3,q4,A,e,af,p3];refine bj aa rfl (Df 21 14 (c:Int) (-1)) (B+43) G D H u _ _ Zb bz Q (by simp only[j8,(bl _ _).1,aE,l4,l5];omega) (by simp only[j8,(bl _ _).2,aE,l4,l5];omega) ?_;intro r g2 bo S2 K2;have an:g2 G=u:=(K2.gen G a7 ar.gd ar.gh).trans bz;have ad:=(K2.fr (B+4) a7 a7 a7 a7).trans p4;have h:=K2.gen (B+4) a7 a7 a7;cases b6:y.word with
  |false=>
    rw[b6]at ad hl hh;simp only[go_sem,q0,q4,ad,h];refine⟨_,ai.refl _,?_⟩;simp only[go_sem];exact ar.pack S2 (K1.trans (K2.down a7)) (by simp[ax,eC,v7,aE]) (by simp[ax,eC,v7,aE]) (o:=[]) rfl
  |true=>
    rw[b6]at ad hl hh;simp only[go_sem,q0,q4,ad,h];refine bj aa rfl (nB hP 1 y.p a7) (B+43) G D H u _ _ Zb an S2 ?_ ?_ ?_
    .simp only[ax,aE,Emit.du,aD,j8,(bl _ _).1,l4,l5,B5]at hl|-;omega
    .simp only[ax,aE,Emit.du,aD,j8,(bl _ _).2,l4,l5,B5]at hh|-;omega
    intro r g3 b7 X L;simp only[go_sem];refine⟨_,ai.refl _,?_⟩;simp only[go_sem];exact ar.pack X (K1.trans ((K2.trans L).down a7)) (by simp[ax,eC,v7,aE,Emit.du,aD]) (by simp[ax,eC,v7,aE,Emit.du,aD]) (o:=[]) rfl
section
variable{k:bH}{fs:List Src.CFn}{P:Emit.Plan}{f:Nat}{V:Int}
def Rx(hP:nA k fs P f V)(a b n:Int):dn 116 [.agg ((bU ⟨1,a,b,n⟩).map .d)] (Emit.kL fs P f V ⟨1,a,b,n⟩) k:=by
 intro B G D H u code holes g ob ar j hl hh;have E:=ar.gB;have I:=ar.dB;have J:=ar.hB;have K:=ar.gd;have al:=ar.gh;have L:=ar.dh;refine hdM B [G,D,H] Tryz.func116 rfl [] XH ar.top λO bn s0 w0=>?_;have U:∀k,(G=B+k)=False:=λk=>by simp;omega
 have W:∀k,(D=B+k)=False:=λk=>by simp;omega
 have Y:∀k,(H=B+k)=False:=λk=>by simp;omega
 have q:=ar.oG;unfold bH.cells at q;rw[hP.fn]at q;have s:Emit.kL fs P f V ⟨1,a,b,n⟩=(ax (Emit.ko 1 n) (Emit.du P f V 1 0)):=by simp[Emit.kL]
 rw[s]at hl hh|-;simp only[ax,aD,aE,Emit.dJ,Emit.du,j8,l4,l5]at hl hh;simp only[go_sem,bU];obtain⟨l,h⟩:∃x,nxC 222 (g (B+3))=x:=⟨_,rfl⟩
 have t:eR (B+10) G D H k code holes (upd g (B+3) l) (upd ob (B+3) (S [ag 1,ag a,ag b,.d (.int .u32 n)])):=(ar.up a7).upd a7 a7 a7 a7 _ _;have v:cY B G D H g ob (upd g (B+3) l) (upd ob (B+3) (S [ag 1,ag a,ag b,.d (.int .u32 n)])):=⟨λi w _ _=>nu,λi w _ _ _=>nu⟩
 have A:upd g (B+3) l G=u:=by simp only[upd];rw[j9 a7];exact j
 rw[h];refine bj aa rfl (JC 1 n) (B+10) G D H u _ _ XM A t XN XP ?_;intro r g1 y Q K1;have bz:g1 G=u:=(K1.gen G a7 ar.gd ar.gh).trans A;have c:y (B+3)=S [ag 1,ag a,ag b,.d (.int .u32 n)]:=(K1.fr (B+3) a7 a7 a7 a7).trans XF;exact mc
def Ry(hP:nA k fs P f V)(a b n:Int):dn 119 [.agg ((bU ⟨2,a,b,n⟩).map .d)] (Emit.kL fs P f V ⟨2,a,b,n⟩) k:=by
 intro B G D H u code holes g ob ar j hl hh;have E:=ar.gB;have I:=ar.dB;have J:=ar.hB;have K:=ar.gd;have al:=ar.gh;have L:=ar.dh;refine hdM B [G,D,H] Tryz.func119 rfl [] XH ar.top λO bn s0 w0=>?_;have U:∀k,(G=B+k)=False:=λk=>by simp;omega
 have W:∀k,(D=B+k)=False:=λk=>by simp;omega
 have Y:∀k,(H=B+k)=False:=λk=>by simp;omega
 have q:=ar.oG;unfold bH.cells at q;rw[hP.fn]at q;have s:Emit.kL fs P f V ⟨2,a,b,n⟩=(ax (aD 16 1 0 a) (Emit.du P f V 1 0)):=by simp[Emit.kL]
 rw[s]at hl hh|-;simp only[ax,aD,aE,Emit.dJ,Emit.du,j8,l4,l5]at hl hh;simp only[go_sem,bU];obtain⟨l,h⟩:∃x,nxC 222 (g (B+3))=x:=⟨_,rfl⟩
 have t:eR (B+10) G D H k code holes (upd g (B+3) l) (upd ob (B+3) (S [ag 2,ag a,ag b,.d (.int .u32 n)])):=(ar.up a7).upd a7 a7 a7 a7 _ _;have v:cY B G D H g ob (upd g (B+3) l) (upd ob (B+3) (S [ag 2,ag a,ag b,.d (.int .u32 n)])):=⟨λi w _ _=>nu,λi w _ _ _=>nu⟩
 have A:upd g (B+3) l G=u:=by simp only[upd];rw[j9 a7];exact j
 rw[h];refine bj aa rfl (eS 16 1 0 a k) (B+10) G D H u _ _ XM A t XN XP ?_;intro r g1 y Q K1;have bz:g1 G=u:=(K1.gen G a7 ar.gd ar.gh).trans A;have c:y (B+3)=S [ag 2,ag a,ag b,.d (.int .u32 n)]:=(K1.fr (B+3) a7 a7 a7 a7).trans XF;exact mc
def Rz(j:nA k fs P f V)(a b n:Int):dn 120 [.agg ((bU ⟨3,a,b,n⟩).map .d)] (Emit.kL fs P f V ⟨3,a,b,n⟩) k:=by
 intro B G D H u code holes g ob ar t hl hh;have J:=ar.gB;have K:=ar.dB;have L:=ar.hB;have U:=ar.gd;have al:=ar.gh;have W:=ar.dh;refine hdM B [G,D,H] Tryz.func120 rfl [] XH ar.top λO bn s0 w0=>?_;have Y:∀k,(G=B+k)=False:=λk=>by simp;omega
 have Z:∀k,(D=B+k)=False:=λk=>by simp;omega
 have n3:∀k,(H=B+k)=False:=λk=>by simp;omega
 have q:=ar.oG;unfold bH.cells at q;rw[j.fn]at q;have w:Emit.kL fs P f V ⟨3,a,b,n⟩=(ax (Emit.dJ P f V 1 1) (aD 17 1 0 a)):=by simp[Emit.kL]
 rw[w]at hl hh|-;simp only[ax,aD,aE,Emit.dJ,Emit.du,j8,l4,l5]at hl hh;simp only[go_sem,bU];obtain⟨l,h⟩:∃x,nxC 222 (g (B+3))=x:=⟨_,rfl⟩
 have y:eR (B+10) G D H k code holes (upd g (B+3) l) (upd ob (B+3) (S [ag 3,ag a,ag b,.d (.int .u32 n)])):=(ar.up a7).upd a7 a7 a7 a7 _ _;have v:cY B G D H g ob (upd g (B+3) l) (upd ob (B+3) (S [ag 3,ag a,ag b,.d (.int .u32 n)])):=⟨λi E _ _=>nu,λi E _ _ _=>nu⟩
 have A:upd g (B+3) l G=u:=by simp only[upd];rw[j9 a7];exact t
 rw[h];refine bj aa rfl (lK j 1 1 b9) (B+10) G D H u _ _ XM A y XN XP ?_;intro r s I Q K1;have bz:s G=u:=(K1.gen G a7 ar.gd ar.gh).trans A;have c:I (B+3)=S [ag 3,ag a,ag b,.d (.int .u32 n)]:=(K1.fr (B+3) a7 a7 a7 a7).trans XF;have e:s (B+3)=l:=(K1.gen (B+3) a7 a7 a7).trans XF;simp only[go_sem,c,e];refine bj aa rfl (eS 17 1 0 a k) (B+10) G D H u _ _ X7 bz Q X8 X9 ?_;exact gJ
def RA(w:nA k fs P f V)(a b n:Int):dn 122 [.agg ((bU ⟨4,a,b,n⟩).map .d)] (Emit.kL fs P f V ⟨4,a,b,n⟩) k:=by
 intro B G D H u code holes g ob ar K hl hh;have cy:=ar.gB;have cz:=ar.dB;have c6:=ar.hB;have cb:=ar.gd;have al:=ar.gh;have cx:=ar.dh;refine hdM B [G,D,H] Tryz.func122 rfl [] XH ar.top λO bn s0 w0=>?_;have n1:∀k,(G=B+k)=False:=λk=>by simp;omega
 have n2:∀k,(D=B+k)=False:=λk=>by simp;omega
 have n3:∀k,(H=B+k)=False:=λk=>by simp;omega
 have q:=ar.oG;unfold bH.cells at q;rw[w.fn]at q;have U:Emit.kL fs P f V ⟨4,a,b,n⟩=(ax (Emit.dJ P f V 1 1) (ax (aD 25 1 0 b) (ax (aD 16 1 1 a) (Emit.du P f V 1 1)))):=by simp[Emit.kL]
 rw[U]at hl hh|-;simp only[ax,aD,aE,Emit.dJ,Emit.du,j8,l4,l5]at hl hh;simp only[go_sem,bU];obtain⟨l,h⟩:∃x,nxC 222 (g (B+3))=x:=⟨_,rfl⟩
 have W:eR (B+16) G D H k code holes (upd g (B+3) l) (upd ob (B+3) (S [ag 4,ag a,ag b,.d (.int .u32 n)])):=(ar.up a7).upd a7 a7 a7 a7 _ _;have v:cY B G D H g ob (upd g (B+3) l) (upd ob (B+3) (S [ag 4,ag a,ag b,.d (.int .u32 n)])):=⟨λi Y _ _=>nu,λi Y _ _ _=>nu⟩
 have A:upd g (B+3) l G=u:=by simp only[upd];rw[j9 a7];exact K
 rw[h];refine bj aa rfl (lK w 1 1 b9) (B+16) G D H u _ _ XM A W XN XP ?_;intro r y Z Q K1;have bz:y G=u:=(K1.gen G a7 ar.gd ar.gh).trans A;have c:Z (B+3)=S [ag 4,ag a,ag b,.d (.int .u32 n)]:=(K1.fr (B+3) a7 a7 a7 a7).trans XF;have e:y (B+3)=l:=(K1.gen (B+3) a7 a7 a7).trans XF;simp only[go_sem,c,e];refine bj aa rfl (eS 25 1 0 b k) (B+16) G D H u _ _ X7 bz Q X8 X9 ?_;intro r E bo S2 K2;have an:E G=u:=(K2.gen G a7 ar.gd ar.gh).trans bz;have j:bo (B+3)=S [ag 4,ag a,ag b,.d (.int .u32 n)]:=(K2.fr (B+3) a7 a7 a7 a7).trans c;have m:E (B+3)=l:=(K2.gen (B+3) a7 a7 a7).trans e;simp only[go_sem,j,m];refine bj aa rfl (eS 16 1 1 a k) (B+16) G D H u _ _ YY an S2 YZ Y0 ?_;intro r I b7 X L;have t:I G=u:=(L.gen G a7 ar.gd ar.gh).trans an;have p:b7 (B+3)=S [ag 4,ag a,ag b,.d (.int .u32 n)]:=(L.fr (B+3) a7 a7 a7 a7).trans j;have s:I (B+3)=l:=(L.gen (B+3) a7 a7 a7).trans m;simp only[go_sem,p,s];refine bj aa rfl (nB w 1 1 b9) (B+16) G D H u _ _ ZF t X ZG ZH ?_;exact ic
def RB(w:nA k fs P f V)(a b n:Int):dn 123 [.agg ((bU ⟨5,a,b,n⟩).map .d)] (Emit.kL fs P f V ⟨5,a,b,n⟩) k:=by
 intro B G D H u code holes g ob ar K hl hh;have cy:=ar.gB;have cz:=ar.dB;have c6:=ar.hB;have cb:=ar.gd;have al:=ar.gh;have cx:=ar.dh;refine hdM B [G,D,H] Tryz.func123 rfl [] XH ar.top λO bn s0 w0=>?_;have n1:∀k,(G=B+k)=False:=λk=>by simp;omega
 have n2:∀k,(D=B+k)=False:=λk=>by simp;omega
 have n3:∀k,(H=B+k)=False:=λk=>by simp;omega
 have q:=ar.oG;unfold bH.cells at q;rw[w.fn]at q;have U:Emit.kL fs P f V ⟨5,a,b,n⟩=(ax (Emit.dJ P f V 1 2) (ax (aD 25 1 0 b) (ax (Emit.dJ P f V 2 1) (aD 17 2 1 a)))):=by simp[Emit.kL]
 rw[U]at hl hh|-;simp only[ax,aD,aE,Emit.dJ,Emit.du,j8,l4,l5]at hl hh;simp only[go_sem,bU];obtain⟨l,h⟩:∃x,nxC 222 (g (B+3))=x:=⟨_,rfl⟩
 have W:eR (B+16) G D H k code holes (upd g (B+3) l) (upd ob (B+3) (S [ag 5,ag a,ag b,.d (.int .u32 n)])):=(ar.up a7).upd a7 a7 a7 a7 _ _;have v:cY B G D H g ob (upd g (B+3) l) (upd ob (B+3) (S [ag 5,ag a,ag b,.d (.int .u32 n)])):=⟨λi Y _ _=>nu,λi Y _ _ _=>nu⟩
 have A:upd g (B+3) l G=u:=by simp only[upd];rw[j9 a7];exact K
 rw[h];refine bj aa rfl (lK w 1 2 b9) (B+16) G D H u _ _ XM A W XN XP ?_;intro r y Z Q K1;have bz:y G=u:=(K1.gen G a7 ar.gd ar.gh).trans A;have c:Z (B+3)=S [ag 5,ag a,ag b,.d (.int .u32 n)]:=(K1.fr (B+3) a7 a7 a7 a7).trans XF;have e:y (B+3)=l:=(K1.gen (B+3) a7 a7 a7).trans XF;simp only[go_sem,c,e];refine bj aa rfl (eS 25 1 0 b k) (B+16) G D H u _ _ X7 bz Q X8 X9 ?_;intro r E bo S2 K2;have an:E G=u:=(K2.gen G a7 ar.gd ar.gh).trans bz;have j:bo (B+3)=S [ag 5,ag a,ag b,.d (.int .u32 n)]:=(K2.fr (B+3) a7 a7 a7 a7).trans c;have m:E (B+3)=l:=(K2.gen (B+3) a7 a7 a7).trans e;simp only[go_sem,j,m];refine bj aa rfl (lK w 2 1 b9) (B+16) G D H u _ _ YY an S2 YZ Y0 ?_;intro r I b7 X L;have t:I G=u:=(L.gen G a7 ar.gd ar.gh).trans an;have p:b7 (B+3)=S [ag 5,ag a,ag b,.d (.int .u32 n)]:=(L.fr (B+3) a7 a7 a7 a7).trans j;have s:I (B+3)=l:=(L.gen (B+3) a7 a7 a7).trans m;simp only[go_sem,p,s];refine bj aa rfl (eS 17 2 1 a k) (B+16) G D H u _ _ ZF t X ZG ZH ?_;exact ic
def RC(w:nA k fs P f V)(a b n:Int):dn 124 [.agg ((bU ⟨6,a,b,n⟩).map .d)] (Emit.kL fs P f V ⟨6,a,b,n⟩) k:=by
 intro B G D H u code holes g ob ar K hl hh;have cy:=ar.gB;have cz:=ar.dB;have c6:=ar.hB;have cb:=ar.gd;have al:=ar.gh;have cx:=ar.dh;refine hdM B [G,D,H] Tryz.func124 rfl [] XH ar.top λO bn s0 w0=>?_;have n1:∀k,(G=B+k)=False:=λk=>by simp;omega
 have n2:∀k,(D=B+k)=False:=λk=>by simp;omega
 have n3:∀k,(H=B+k)=False:=λk=>by simp;omega
 have q:=ar.oG;unfold bH.cells at q;rw[w.fn]at q;have U:Emit.kL fs P f V ⟨6,a,b,n⟩=(ax (Emit.dJ P f V 1 2) (ax (Emit.dJ P f V 2 1) (ax (aD a 1 1 2) (Emit.du P f V 1 2)))):=by simp[Emit.kL]
 rw[U]at hl hh|-;simp only[ax,aD,aE,Emit.dJ,Emit.du,j8,l4,l5]at hl hh;simp only[go_sem,bU];obtain⟨l,h⟩:∃x,nxC 222 (g (B+3))=x:=⟨_,rfl⟩
 have W:eR (B+14) G D H k code holes (upd g (B+3) l) (upd ob (B+3) (S [ag 6,ag a,ag b,.d (.int .u32 n)])):=(ar.up a7).upd a7 a7 a7 a7 _ _;have v:cY B G D H g ob (upd g (B+3) l) (upd ob (B+3) (S [ag 6,ag a,ag b,.d (.int .u32 n)])):=⟨λi Y _ _=>nu,λi Y _ _ _=>nu⟩
 have A:upd g (B+3) l G=u:=by simp only[upd];rw[j9 a7];exact K
 rw[h];refine bj aa rfl (lK w 1 2 b9) (B+14) G D H u _ _ XM A W XN XP ?_;intro r y Z Q K1;have bz:y G=u:=(K1.gen G a7 ar.gd ar.gh).trans A;have c:Z (B+3)=S [ag 6,ag a,ag b,.d (.int .u32 n)]:=(K1.fr (B+3) a7 a7 a7 a7).trans XF;have e:y (B+3)=l:=(K1.gen (B+3) a7 a7 a7).trans XF;simp only[go_sem,c,e];refine bj aa rfl (lK w 2 1 b9) (B+14) G D H u _ _ X7 bz Q X8 X9 ?_;intro r E bo S2 K2;have an:E G=u:=(K2.gen G a7 ar.gd ar.gh).trans bz;have j:bo (B+3)=S [ag 6,ag a,ag b,.d (.int .u32 n)]:=(K2.fr (B+3) a7 a7 a7 a7).trans c;have m:E (B+3)=l:=(K2.gen (B+3) a7 a7 a7).trans e;simp only[go_sem,j,m];refine bj aa rfl (eS a 1 1 2 k) (B+14) G D H u _ _ YY an S2 YZ Y0 ?_;intro r I b7 X L;have t:I G=u:=(L.gen G a7 ar.gd ar.gh).trans an;have p:b7 (B+3)=S [ag 6,ag a,ag b,.d (.int .u32 n)]:=(L.fr (B+3) a7 a7 a7 a7).trans j;have s:I (B+3)=l:=(L.gen (B+3) a7 a7 a7).trans m;simp only[go_sem,p,s];refine bj aa rfl (nB w 1 2 b9) (B+14) G D H u _ _ ZF t X ZG ZH ?_;exact ic
def RD(w:nA k fs P f V)(a b n:Int):dn 125 [.agg ((bU ⟨7,a,b,n⟩).map .d)] (Emit.kL fs P f V ⟨7,a,b,n⟩) k:=by
 intro B G D H u code holes g ob ar I hl hh;have cy:=ar.gB;have cz:=ar.dB;have c6:=ar.hB;have cb:=ar.gd;have al:=ar.gh;have cx:=ar.dh;refine hdM B [G,D,H] Tryz.func125 rfl [] XH ar.top λO bn s0 w0=>?_;have n1:∀k,(G=B+k)=False:=λk=>by simp;omega
 have n2:∀k,(D=B+k)=False:=λk=>by simp;omega
 have n3:∀k,(H=B+k)=False:=λk=>by simp;omega
 have q:=ar.oG;unfold bH.cells at q;rw[w.fn]at q;have J:Emit.kL fs P f V ⟨7,a,b,n⟩=(ax (Emit.dJ P f V 1 1) (ax (aD 15 1 1 0) (Emit.du P f V 1 1))):=by simp[Emit.kL]
 rw[J]at hl hh|-;simp only[ax,aD,aE,Emit.dJ,Emit.du,j8,l4,l5]at hl hh;simp only[go_sem,bU];obtain⟨l,h⟩:∃x,nxC 222 (g (B+3))=x:=⟨_,rfl⟩
 have K:eR (B+10) G D H k code holes (upd g (B+3) l) (upd ob (B+3) (S [ag 7,ag a,ag b,.d (.int .u32 n)])):=(ar.up a7).upd a7 a7 a7 a7 _ _;have v:cY B G D H g ob (upd g (B+3) l) (upd ob (B+3) (S [ag 7,ag a,ag b,.d (.int .u32 n)])):=⟨λi U _ _=>nu,λi U _ _ _=>nu⟩
 have A:upd g (B+3) l G=u:=by simp only[upd];rw[j9 a7];exact I
 rw[h];refine bj aa rfl (lK w 1 1 b9) (B+10) G D H u _ _ XM A K XN XP ?_;intro r y W Q s;have bz:y G=u:=(s.gen G a7 ar.gd ar.gh).trans A;have c:W (B+3)=S [ag 7,ag a,ag b,.d (.int .u32 n)]:=(s.fr (B+3) a7 a7 a7 a7).trans XF;have e:y (B+3)=l:=(s.gen (B+3) a7 a7 a7).trans XF;simp only[go_sem,c,e];refine bj aa rfl (eS 15 1 1 0 k) (B+10) G D H u _ _ X7 bz Q X8 X9 ?_;intro r E Y Z t;have an:E G=u:=(t.gen G a7 ar.gd ar.gh).trans bz;have j:Y (B+3)=S [ag 7,ag a,ag b,.d (.int .u32 n)]:=(t.fr (B+3) a7 a7 a7 a7).trans c;have m:E (B+3)=l:=(t.gen (B+3) a7 a7 a7).trans e;simp only[go_sem,j,m];refine bj aa rfl (nB w 1 1 b9) (B+10) G D H u _ _ YY an Z YZ Y0 ?_;intro r g3 b7 X L;simp only[go_sem];refine⟨_,ai.refl _,?_⟩;simp only[go_sem];exact ar.pack X (v.trans (cY.down (s.trans (t.trans L)) a7)) ZT ZT (o:=[]) rfl
def RF(j:nA k fs P f V)(a b n:Int):dn 126 [.agg ((bU ⟨8,a,b,n⟩).map .d)] (Emit.kL fs P f V ⟨8,a,b,n⟩) k:=by
 intro B G D H u code holes g ob ar e hl hh;have J:=ar.gB;have K:=ar.dB;have L:=ar.hB;have U:=ar.gd;have al:=ar.gh;have W:=ar.dh;refine hdM B [G,D,H] Tryz.func126 rfl [] XH ar.top λO bn s0 w0=>?_;have s:∀k,(G=B+k)=False:=λk=>by simp;omega
 have t:∀k,(D=B+k)=False:=λk=>by simp;omega
 have w:∀k,(H=B+k)=False:=λk=>by simp;omega
 have q:=ar.oG;unfold bH.cells at q;rw[j.fn]at q;have y:Emit.kL fs P f V ⟨8,a,b,n⟩=(aE 18 0 f a):=by simp[Emit.kL]
 rw[y]at hl hh|-;simp only[go_sem,bU];obtain⟨l,h⟩:∃x,nxC 222 (g (B+3))=x:=⟨_,rfl⟩
 have E:eR (B+12) G D H k code holes (upd g (B+3) l) (upd ob (B+3) (S [ag 8,ag a,ag b,.d (.int .u32 n)])):=(ar.up a7).upd a7 a7 a7 a7 _ _;have v:cY B G D H g ob (upd g (B+3) l) (upd ob (B+3) (S [ag 8,ag a,ag b,.d (.int .u32 n)])):=⟨λi I _ _=>nu,λi I _ _ _=>nu⟩
 have A:upd g (B+3) l G=u:=by simp only[upd];rw[j9 a7];exact e
 rw[h];refine aP c9 ?_;simp only[go_sem,s,t,w,q,e];refine bj aa rfl (Df 18 0 f a) (B+12) G D H u _ _ XM A E XN XP ?_;exact o6
def RG(j:nA k fs P f V)(a b n:Int):dn 128 [.agg ((bU ⟨9,a,b,n⟩).map .d)] (Emit.kL fs P f V ⟨9,a,b,n⟩) k:=by
 intro B G D H u code holes g ob ar w hl hh;have K:=ar.gB;have L:=ar.dB;have U:=ar.hB;have W:=ar.gd;have al:=ar.gh;have Y:=ar.dh;refine hdM B [G,D,H] Tryz.func128 rfl [] XH ar.top λO bn s0 w0=>?_;have Z:∀k,(G=B+k)=False:=λk=>by simp;omega
 have n2:∀k,(D=B+k)=False:=λk=>by simp;omega
 have n3:∀k,(H=B+k)=False:=λk=>by simp;omega
 have q:=ar.oG;unfold bH.cells at q;rw[j.fn]at q;have y:Emit.kL fs P f V ⟨9,a,b,n⟩=(ax (Emit.dJ P f V 1 1) (aE 19 1 f a)):=by simp[Emit.kL]
 rw[y]at hl hh|-;simp only[ax,aD,aE,Emit.dJ,Emit.du,j8,l4,l5]at hl hh;simp only[go_sem,bU];obtain⟨l,h⟩:∃x,nxC 222 (g (B+3))=x:=⟨_,rfl⟩
 have E:eR (B+14) G D H k code holes (upd g (B+3) l) (upd ob (B+3) (S [ag 9,ag a,ag b,.d (.int .u32 n)])):=(ar.up a7).upd a7 a7 a7 a7 _ _;have v:cY B G D H g ob (upd g (B+3) l) (upd ob (B+3) (S [ag 9,ag a,ag b,.d (.int .u32 n)])):=⟨λi I _ _=>nu,λi I _ _ _=>nu⟩
 have A:upd g (B+3) l G=u:=by simp only[upd];rw[j9 a7];exact w
 rw[h];refine bj aa rfl (lK j 1 1 b9) (B+14) G D H u _ _ XM A E XN XP ?_;intro r s J Q K1;have bz:s G=u:=(K1.gen G a7 ar.gd ar.gh).trans A;have c:J (B+3)=S [ag 9,ag a,ag b,.d (.int .u32 n)]:=(K1.fr (B+3) a7 a7 a7 a7).trans XF;have e:s (B+3)=l:=(K1.gen (B+3) a7 a7 a7).trans XF;simp only[go_sem,c,e];refine aP c9 ?_;have t:=Q.oG;unfold bH.cells at t;rw[j.fn]at t;simp only[go_sem,t,bz,c,e];refine bj aa rfl (Df 19 1 f a) (B+14) G D H u _ _ X7 bz Q X8 X9 ?_;exact gJ
def Nq(e:nA k fs P f V)(a b n:Int){c:Nat}{y:Src.CFn}(Z:a=(c:Int))(j:fs[c]?=S y):dn 129 [.agg ((bU ⟨10,a,b,n⟩).map .d)] (Emit.kL fs P f V ⟨10,a,b,n⟩) k:=by
 intro B G D H u code holes g ob ar s hl hh;have I:=ar.gB;have J:=ar.dB;have K:=ar.hB;have L:=ar.gd;have al:=ar.gh;have U:=ar.dh;refine hdM B [G,D,H] Tryz.func129 rfl [] XH ar.top λO bn s0 w0=>?_;have W:∀k,(G=B+k)=False:=λk=>by simp;omega
 have Y:∀k,(D=B+k)=False:=λk=>by simp;omega
 have n3:∀k,(H=B+k)=False:=λk=>by simp;omega
 have q:=ar.oG;unfold bH.cells at q;rw[e.fn]at q;have t:Emit.kL fs P f V ⟨10,a,b,n⟩=(Emit.tZ fs P f V a):=by simp[Emit.kL]
 rw[t]at hl hh|-;simp only[go_sem,bU];obtain⟨l,h⟩:∃x,nxC 222 (g (B+3))=x:=⟨_,rfl⟩
 have w:eR (B+7) G D H k code holes (upd g (B+3) l) (upd ob (B+3) (S [ag 10,ag a,ag b,.d (.int .u32 n)])):=(ar.up a7).upd a7 a7 a7 a7 _ _;have v:cY B G D H g ob (upd g (B+3) l) (upd ob (B+3) (S [ag 10,ag a,ag b,.d (.int .u32 n)])):=⟨λi E _ _=>nu,λi E _ _ _=>nu⟩
 have A:upd g (B+3) l G=u:=by simp only[upd];rw[j9 a7];exact s
 rw[h];refine bj aa rfl (Rw e ⟨10,a,b,n⟩ Z j) (B+7) G D H u _ _ XM A w XN XP ?_;exact o6
def Nr(e:nA k fs P f V)(a b n:Int):dn 131 [.agg ((bU ⟨11,a,b,n⟩).map .d)] (Emit.kL fs P f V ⟨11,a,b,n⟩) k:=by
 intro B G D H u code holes g ob ar j hl hh;have y:=ar.gB;have E:=ar.dB;have I:=ar.hB;have J:=ar.gd;have al:=ar.gh;have K:=ar.dh;refine hdM B [G,D,H] Tryz.func131 rfl [] XH ar.top λO bn s0 w0=>?_;have L:∀k,(G=B+k)=False:=λk=>by simp;omega
 have U:∀k,(D=B+k)=False:=λk=>by simp;omega
 have W:∀k,(H=B+k)=False:=λk=>by simp;omega
 have q:=ar.oG;unfold bH.cells at q;rw[e.fn]at q;have s:Emit.kL fs P f V ⟨11,a,b,n⟩=(Emit.kK fs P f V):=by simp[Emit.kL]
 rw[s]at hl hh|-;simp only[go_sem,bU];obtain⟨l,h⟩:∃x,nxC 222 (g (B+3))=x:=⟨_,rfl⟩
 have t:eR (B+6) G D H k code holes (upd g (B+3) l) (upd ob (B+3) (S [ag 11,ag a,ag b,.d (.int .u32 n)])):=(ar.up a7).upd a7 a7 a7 a7 _ _;have v:cY B G D H g ob (upd g (B+3) l) (upd ob (B+3) (S [ag 11,ag a,ag b,.d (.int .u32 n)])):=⟨λi w _ _=>nu,λi w _ _ _=>nu⟩
 have A:upd g (B+3) l G=u:=by simp only[upd];rw[j9 a7];exact j
 rw[h];refine bj aa rfl (No e) (B+6) G D H u _ _ XM A t XN XP ?_;exact o6
def Ns(j:nA k fs P f V)(a b n:Int):dn 133 [.agg ((bU ⟨12,a,b,n⟩).map .d)] (Emit.kL fs P f V ⟨12,a,b,n⟩) k:=by
 intro B G D H u code holes g ob ar t hl hh;have J:=ar.gB;have K:=ar.dB;have L:=ar.hB;have U:=ar.gd;have al:=ar.gh;have W:=ar.dh;refine hdM B [G,D,H] Tryz.func133 rfl [] XH ar.top λO bn s0 w0=>?_;have Y:∀k,(G=B+k)=False:=λk=>by simp;omega
 have Z:∀k,(D=B+k)=False:=λk=>by simp;omega
 have n3:∀k,(H=B+k)=False:=λk=>by simp;omega
 have q:=ar.oG;unfold bH.cells at q;rw[j.fn]at q;have w:Emit.kL fs P f V ⟨12,a,b,n⟩=(ax (aD 23 1 0 0) (Emit.du P f V 1 0)):=by simp[Emit.kL]
 rw[w]at hl hh|-;simp only[ax,aD,aE,Emit.dJ,Emit.du,j8,l4,l5]at hl hh;simp only[go_sem,bU];obtain⟨l,h⟩:∃x,nxC 222 (g (B+3))=x:=⟨_,rfl⟩
 have y:eR (B+8) G D H k code holes (upd g (B+3) l) (upd ob (B+3) (S [ag 12,ag a,ag b,.d (.int .u32 n)])):=(ar.up a7).upd a7 a7 a7 a7 _ _;have v:cY B G D H g ob (upd g (B+3) l) (upd ob (B+3) (S [ag 12,ag a,ag b,.d (.int .u32 n)])):=⟨λi E _ _=>nu,λi E _ _ _=>nu⟩
 have A:upd g (B+3) l G=u:=by simp only[upd];rw[j9 a7];exact t
 rw[h];refine bj aa rfl (eS 23 1 0 0 k) (B+8) G D H u _ _ XM A y XN XP ?_;intro r s I Q K1;have bz:s G=u:=(K1.gen G a7 ar.gd ar.gh).trans A;have c:I (B+3)=S [ag 12,ag a,ag b,.d (.int .u32 n)]:=(K1.fr (B+3) a7 a7 a7 a7).trans XF;have e:s (B+3)=l:=(K1.gen (B+3) a7 a7 a7).trans XF;simp only[go_sem,c,e];refine bj aa rfl (nB j 1 0 b9) (B+8) G D H u _ _ X7 bz Q X8 X9 ?_;exact gJ
def Nt(j:nA k fs P f V)(a b n:Int):dn 134 [.agg ((bU ⟨13,a,b,n⟩).map .d)] (Emit.kL fs P f V ⟨13,a,b,n⟩) k:=by
 intro B G D H u code holes g ob ar t hl hh;have J:=ar.gB;have K:=ar.dB;have L:=ar.hB;have U:=ar.gd;have al:=ar.gh;have W:=ar.dh;refine hdM B [G,D,H] Tryz.func134 rfl [] XH ar.top λO bn s0 w0=>?_;have Y:∀k,(G=B+k)=False:=λk=>by simp;omega
 have Z:∀k,(D=B+k)=False:=λk=>by simp;omega
 have n3:∀k,(H=B+k)=False:=λk=>by simp;omega
 have q:=ar.oG;unfold bH.cells at q;rw[j.fn]at q;have w:Emit.kL fs P f V ⟨13,a,b,n⟩=(ax (Emit.dJ P f V 1 1) (aD 24 1 0 0)):=by simp[Emit.kL]
 rw[w]at hl hh|-;simp only[ax,aD,aE,Emit.dJ,Emit.du,j8,l4,l5]at hl hh;simp only[go_sem,bU];obtain⟨l,h⟩:∃x,nxC 222 (g (B+3))=x:=⟨_,rfl⟩
 have y:eR (B+8) G D H k code holes (upd g (B+3) l) (upd ob (B+3) (S [ag 13,ag a,ag b,.d (.int .u32 n)])):=(ar.up a7).upd a7 a7 a7 a7 _ _;have v:cY B G D H g ob (upd g (B+3) l) (upd ob (B+3) (S [ag 13,ag a,ag b,.d (.int .u32 n)])):=⟨λi E _ _=>nu,λi E _ _ _=>nu⟩
 have A:upd g (B+3) l G=u:=by simp only[upd];rw[j9 a7];exact t
 rw[h];refine bj aa rfl (lK j 1 1 b9) (B+8) G D H u _ _ XM A y XN XP ?_;intro r s I Q K1;have bz:s G=u:=(K1.gen G a7 ar.gd ar.gh).trans A;have c:I (B+3)=S [ag 13,ag a,ag b,.d (.int .u32 n)]:=(K1.fr (B+3) a7 a7 a7 a7).trans XF;have e:s (B+3)=l:=(K1.gen (B+3) a7 a7 a7).trans XF;simp only[go_sem,c,e];refine bj aa rfl (eS 24 1 0 0 k) (B+8) G D H u _ _ X7 bz Q X8 X9 ?_;exact gJ
end
end
end Go.Proofs.YtlacbjnmkhndiaaGreatDoor.Low
namespace Go.Am
section
attribute[local congr]ite_cc
section
variable{s:St}{K:St->Prop}{o:Oper}{t:TypeId}{m ix x:Operand}{t1 t2:TypeId}{id bs g g2 sz n:Nat}{cells A:List C}{k:Box K}
section
variable{P:Program}{E:Nat->TI}{O:Bs}{β:Loc}{w:World}{rd:Option Nat}{Φ:St->Loc->List Deferred->World->Prop}{B0:Nat}{Ψ:fT}{L:Pan}
def xb(w:World)(f g ty c:TypeId)(b o n d b5 sz:Nat)(a:Addr)(cs:List Value)(arr:Array Value)(el:TypeId)(H l:Nat)
 (L:P.underlying f=S (.slice c))(q:(P.info? c).map (·.size)=S sz)(u:n*sz=z cs)
 (e:∀j v,cs[j]?=S v->w.cell? (a.add j)=S v)(r:w.heap[b]?=S (.cells arr el (H,l)))(hf:l<=H\/arr.size<=H)(Q:o+z cs<=arr.size)(U:∀v∈cs,v.oneCell'=T):
  (Builtin.copy_ #[f,g] ty #[.slice (S ⟨b,o,N⟩) n d,.slice (S a) n b5]).run P w=.ok (goInt n) (w.setCells b o cs):=by
 have hl:=run_loadCells_list (P:=P) w a cs e;have y:=run_storeCells_cells (P:=P) b o cs 0 w (λj B=>by simp[World.cell?,r];omega) (λj B=>sN r hf a7) U;cases p:P.info? c with
 |none=>simp[p]at q
 |some i=>
   have l:i.size=sz:=by simpa[p]using q
   simp[Builtin.copy_,run_underlying L,Builtin.lenOf,Builtin.firstCells,sizeOf,typeInfo,p,l,u,hl,y]
def FT(hT:bu P E){B:Nat}{x y:Operand}(ho:o.op=.call ⟨.builtin .copy,#[x,y],#[t1,t2]⟩)(cb:dI E t1=T)
 (I:s.ev x=.one (.osl id g sz 0 n))(hg:s.gen id=g)(hy:s.ev y=.one (.osl bs g2 sz 0 n))(an:s.gen bs=g2)(az:(bh E t1).size=sz)(t:s.obj id=S cells)(ch:z cells=n*sz)(cv:s.obj bs=S A)(cd:z A=n*sz)(bk:0<n)
 (hk:K (St.put {s with obj:=upd s.obj id (S A)} o.dst (iv .i64 n))):bC (spB P B) o s k:=by
 refine⟨λW=>W=St.put {s with obj:=upd s.obj id (S A)} o.dst (iv .i64 n),λO al β a w V hd next Q hn=>?_,λ_ e=>e▸hk⟩;obtain⟨e,c1,cc,L,b2⟩:=eQ hT cb;rw[cc]at az;have hv:=V.ev x;rw[I]at hv;simp only[ak,aK]at hv;have hv:=hv.2.2 hg (by simp[t]);have d:=V.ev y;rw[hy]at d;simp only[ak,aK]at d;have d:=d.2.2 an (by simp[cv]);have af:=d.spot;rcases pV (off:=0) (n:=n*sz) V af cv a7 with⟨b5,G,vs,p,hl,bf⟩|⟨G,_⟩
 case inr=>rw[G]at d;have:=d.1;omega
 cases av:β id with
 |none=>rw[av]at hv;have:=hv.1;omega
 |some ad=>
   rw[av]at hv;obtain⟨bo,⟨cap,hv,Z,_⟩|⟨h0,_⟩⟩:=hv
   case inr=>omega
   rw[G]at d;obtain⟨_,⟨b6,d,bl,_⟩|⟨h0,_⟩⟩:=d
   case inr=>omega
   have bn:=V.obj id cells t;rw[av]at bn;obtain⟨hB,arr,el,H,hi,r,ar,bd,ca⟩:=bn.cells bo
   have b0:(P.info? e).map (·.size)=S sz:=by
    obtain⟨i,q1,q2,_⟩:=b2.info;rw[q1,A3,q2,az]
   have bz:=xb (P:=P) w t1 t2 o.type e ad.block (ad.off+0) n cap b6 sz ⟨b5.block,b5.off+0,N⟩ vs arr el H hi L b0 hl.symm (λj v hj=>by rw[ew];exact bf j v hj) r ar.1 a7 p.one
   have b3:(execOp a.eval o).run P w=.ok (.value (goInt n)) (w.setCells ad.block (ad.off+0) vs):=by
    simp only[LN]at bz hv d|-;simp[execOp,ho,resolve,invoke,hv,d,builtin,bz]
   obtain⟨b1,f1,f2,f3⟩:=fW ad.block vs (ad.off+0) w arr el (H,hi) r
   have X:∀i,(upd s.obj id (S A) i).isSome=(s.obj i).isSome:=λi=>by
    simp only[upd];split
    .rename_i he;rw[he,t];rfl
    .rfl
   have q:fE O β s.gen s.obj w β s.gen (upd s.obj id (S A)) (w.setCells ad.block (ad.off+0) vs):=by
    refine⟨λb hb=>?_,λ_=>l8 _,λi _ a6=>?_⟩
    .have b4:b≠ad.block:=λhe=>hb.2.2 id ad (by simp[t]) av he.symm
     exact Vw
    .exact oR
   have b7:bL O β s w A vs:=by
    rw[D7,s7 a7]at p;exact p
   have cx:Rel O al {s with obj:=upd s.obj id (S A)} β a (w.setCells ad.block (ad.off+0) vs):=by
    refine⟨V.defers,V.size,λi=>ak.keep q _ (V.f i),λi l m=>?_,λi i' a1 a2 U h2=>V.inj i i' a1 a2 (by rw[<-X i];exact U) (by rw[<-X i'];exact h2),by rw[setCells_size];exact V.base⟩;by_cases b8:i=id
    .subst b8
     simp only[upd,B5,w7]at m;subst m;rw[av];refine .ofCells bo ⟨hB,b1,el,H,hi,f1,by rw[f2];exact ar,by rw[f2];omega,λj c Z=>?_⟩;have c0:j<z A:=(l6.1 Z).1;rw[f3,l9 a7,show ad.off+j-(ad.off+0)=j by omega];obtain⟨u,cy,J⟩:=b7.2 j c Z;exact⟨u,cy,J.keep q⟩
    .have Y:s.obj i=S l:=by
      have h:=m;simp only[upd,j9 b8]at h;exact h
     refine(V.obj i l Y).keep q (λa' b'=>heap_setCells_other _ _ _ _ _ (λhb=>b8 (V.inj i id a' ad (by simp[Y]) (by simp[t]) b' av hb)))
   have cf:Tr O β s w β {s with obj:=upd s.obj id (S A)} (w.setCells ad.block (ad.off+0) vs):=
    ⟨by rw[setCells_size];exact l8 _,λb hb=>heap_setCells_other _ _ _ _ _ a7,q,lX _ _ _ _⟩
   refine gf b3 (hn _ β _ _ rfl (cx.put hd ?_) (cf.trans (Tr.same (St.put_gen _ _ _) (St.put_obj _ _ _) rfl)));simp only[ak,aK];exact .int _ _
def Cx(a6:bp O Φ)(hT:bu P E){x y:Operand}(ho:o.op=.call ⟨.builtin .copy,#[x,y],#[t1,t2]⟩)(a:dI E t1=T)
 (I:s.ev x=.one (.osl id g sz 0 n))(b:s.gen id=g)(c:s.ev y=.one (.osl bs g2 sz 0 n))(d:s.gen bs=g2)(az:(bh E t1).size=sz)(t:s.obj id=S cells)(e:z cells=n*sz)(f:s.obj bs=S A)(i:z A=n*sz)(bk:0<n)
 (j:K (St.put {s with obj:=upd s.obj id (S A)} o.dst (iv .i64 n))):bC (spF P rd O Φ B0 Ψ) o s k:=
 xu a6 Y7 (FT (B:=0) (k:=k) hT ho a I b c d az t e f i bk j)
def Cy(a6:bp O Φ){t:Nat}{args:Array Operand}{tys:Array TypeId}(ho:o.op=.call ⟨.value (.tmp t),args,tys⟩){f:FuncId}(hf:s.f t=.one (.d (.fn f))){R:AV->(Nat->Nat)->Obs->Prop}
 (hp:dj P f (args.toList.map s.ev) s.gen s.obj R L)(I:∀ch g' Y,L ch g' Y->Ψ ch ⟨s.f,g',Y⟩)(hk:∀r g' Y,R r g' Y->K (St.put ⟨s.f,g',Y⟩ o.dst r)):bC (spF P rd O Φ B0 Ψ) o s k:=by
 refine⟨λW=>∃r g' Y,R r g' Y/\W=St.put ⟨s.f,g',Y⟩ o.dst r,λal β a ds w V X c next Q hn g=>?_,λ_⟨r,g',Y,V,e⟩=>e▸hk r g' Y V⟩;have j:aW o=T:=by simp[aW,ho]
 refine iG j ?_;have hv:=V.f t;rw[hf]at hv;simp only[ak,aK]at hv;have hv:a.tmps.getD t undef=.func (.func f) #[] #[]:=by generalize a.tmps.getD t undef=v at hv;cases hv;rfl
 have bz:(execOp a.eval o).run P w=.ok (.enter f (args.map a.eval)) w:=by
  exact k7
 unfold Oper.wp;rw[bz];exact K6
def Ab(hT:bu P E){B:Nat}(ho:o.op=.insert t m ix x)(h:eK E t s (s.ev m) (s.ev ix) (s.ev x) (bx λW=>K (W.put o.dst uv))):bC (spB P B) o s k:=by
 refine⟨K,λO al β a w V hd next Q b=>?_,λ_ h=>h⟩;obtain⟨W,G,U,c,d,e⟩:=mL hT V h (V.ev m) (V.ev ix) (V.ev x);exact vy (G:=G) (by simp[execOp,ho,c]) (b _ _ _ _ U (d.put hd cZ) (e.trans (Tr.same (St.put_gen _ _ _) (St.put_obj _ _ _) rfl)))
def yK(a6:bp O Φ)(hT:bu P E)(ho:o.op=.insert t m ix x)(h:eK E t s (s.ev m) (s.ev ix) (s.ev x) (bx λW=>K (W.put o.dst uv))):bC (spF P rd O Φ B0 Ψ) o s k:=
 xu a6 Y7 (Ab (B:=0) (k:=k) hT ho h)
end
section
variable{ar:Sp}{E:Nat->TI}
@[go_sem]def Qz{dst:Option Tmp}{ty:TypeId}{ps:String}{a:Array Edge}{gd:Option (Nat×Bool)}:opA ar E ⟨dst,.insert t m ix x,ty,ps,a,gd⟩ s k=bC ar ⟨dst,.insert t m ix x,ty,ps,a,gd⟩ s k:=B9 rfl rfl
end
end
end
end Go.Am
namespace Go.Proofs.YtlacbjnmkhndiaaGreatDoor.Low
section
open Go Go.Am Go.Lower
open Go.Emit (Wr aD aE ax sQ eC)
attribute[local congr]ite_cc
section
def JD:List C:=[ag 1,.d (.fn 116),ag 2,.d (.fn 119),ag 3,.d (.fn 120),ag 4,.d (.fn 122),ag 5,.d (.fn 123),ag 6,.d (.fn 124),ag 7,.d (.fn 125),ag 8,.d (.fn 126),ag 9,.d (.fn 128),ag 10,.d (.fn 129),ag 11,.d (.fn 131),ag 12,.d (.fn 133),ag 13,.d (.fn 134)]
def Dg{g:Nat->Nat}{ob:Obs}(B:Nat):
  dj Tryz.prog 73 [] g ob (λr g' Y=>r=.one (.mp (B+1) (g' (B+1)) 3)/\Y (B+1)=S JD/\∀i,i<B\/B+3<=i->g' i=g i/\Y i=ob i) (λ_ _ _=>False):=by
 refine hdX B Tryz.func73 rfl [.tmp 0] λO bn s0 w0=>?_;have c:∀a b:Int,kO (.int .i64 a) (.int .i64 b)=decide (a=b):=λa b=>by simp[kO]
 simp only[go_sem]
 iterate 13 (refine yK aa aO rfl ?_;simp only[go_sem,mset,c,B4,L7,Tz,E0])
 refine⟨_,ai.refl _,?_⟩;simp only[go_sem];exact⟨rfl,rfl,λi d=>⟨nu,nu⟩⟩
structure ES (fs:List Src.CFn) (x:Ins):Prop where
 op:1<=x.op/\x.op<=13
 c:x.op=10->∃(c:Nat)(y:Src.CFn),x.a=(c:Int)/\fs[c]?=some y
variable{k:bH}{fs:List Src.CFn}{P:Emit.Plan}
def Wi{f:Nat}{V:Int}(e:nA k fs P f V){x:Ins}(h:ES fs x):∃fn,mget JD (.int .i64 x.op)=S (.d (.fn fn))/\dn fn [.agg ((bU x).map .d)] (Emit.kL fs P f V x) k:=by
 obtain⟨⟨U,g⟩,Z⟩:=h;obtain⟨op,a,b,n⟩:=x;simp only at U g Z;have:op=1\/op=2\/op=3\/op=4\/op=5\/op=6\/op=7\/op=8\/op=9\/op=10\/op=11\/op=12\/op=13:=a7;rcases this with rfl|rfl|rfl|rfl|rfl|rfl|rfl|rfl|rfl|rfl|rfl|rfl|rfl
 .exact⟨116,rfl,Rx e a b n⟩
 .exact⟨119,rfl,Ry e a b n⟩
 .exact⟨120,rfl,Rz e a b n⟩
 .exact⟨122,rfl,RA e a b n⟩
 .exact⟨123,rfl,RB e a b n⟩
 .exact⟨124,rfl,RC e a b n⟩
 .exact⟨125,rfl,RD e a b n⟩
 .exact⟨126,rfl,RF e a b n⟩
 .exact⟨128,rfl,RG e a b n⟩
 .obtain⟨c,y,i,j⟩:=Z rfl
  exact⟨129,rfl,Nq e a b n i j⟩
 .exact⟨131,rfl,Nr e a b n⟩
 .exact⟨133,rfl,Ns e a b n⟩
 .exact⟨134,rfl,Nt e a b n⟩
section
variable{O:Bs}{rd:Option Nat}{j:St->Am.Loc->List Deferred->World->Prop}
def Nu{e:fT}{g:Nat}(a6:bp O j){o:Oper}{s:St}{K:St->Prop}{c:Box K}{t:Nat}{f:FuncId}{args:Array Operand}{tys:Array TypeId}(ho:o.op=.call ⟨.value (.tmp t),args,tys⟩)(hf:s.f t=.one (.d (.fn f))){xs:List AV}{w:Nat->Wr}(hw:dn f xs w k)(b G D H u:Nat)(code:List iR)(holes:List kX)
 (I:args.toList.map s.ev=aj G u 0::xs)(hg:s.gen G=u)(ar:eR b G D H k code holes s.gen s.obj)(hl:z code+(w (z code)).code.length<=100000000)(a:z holes+(w (z code)).holes.length<=100000000)
 (i:∀r g' Y,eR b G D H k (code++(w (z code)).code) (holes++(w (z code)).holes) g' Y->cY b G D H s.gen s.obj g' Y->K (St.put ⟨s.f,g',Y⟩ o.dst r)):bC (spF Tryz.prog rd O j g e) o s c:=by
 refine Cy (R:=λ_ g' Y=>eR b G D H k (code++(w (z code)).code) (holes++(w (z code)).holes) g' Y/\cY b G D H s.gen s.obj g' Y) (L:=λ_ _ _=>False) a6 ho hf ZN (λ_ _ _ h=>h.elim) ?_;rintro r g' Y ⟨U,l⟩;exact i r g' Y U l
end
def bH.at(k:bH)(f:Nat)(c:C):bH:={k with d3:=ag (f:Nat),d4:=c}
structure Be (k:bH) (fs:List Src.CFn) (P:Emit.Plan) (E Pl gE gP:Nat):Prop where
 s:k.c1=aq (fs.map sfD)
 ds:k.c2=aq (P.depths.map λo=>[ksD o])
 bk:k.c3=.d (ksD P.back)
 b:k.c4=.d (ksD P.base)
 e:k.d0=.osl E gE 1 0 fs.length
 p:k.d1=.osl Pl gP 1 0 fs.length
 dl:P.depths.length=fs.length
 bl:P.back.length=fs.length
 l:P.base.length=fs.length
 fz:fs.length<=1000000
 bz:∀x∈P.base,0<=x/\x<=1000000000000000
 dz:∀ds∈P.depths,∀d∈ds,-1<=d/\d<=1000000000
 pz:∀x∈fs,0<=x.p/\x.p<=1000000/\0<=x.first/\x.first<=1000000000000
 sz:∀x∈fs,x.p<=x.slots/\x.slots<=1000000
def Be.at{k:bH}{fs:List Src.CFn}{P:Emit.Plan}{E Pl gE gP:Nat}(h:Be k fs P E Pl gE gP)(f:Nat)(c:C):Be (k.at f c) fs P E Pl gE gP:=⟨h.s,h.ds,h.bk,h.b,h.e,h.p,h.dl,h.bl,h.l,h.fz,h.bz,h.dz,h.pz,h.sz⟩
def Be.toP{E Pl gE gP:Nat}(h:Be k fs P E Pl gE gP){f:Nat}{V:Int}(hf:f<z fs)(hd:-1<=V/\V<=1000000000):nA (k.at f (ag V)) fs P f V:=
 ⟨h.s,h.ds,h.bk,h.b,rfl,rfl,hf,h.dl,h.bl,h.l,h.fz,h.bz,hd,λx I=>by have:=h.pz x I;omega⟩
end
section
structure GA (B G D H E Pl gE gP M gM:Nat) (k:bH) (fs:List Src.CFn) (P:Emit.Plan) (code:List iR) (holes:List kX) (ent:List Int) (plc:List C) (g:Nat->Nat) (ob:Obs):Prop where
 ar:eR B G D H k code holes g ob
 q:Be k fs P E Pl gE gP
 gE:g E=gE
 gP:g Pl=gP
 gM:g M=gM
 oE:ob E=some (icells ent)
 oP:ob Pl=some plc
 oM:ob M=some JD
 eB:E<B
 pB:Pl<B
 mB:M<B
 el:ent.length=fs.length
 pl:plc.length=fs.length
 d:[G,D,H,E,Pl,M].Nodup
def Oth(B G D H E Pl:Nat)(g:Nat->Nat)(ob:Obs)(g':Nat->Nat)(Y:Obs):Prop:=∀i,i<B->i≠G->i≠D->i≠H->i≠E->i≠Pl->g' i=g i/\Y i=ob i
variable{code:List iR}{holes:List kX}
def eR.re{B G D H:Nat}{k a:bH}{g g':Nat->Nat}{ob Y:Obs}(ar:eR B G D H k code holes g ob)(b:∀i,B<=i->Y i=N)(U:g' D=g D)(c:g' H=g H)(d:Y G=S (a.cells D (g D) (z code) H (g H) (z holes)))(e:Y D=ob D)(f:Y H=ob H)(j:∀x∈a.all,lV B x):eR B G D H a code holes g' Y:=
 ⟨b,ar.gB,ar.dB,ar.hB,ar.gd,ar.gh,ar.dh,by rw[U,c];exact d,by rw[e];exact ar.oD,by rw[f];exact ar.oH,j⟩
def bH.at_low{B:Nat}{k:bH}{f:Nat}{c c':C}(h:∀x∈(k.at f c).all,lV B x)(Z:lV B c'):∀x∈(k.at f c').all,lV B x:=λx I=>by
 simp only[bH.all,bH.at,A0,B3,F2]at I h;rcases I with e|e|e|e|e|e|e|e|e|e
 all_goals first|(subst e;trivial)|(subst e;exact Z)|exact h x (by simp[e])
def Wj{ar:Sp}{E:Nat->TI}{id:Nat}{ops:Array Oper}{s:St}{Q:Exit->St->Prop}{q:Box Q}(I:St->Prop)(a:I s)(h:∀f g ob,I ⟨f,g,ob⟩->ly ar E id ops ⟨f,g,ob⟩ q):ly ar E id ops s q:=h s.f s.gen s.obj a
def Wk(B G D H E Pl gE gP M gM u:Nat)(k:bH)(fs:List Src.CFn)(P:Emit.Plan)(code:List iR)(holes:List kX)(ent:List Int)(plc:List C)(g:Nat->Nat)(ob:Obs)(f:Nat)(Z:Src.CFn)(K:St):Prop:=
 K.f 0=aj G u 0/\K.f 1=ae f/\K.f 2=.one (.mp M gM 3)/\K.f 6=aj (B+6) (K.gen (B+6)) 0/\K.obj (B+6)=S [ag Z.p,ag Z.slots,ag Z.first,bE Z.word,.d (uH (codeOf Z.word Z.body))]/\
 eR (B+122) G D H (k.at f k.d4) (code++(Emit.jR fs P f (z code)).code) (holes++(Emit.jR fs P f (z code)).holes) K.gen K.obj/\K.obj E=S (icells (ent.set f (z code)))/\K.gen E=gE/\K.obj Pl=S plc/\K.gen Pl=gP/\K.gen G=u/\Oth B G D H E Pl g ob K.gen K.obj
def Dh{B G D H E Pl gE gP M gM u:Nat}{k:bH}{fs:List Src.CFn}{P:Emit.Plan}{ent:List Int}{plc:List C}{g:Nat->Nat}{ob:Obs}(b6:GA B G D H E Pl gE gP M gM k fs P code holes ent plc g ob)(hg:g G=u)
 {f:Nat}{Z:Src.CFn}{ds:List Int}(hf:fs[f]?=S Z)(ar:P.depths[f]?=S ds){A:Lower.Code}(ch:codeOf Z.word Z.body=A)(c7:z ds=z A)(hz:z A<=100000000)(an:∀x∈A,ES fs x.1)
 (hl:∀j,j<=z A->z code+(Emit.fB fs P f A ds j (z code)).code.length<=100000000)(hh:∀j,j<=z A->z holes+(Emit.fB fs P f A ds j (z code)).holes.length<=100000000):
  dj Tryz.prog 75 [aj G u 0,ae f,.one (.mp M gM 3)] g ob (λ_ g' Y=>(∃c4,GA (B+122) G D H E Pl gE gP M gM (k.at f c4) fs P (code++(Emit.fB fs P f A ds (z A) (z code)).code) (holes++(Emit.fB fs P f A ds (z A) (z code)).holes) (ent.set f (z code)) (plc.set f (.osl (B+71) (g' (B+71)) 1 0 (z A))) g' Y)/\
   Y (B+71)=S (icells (Emit.placesOf fs P f A ds (z code)))/\g' G=u/\Oth B G D H E Pl g ob g' Y) (λ_ _ _=>False):=by
 have b0:f<z fs:=(l6.1 hf).1;have hQ:=b6.q;have cy:=b6.ar.gB;have cz:=b6.ar.dB;have c6:=b6.ar.hB;have hy:=b6.eB;have h0:=b6.pB;have e7:=b6.mB;have ad:=b6.d;simp only[L5,A0,B3,F2,Q2,N9,Vi,M6]at ad;obtain⟨⟨cb,al,d',eg,e8⟩,⟨cx,o,ec,gb⟩,⟨dp,ef,gi⟩,⟨e',gj⟩,gk⟩:=ad;refine hdX B Tryz.func75 rfl [] λO bn s0 w0=>?_;have ho:=b6.ar.oG;unfold bH.cells at ho;rw[hQ.s,hQ.ds,hQ.bk,hQ.b,hQ.e,hQ.p]at ho;have dc:=hQ.fz;have ca:(0:Int)<=(f:Int):=a7;have az:(f:Int)<(z fs:Int):=a7;have a6:=b6.el;have cu:=b6.pl;have n1:∀k,(G=B+k)=False:=λk=>by simp;omega
 have n2:∀k,(E=B+k)=False:=λk=>by simp;omega
 have n3:∀k,(Pl=B+k)=False:=λk=>by simp;omega
 have n4:∀k,(D=B+k)=False:=λk=>by simp;omega
 have n5:∀k,(H=B+k)=False:=λk=>by simp;omega
 have n6:(E=G)=False:=by simp[B7 d']
 have n7:(Pl=G)=False:=by simp[B7 eg]
 have n8:(G=E)=False:=by simp[d']
 have b3:IntKind.i64.wrap ((z fs:Int)-1)=(z fs:Int)-1:=by rw[wrap_i64]<;>omega
 have e4:=b6.gE;have gl:=b6.gP;have gm:=b6.oE;simp only[go_sem,ho,hg,j7,ca,az,b0,hf,sfD,n1];refine aP c9 ?_;have m1:∀k,(B+k=G)=False:=λk=>by simp;omega
 have m2:∀k,(B+k=E)=False:=λk=>by simp;omega
 have m3:∀k,(B+k=Pl)=False:=λk=>by simp;omega
 have V:(D=G)=False:=by simp[B7 cb]
 have gx:(D=E)=False:=by simp[o]
 have fl:(H=G)=False:=by simp[B7 al]
 have ha:(H=E)=False:=by simp[dp]
 have hb:(Pl=E)=False:=by simp[B7 e']
 have gn:(E=Pl)=False:=by simp[e']
 have hc:(G=Pl)=False:=by simp[eg]
 have hp:(S (fI code)).isSome=T:=rfl;have cm:=hQ.bl;obtain⟨bf,c⟩:=getq (show f<z P.back by omega);have cf:(f:Int)<(z P.back:Int):=a7;have b7:f<z P.back:=a7;have t:=l7 hf;obtain⟨c8,dd,b2,b1⟩:=hQ.pz Z t;obtain⟨b5,a1⟩:=hQ.sz Z t;have b4:IntKind.i64.wrap (Z.first+Z.p)=Z.first+Z.p:=by rw[wrap_i64]<;>omega
 have w:IntKind.i64.wrap (Z.first+Z.slots)=Z.first+Z.slots:=by rw[wrap_i64]<;>omega
 have b8:=hl 0 (L1 _);have gr:=hh 0 (L1 _);simp only[Emit.fB]at b8 gr
 have S0:∀(g':Nat->Nat)(Y:Obs),(∀i,B+122<=i->Y i=N)->g' D=g D->g' H=g H->Y D=ob D->Y H=ob H->Y G=S [k.c0,k.c1,k.c2,k.c3,k.c4,k.c5,.osl D (g D) 4 0 (z code),k.d0,k.d1,.osl H (g H) 3 0 (z holes),ag (f:Nat),k.d4]->eR (B+122) G D H (k.at f k.d4) code holes g' Y:=λg' Y U h2 h3 h4 h5 h6=>by
  have SU:=b6.ar.up (B':=B+122) a7;refine⟨U,SU.gB,SU.dB,SU.hB,SU.gd,SU.gh,SU.dh,?_,by rw[h4];exact SU.oD,by rw[h5];exact SU.oH,λx I=>?_⟩
  .rw[h6,h2,h3];rfl
  .have bs:=SU.low
   simp only[bH.all,bH.at,A0,B3,F2]at I bs;rcases I with e|e|e|e|e|e|e|e|e|e
   all_goals first|(subst e;trivial)|exact bs x (by simp[e])
 by_cases b':(f:Int)=(z fs:Int)-1
 case' pos=>
  have e0:Emit.jR fs P f=eC:=l9 a7;simp only[go_sem,ho,hg,j7,ca,az,b0,hf,sfD,n1,n2,n4,n6,n8,V,gx,fl,ha,e4,gm,a6,cP,b6.ar.oD,b3,x6 b'];refine⟨a7,?_⟩;refine Wj (Wk B G D H E Pl gE gP M gM u k fs P code holes ent plc g ob f Z) ⟨by simp only[go_sem],by simp only[go_sem],by simp only[go_sem],by simp only[go_sem],?_,?_,?_,?_,?_,?_,?_,λi hi U h2 h3 h4 h5=>⟨?_,?_⟩⟩ ?_
  .simp only;(try simp only[upd]);(repeat rw[j9 (by omega)])
   rw[l9 trivial]
  .rw[e0]
   simp only[eC,s9];refine S0 _ _ (λi hi=>?_) ?_ ?_ ?_ ?_ ?_
   .exact nt (b6.ar.top i a7)
   .exact gO
   .exact gO
   .exact gO
   .exact gO
   .simp only[upd];rw[j9 d',l9 trivial,hQ.s,hQ.ds,hQ.bk,hQ.b,hQ.e,hQ.p]
  .simp only[upd];rw[l9 trivial,jk]
  .exact nt (e4)
  .exact nt (b6.oP)
  .exact nt (gl)
  .exact nt (hg)
  .exact gO
  .exact gO
 case' neg=>
  have e0:Emit.jR fs P f=ax (aD 17 14 0 bf) (Emit.je (Z.first+Z.p) (Z.first+Z.slots)):=by
   unfold Emit.jR;rw[j9 a7,hf,c];rfl
  simp only[go_sem,ho,hg,j7,ca,az,b0,hf,sfD,n1,n2,n4,n6,n8,V,gx,fl,ha,e4,gm,a6,cP,b6.ar.oD,b3,b',c,cf,b7,ksD];refine⟨a7,?_⟩;rw[e0]at b8 gr;simp only[ax,aD,j8,l4,l5,C5]at b8 gr;refine bj aa rfl (eS 17 14 0 bf (k.at f k.d4)) (B+122) G D H u code holes XD ?_ (S0 _ _ (λi hi=>?_) ?_ ?_ ?_ ?_ ?_) ZS (by simp only[aD,l5];omega) ?_
  .exact nt (hg)
  .exact nt (b6.ar.top i a7)
  .exact gO
  .exact gO
  .exact gO
  .exact gO
  .simp only[upd];rw[j9 d',l9 trivial,hQ.s,hQ.ds,hQ.bk,hQ.b,hQ.e,hQ.p];rfl
  intro r1 g1 av Q K1;have bz:g1 G=u:=(K1.gen G a7 cb al).trans (nt (hg));have p6:av (B+6)=S [ag Z.p,ag Z.slots,ag Z.first,bE Z.word,.d (uH (codeOf Z.word Z.body))]:=(K1.fr (B+6) ZI ZI ZI ZI).trans (by (try simp only[upd]);(repeat rw[j9 (by omega)]);rw[l9 trivial]);have g6:g1 (B+6)=nxC 127 (g (B+6)):=(K1.gen (B+6) a7 a7 a7).trans XF;simp only[go_sem,p6,g6,b4,w];refine bj aa rfl (Np (Z.first+Z.p) (Z.first+Z.slots) ZI ZI ZI) (B+122) G D H u _ _ XD bz Q (by simp only[aD,j8,l4,l5,C5];omega) (by simp only[aD,j8,l4,l5,C5,s9];omega) ?_;intro r2 g2 bo S2 K2;have hq:=(K2.fr (B+6) a7 a7 a7 a7).trans p6;have hr:=(K2.gen (B+6) a7 a7 a7).trans g6;simp only[go_sem];refine Wj (Wk B G D H E Pl gE gP M gM u k fs P code holes ent plc g ob f Z) ⟨by simp only[go_sem],by simp only[go_sem],by simp only[go_sem],by simp only[go_sem,hr],hq,?_,?_,?_,?_,?_,(K2.gen G a7 cb al).trans bz,λi hi U h2 h3 h4 h5=>⟨?_,?_⟩⟩ ?_
  .rw[e0]
   simp only[ax,<-v7];simp only[j8]at S2;exact S2
  .refine(K2.fr E a7 (B7 d') (B7 o) (B7 dp)).trans ((K1.fr E a7 (B7 d') (B7 o) (B7 dp)).trans ?_)
   simp only[upd];rw[l9 trivial,jk]
  .refine(K2.gen E a7 (B7 o) (B7 dp)).trans ((K1.gen E a7 (B7 o) (B7 dp)).trans ?_)
   exact nt (e4)
  .refine(K2.fr Pl a7 (B7 eg) (B7 ec) (B7 ef)).trans ((K1.fr Pl a7 (B7 eg) (B7 ec) (B7 ef)).trans ?_)
   exact nt (b6.oP)
  .refine(K2.gen Pl a7 (B7 ec) (B7 ef)).trans ((K1.gen Pl a7 (B7 ec) (B7 ef)).trans ?_)
   exact nt (gl)
  .refine(K2.gen i a7 h2 h3).trans ((K1.gen i a7 h2 h3).trans ?_)
   exact gO
  .refine(K2.fr i a7 U h2 h3).trans ((K1.fr i a7 U h2 h3).trans ?_)
   exact gO
 all_goals
  clear ho S0;rintro fa g1 av ⟨q0,q1,q2,q6,W,Q,eh,ek,r,h,bz,O1⟩;simp only at q0 q1 q2 q6 W Q eh ek r h bz O1;have ho:=Q.oG;unfold bH.cells at ho;rw[(hQ.at f k.d4).s,(hQ.at f k.d4).ds,(hQ.at f k.d4).bk,(hQ.at f k.d4).b,(hQ.at f k.d4).e,(hQ.at f k.d4).p]at ho
  skip
  refine cB aO mixed aa [B+71,Pl] [([0],[0],[],F),([63],[0],[],F),([64],[0],[],F),([65],[0],[],F),([1],[0],[],F),([6],[],[],F),([68],[],[],F),([69],[],[],F),([70],[],[0],F),([66,67],[],[],F),([72,71],[],[],T)] 2 rfl c9 rfl XH ?_;simp only[go_sem]
  iterate 5 (apply aw;(case hg=>first|exact y8|exact⟨_,rfl,by decide,rfl⟩);(case U=>intro fa ga oa K' J;simp only[go_sem,q0,q1,q2,q6,bz,n1,n3,n7,ho,j7]at J|-;exact J))
  iterate 3 (apply aw;(case hg=>first|exact y8|exact⟨_,rfl,by decide,rfl⟩);(case U=>intro fa ga oa K' J;simp only[go_sem,q0,q1,q2,q6,W,n1,n3,n7,ho,ch,j7]at J|-;exact J))
  refine bV (a:=0) (v:=dL (B+71) (nxC 4 (g1 (B+71))) 1 0 (z A)) (x:=nxC 4 (g1 (B+71))) (y:=S (icells (List.replicate (z A) 0))) y8 (λfa ga oa K' J=>?_) ?_
  .simp only[go_sem,ba,n1,n3,n7]at J|-
   refine⟨l8 _,a7,a7,?_⟩;rw[show (List.replicate (z A) [C.d (.int .i64 0)]).flatten=icells (List.replicate (z A) 0) by rw[px,icells,P6]];exact J
  (apply aw;(case hg=>first|exact y8|exact⟨_,rfl,by decide,rfl⟩);(case U=>intro fa ga oa K' J;simp only[go_sem,q0,q1,q2,q6,r,h,n1,n3,n7,ca,az,b0,cu]at J|-;exact J))
  refine cC y8 ?_;intro K' a';simp only[go_sem,n1,n3,n7,r,h,cu];refine⟨a7,a' _ ?_⟩;clear a' K';simp only[go_sem,q0,q1,q2,q6,W,n3,m3,ch,j7];have gv:List.replicate (z A) (0:Int)=(List.range 0).map (λj=>((z code+(Emit.fB fs P f A ds j (z code)).code.length:Nat):Int))++List.replicate (z A-0) 0:=a8
  refine aG (λm K=>∃(j:Nat)(c4:C),m+j=z A/\K.f 0=aj G u 0/\K.f 1=ae f/\K.f 2=.one (.mp M gM 3)/\K.f 74=.one (.d (uH A))/\K.f 75=ae (z A)/\K.f 76=ae j/\
   eR (B+122) G D H (k.at f c4) (code++(Emit.fB fs P f A ds j (z code)).code) (holes++(Emit.fB fs P f A ds j (z code)).holes) K.gen K.obj/\K.gen G=u/\K.obj E=S (icells (ent.set f (z code)))/\K.gen E=gE/\K.obj Pl=S (plc.set f (.osl (B+71) (K.gen (B+71)) 1 0 (z A)))/\K.gen Pl=gP/\
   K.obj (B+71)=S (icells ((List.range j).map (λj=>((z code+(Emit.fB fs P f A ds j (z code)).code.length:Nat):Int))++List.replicate (z A-j) 0))/\Oth B G D H E Pl g ob K.gen K.obj) (z A) ?_ ?_
  .refine⟨0,k.d4,rfl,?_⟩
   simp only[go_sem,q0,q1,q2,n1,n2,n3,m1,m2,m3,gn,bz,eh,ek,h];refine⟨Q.to (λi hi=>nt (Q.top i hi)) ?_ ?_ ?_ ?_ ?_,?_,λi hi U h2 h3 h4 h5=>⟨?_,?_⟩⟩
   .exact gO
   .exact gO
   .exact gO
   .exact gO
   .exact gO
   .rfl
   .exact nt ((O1 i hi U h2 h3 h4 h5).1)
   .exact nt ((O1 i hi U h2 h3 h4 h5).2)
  clear ho gv Q eh ek r h bz O1 q0 q1 q2 q6 W e4 gl gm;clear fa g1 av;rintro m fa g1 av ⟨j,c4,hm,q0,q1,q2,e1,et,e2,Q,bz,eh,ek,r,h,e3,O1⟩;simp only at q0 q1 q2 e1 et e2 Q bz eh ek r h e3 O1;by_cases af:j<z A
  case neg=>
   have bd:¬(j:Int)<(z A:Int):=a7;obtain rfl:j=z A:=a7;simp only[go_sem,et,e2,bd];refine⟨_,ai.refl _,?_⟩;simp only[go_sem];rw[Lz,L6,s9]at e3;exact⟨⟨c4,⟨Q,hQ.at f c4,ek,h,((O1 M e7 (B7 e8) (B7 gb) (B7 gi) (B7 gj) (B7 gk)).1).trans b6.gM,eh,r,((O1 M e7 (B7 e8) (B7 gb) (B7 gi) (B7 gj) (B7 gk)).2).trans b6.oM,a7,a7,a7,by rw[C4];exact a6,by rw[C4];exact cu,b6.d⟩⟩,e3,bz,O1⟩
  have bd:(j:Int)<(z A:Int):=a7;have cv:(0:Int)<=(j:Int):=a7;obtain⟨⟨x,dx⟩,I⟩:∃y,A[j]?=S y:=⟨_,v8 af⟩
  obtain⟨d,hd⟩:=getq (show j<z ds by omega);have f':=hQ.dz ds (l7 ar) d (l7 hd);have ev:f<z P.depths:=by have:=hQ.dl;omega
  have fo:(f:Int)<(z P.depths:Int):=by have:=hQ.dl;omega
  have ft:j<z ds:=a7;have fu:(j:Int)<(z ds:Int):=a7;have cc:=ah (k:=j) a7;have fw:bU x=[.int .i64 x.op,.int .i64 x.a,.int .i64 x.b,.int .u32 x.n]:=rfl;have ho:=Q.oG;unfold bH.cells at ho;rw[(hQ.at f c4).s,(hQ.at f c4).ds,(hQ.at f c4).bk,(hQ.at f c4).b,(hQ.at f c4).e,(hQ.at f c4).p]at ho;have hj:(plc.set f (.osl (B+71) (g1 (B+71)) 1 0 (z A)))[f]?=S (.osl (B+71) (g1 (B+71)) 1 0 (z A)):=by rw[C0,l9 rfl,l9 a7]
  simp only[go_sem,q0,q1,q2,e1,et,e2,bd,cv,I,uH,j7,fw];have e5:((List.range j).map (λj=>((z code+(Emit.fB fs P f A ds j (z code)).code.length:Nat):Int))++List.replicate (z A-j) 0).length=z A:=by simp;omega
  obtain⟨L,hL⟩:∃L,(List.range j).map (λj=>((z code+(Emit.fB fs P f A ds j (z code)).code.length:Nat):Int))++List.replicate (z A-j) 0=L:=⟨_,rfl⟩
  rw[hL]at e3 e5;have hp:∀l,(S (fI l)).isSome=T:=λ_=>rfl;refine aP c9 ?_;obtain⟨hk,fm⟩:=O1 M e7 (B7 e8) (B7 gb) (B7 gi) (B7 gj) (B7 gk);rw[b6.gM]at hk;rw[b6.oM]at fm;have hs:∀k,(M=B+k)=False:=λk=>by simp;omega
  have ht:(M=G)=False:=by simp[B7 e8]
  have hn:L.set j ((code++(Emit.fB fs P f A ds j (z code)).code).length:Nat)=(List.range (j+1)).map (λj=>((z code+(Emit.fB fs P f A ds j (z code)).code.length:Nat):Int))++List.replicate (z A-(j+1)) 0:=by
   rw[<-hL,J0 _ _ a8,j7,List.length_range,Lz,R4,A8,v7];congr 1;obtain⟨X,hz⟩:∃X,z A-j=X+1:=⟨z A-j-1,a7⟩
   rw[hz,show z A-(j+1)=X by omega,F9,H2,j8];rfl
  have e6:=bH.at_low (c':=ag d) Q.low trivial;by_cases eo:0<=d
  .obtain⟨fn,e9,hw⟩:=Wi (hQ.toP b0 f') (an _ (l7 I))
   simp only at e9 hw
   have hU:Emit.fB fs P f A ds (j+1)=ax (Emit.fB fs P f A ds j) (Emit.kL fs P f d x):=by
    rw[Emit.fB,I,hd];simp only[eo,B5]
   simp only[go_sem,q0,q1,q2,e1,et,e2,ho,bz,r,h,n1,n2,n3,n4,n5,m1,m2,m3,n7,V,fl,hb,gn,hc,hj,C4,cu,ca,az,b0,e3,cP,e5,cv,bd,af,Q.oD,ar,hd,ev,fo,ft,fu,ksD,j7,setAt,jk,x6 eo,hs,ht,hk,fm,e9,tP,A6];refine⟨a7,?_⟩;refine Nu aa rfl XD hw (B+122) G D H u _ _ (by simp only[go_sem,fw]) ?_ (eR.re Q (λi hi=>?_) ?_ ?_ ?_ ?_ ?_ e6) ?_ ?_ ?_
   .exact nt (bz)
   .exact nt (Q.top i hi)
   .exact gO
   .exact gO
   .exact Xs
   .exact gO
   .exact gO
   .have:=hl (j+1) a7
    rw[hU]at this;simp only[ax,j8]at this|-;omega
   .have:=hh (j+1) a7
    rw[hU]at this;simp only[ax,j8]at this|-;omega
   intro r2 g2 bo S2 K2;have hv:g2 (B+71)=g1 (B+71):=(K2.gen (B+71) a7 a7 a7).trans (nu);simp only[go_sem,e2,cc];refine ao (m-1) a7 ⟨j+1,ag d,a7,?_⟩;simp only[go_sem,q0,q1,q2,e1,et,uH];refine⟨?_,(K2.gen G a7 cb al).trans ?_,(K2.fr E a7 (B7 d') (B7 o) (B7 dp)).trans ?_,(K2.gen E a7 (B7 o) (B7 dp)).trans ?_,(K2.fr Pl a7 (B7 eg) (B7 ec) (B7 ef)).trans ?_,(K2.gen Pl a7 (B7 ec) (B7 ef)).trans ?_,(K2.fr (B+71) a7 a7 a7 a7).trans ?_,λi hi U h2 h3 h4 h5=>⟨(K2.gen i a7 h2 h3).trans ?_,(K2.fr i a7 U h2 h3).trans ?_⟩⟩
   .rw[hU]
    simp only[ax,<-v7];simp only[j8]at S2;exact S2
   .exact nt (bz)
   .exact nt (eh)
   .exact nt (ek)
   .rw[hv];exact nt (r)
   .exact nt (h)
   .simp only[upd];rw[j9 a7,l9 trivial,hn,R4]
   .exact nt ((O1 i hi U h2 h3 h4 h5).1)
   .exact nt ((O1 i hi U h2 h3 h4 h5).2)
  .have hU:Emit.fB fs P f A ds (j+1)=ax (Emit.fB fs P f A ds j) eC:=by
    rw[Emit.fB,I,hd];simp only[eo,B1]
   simp only[go_sem,q0,q1,q2,e1,et,e2,ho,bz,r,h,n1,n2,n3,n4,n5,m1,m2,m3,n7,V,fl,hb,gn,hc,hj,C4,cu,ca,az,b0,e3,cP,e5,cv,bd,af,Q.oD,ar,hd,ev,fo,ft,fu,ksD,j7,setAt,jk,eo];refine⟨a7,?_⟩;refine ao (m-1) a7 ⟨j+1,ag d,a7,?_⟩;simp only[go_sem,q0,q1,q2,e1,et,uH,n1,n2,n3,m1,m2,m3,bz,eh,ek,h,n6,n7,r,cc];refine⟨?_,?_,λi hi U h2 h3 h4 h5=>⟨?_,?_⟩⟩
   .rw[hU]
    simp only[ax,eC,s9];refine eR.re Q (λi hi=>?_) ?_ ?_ ?_ ?_ ?_ e6
    .exact nt (Q.top i hi)
    .exact gO
    .exact gO
    .exact Xs
    .exact gO
    .exact gO
   .rw[hn,R4]
   .exact nt ((O1 i hi U h2 h3 h4 h5).1)
   .exact nt ((O1 i hi U h2 h3 h4 h5).2)
end
end
section
open Go Go.Am Go.Lower
open Go.Emit (Wr aD aE ax sQ eC iA ei)
section
structure xW (fs:List Src.CFn) (P:Emit.Plan) (d:iA) (f:Nat):Prop where
 ok:∀x,fs[f]?=some x->∀i∈codeOf x.word x.body,ES fs i.1
 dl:∀x ds,fs[f]?=some x->P.depths[f]?=some ds->ds.length=(codeOf x.word x.body).length
 X:∀x,fs[f]?=some x->(codeOf x.word x.body).length<=100000000
 l:∀x ds,fs[f]?=some x->P.depths[f]?=some ds->∀j,j<=(codeOf x.word x.body).length->d.code.length+(Emit.fB fs P f (codeOf x.word x.body) ds j d.code.length).code.length<=100000000
 h:∀x ds,fs[f]?=some x->P.depths[f]?=some ds->∀j,j<=(codeOf x.word x.body).length->d.holes.length+(Emit.fB fs P f (codeOf x.word x.body) ds j d.code.length).holes.length<=100000000
structure tn (B0 B G D H E Pl gE gP M gM:Nat) (k:bH) (fs:List Src.CFn) (P:Emit.Plan) (d:iA) (c:List (Nat×Nat)) (g:Nat->Nat) (ob:Obs):Prop where
 b6:∃plc,GA B G D H E Pl gE gP M gM k fs P d.code d.holes d.ent plc g ob/\∀f id,(f,id)∈c->∃l,d.pls[f]?=some l/\plc[f]?=some (.osl id (g id) 1 0 l.length)/\ob id=some (icells l)/\B0<=id/\id<B
 pl:d.pls.length=fs.length
variable{fs:List Src.CFn}{P:Emit.Plan}
def Di{d:iA}{f:Nat}(h:z d.pls=z fs):z (ei fs P d f).pls=z fs:=by
 unfold ei;split
 .simp only[C4];exact h
 .exact h
def ze(fs:List Src.CFn)(P:Emit.Plan)(f:Nat)(A:Lower.Code)(ds:List Int)(n:Nat):z (Emit.placesOf fs P f A ds n)=z A:=by simp[Emit.placesOf]
def wg{n B G D H E Pl gE gP M gM u:Nat}{k:bH}{d:iA}{c:List (Nat×Nat)}{g:Nat->Nat}{ob:Obs}(X:tn n B G D H E Pl gE gP M gM k fs P d c g ob)(i:n<=B)(L:G<n/\D<n/\H<n/\E<n/\Pl<n)(hg:g G=u){f:Nat}(hf:f<z fs)(ok:xW fs P d f)(s:∀x∈c,x.1≠f):
  dj Tryz.prog 75 [aj G u 0,ae f,.one (.mp M gM 3)] g ob (λ_ g' Y=>(∃p,tn n (B+122) G D H E Pl gE gP M gM (k.at f p) fs P (ei fs P d f) (c++[(f,B+71)]) g' Y)/\g' G=u/\Oth B G D H E Pl g ob g' Y) (λ_ _ _=>False):=by
 obtain⟨⟨plc,b6,t⟩,v⟩:=X;obtain⟨Z,a⟩:=getq hf;obtain⟨ds,ar⟩:=getq (show f<z P.depths by rw[b6.q.dl];exact hf);have w:=ok.X Z a;refine(Dh b6 hg a ar rfl (ok.dl Z ds a ar) w (ok.ok Z a) (ok.l Z ds a ar) (ok.h Z ds a ar)).mono ?_ (λ_ _ _ h=>h);rintro _ g' Y ⟨⟨p,j⟩,m,e,O⟩
 have b:ei fs P d f=⟨d.code++(Emit.fB fs P f (codeOf Z.word Z.body) ds (z (codeOf Z.word Z.body)) (z d.code)).code,d.holes++(Emit.fB fs P f (codeOf Z.word Z.body) ds (z (codeOf Z.word Z.body)) (z d.code)).holes,d.ent.set f (z d.code),d.pls.set f (Emit.placesOf fs P f (codeOf Z.word Z.body) ds (z d.code))⟩:=by
  unfold ei;rw[a,ar]
 refine⟨⟨p,⟨_,by rw[b];exact j,λf1 id o=>?_⟩,Di v⟩,e,O⟩;rw[b];rcases C1.1 o with o|o
 .obtain⟨l,U,y,A,I,J⟩:=t f1 id o
  have r:f1≠f:=s _ o;obtain⟨o1,K⟩:=O id J a7 a7 a7 a7 a7;exact⟨l,by simp only;rw[C0,j9 (B7 r)];exact U,by rw[C0,j9 (B7 r),o1];exact y,by rw[K];exact A,I,a7⟩
 .obtain⟨rfl,rfl⟩:f1=f/\id=B+71:=by simpa using o
  refine⟨Emit.placesOf fs P f1 (codeOf Z.word Z.body) ds (z d.code),by simp only;rw[C0,l9 rfl,l9 a7],?_,m,a7,a7⟩;rw[C0,l9 rfl,l9 (by rw[b6.pl];exact hf),ze]
end
def ET:∀{l:List kX}{j:Nat}{h:kX},l[j]?=S h->((og l).drop (j*3)).take 3=[ag h.1,ag h.2.1,ag h.2.2]
 |a::l,0,h,e=>by
   cases e;simp[og]
 |a::l,j+1,h,e=>by
   have b:=ET (l:=l) (j:=j) (h:=h) (by simpa using e);rw[show og (a::l)=[C.d (.int .i64 a.1),ag a.2.1,ag a.2.2]++og l by simp[og],show (j+1)*3=3+j*3 by omega,List.drop_append,y9 a8,A7];simpa using b
def lL(a:iR)(l:List iR):fI (a::l)=[C.d (.int .i64 a.1),ag a.2.1,ag a.2.2.1,ag a.2.2.2]++fI l:=by simp[fI,Ba]
def qW:∀{l:List iR}{j:Nat}{x:iR}{v:Int},l[j]?=S x->(fI l).set (j*4+3) (ag v)=fI (l.set j (x.1,x.2.1,x.2.2.1,v))
 |a::l,0,x,v,e=>by
   cases e;simp[lL]
 |a::l,j+1,x,v,e=>by
   have b:=qW (l:=l) (j:=j) (x:=x) (v:=v) (by simpa using e);rw[lL,P4,lL,<-b,J0 _ _ XH];simp only[l4,l5];rw[show (j+1)*4+3-(0+1+1+1+1)=j*4+3 by omega]
end
section
open Go Go.Am Go.Lower
open Go.Emit (Wr aD aE ax sQ eC iA ei)
attribute[local congr]ite_cc
section
section
variable{ar:Sp}{E:Nat->TI}
@[go_sem]def Wl{dst:Option Tmp}{ty:TypeId}{ps:String}{b:Array Edge}{gd:Option (Nat×Bool)}{s:St}{K:St->Prop}{k:Box K}{a:Array Operand}{ts:Array TypeId}:opA ar E ⟨dst,.call ⟨.builtin .copy,a,ts⟩,ty,ps,b,gd⟩ s k=bC ar ⟨dst,.call ⟨.builtin .copy,a,ts⟩,ty,ps,b,gd⟩ s k:=B9 rfl rfl
end
def GA.up{B B' G D H E Pl gE gP M gM:Nat}{k:bH}{fs:List Src.CFn}{P:Emit.Plan}{code:List iR}{holes:List kX}{ent:List Int}{plc:List C}{g:Nat->Nat}{ob:Obs}(b6:GA B G D H E Pl gE gP M gM k fs P code holes ent plc g ob)(h:B<=B'):GA B' G D H E Pl gE gP M gM k fs P code holes ent plc g ob:=
 ⟨b6.ar.up h,b6.q,b6.gE,b6.gP,b6.gM,b6.oE,b6.oP,b6.oM,by have:=b6.eB;omega,by have:=b6.pB;omega,by have:=b6.mB;omega,b6.el,b6.pl,b6.d⟩
def tn.up{a B B' G D H E Pl gE gP M gM:Nat}{k:bH}{fs:List Src.CFn}{P:Emit.Plan}{d:iA}{c:List (Nat×Nat)}{g:Nat->Nat}{ob:Obs}(X:tn a B G D H E Pl gE gP M gM k fs P d c g ob)(h:B<=B'):tn a B' G D H E Pl gE gP M gM k fs P d c g ob:=by
 obtain⟨⟨plc,b6,b⟩,e⟩:=X;exact⟨⟨plc,b6.up h,λf id i=>by obtain⟨l,U,j,m,n,o⟩:=b f id i;exact⟨l,U,j,m,n,a7⟩⟩,e⟩
def tn.to{a B G D H E Pl gE gP M gM:Nat}{k:bH}{fs:List Src.CFn}{P:Emit.Plan}{d:iA}{c:List (Nat×Nat)}{g g':Nat->Nat}{ob Y:Obs}(X:tn a B G D H E Pl gE gP M gM k fs P d c g ob)(p:∀i,B<=i->Y i=N)(h:∀i,i=G\/i=D\/i=H\/i=E\/i=Pl\/i=M\/(a<=i/\i<B)->g' i=g i/\Y i=ob i):tn a B G D H E Pl gE gP M gM k fs P d c g' Y:=by
 obtain⟨⟨plc,b6,r⟩,s⟩:=X;have t:=h G a8;have hD:=h D a8;have b:=h H a8;have e:=h E a8;have j:=h Pl a8;have A:=h M a8;refine⟨⟨plc,⟨b6.ar.to p hD.1 b.1 t.2 hD.2 b.2,b6.q,by rw[e.1];exact b6.gE,by rw[j.1];exact b6.gP,by rw[A.1];exact b6.gM,by rw[e.2];exact b6.oE,by rw[j.2];exact b6.oP,by rw[A.2];exact b6.oM,b6.eB,b6.pB,b6.mB,b6.el,b6.pl,b6.d⟩,λf id u=>?_⟩,s⟩;obtain⟨l,U,v,w,m,n⟩:=r f id u;have o:=h id (by simp[m,n]);exact⟨l,U,by rw[o.1];exact v,by rw[o.2];exact w,m,n⟩
variable{fs:List Src.CFn}{P:Emit.Plan}
def xX{d:iA}{f:Nat}:z d.code<=z (ei fs P d f).code:=by
 unfold ei;split
 .simp only[j8];omega
 .exact l8 _
def ph{fs:List Src.CFn}{P:Emit.Plan}:∀k,0<z (Emit.qs fs P k).code
 |0=>H4 a8 (xX (d:=⟨[(1,15,0,1)],[],List.replicate (z fs) 0,List.replicate (z fs) []⟩))
 |k+1=>H4 (ph k) xX
def nV(B n:Nat)(k:Nat):List (Nat×Nat):=(n-1,B+271)::(List.range k).map λf=>(f,B+471+200*f)
def Dj(B n k:Nat):nV B n (k+1)=nV B n k++[(k,B+400+200*k+71)]:=by
 simp only[nV,R4,A8,s6,x7,C6];rw[show B+471+200*k=B+400+200*k+71 by omega]
def JE(d:iA)(n:Nat)(h:kX):Prop:=
 (0<=h.1/\h.1<(z d.code:Int))/\(0<=h.2.1/\h.2.1<(n:Int))/\(0<=h.2.2->∃l:List Int,d.pls[h.2.1.toNat]?=S l/\h.2.2<(z l:Int))
def Nv{B G D H E Pl gE gP u:Nat}{k:bH}{g:Nat->Nat}{ob:Obs}(ar:eR B G D H k [] [] g ob)(q:Be k fs P E Pl gE gP)(hg:g G=u)(gi:g E=gE)(gj:g Pl=gP)(oE:ob E=S (icells (List.replicate (z fs) 0)))(oP:ob Pl=S (List.replicate (z fs) (.d .nsl)))(eB:E<B)(pB:Pl<B)
 (gk:[G,D,H,E,Pl].Nodup)(hn:0<z fs)(ok0:xW fs P ⟨[(1,15,0,1)],[],List.replicate (z fs) 0,List.replicate (z fs) []⟩ (z fs-1))(okj:∀j,j<z fs-1->xW fs P (Emit.qs fs P j) j)
 (hz:z (Emit.whole fs P).code<=100000000)(gl:z (Emit.whole fs P).holes<=100000000)(fu:∀h∈(Emit.whole fs P).holes,JE (Emit.whole fs P) (z fs) h):
  dj Tryz.prog 47 [aj G u 0] g ob (λr g' Y=>r=dL (B+37) (g' (B+37)) 4 0 (z (Emit.whole fs P).code)/\Y (B+37)=S (fI (Emit.filled (Emit.whole fs P)))/\Oth B G D H E Pl g ob g' Y) (λ_ _ _=>False):=by
 have cy:=ar.gB;have cz:=ar.dB;have c6:=ar.hB;have ad:=gk;simp only[L5,A0,B3,F2,Q2,N9,Vi,M6]at ad;obtain⟨⟨cb,al,d',eg⟩,⟨cx,o,ec⟩,⟨dp,ef⟩,e'⟩:=ad;have dc:=q.fz;refine hdX B Tryz.func47 rfl [.tmp 2] λO bn s0 w0=>?_;have b3:IntKind.i64.wrap ((z fs:Int)-1)=((z fs-1:Nat):Int):=by rw[wrap_i64]<;>omega
 simp only[go_sem];refine cH (L:=λ_ _ _=>False) aa rfl (by simp only[go_sem];exact Dg (B+100)) (λ_ _ _ h=>h.elim) ?_;rintro r g1 av ⟨rfl,fm,cm⟩;have Q:eR (B+200) G D H k [] [] g1 av:=(ar.up (B':=B+200) a7).to (λi hi=>by rw[(cm i a7).2];exact ar.top i a7) (cm D a7).1 (cm H a7).1 (cm G a7).2 (cm D a7).2 (cm H a7).2;have bz:g1 G=u:=(cm G a7).1.trans hg;have ho:=Q.oG;unfold bH.cells at ho;rw[q.s,q.ds,q.bk,q.b,q.e,q.p]at ho;simp only[go_sem,ho,bz,j7,b3];refine bj aa rfl (eS 1 15 0 1 k) (B+200) G D H u [] [] XD bz Q (by simp[aD]) (by simp[aD]) ?_;intro r g2 bo S2 K2;simp only[A7,s9,aD]at S2;have an:g2 G=u:=(K2.gen G a7 cb al).trans bz;have fw:g2 (B+101)=g1 (B+101):=K2.gen (B+101) a7 a7 a7
 have X0:tn (B+102) (B+200) G D H E Pl gE gP (B+101) (g1 (B+101)) k fs P ⟨[(1,15,0,1)],[],List.replicate (z fs) 0,List.replicate (z fs) []⟩ [] g2 bo:=by
  refine⟨⟨List.replicate (z fs) (.d .nsl),⟨S2,q,?_,?_,fw,?_,?_,?_,a7,a7,a7,a8,a8,?_⟩,λf id hm=>by cases hm⟩,a8⟩
  .exact(K2.gen E a7 (B7 o) (B7 dp)).trans ((cm E a7).1.trans gi)
  .exact(K2.gen Pl a7 (B7 ec) (B7 ef)).trans ((cm Pl a7).1.trans gj)
  .exact(K2.fr E a7 (B7 d') (B7 o) (B7 dp)).trans ((cm E a7).2.trans oE)
  .exact(K2.fr Pl a7 (B7 eg) (B7 ec) (B7 ef)).trans ((cm Pl a7).2.trans oP)
  .exact(K2.fr (B+101) a7 a7 a7 a7).trans fm
  .simp only[L5,A0,B3,F2,Q2,N9,Vi,M6]
   exact⟨⟨cb,al,d',eg,a7⟩,⟨cx,o,ec,a7⟩,⟨dp,ef,a7⟩,⟨e',a7⟩,a7⟩
 simp only[go_sem];refine cH (L:=λ_ _ _=>False) aa rfl (by simp only[go_sem];exact wg (k:=k) X0 a7 ⟨a7,a7,a7,a7,a7⟩ an (f:=z fs-1) a7 ok0 (λx I=>by cases I)) (λ_ _ _ h=>h.elim) ?_;rintro r g3 b7 ⟨⟨c4,X3⟩,t,O3⟩;have gm:=(O3 (B+101) a7 a7 a7 a7 a7 a7).1;rw[fw]at gm;have gn:tn (B+102) (B+400+200*0) G D H E Pl gE gP (B+101) (g1 (B+101)) (k.at (z fs-1) c4) fs P (Emit.qs fs P 0) (nV B (z fs) 0) g3 b7:=X3.up a7;simp only[go_sem]
 refine aG (λm K=>∃(j:Nat)(kk:bH),m+j=z fs-1/\K.f 0=aj G u 0/\K.f 3=.one (.mp (B+101) (g1 (B+101)) 3)/\K.f 23=ae (z fs-1:Nat)/\K.f 24=ae j/\K.gen G=u/\
  tn (B+102) (B+400+200*j) G D H E Pl gE gP (B+101) (g1 (B+101)) kk fs P (Emit.qs fs P j) (nV B (z fs) j) K.gen K.obj/\Oth B G D H E Pl g ob K.gen K.obj) (z fs-1) ?_ ?_
 .refine⟨0,k.at (z fs-1) c4,rfl,?_⟩
  simp only[go_sem];refine⟨t,gn,λi hi U h2 h3 h4 h5=>?_⟩;obtain⟨a1,a2⟩:=O3 i a7 U h2 h3 h4 h5;obtain⟨b1,b2⟩:=cm i a7;exact⟨a1.trans ((K2.gen i a7 h2 h3).trans b1),a2.trans ((K2.fr i a7 U h2 h3).trans b2)⟩
 clear ho;rintro m fa g4 bf ⟨j,kk,hm,q0,q3,ev,V,y,X4,O4⟩;simp only at q0 q3 ev V y X4 O4;by_cases af:j<z fs-1
 case pos=>
  have bd:(j:Int)<((z fs-1:Nat):Int):=a7;have cc:=ah (k:=j) a7
  have b4:∀x∈nV B (z fs) j,x.1≠j:=λx I=>by
   simp only[nV,A0,D6,D4]at I;rcases I with rfl|⟨a,ha,rfl⟩
   .simp only;omega
   .simp only;omega
  simp only[go_sem,q0,q3,ev,V,bd];refine cH (L:=λ_ _ _=>False) aa rfl (by simp only[go_sem,q0,q3];exact wg (k:=kk) X4 a7 ⟨a7,a7,a7,a7,a7⟩ y (f:=j) a7 (okj j af) b4) (λ_ _ _ h=>h.elim) ?_;rintro r g5 b' ⟨⟨c5,X5⟩,w,O5⟩;simp only[go_sem,V,cc];refine ao (m-1) a7 ⟨j+1,kk.at j c5,a7,?_⟩;simp only[go_sem,q0,q3,ev];refine⟨w,?_,λi hi U h2 h3 h4 h5=>?_⟩
  .rw[Dj]
   exact X5.up a7
  .obtain⟨a1,a2⟩:=O5 i a7 U h2 h3 h4 h5
   obtain⟨b1,b2⟩:=O4 i hi U h2 h3 h4 h5;exact⟨a1.trans b1,a2.trans b2⟩
 obtain rfl:j=z fs-1:=a7;have bd:¬((z fs-1:Nat):Int)<((z fs-1:Nat):Int):=a7;have gr:Emit.qs fs P (z fs-1)=Emit.whole fs P:=rfl;rw[gr]at X4;obtain⟨W,hW⟩:∃W,Emit.whole fs P=W:=⟨_,rfl⟩
 rw[hW]at X4 hz gl fu|-;have fx:=X4;obtain⟨⟨plc,F4,e1⟩,cu⟩:=X4;have ho:=F4.ar.oG;unfold bH.cells at ho;rw[F4.q.s,F4.q.ds,F4.q.bk,F4.q.b,F4.q.e,F4.q.p]at ho;have n1:∀k,(G=B+k)=False:=λk=>by simp;omega
 have n2:∀k,(D=B+k)=False:=λk=>by simp;omega
 simp only[go_sem,q0,q3,ev,V,bd,ho,y,n1];have gv:0<z W.code:=by rw[<-hW];exact ph _
 refine⟨by rw[F4.ar.oD];rfl,l8 _,a7,a7,?_⟩;obtain⟨gC,cd⟩:∃x,nxC (ba Tt 114+1) (g4 (B+37))=x:=⟨_,rfl⟩
 rw[cd];refine Cx (cells:=(List.replicate (z W.code) [C.d (.int .i64 0),C.d (.int .i64 0),C.d (.int .i64 0),C.d (.int .i64 0)]).flatten) (A:=fI W.code) (n:=z W.code) (sz:=4) (id:=B+37) (g:=gC) (bs:=D) (g2:=g4 D) aa aO rfl rfl XD XF XD (nu) rfl XF ?_ (nt (F4.ar.oD)) (jv _) gv ?_
 .simp[List.length_flatten]
 have n3:∀k,(H=B+k)=False:=λk=>by simp;omega
 have n4:∀k,(E=B+k)=False:=λk=>by simp;omega
 have n5:∀k,(Pl=B+k)=False:=λk=>by simp;omega
 simp only[go_sem,q0,ho,y,n1,n2,n3];refine⟨by rw[F4.ar.oH];rfl,?_⟩;have e3:=jv W.code;obtain⟨k4,gx⟩:∃k4:bH,Be k4 fs P E Pl gE gP/\tn (B+102) (B+400+200*(z fs-1)) G D H E Pl gE gP (B+101) (g1 (B+101)) k4 fs P W (nV B (z fs) (z fs-1)) g4 bf:=⟨kk,F4.q,fx⟩
 refine aG (λm K=>∃j:Nat,m+j=z W.holes/\K.f 0=aj G u 0/\K.f 6=dL (B+37) gC 4 0 (z W.code)/\K.f 47=dL H (K.gen H) 3 0 (z W.holes)/\K.f 48=ae (z W.holes)/\K.f 49=ae j/\K.gen G=u/\K.gen (B+37)=gC/\K.obj (B+37)=S (fI ((W.holes.take j).foldl (Emit.fill W) W.code))/\
  tn (B+102) (B+400+200*(z fs-1)) G D H E Pl gE gP (B+101) (g1 (B+101)) kk fs P W (nV B (z fs) (z fs-1)) K.gen K.obj/\Oth B G D H E Pl g ob K.gen K.obj) (z W.holes) ?_ ?_
 .refine⟨0,rfl,?_⟩
  simp only[go_sem,q0,n1,n2,n3,y,M1,O8];refine⟨fx.to (λi hi=>?_) (λi hi=>⟨?_,?_⟩),λi hi U h2 h3 h4 h5=>⟨?_,?_⟩⟩
  .exact nt (F4.ar.top i hi)
  .have:i≠B+37:=a7
   exact gO
  .have:i≠B+37:=a7
   exact gO
  .exact nt ((O4 i hi U h2 h3 h4 h5).1)
  .exact nt ((O4 i hi U h2 h3 h4 h5).2)
 clear ho gx k4;rintro m hd g5 b' ⟨j,hf,p0,p6,dx,dz,eh,w,c1,c8,X5,O5⟩;simp only at p0 p6 dx dz eh w c1 c8 X5 O5;have f':=X5;obtain⟨⟨hc,F5,e4⟩,c7⟩:=X5;have ho:=F5.ar.oG;unfold bH.cells at ho;rw[F5.q.s,F5.q.ds,F5.q.bk,F5.q.b,F5.q.e,F5.q.p]at ho;have ft:g5 H=g5 H:=rfl
 have e5:∀l:List kX,z (l.foldl (Emit.fill W) W.code)=z W.code:=λl=>by
  have:∀(l:List kX)(c:List iR),z (l.foldl (Emit.fill W) c)=z c:=by
   intro l
   induction l with
   |nil=>intro c;rfl
   |cons a l ih=>
     intro c;rw[G7,ih];unfold Emit.fill;split
     .rw[C4]
     .rfl
  exact this l W.code
 by_cases af:j<z W.holes
 case pos=>
  have bd:(j:Int)<(z W.holes:Int):=a7;have cv:(0:Int)<=(j:Int):=a7;obtain⟨h,hh⟩:=getq af;have b6:=ET hh;obtain⟨⟨X,cf⟩,⟨ca,az⟩,e2⟩:=fu h (l7 hh);have cc:=ah (k:=j) a7;have b5:=Bb W.holes;obtain⟨hA,hF,hP⟩:=h;simp only at b6 X cf ca az e2;obtain⟨a,rfl⟩:∃a:Nat,hA=(a:Int):=⟨hA.toNat,a7⟩
  obtain⟨f,rfl⟩:∃f:Nat,hF=(f:Int):=⟨hF.toNat,a7⟩
  obtain⟨a',ek⟩:∃c,(W.holes.take j).foldl (Emit.fill W) W.code=c:=⟨_,rfl⟩
  have c2:z a'=z W.code:=by rw[<-ek];exact e5 _
  rw[ek]at c8;have ga:a<z a':=a7;have eo:(a:Int)<(z W.code:Int):=a7;have et:a<z W.code:=a7;obtain⟨x,I⟩:∃x,a'[a]?=S x:=⟨_,v8 ga⟩
  have b0:f<z fs:=a7;have a6:=F5.el;have c7:=F5.pl;obtain⟨e,he⟩:=getq (show f<z W.ent by omega);have e0:=jv a'
  have J:(W.holes.take (j+1)).foldl (Emit.fill W) W.code=a'.set a (x.1,x.2.1,x.2.2.1,Emit.place W ((a:Int),(f:Int),hP)):=by
   rw[D2,hh,Option.toList,OY,ek];simp only[G7,O8,Emit.fill,B6,I]
  have m1:∀k,(B+k=G)=False:=λk=>by simp;omega
  have m2:∀k,(B+k=D)=False:=λk=>by simp;omega
  have m4:∀k,(B+k=E)=False:=λk=>by simp;omega
  have m5:∀k,(B+k=Pl)=False:=λk=>by simp;omega
  have gb:=F5.oE;have gd:=F5.gE;have e6:=F5.oP;have e7:=F5.gP;have e8:(f:Int)<(z fs:Int):=a7;have ch:=qW (v:=e) I;simp only[go_sem,p0,p6,dx,dz,eh,bd,cv,af,F5.ar.oH,b5,b6];refine⟨a7,?_⟩;refine aP c9 ?_;have bl:∀(v:Int),Emit.place W ((a:Int),(f:Int),hP)=v->a'.set a (x.1,x.2.1,x.2.2.1,v)=(W.holes.take (j+1)).foldl (Emit.fill W) W.code:=λv hv=>by rw[J,hv]
  by_cases hp:0<=hP
  .obtain⟨p,rfl⟩:∃p:Nat,hP=(p:Int):=⟨hP.toNat,a7⟩
   obtain⟨l,hl,fo⟩:=e2 hp;rw[B6]at hl
   obtain⟨id,b8⟩:∃id,(f,id)∈nV B (z fs) (z fs-1):=by
    by_cases e:f=z fs-1
    .exact⟨B+271,by rw[e];simp[nV]⟩
    .exact⟨B+471+200*f,by simp only[nV,A0,D6,D4];exact .inr ⟨f,a7,rfl⟩⟩
   obtain⟨l',k1,k2,k3,k4,k5⟩:=e4 f id b8;rw[hl]at k1;cases k1;obtain⟨v,hv⟩:=getq (show p<z l by omega);have dd:(p:Int)<(z l:Int):=a7;have Z:p<z l:=a7;have e9:(0:Int)<=(p:Int):=a7;have i1:∀k,k<=100->(id=B+k)=False:=λk hk=>by simp;omega
   have i8:=i1 8 b9;have hb:=i1 37 b9;have dh:(a'.set a (x.1,x.2.1,x.2.2.1,e))[a]?=S (x.1,x.2.1,x.2.2.1,e):=by rw[C0,l9 rfl,l9 ga]
   have c':=qW (v:=v) dh;rw[List.set_set]at c';have gh:=jv (a'.set a (x.1,x.2.1,x.2.2.1,e))
   have fl:Emit.place W ((a:Int),(f:Int),(p:Int))=v:=by
    simp only[Emit.place,hp,B5,B6,hl,A6,hv]
   simp only[go_sem,p0,p6,ho,w,n1,n4,n5,m1,m2,m4,m5,gb,gd,e6,e7,ca,e8,b0,a6,c7,cP,jj,he,c8,c1,X,eo,et,e0,c2,setAt,ch,x6 hp];refine⟨a7,?_⟩;refine aP c9 ?_;simp only[go_sem,p0,p6,ho,w,n1,n4,n5,m1,m2,m4,m5,e6,e7,ca,e8,b0,c7,cP,jj,X,eo,et,gh,c2,C4,setAt,c',k2,k3,i8,hb,dd,Z,e9,hv,c1];exact kp
  .have fl:Emit.place W ((a:Int),(f:Int),hP)=e:=by
    simp only[Emit.place,hp,B1,B6,he,A6]
   simp only[go_sem,p0,p6,ho,w,n1,n4,n5,m1,m2,m4,m5,gb,gd,e6,e7,ca,e8,b0,a6,c7,cP,jj,he,c8,c1,X,eo,et,e0,c2,setAt,ch,hp];exact kp
 have bd:¬(j:Int)<(z W.holes:Int):=a7;have c0:j=z W.holes:=a7;rw[c0,I1]at c8;simp only[go_sem,p0,p6,dx,dz,eh,bd];refine⟨_,ai.refl _,?_⟩;simp only[go_sem,c1];exact⟨rfl,c8,O5⟩
end
end
end Go.Proofs.YtlacbjnmkhndiaaGreatDoor.Low
namespace Go.Proofs.YtlacbjnmkhndiaaGreatDoor
section
open Go Go.Shelf
end
section
open Go Go.Am Go.Asm
end
section
open Go Go.Am Go.Asm Go.RowKit Go.Sort Go.Lib Go.Proofs
end
section
open Go Go.Am Go.RowKit
end
end Go.Proofs.YtlacbjnmkhndiaaGreatDoor
namespace Go.Proofs
section
open Go.Shelf
end
end Go.Proofs
namespace Go.Proofs.YtlacbjnmkhndiaaGreatDoor
section
open Go Go.Am Go.Asm Go.Shelf
end
section
open Go Go.Am Go.Asm
def AE(op:Nat):(Asm.shape op=(T,F,1)\/Asm.shape op=(T,T,0)\/Asm.shape op=(T,T,2)\/Asm.shape op=(T,T,1)\/Asm.shape op=(F,F,1)\/Asm.shape op=(T,F,0)\/Asm.shape op=(F,F,0)):=by
 unfold Asm.shape
 repeat' split
 all_goals simp
end
end Go.Proofs.YtlacbjnmkhndiaaGreatDoor
namespace Go.Asm
section
end
end Go.Asm
namespace Go.Proofs.YtlacbjnmkhndiaaGreatDoor
section
open Go Go.Am Go.Asm
def fD(code:List Nat):D:=.sl (code.map λn=>[.int .u32 (n:Nat)])
def fO(m:List Nat×Nat):AV:=.agg [.d (fD m.1),ag (m.2:Nat)]
def vS{s:St}{id g n:Nat}{code:List Nat}(hg:s.gen id=g)(ho:s.obj id=S (code.map λn=>C.d (.int .u32 (n:Nat))))(b:z code=n):Frz s (.osl id g 1 0 n) (fD code):=by
 refine eu hg code (λn=>[.int .u32 (n:Nat)]) ho ?_ (λa _ x I=>?_) (λa _=>rfl) b
 .clear ho b;induction code with|nil=>rfl|cons a l c=>simpa using c
 .simp at I;subst I;rfl
end
section
open Go Go.Am Go.Asm
attribute[local congr]ite_cc
def Ix(op:Nat):Str:=(if (Asm.shape op).1=T then [97]else [])++(if (Asm.shape op).2.1=T then [98]else [])++(if (Asm.shape op).2.2=2 then [114]else if (Asm.shape op).2.2=1 then [99]else [])
def ej(op:Int):Str:=if ke op.toNat=T then Ix op.toNat else [63]
def yW{op:Int}(h:op.toNat=0\/28<=op.toNat):ej op=[63]:=by
 unfold ej;rw[j9];unfold ke;simp;omega
def CS{op:Int}(U:4<=op)(a:op<=15):ej op=[97,98,114]:=by
 obtain⟨k,rfl⟩:∃k:Nat,op=k:=⟨op.toNat,a7⟩
 have b:∀k:Nat,k<16->4<=k->ej (k:Int)=[97,98,114]:=b9;exact b k a7 a7
def Iy(op:Int):aJ Tryz.prog 205 [ae op] (·=sv (ej op)):=by
 refine hdP Tryz.func205 rfl [2] λg=>?_;by_cases V:1<=op/\op<=27
 case neg=>
  rw[yW a7];simp only[go_sem,show ¬op=1 by omega,show ¬op=2 by omega,show ¬op=3 by omega,show ¬op=16 by omega,show ¬op=17 by omega,show ¬op=18 by omega,show ¬op=19 by omega,show ¬op=20 by omega,show ¬op=21 by omega,show ¬op=22 by omega,show ¬op=23 by omega,show ¬op=24 by omega,show ¬op=25 by omega,show ¬op=26 by omega,show ¬op=27 by omega];exact λh q=>by omega
 by_cases a:4<=op/\op<=15
 .rw[CS a.1 a.2]
  simp only[go_sem,show ¬op=1 by omega,show ¬op=2 by omega,show ¬op=3 by omega,show ¬op=16 by omega,show ¬op=17 by omega,show ¬op=18 by omega,show ¬op=19 by omega,show ¬op=20 by omega,show ¬op=21 by omega,show ¬op=22 by omega,show ¬op=23 by omega,show ¬op=24 by omega,show ¬op=25 by omega,show ¬op=26 by omega,show ¬op=27 by omega,a.1,a.2]
 rcases(show op=1\/op=2\/op=3\/op=16\/op=17\/op=18\/op=19\/op=20\/op=21\/op=22\/op=23\/op=24\/op=25\/op=26\/op=27 by omega)with rfl|rfl|rfl|rfl|rfl|rfl|rfl|rfl|rfl|rfl|rfl|rfl|rfl|rfl|rfl
 all_goals
  simp only[go_sem];rfl
def vT(s:Str)(c:UInt8):Bool:=s.contains c
def Va(s:Str)(c:UInt8)(hl:z s<=1000000):aJ Tryz.prog 206 [sv s,iv .u8 c.toNat] (·=bv (vT s c)):=by
 refine hdP Tryz.func206 rfl [4] λg=>?_;simp only[go_sem];refine eM (λn K=>∃k:Nat,n+k=z s/\K.f 0=sv s/\K.f 1=iv .u8 c.toNat/\K.f 5=ae k/\∀x∈s.take k,x≠c) (z s) ?_ ?_
 .refine⟨0,a7,?_⟩
  simp only[go_sem];exact λx I=>by simp at I
 rintro n f g r ⟨k,t,i,j,l,u⟩;simp only at i j l;have p:=ah (k:=k) a7;by_cases q:k<z s
 .obtain⟨x,I⟩:=getq q
  have Q:(k:Int)<(z s:Int):=a7;have o:(0:Int)<=(k:Int):=a7;by_cases a:x=c
  .subst a
   simp only[go_sem,i,j,l,Q,o,I];have:vT s x=T:=by unfold vT;rw[J8];exact l7 I
   rw[this]
  .have d:¬(x.toNat:Int)=(c.toNat:Int):=λe=>a (Q9.1 a7)
   simp only[go_sem,i,j,l,Q,o,I,d,p];refine cQ (n-1) a7 ⟨k+1,a7,?_⟩;simp only[go_sem,i,j];intro y b;rw[D2,I,C1]at b;rcases b with b|b
   .exact u y b
   .simp at b;rw[b];exact a
 .have Q:¬(k:Int)<(z s:Int):=a7
  simp only[go_sem,i,j,l,Q];rw[s7 a7]at u
  have:vT s c=F:=by
   unfold vT;cases h:s.contains c with
   |false=>rfl
   |true=>exact absurd rfl (u c (J8.1 h))
  rw[this]
def tc(b:Bool)(v d:Int):aJ Tryz.prog 207 [bv b,ae v,ae d] (·=bv (inW v d b)):=by
 refine hdP Tryz.func207 rfl [6] λg=>?_;exact W0
def AG(op:Int):(ke op.toNat=F/\ej op=[63])\/(ke op.toNat=T/\(
  (Asm.shape op.toNat=(T,F,1)/\ej op=[97,99])\/(Asm.shape op.toNat=(T,T,0)/\ej op=[97,98])\/(Asm.shape op.toNat=(T,T,2)/\ej op=[97,98,114])\/(Asm.shape op.toNat=(T,T,1)/\ej op=[97,98,99])\/
  (Asm.shape op.toNat=(F,F,1)/\ej op=[99])\/(Asm.shape op.toNat=(T,F,0)/\ej op=[97])\/(Asm.shape op.toNat=(F,F,0)/\ej op=[]))):=by
 unfold ej;cases a:ke op.toNat
 .exact .inl ⟨rfl,a8⟩
 .refine .inr ⟨rfl,?_⟩
  unfold Ix;rcases AE op.toNat with h|h|h|h|h|h|h<;>simp[h]
def Iz(op a b c:Int):aJ Tryz.prog 192 [qy op a b c] (·=bv (fp op a b c)):=by
 refine hdP Tryz.func192 rfl [2] λg=>?_;unfold qy;simp only[go_sem];refine cg rfl (by simp only[go_sem];exact Iy op) ?_;rintro _ rfl
 have l:∀s:Str,z s<=3->∀k:Nat,k<256->aJ Tryz.prog 206 [sv s,iv .u8 k] (·=bv (vT s (UInt8.ofNat k))):=λs j k hk=>by
  have:=Va s (UInt8.ofNat k) a7
  rwa [show (UInt8.ofNat k).toNat=k by rw[M3];omega]at this
 rcases AG op with⟨hk,hp⟩|⟨hk,⟨j,hp⟩|⟨j,hp⟩|⟨j,hp⟩|⟨j,hp⟩|⟨j,hp⟩|⟨j,hp⟩|⟨j,hp⟩⟩
 .rw[hp,show fp op a b c=F by unfold fp;rw[hk];rfl]
  simp only[go_sem];refine cg rfl (by simp only[go_sem];exact l [63] b9 114 b9) ?_;rintro _ rfl;rw[show vT [63] (UInt8.ofNat 114)=F by decide];simp only[go_sem];refine dr aO mixed c9 ?_;simp only[go_sem,reduceCtorEq]
 all_goals
  have o:z (ej op)<=3:=by rw[hp];decide
  have n:(ej op=[63])=False:=by rw[hp];simp
  have f:vT (ej op) (UInt8.ofNat 97)=(Asm.shape op.toNat).1:=by rw[hp,j];decide
  have h:vT (ej op) (UInt8.ofNat 98)=(Asm.shape op.toNat).2.1:=by rw[hp,j];decide
  have i:vT (ej op) (UInt8.ofNat 99)=decide ((Asm.shape op.toNat).2.2=1):=by rw[hp,j];decide
  have e:vT (ej op) (UInt8.ofNat 114)=decide ((Asm.shape op.toNat).2.2=2):=by rw[hp,j];decide
  have d:fp op a b c=(inW a 15 (Asm.shape op.toNat).1&&(inW b 15 (Asm.shape op.toNat).2.1&&inW c (qx op.toNat) (decide ((Asm.shape op.toNat).2.2≠0)))):=by unfold fp;rw[hk,x8]
  unfold qx at d;rw[j]at f h i e d;simp only[Tz,L7,Nat.reduceEqDiff,ne_eq,Tn,N9,B5,B1,reduceCtorEq]at f h i e d;rw[d];clear hp j d hk;simp only[go_sem];refine cg rfl (by simp only[go_sem];exact l (ej op) o 114 b9) ?_;rintro _ rfl;rw[e];simp only[go_sem];refine dr aO mixed c9 ?_;simp only[go_sem,n];refine bc rfl (l (ej op) o 97 b9) (cG rfl) rfl ?_;rw[f];simp only[go_sem];refine bc rfl (tc _ _ _) (cG rfl) rfl ?_;generalize inW a 15 _=p;cases p
  .simp only[go_sem]
   try simp
  simp only[go_sem];refine bc rfl (l (ej op) o 98 b9) (cG rfl) rfl ?_;rw[h];simp only[go_sem];refine bc rfl (tc _ _ _) (cG rfl) rfl ?_;generalize inW b 15 _=q;cases q
  .simp only[go_sem]
   try simp
  simp only[go_sem];refine bc rfl (l (ej op) o 99 b9) (cG rfl) rfl ?_;rw[i];simp only[go_sem]
  try
   refine bc rfl (l (ej op) o 114 b9) (cG rfl) rfl ?_;rw[e];simp only[go_sem]
  refine bc rfl (tc _ _ _) (cG rfl) rfl ?_;simp only[go_sem]
  try rfl
end
section
open Go Go.Am Go.Asm
def Se{n:Nat}(h:n<4294967296):IntKind.u32.wrap (n:Int)=(n:Int):=by rw[IntKind.wrap_u32];omega
def By(code:List Nat)(d:Int):AV:=.agg [.d (fD code),ag d]
end
end Go.Proofs.YtlacbjnmkhndiaaGreatDoor
namespace Go.Am
section
attribute[local congr]ite_cc
def Bf{P:Program}{rd:Option Nat}{O:Bs}{b:St->Loc->List Deferred->World->Prop}{e:Nat}{f:fT}(a6:bp O b){o:Oper}{s:St}(d:St){K:St->Prop}{k:Box K}(g:ai s d)(h:bC (spF P rd O b e f) o d k):bC (spF P rd O b e f) o s k:=by
 obtain⟨R,i,J⟩:=h;refine⟨R,λal j a ds w V X c next Q m I=>?_,J⟩;obtain⟨l,n,p⟩:=g O al j a w V;exact i al l a ds w n (a6 _ _ _ _ _ _ _ X p) c next Q m I
end
end Go.Am
namespace Go.Proofs.YtlacbjnmkhndiaaGreatDoor.Low
section
open Go Go.Am Go.Lower
open Go.Emit (Wr aD aE ax sQ eC iA ei)
attribute[local congr]ite_cc
def pA(x:iR):Bool:=fp x.1 x.2.1 x.2.2.1 x.2.2.2
def mf(x:iR):Nat:=Asm.word x.1.toNat x.2.1.toNat x.2.2.1.toNat x.2.2.2.toNat
def xY(fs:List Src.CFn)(P:Emit.Plan):AV:=
 if 32768<P.data then .tup [By [] 0,ae 2]
 else
  let c:=Emit.filled (Emit.whole fs P)
  if 16384<z c then .tup [By [] 0,ae 2]
  else if c.all pA then .tup [By (c.map mf) P.data,ae 0]else .tup [By [] 0,ae 2]
structure Wm (w:Int) (fs:List Src.CFn) (P:Emit.Plan):Prop where
 n:0<fs.length
 dl:P.depths.length=fs.length
 bl:P.back.length=fs.length
 l:P.base.length=fs.length
 fz:fs.length<=1000000
 bz:∀x∈P.base,0<=x/\x<=1000000000000000
 dz:∀ds∈P.depths,∀d∈ds,-1<=d/\d<=1000000000
 pz:∀x∈fs,0<=x.p/\x.p<=1000000/\0<=x.first/\x.first<=1000000000000
 sz:∀x∈fs,x.p<=x.slots/\x.slots<=1000000
 d0:0<=P.data
 ok0:xW fs P ⟨[(1,15,0,1)],[],List.replicate fs.length 0,List.replicate fs.length []⟩ (fs.length-1)
 okj:∀j,j<fs.length-1->xW fs P (Emit.qs fs P j) j
 X:(Emit.whole fs P).code.length<=100000000
 zh:(Emit.whole fs P).holes.length<=100000000
 ho:∀h∈(Emit.whole fs P).holes,JE (Emit.whole fs P) fs.length h
def Bg(d:iA):∀(l:List kX)(c:List iR),z (l.foldl (Emit.fill d) c)=z c
 |[],c=>rfl
 |a::l,c=>by
   rw[G7,Bg d l];unfold Emit.fill;split
   .rw[C4]
   .rfl
def Bh:∀{l:List iR}{j:Nat}{x:iR},l[j]?=S x->((fI l).drop (j*4)).take 4=Ba x
 |a::l,0,x,e=>by
   cases e;simp[lL,Ba]
 |a::l,j+1,x,e=>by
   have b:=Bh (l:=l) (j:=j) (x:=x) (by simpa using e);rw[lL,show (j+1)*4=4+j*4 by omega,List.drop_append,y9 a8,A7];simpa using b
def wcells(l:List Nat):List C:=l.map λn=>.d (.int .u32 (n:Nat))
def Dk(l:List Nat):z (wcells l)=z l:=by simp[wcells]
def pC{s:St}{n:Int}:ry s [.agg [.d .nsl,ag 0],ae n] (.tup [By [] 0,ae n]):=by
 refine⟨_,⟨By [] 0,_,rfl,⟨[fD [],.int .i64 0],rfl,λi c m=>?_,rfl⟩,_,_,rfl,⟨_,.d _,rfl⟩,rfl⟩,rfl⟩
 match i,m with
 |0,m=>cases m;exact⟨_,rfl,.d _⟩
 |1,m=>cases m;exact⟨_,rfl,.d _⟩
def Zo{o:cT}{w:Int}{fs:List Src.CFn}{P:Emit.Plan}(ok:P.data<=32768->Wm w fs P)(cu:aJ Tryz.prog 46 [jK w fs] (·=Jz P.depths P.back P.base P.data)):ck Tryz.prog 1 o 21 [jK w fs] (·=xY fs P):=by
 refine hdG Tryz.func21 rfl [.cell 2 31,.tmp 3] λO bn s0 w0 g=>?_;obtain⟨X,hz⟩:∃X,xY fs P=X:=⟨_,rfl⟩
 rw[hz];unfold xY at hz;have b1:jK w fs=.agg [ag w,aq (fs.map sfD)]:=rfl;rw[b1]at cu|-;simp only[go_sem];refine jb aL rfl (by simp only[go_sem];exact cu) j4 ?_;rintro _ rfl;unfold Jz;by_cases hd:32768<P.data
 .rw[l9 hd]at hz
  subst hz;simp only[go_sem,hd];exact⟨_,pC,rfl⟩
 rw[j9 hd]at hz;have k:=ok a7;simp only[go_sem,hd];have dc:=k.fz;have bf:(List.replicate (z fs) [C.d .nsl]).flatten=List.replicate (z fs) (C.d .nsl):=px _ _;refine cB aO mixed aL [23,27,29] [([1],[0,1],[],F),([4],[0,1],[],F),([1],[1],[],F),([20],[1],[],F),([21],[1],[],F),([22],[1],[0],F),([1],[0],[],F),([24],[0],[],F),([25],[0],[],F),([26],[0],[1],F),([18,19,23,27],[],[],F),([28],[],[2],F),([29],[],[],T)] 3 rfl c9 rfl b9 ?_;simp only[go_sem]
 iterate 5 (apply aw;(case hg=>first|exact y8|exact⟨_,rfl,by decide,rfl⟩);(case U=>intro fa ga oa K' J;simp only[go_sem,j7]at J|-;exact J))
 refine bV (a:=0) (v:=dL 23 (nxC 4 (g 23)) 1 0 (z fs)) (x:=nxC 4 (g 23)) (y:=S (icells (List.replicate (z fs) 0))) y8 (λfa ga oa K' J=>?_) ?_
 .simp only[go_sem,ba]at J|-
  refine⟨l8 _,a7,a7,?_⟩;rw[show (List.replicate (z fs) [C.d (.int .i64 0)]).flatten=icells (List.replicate (z fs) 0) by rw[px,icells,P6]];exact J
 iterate 3 (apply aw;(case hg=>first|exact y8|exact⟨_,rfl,by decide,rfl⟩);(case U=>intro fa ga oa K' J;simp only[go_sem,j7]at J|-;exact J))
 refine bV (a:=1) (v:=dL 27 (nxC (ba Tt 108+1) (g 27)) 1 0 (z fs)) (x:=nxC (ba Tt 108+1) (g 27)) (y:=S (List.replicate (z fs) (.d .nsl))) y8 (λfa ga oa K' J=>?_) ?_
 .simp only[go_sem]at J|-
  refine⟨l8 _,a7,a7,?_⟩;rw[bf];exact J
 (apply aw;(case hg=>first|exact y8|exact⟨_,rfl,by decide,rfl⟩);(case U=>intro fa ga oa K' J;simp only[go_sem]at J|-;exact J))
 (apply bV;(case hg=>first|exact y8|exact⟨_,rfl,by decide,rfl⟩);(case U=>intro fa ga oa K' J;simp only[go_sem]at J|-;exact J))
 refine cC y8 ?_;intro K' a';simp only[go_sem];refine a' _ ?_;clear a' K';obtain⟨ad,az⟩:∃x,nxC 4 (g 23)=x:=⟨_,rfl⟩
 obtain⟨al,a6⟩:∃x,nxC (ba Tt 108+1) (g 27)=x:=⟨_,rfl⟩
 rw[az,a6];have b7:P.depths.map (λo=>[ksD o])=P.depths.map (λo=>[ksD o]):=rfl;simp only[go_sem]
 refine Bf aL _ ((eP (t:=5) (o:=29) (b:=200) (j:=6) (sz:=4) (off:=0) (cells:=[ag w,aq (fs.map sfD),aq (P.depths.map λo=>[ksD o]),.d (ksD P.back),.d (ksD P.base),ag P.data,.d .nsl,.osl 23 ad 1 0 (z fs),.osl 27 al 1 0 (z fs),.d .nsl,ag 0,ag 0]) XD XD rfl b9).trans
  (eP (t:=5) (o:=29) (b:=201) (j:=9) (sz:=3) (off:=0) (cells:=[ag w,aq (fs.map sfD),aq (P.depths.map λo=>[ksD o]),.d (ksD P.back),.d (ksD P.base),ag P.data,.osl 200 (g 200+1) 4 0 0,.osl 23 ad 1 0 (z fs),.osl 27 al 1 0 (z fs),.d .nsl,ag 0,ag 0]) X2 X2 rfl b9)) ?_
 simp only[St.claimAt];refine cH (L:=λ_ _ _=>False) (R:=λr g' Y=>r=dL 1037 (g' 1037) 4 0 (z (Emit.whole fs P).code)/\Y 1037=S (fI (Emit.filled (Emit.whole fs P)))/\∀i,i<10->g' i=(upd (upd (upd g 1 (nxC 70 (g 1))) 2 (nxC 32 (g 2))) 4 (nxC 112 (g 4))) i/\Y i=(upd (upd (upd (λ_=>N) 1 (S [C.d (D.int IntKind.i64 w),C.d (D.sl (List.map sfD fs))])) 2 (S [C.d D.nsl,C.d (D.int IntKind.i64 0)])) 4 (S [C.d (D.sl (P.depths.map λo=>[ksD o])),C.d (ksD P.back),C.d (ksD P.base),C.d (D.int IntKind.i64 P.data)])) i) aL rfl ?_ (λ_ _ _ h=>h.elim) ?_
 .simp only[go_sem]
  refine(Nv (B:=1000) (G:=29) (D:=200) (H:=201) (E:=23) (Pl:=27) (gE:=ad) (gP:=al) (P:=P) (fs:=fs) (k:=⟨ag w,aq (fs.map sfD),aq (P.depths.map λo=>[ksD o]),.d (ksD P.back),.d (ksD P.base),ag P.data,.osl 23 ad 1 0 (z fs),.osl 27 al 1 0 (z fs),ag 0,ag 0⟩)
   ⟨λi hi=>?_,b9,b9,b9,b9,b9,b9,?_,?_,?_,?_⟩ ⟨rfl,rfl,rfl,rfl,rfl,rfl,k.dl,k.bl,k.l,k.fz,k.bz,k.dz,k.pz,k.sz⟩ ?_ ?_ ?_ ?_ ?_ b9 b9 b9 k.n k.ok0 k.okj k.X k.zh k.ho).mono ?_ (λ_ _ _ h=>h)
  .exact gO
  .simp[upd,bH.cells]
  .simp[upd];rfl
  .simp[upd];rfl
  .intro x I
   simp only[bH.all,A0,B3,F2]at I;rcases I with e|e|e|e|e|e|e|e|e|e
   all_goals (subst e;first|trivial|(show (23:Nat)<1000;decide)|(show (27:Nat)<1000;decide))
  .simp[upd]
  .simp[upd]
  .simp[upd]
  .simp[upd]
  .simp[upd]
  rintro r g' Y ⟨U,h2,h3⟩;refine⟨U,h2,λi hi=>?_⟩;obtain⟨a1,a2⟩:=h3 i a7 a7 a7 a7 a7 a7;refine⟨a1.trans ?_,a2.trans ?_⟩
  .simp only[upd]
   (repeat rw[j9 (show ¬i=201 by omega)])
   (repeat rw[j9 (show ¬i=200 by omega)])
   (repeat rw[j9 (show ¬i=29 by omega)])
   (repeat rw[j9 (show ¬i=27 by omega)])
   (repeat rw[j9 (show ¬i=23 by omega)])
  .simp only[upd]
   (repeat rw[j9 (show ¬i=201 by omega)])
   (repeat rw[j9 (show ¬i=200 by omega)])
   (repeat rw[j9 (show ¬i=29 by omega)])
   (repeat rw[j9 (show ¬i=27 by omega)])
   (repeat rw[j9 (show ¬i=23 by omega)])
   split
   .rfl
   .rfl
 rintro r g1 av ⟨rfl,A,O1⟩;have e2:=O1 2 b9;have e4:=O1 4 b9;simp[upd]at e2 e4;obtain⟨e2,o2⟩:=e2;obtain⟨e4,o4⟩:=e4;clear O1;obtain⟨W,hW⟩:∃W,Emit.whole fs P=W:=⟨_,rfl⟩
 rw[hW]at A hz;have b2:=k.X;rw[hW]at b2|-;obtain⟨c,Z⟩:∃c,Emit.filled W=c:=⟨_,rfl⟩
 have b5:z W.code=z c:=by rw[<-Z];exact(Bg W W.holes W.code).symm
 simp only[Z]at hz;rw[Z]at A;rw[b5]at b2|-;obtain⟨gC,cd⟩:∃x,g1 1037=x:=⟨_,rfl⟩
 rw[cd];have e0:=jv c;by_cases q:16384<z c
 .rw[l9 q]at hz
  subst hz;have hb:(16384:Int)<(z c:Int):=a7;simp only[go_sem,hb,cd,A,e2,o2];exact⟨_,pC,rfl⟩
 rw[j9 q]at hz;have hb:¬(16384:Int)<(z c:Int):=a7;simp only[go_sem,hb,cd,A,e2,o2];refine⟨l8 _,a7,a7,?_⟩
 have b4:(List.replicate (z c) [C.d (.int .u32 0)]).flatten=wcells ((c.take 0).map mf++List.replicate (z c-0) 0):=by
  rw[px];simp[wcells]
 refine aG (λm K=>∃j:Nat,m+j=z c/\(c.take j).all pA=T/\K.f 2=aj 2 (K.gen 2) 0/\K.f 4=aj 4 (K.gen 4) 0/\K.f 7=dL 38 (K.gen 38) 1 0 (z c)/\K.f 39=dL 1037 gC 4 0 (z c)/\K.f 40=ae (z c)/\K.f 41=ae j/\K.gen 1037=gC/\
  K.obj 1037=S (fI c)/\K.obj 38=S (wcells ((c.take j).map mf++List.replicate (z c-j) 0))/\(∃x y,K.obj 2=S [x,y])/\K.obj 4=S [aq (P.depths.map λo=>[ksD o]),.d (ksD P.back),.d (ksD P.base),ag P.data]) (z c) ?_ ?_
 .refine⟨0,rfl,rfl,?_⟩
  simp only[go_sem,cd,A,e2,e4,o2,o4];exact⟨by rw[b4];simp,_,_,rfl,rfl⟩
 clear e2 e4 o2 o4 A cd b4 az a6;rintro m fa g2 bo ⟨j,hm,bs,q2,q4,q7,b0,an,ar,cd,A,p,⟨x0,y0,o2⟩,o4⟩;simp only at q2 q4 q7 b0 an ar cd A p o2 o4
 have b3:(wcells ((c.take j).map mf++List.replicate (z c-j) 0)).length=z c:=by
  rw[Dk,j8,j7,D3,G4];omega
 by_cases af:j<z c
 case neg=>
  obtain rfl:j=z c:=a7;have bd:¬(z c:Int)<(z c:Int):=a7;rw[I1]at bs p;rw[Lz,L6,s9]at p;rw[l9 bs]at hz;subst hz;simp only[go_sem,q2,q4,q7,an,ar,bd,o2,o4];refine⟨_,⟨_,⟨By (c.map mf) P.data,_,rfl,⟨[fD (c.map mf),.int .i64 P.data],rfl,λi y hy=>?_,rfl⟩,_,_,rfl,⟨_,.d _,rfl⟩,rfl⟩,rfl⟩,rfl⟩
  match i,hy with
  |0,hy=>
    cases hy;refine⟨_,rfl,eu (s:=⟨_,_,_⟩) (cells:=wcells (c.map mf)) rfl (c.map mf) (λn=>[.int .u32 (n:Nat)]) ?_ ?_ (λ_ _ y hy=>by simp at hy;subst hy;rfl) (λ_ _=>rfl) a8⟩
    .simp only[upd]
     exact p
    .unfold wcells
     generalize c.map mf=l
     induction l with
     |nil=>rfl
     |cons b l ih=>rw[s6,G8,ih];rfl
  |1,hy=>cases hy;exact⟨_,rfl,.d _⟩
 have bd:(j:Int)<(z c:Int):=a7;have cv:(0:Int)<=(j:Int):=a7;obtain⟨x,I⟩:∃x,c[j]?=S x:=⟨_,v8 af⟩
 have b6:=Bh I;unfold Ba at b6;have cc:=ah (k:=j) a7;simp only[go_sem,q2,q4,q7,b0,an,ar,bd,cv,af,cd,A,e0,b6];refine⟨a7,?_⟩;refine jd rfl (by simp only[go_sem];exact IB x.1 x.2.1 x.2.2.1 x.2.2.2) ?_;rintro _ rfl;cases V:pA x
 .have Q:fp x.1 x.2.1 x.2.2.1 x.2.2.2=F:=V
  have bk:c.all pA=F:=by
   rw[Bool.eq_false_iff];intro h;rw[x9]at h;rw[h x (l7 I)]at V;cases V
  rw[bk]at hz;simp only[E0,B1]at hz;subst hz;simp only[go_sem,Q,E0,q2,o2];exact⟨_,pC,rfl⟩
 .have Q:fp x.1 x.2.1 x.2.2.1 x.2.2.2=T:=V
  have u:(wcells ((c.take j).map mf++List.replicate (z c-j) 0)).set j (.d (.int .u32 (mf x:Nat)))=wcells ((c.take (j+1)).map mf++List.replicate (z c-(j+1)) 0):=by
   obtain⟨n,hn⟩:∃n,z c-j=n+1:=⟨z c-j-1,a7⟩
   rw[hn,show z c-(j+1)=n by omega,D2,I,Option.toList,A8,v7];unfold wcells;rw[A8,J0 _ _ XH];simp only[j7,D3,A8,s6,x7,F9];rw[show j-min j (z c)=0 by omega];rfl
  simp only[go_sem,Q,q2,q4,q7,p,b3,af,bd,cv];refine⟨a7,?_⟩;simp only[go_sem,ar,cc,setAt];refine ao (m-1) a7 ⟨j+1,a7,?_,?_⟩
  .rw[D2,I,Option.toList,G6,bs]
   simp[V]
  simp only[go_sem,q2,q4,q7,b0,an,cd,A,o2,o4,cc];exact⟨u▸rfl,_,_,rfl,rfl⟩
end
end Go.Proofs.YtlacbjnmkhndiaaGreatDoor.Low
namespace Go.Emit
section
open Go.Lower (Ins Code Sig codeOf takes next Inv left Good OkI gu)
section
def Fits(L M:Nat)(Q:Int×Int->Prop)(w:Nat->Wr):Prop:=∀n,z (w n).code<=L/\z (w n).holes<=M/\∀h∈(w n).holes,(n:Int)<=h.1/\h.1<(n:Int)+z (w n).code/\Q h.2
variable{P:Plan}{f:Nat}{fs:List Src.CFn}{d r b:Int}
section
variable{L a M y:Nat}{Q:Int×Int->Prop}{v w:Nat->Wr}
def Fits.mono(h:Fits L M Q w)(c:L<=a)(A:M<=y):Fits a y Q w:=λn=>⟨D0 (h n).1 c,D0 (h n).2.1 A,(h n).2.2⟩
def iQ:Fits 0 0 Q eC:=λ_=>⟨l8 _,l8 _,λ_ h=>by cases h⟩
def cO{a b c d:Int}:Fits 1 0 Q (aD a b c d):=λ_=>⟨l8 _,l8 _,λ_ h=>by cases h⟩
def pY{a b f pl:Int}(hq:Q (f,pl)):Fits 1 1 Q (aE a b f pl):=λn=>⟨l8 _,l8 _,λh hh=>by
 obtain rfl:h=((n:Int),f,pl):=by simpa[aE]using hh
 exact⟨C7 _,by simp[aE];omega,hq⟩⟩
def Fits.seq(i:Fits L M Q v)(j:Fits a y Q w):Fits (L+a) (M+y) Q (ax v w):=λn=>by
 obtain⟨o,p,k⟩:=i n;obtain⟨q,s,l⟩:=j (n+z (v n).code);refine⟨by simp only[ax,j8];omega,by simp only[ax,j8];omega,λh c=>?_⟩;simp only[ax,C1,j8]at c|-;rcases c with c|c
 .obtain⟨g,m,e⟩:=k h c
  exact⟨g,a7,e⟩
 .obtain⟨g,m,e⟩:=l h c
  exact⟨a7,a7,e⟩
def fG:Fits 1 0 Q (dJ P f d r b):=cO
def jf:Fits 1 0 Q (du P f d r b):=cO
def Ax{r n:Int}:Fits 2 0 Q (ko r n):=by
 unfold ko;split
 .exact cO.seq cO
 .exact cO.mono b9 b9
def CM{d:Int}:Fits 3 0 Q (kK fs P f d):=by
 unfold kK;split
 .exact cO.mono b9 b9
 .simp only
  split
  .exact fG.seq (cO.seq cO)
  .exact(cO.seq cO).mono b9 b9
def vK{a:Int}:∀k,Fits k 0 Q (jH a k)
 |0=>iQ
 |k+1=>(vK k).seq cO
def CN{a b:Int}:Fits 6 0 Q (je a b):=by
 by_cases h:b-a<=6
 .have e:je a b=jH a (b-a).toNat:=l9 h
  rw[e];exact(vK _).mono a7 b9
 .have e:je a b=λn=>⟨[(1,1,0,a),(1,2,0,b),(17,0,1,0),(4,1,1,15),(14,3,1,2),(20,3,0,(n:Int)+2)],[]⟩:=j9 h
  rw[e];exact λn=>⟨l8 _,l8 _,λ_ h=>by cases h⟩
def sU{P:Plan}{f:Nat}{d p i:Int}:∀k,Fits (2*k) 0 Q (lE P f d p i k)
 |0=>iQ
 |k+1=>((sU k).seq (fG.seq cO)).mono a7 b9
def Ga{d a:Int}{ar:Nat}(e:∀y,fs[a.toNat]?=S y->y.p.toNat<=ar/\Q (a,-1)):Fits (2*ar+2) 1 Q (tZ fs P f d a):=by
 unfold tZ;cases g:fs[a.toNat]? with
 |none=>exact iQ.mono a7 b9
 |some y=>
   obtain⟨U,c⟩:=e y g;simp only;split
   .exact((sU _).seq ((pY c).seq jf)).mono a7 b9
   .exact((sU _).seq ((pY c).seq iQ)).mono a7 b9
def Il{d:Int}{x:Ins}{ar:Nat}(t:x.op=10->∀y,fs[x.a.toNat]?=S y->y.p.toNat<=ar/\Q (x.a,-1))(q:x.op=8\/x.op=9->Q ((f:Int),x.a)):Fits (2*ar+5) 1 Q (kL fs P f d x):=by
 by_cases U:x.op=1
 .rw[show kL fs P f d x=_ from l9 U]
  exact(Ax.seq jf).mono a7 b9
 by_cases c:x.op=2
 .rw[show kL fs P f d x=_ from(j9 U).trans (l9 c)]
  exact(cO.seq jf).mono a7 b9
 by_cases g:x.op=3
 .rw[show kL fs P f d x=_ from(j9 U).trans ((j9 c).trans (l9 g))]
  exact(fG.seq cO).mono a7 b9
 by_cases i:x.op=4
 .rw[show kL fs P f d x=_ from(j9 U).trans ((j9 c).trans ((j9 g).trans (l9 i)))]
  exact(fG.seq (cO.seq (cO.seq jf))).mono a7 b9
 by_cases j:x.op=5
 .rw[show kL fs P f d x=_ from(j9 U).trans ((j9 c).trans ((j9 g).trans ((j9 i).trans (l9 j))))]
  exact(fG.seq (cO.seq (fG.seq cO))).mono a7 b9
 by_cases k:x.op=6
 .rw[show kL fs P f d x=_ from(j9 U).trans ((j9 c).trans ((j9 g).trans ((j9 i).trans ((j9 j).trans (l9 k)))))]
  exact(fG.seq (fG.seq (cO.seq jf))).mono a7 b9
 by_cases s:x.op=7
 .rw[show kL fs P f d x=_ from(j9 U).trans ((j9 c).trans ((j9 g).trans ((j9 i).trans ((j9 j).trans ((j9 k).trans (l9 s))))))]
  exact(fG.seq (cO.seq jf)).mono a7 b9
 have w:kL fs P f d x=if x.op=8 then aE 18 0 f x.a
 else if x.op=9 then ax (dJ P f d 1 1) (aE 19 1 f x.a)
 else if x.op=10 then tZ fs P f d x.a
 else if x.op=11 then kK fs P f d
 else if x.op=12 then ax (aD 23 1 0 0) (du P f d 1 0)
 else if x.op=13 then ax (dJ P f d 1 1) (aD 24 1 0 0)
 else eC:=(j9 U).trans ((j9 c).trans ((j9 g).trans ((j9 i).trans ((j9 j).trans ((j9 k).trans (j9 s))))))
 rw[w];by_cases l:x.op=8
 .rw[l9 l]
  exact(pY (q (.inl l))).mono a7 b9
 rw[j9 l];by_cases m:x.op=9
 .rw[l9 m]
  exact(fG.seq (pY (q (.inr m)))).mono a7 b9
 rw[j9 m];by_cases o:x.op=10
 .rw[l9 o]
  exact(Ga (t o)).mono a7 b9
 rw[j9 o];by_cases H:x.op=11
 .rw[l9 H]
  exact CM.mono a7 b9
 rw[j9 H];by_cases e:x.op=12
 .rw[l9 e]
  exact(cO.seq jf).mono a7 b9
 rw[j9 e];by_cases K:x.op=13
 .rw[l9 K]
  exact(fG.seq cO).mono a7 b9
 rw[j9 K];exact iQ.mono a7 b9
def Gb:Fits 7 0 Q (jR fs P f):=by
 unfold jR;split
 .exact iQ.mono b9 b9
 .cases fs[f]? with
  |none=>exact iQ.mono b9 b9
  |some y=>exact(cO.seq CN).mono b9 b9
def xK{fs:List Src.CFn}{P:Plan}{f:Nat}{A:Lower.Code}{ds:List Int}{ar:Nat}(h:∀x∈A,(x.1.op=10->∀y,fs[x.1.a.toNat]?=S y->y.p.toNat<=ar/\Q (x.1.a,-1))/\(x.1.op=8\/x.1.op=9->Q ((f:Int),x.1.a))):∀k,Fits (7+k*(2*ar+5)) k Q (fB fs P f A ds k)
 |0=>Gb.mono a7 a7
 |k+1=>by
   have c:=xK (P:=P) (ds:=ds) h k;rw[fB];cases I:A[k]? with
   |none=>exact(c.seq iQ).mono (by rw[F1];omega) a7
   |some x=>
     cases hd:ds[k]? with
     |none=>exact(c.seq iQ).mono (by rw[F1];omega) a7
     |some d=>
       simp only;obtain⟨U,e⟩:=h x (l7 I);split
       .exact(c.seq (Il U e)).mono (by rw[F1];omega) a7
       .exact(c.seq iQ).mono (by rw[F1];omega) a7
end
end
section
def cw(x:Src.CFn):Lower.Code:=codeOf x.word x.body
def szF(fs:List Src.CFn)(ar f:Nat):Nat:=match fs[f]? with|some x=>7+z (cw x)*(2*ar+5)|none=>0
def sV(fs:List Src.CFn)(ar:Nat):Nat->Nat
 |0=>0
 |k+1=>sV fs ar k+szF fs ar k
def Gc(fs:List Src.CFn)(ar:Nat){a b:Nat}(h:a<=b):sV fs ar a<=sV fs ar b:=by
 induction h with
 |refl=>exact l8 _
 |step _ c=>exact D0 c (L9 _ _)
def yU(fs:List Src.CFn)(ar:Nat):∀k,k<=z fs->sV fs ar k<=7*k+((fs.take k).map λx=>z (cw x)).sum*(2*ar+5)
 |0,_=>by simp[sV]
 |k+1,h=>by
   have b:=yU fs ar k a7;have a:fs[k]?=S (fs[k]'a7):=v8 a7;rw[sV,D2,a];simp only[szF,a,Option.toList,A8,M4,s6,x7,D8,SY,F1,LN];omega
def Pz(fs:List Src.CFn)(q:Int×Int):Prop:=(0<=q.1/\q.1<(z fs:Int))/\(0<=q.2->∃x,fs[q.1.toNat]?=S x/\q.2<(z (cw x):Int))
structure rL (fs:List Src.CFn) (P:Plan) (ar:Nat):Prop where
 n:0<fs.length
 dl:P.depths.length=fs.length
 c:∀x∈fs,∀y∈cw x,y.1.op=10->∃(k:Nat)(X:Src.CFn),y.1.a=(k:Int)/\fs[k]?=some X
 j:∀x∈fs,∀y∈cw x,y.1.op=8\/y.1.op=9->0<=y.1.a/\y.1.a<((cw x).length:Int)
 p:∀x∈fs,x.p.toNat<=ar
variable{fs:List Src.CFn}{P:Plan}{x:Src.CFn}
def rL.fits{ar:Nat}(h:rL fs P ar){f:Nat}(I:fs[f]?=S x)(ds:List Int)(k:Nat):Fits (7+k*(2*ar+5)) k (Pz fs) (fB fs P f (cw x) ds k):=by
 have b:=l7 I;have n:f<z fs:=(l6.1 I).1;refine xK (λy d=>⟨λo X e=>?_,λr=>?_⟩) k
 .obtain⟨c,a,g,i⟩:=h.c x b y d o
  have:c<z fs:=(l6.1 i).1;exact⟨h.p X (l7 e),⟨by simp only[g];omega,λl=>by simp only at l;omega⟩⟩
 .obtain⟨q,m⟩:=h.j x b y d r
  exact⟨⟨by simp only;omega,by simp only;omega⟩,λ_=>⟨x,by simp only[B6];exact I,m⟩⟩
structure pj (fs:List Src.CFn) (d:iA) (done:Nat->Prop) (al:Nat):Prop where
 c:d.code.length<=al
 hl:d.holes.length<=al
 h:∀x∈d.holes,0<=x.1/\x.1<(d.code.length:Int)/\Pz fs x.2
 pl:d.pls.length=fs.length
 el:d.ent.length=fs.length
 p:∀f,done f->∃x l,fs[f]?=some x/\d.pls[f]?=some l/\l.length=(cw x).length
def ll{d:iA}{f:Nat}{ds:List Int}(I:fs[f]?=S x)(hd:P.depths[f]?=S ds):ei fs P d f =
  ⟨d.code++(fB fs P f (cw x) ds (z (cw x)) (z d.code)).code,d.holes++(fB fs P f (cw x) ds (z (cw x)) (z d.code)).holes,d.ent.set f (z d.code),d.pls.set f (placesOf fs P f (cw x) ds (z d.code))⟩:=by
 unfold ei;rw[I,hd];rfl
def pj.add{ar:Nat}(H:rL fs P ar){d:iA}{done:Nat->Prop}{al f:Nat}(h:pj fs d done al)(hf:f<z fs):pj fs (ei fs P d f) (λi=>done i\/i=f) (al+szF fs ar f):=by
 obtain⟨x,I⟩:∃x,fs[f]?=S x:=⟨_,v8 hf⟩
 obtain⟨ds,hd⟩:∃ds,P.depths[f]?=S ds:=⟨_,v8 (by rw[H.dl];exact hf)⟩
 obtain⟨f1,s,j⟩:=H.fits I ds (z (cw x)) (z d.code);have az:szF fs ar f=7+z (cw x)*(2*ar+5):=by unfold szF;rw[I]
 have t:z (cw x)<=z (cw x)*(2*ar+5):=U1 _ a7;rw[ll I hd,az];refine⟨?_,?_,λy a=>?_,?_,?_,λi k=>?_⟩
 .simp only[j8];have:=h.c;omega
 .simp only[j8];have:=h.hl;omega
 .simp only[C1,j8]at a|-
  rcases a with a|a
  .obtain⟨g,m,b⟩:=h.h y a
   exact⟨g,a7,b⟩
  .obtain⟨g,m,b⟩:=j y a
   exact⟨a7,a7,b⟩
 .simp only[C4];exact h.pl
 .simp only[C4];exact h.el
 .simp only
  by_cases e:i=f
  .subst e
   exact⟨x,_,I,by rw[C0,l9 rfl,l9 (by rw[h.pl];exact hf)],by simp[placesOf]⟩
  .obtain⟨n,l,o,q,r⟩:=h.p i (k.resolve_right e)
   exact⟨n,l,o,by rw[C0,j9 (B7 e)];exact q,r⟩
def uN{fs:List Src.CFn}{P:Plan}{ar:Nat}(H:rL fs P ar):∀k,k<=z fs-1->pj fs (qs fs P k) (λi=>i<k\/i=z fs-1) (1+szF fs ar (z fs-1)+sV fs ar k)
 |0,_=>by
   have g:=H.n;have d:pj fs ⟨[(1,15,0,1)],[],List.replicate (z fs) 0,List.replicate (z fs) []⟩ (λ_=>False) 1:=⟨a8,a8,(λ_ h=>by cases h),a8,a8,(λ_ h=>False.elim h)⟩
   have U:=d.add H (f:=z fs-1) a7;refine⟨U.c,U.hl,U.h,U.pl,U.el,λi a=>U.p i (.inr (a.resolve_left a7))⟩
 |k+1,j=>by
   have b:=(uN H k a7).add H (f:=k) a7;refine⟨by have:=b.c;rw[sV];exact D0 this a7,by have:=b.hl;rw[sV];exact D0 this a7,b.h,b.pl,b.el,λi a=>b.p i ?_⟩;rcases a with a|a
   .by_cases e:i=k
    .exact .inr e
    .exact .inl (.inl a7)
   .exact .inl (.inr a)
def Gd(fs:List Src.CFn)(ar:Nat){k:Nat}(c:0<z fs)(a:k<=z fs-1):szF fs ar (z fs-1)+sV fs ar k<=sV fs ar (z fs):=by
 obtain⟨m,b⟩:∃m,z fs=m+1:=⟨z fs-1,a7⟩
 have U:=Gc fs ar a;rw[b]at U|-;rw[show m+1-1=m by omega]at U|-;rw[sV];omega
end
end
section
open Go.Lower (Ins Code Sig codeOf takes next Inv left Good OkI gu)
open Go.Src (ab dy nM lR yl au sigs aZ dP oh aN CFn)
section
def sW(n:Nat):∀(l:List (List Int))(k:Nat)(w:Int),(∀o∈l,0<=deepest o 0)->w<=(dN n k l w).2.2/\∀x∈(dN n k l w).2.1,w<=x/\x<=(dN n k l w).2.2
 |[],k,w,_=>⟨C7 _,λ_ h=>by cases h⟩
 |o::l,k,w,h=>by
   have c:=h o a8;simp only[dN];have a:=sW n l (k+1) ((if k+1=n then w else w+1)+deepest o 0) (λo ho=>h o Yv);have b:w<=(if k+1=n then w else w+1):=by split<;>omega
   refine⟨a7,λx I=>?_⟩;rcases A0.1 I with rfl|I
   .exact⟨b,a7⟩
   .have:=a.2 x I
    exact⟨a7,a7⟩
def ik:∀(l:List Int)(d:Int),d<=deepest l d
 |[],d=>C7 _
 |a::l,d=>by rw[rK];have:=ik l (max d a);omega
def PA:∀(l:List Asm.Str)(m:Src.Pl)(w:Int),w<=(Src.gV l m w).2
 |[],m,w=>C7 _
 |n::l,m,w=>by rw[Src.gV];have:=PA l ((n,w,0)::m) (w+1);omega
def PB:∀(l:List (Asm.Str×Int))(m:Src.Pl)(w:Int),(∀a∈l,0<=a.2)->w<=(Src.gA l m w).2
 |[],m,w,_=>C7 _
 |n::l,m,w,h=>by rw[Src.gA];have:=PB l ((n.1,w,n.2)::m) (w+n.2) (λa b=>h a (by simp[b]));have:=h n a8;omega
variable{p:Src.Prog}{x:CFn}
def CO(h:aZ p=0):0<=(au p).2:=by
 obtain⟨V,_,_⟩:=Src.uq h;unfold dP at V;simp only[s5,x9]at V
 have b:∀a∈p.a,0<=a.2:=λa c=>by
  have:=V.2.1 a c;exact u6
 unfold au;have U:=PA p.v [] 0;have d:=PB p.a (Src.gV p.v [] 0).1 (Src.gV p.v [] 0).2 b;omega
def PD{k:Nat}(I:(ab p).f[k]?=S x):∃f w,p.f[k]?=S f/\(au p).2<=w/\x=Src.mY (au p).1 f w/\w+(z f.p+z f.l)<=(ab p).words:=by
 unfold ab at I|-;simp only at I|-
 have c:k<z p.f:=by
  have:=(l6.1 I).1;rw[lR]at this;exact this
 obtain⟨f,a⟩:∃f,p.f[k]?=S f:=⟨_,v8 c⟩
 obtain⟨G,U,b,d⟩:=nM (au p).1 p.f (au p).2 k f a;rw[I]at b;exact⟨f,G,a,U,H0 b,d⟩
def Im(I:x∈(ab p).f):∃f w,f∈p.f/\(au p).2<=w/\x=Src.mY (au p).1 f w/\w+(z f.p+z f.l)<=(ab p).words:=by
 obtain⟨k,a⟩:=D9 I;obtain⟨f,w,U,b⟩:=PD a;exact⟨f,w,l7 U,b⟩
def yV(p:Src.Prog):z (ab p).f=z p.f:=lR _ _ _
def Io(p:Src.Prog):(ab p).f.map (λx=>(x.p,x.word))=sigs p.f:=by
 apply L0;intro k;unfold sigs;rw[w9,w9];cases I:(ab p).f[k]? with
 |none=>
   have:z p.f<=k:=by rw[<-yV];exact Pe.1 I
   rw[F3 this];rfl
 |some x=>
   obtain⟨f,w,U,_,rfl,_⟩:=PD I;rw[U];rfl
def sX(h:aZ p=0)(I:x∈(ab p).f):
  let E:=λk=>((cw x)[k]?).map Prod.snd
  E 0=S 0/\Lower.Good (sigs p.f) x.word E 0 (cw x):=by
 obtain⟨k,a⟩:=D9 I;exact Lower.BH (Src.DH h a)
def Ip(h:aZ p=0)(I:x∈(ab p).f){y:Ins×Int}(g:y∈cw x):(1<=y.1.op/\y.1.op<=13)/\(y.1.op=10->∃(c:Nat)(X:CFn),y.1.a=(c:Int)/\(ab p).f[c]?=S X)/\(y.1.op=8\/y.1.op=9->0<=y.1.a/\y.1.a<(z (cw x):Int)):=by
 obtain⟨k,j⟩:=D9 I;obtain⟨i,d⟩:=D9 g;obtain⟨t,q,b,_⟩:=gu (sX h I).2 d;refine⟨by have:=sR b;omega,λo=>?_,λr=>Lower.Ot (Src.DH h j) d r⟩;by_cases l:y.1.a<0
 .simp[takes,o,l]at b
 .obtain⟨c,Z⟩:∃c:Nat,y.1.a=(c:Int):=⟨y.1.a.toNat,a7⟩
  cases e:(sigs p.f)[c]? with
  |none=>simp[takes,o,Z,e]at b
  |some s=>
    have hl:c<z (ab p).f:=by
     have:=(l6.1 e).1;rw[<-Io,j7]at this;exact this
    exact⟨c,_,Z,v8 hl⟩
def QQ{f:Nat}{ds:List Int}(hd:(df (ab p).words (ab p).f).depths[f]?=S ds):∃x,(ab p).f[f]?=S x/\ds=bG (cw x):=by
 unfold df at hd;simp only[w9]at hd;obtain⟨x,U,a⟩:=G5.1 hd;exact⟨x,U,a.symm⟩
def xL(h:aZ p=0)(I:x∈(ab p).f):z (bG (cw x))=z (cw x)/\∀d∈bG (cw x),-1<=d/\d<=(z (cw x):Int):=by
 obtain⟨b,c⟩:=sX h I;obtain⟨a,_⟩:=kV (λ_=>rfl) b c;refine⟨a.inv.1,λd hd=>?_⟩;obtain⟨k,e⟩:=D9 hd;have:=a.le d hd;rcases a.inv.2.1 k d e with h|⟨_,h⟩<;>omega
def PE(h:aZ p=0){ar:Nat}(b:∀f∈p.f,z f.p<=ar):rL (ab p).f (df (ab p).words (ab p).f) ar:=by
 obtain⟨V,_,_⟩:=Src.uq h;have hl:1<=z p.f:=by unfold dP at V;simp at V;exact V.1.1.1
 refine⟨by rw[yV];exact hl,by simp[df],λx I y a=>(Ip h I a).2.1,λx I y a=>(Ip h I a).2.2,λx I=>?_⟩;obtain⟨f,w,U,_,rfl,_⟩:=Im I;simp only[Src.mY,B6];exact b f U
def qN{A:Type}(f g:A->Nat)(h:∀x,f x<=6*g x+2):∀l:List A,(l.map f).sum<=6*(l.map g).sum+2*z l
 |[]=>by simp
 |a::l=>by
   have:=qN f g h l;have:=h a;simp only[s6,D8,l4];omega
def UT{ar:Nat}(hl:z p.f<=64)(b:(p.f.map λf=>aN f.body).sum<=ar):sV (ab p).f ar (z (ab p).f)<=448+(6*ar+128)*(2*ar+5):=by
 have U:=yU (ab p).f ar (z (ab p).f) (l8 _);rw[I1]at U;have c:=qN (λx:CFn=>z (cw x)) (λx=>Src.oh x.body) (λx=>Src.TN x.word x.body) (ab p).f;have d:((ab p).f.map λx=>Src.oh x.body).sum=(p.f.map λf=>aN f.body).sum:=Src.BL _ _ _;have e:=yV p;have a:((ab p).f.map λx=>z (cw x)).sum<=6*ar+128:=a7;have:=L4 (2*ar+5) a;omega
end
end
end Go.Emit
