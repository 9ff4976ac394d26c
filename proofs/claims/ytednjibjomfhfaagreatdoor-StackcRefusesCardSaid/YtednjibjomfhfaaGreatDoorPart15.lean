/- A part of the proof; no conditions. -/
import Derived.Test.YtednjibjomfhfaaGreatDoorPart14
import Derived.Shelf.Strconv.Itoa3
import Derived.Test.YtednjibjomfhfaaGreatDoorProg
import Derived.WalkKit
import Derived.Lib.Builder
import Derived.Shelf.Strings.Repeat
set_option linter.all false
open List renaming length -> z
open Option renaming some -> S, none -> N
open Bool renaming true -> T, false -> F
set_option maxHeartbeats 64000000
set_option maxRecDepth 100000
namespace Go.Proofs.YtednjibjomfhfaaGreatDoor.Low
section
open Go Go.Am Go.Lower
attribute[local congr]ite_cc
section
def AY{s:St}{cs:List D}(h:cs.all (λx=>match x with|.nsl=>F|_=>T)=T):mf s (.agg (cs.map .d)) (.agg (cs.map .d)):=by
 refine⟨cs,a8,λi c a=>?_,rfl⟩;rw[y7]at a;cases b:cs[i]? with
 |none=>rw[b]at a;cases a
 |some x=>
   rw[b]at a;cases a;refine⟨x,rfl,?_⟩;have:=x7.1 h x (l5 b);have e:ir x=x:=by cases x<;>simp_all[ir]
   have Y:=Frz.d (s:=s) x
   rwa [e]at Y
def IX(n k:Nat)(h:k<n):(List.replicate k (-1:Int)++List.replicate (n-k) 0).set k (-1)=List.replicate (k+1) (-1)++List.replicate (n-(k+1)) 0:=by
 rw[J3 _ _ a8,I0,J4];obtain⟨m,a⟩:∃m,n-k=m+1:=⟨n-k-1,a6⟩
 rw[a,show n-(k+1)=m by omega,E6,G4,List.replicate_succ' (n:=k),l6];rfl
variable{G:Nat->Option Int}{word:Bool}
def Gv{n:Nat}(d:0<n)(hT:G 0=S 0):Inv G n ((List.replicate n (-1:Int)).set 0 0) [0]/\left ((List.replicate n (-1:Int)).set 0 0)+1=n/\(∀v∈(List.replicate n (-1:Int)).set 0 0,v<=0):=by
 obtain⟨m,rfl⟩:∃m,n=m+1:=⟨n-1,a6⟩
 rw[E6,G4];refine⟨⟨a8,λk v h=>?_,λa b=>?_⟩,?_,λv c=>?_⟩
 .cases k with
  |zero=>simp at h;subst h;exact .inr ⟨hT,G9 _⟩
  |succ k=>rw[v7,Ow]at h;split at h<;>simp at h;exact .inl h.symm
 .obtain rfl:a=0:=by simpa using b
  exact⟨0,rfl,hT,G9 _⟩
 .unfold left
  rw[Sl,TU];simp
 .rcases y9.1 c with rfl|h
  .exact G9 _
  .have:=H0 h;omega
def pj{a:Type}(n:Nat)(x:a):(List.replicate n [x]).flatten=List.replicate n x:=by
 induction n with
 |zero=>rfl
 |succ n b=>rw[E6,D8,b,E6];rfl
def AZ(x:Ins):z (bQ x)=4:=rfl
def nI(l:List Nat):List Int:=l.map λk:Nat=>(k:Int)
def Ba{b:Type}(l:List b):l=[]\/∃c a,l=c++[a]:=by
 exact Wa
structure Mid (G:Nat->Option Int) (n:Nat) (out:List Int) (c:List Nat):Prop where
 inv:Inv G n out c
 le:∀v∈out,v+left out<=n
def Mid.popL{n:Nat}{out:List Int}{a:Nat}{c:List Nat}(h:Mid G n out (c++[a])):Mid G n out c/\∃v,out[a]?=S v/\G a=S v/\0<=v/\v+left out<=n:=by
 obtain⟨v,U,Y,d⟩:=h.inv.2.2 a a8;exact⟨⟨⟨h.inv.1,h.inv.2.1,λb hb=>h.inv.2.2 b Xg⟩,h.le⟩,v,U,Y,d,h.le v (l5 U)⟩
def Mid.find{G:Nat->Option Int}{n k:Nat}{out:List Int}{c:List Nat}{b v d:Int}(h:Mid G n out c)(hT:G k=S b)(e:0<=b)(f:out[k]?=S v)(g:v<0)(hd:b<=d+1)(i:d+left out<=n):
  Mid G n (out.set k b) (c++[k])/\left (out.set k b)+z (c++[k])=left out+z c/\d+left (out.set k b)<=n:=by
 obtain⟨U,Y⟩:=h.inv.find hT e f g;have j:=mj f g e;refine⟨⟨U,λu a=>?_⟩,Y,a6⟩;rcases N4 a with a|rfl
 .have:=h.le u a;omega
 .omega
def IY{ps:Sig}{c:Lower.Code}(h:Lower.Good ps word G 0 c){i:Nat}{x:Ins}{d:Int}(a:c[i]?=S (x,d)):OkI ps word G i x d:=by
 have:=jv h a
 rwa [B9]at this
def MV{ps:Sig}{x:Ins}{t p:Int}(h:takes ps word x=S (t,p)):0<=p/\p<=1:=by
 rcases AX h with U|U|U|U|U|U|U|U|U|U|U|U|U
 all_goals try (obtain⟨rfl,rfl⟩:_=t/\_=p:=by simpa[takes,U]using h)
 all_goals try (exact⟨by decide,by decide⟩)
 .simp only[takes,U]at h
  simp at h;obtain⟨_,a,⟨_,_,b⟩|⟨_,_,b⟩⟩:=h<;>omega
 .cases word<;>simp[takes,U]at h<;>omega
def IZ{w:Int}{fs:List Src.CFn}{f:Nat}{fx:Src.CFn}(hf:fs[f]?=S fx){A:Lower.Code}(cm:codeOf fx.word fx.body=A)(hl:z A<=100000000)(hT:∀k,G k=(A[k]?).map Prod.snd)(h0:G 0=S 0)(hg:Lower.Good (MU fs) fx.word G 0 A):
  aF Tryz.prog 89 [jt w fs,iv .i64 f] (λr=>(Inv G (z A) (Emit.mJ A) []/\∀v∈Emit.mJ A,v<=z A)/\r=.tup [.one (.d (ksD (Emit.mJ A))),bv T]):=by
 refine hdP Tryz.func89 rfl [4,5] λg=>?_;have b7:f<z fs:=(l8.1 hf).1;have ev:¬z fs<=f:=a6
 have hn:0<z A:=by
  cases hq:A with
  |nil=>rw[hT]at h0;simp[hq]at h0
  |cons=>simp
 have bk:¬(z A:Int)=0:=a6;have dc:¬(f:Int)<0:=a6;have e0:¬(z fs:Int)<=(f:Int):=a6;have e4:(f:Int)<(z fs:Int):=a6;have e5:(0:Int)<=(f:Int):=a6
 have e6:∀k v,G k=S v->k<z A:=λk v h=>by
  rw[hT]at h;cases hq:A[k]? with
  |none=>rw[hq]at h;cases h
  |some=>exact(l8.1 hq).1
 unfold jt;simp only[go_sem,hf,b7,ev,dc,e5,e0,e4,bk,sfD,cm,j5];refine⟨l0 _,a6,a6,?_⟩
 refine eO (λn s=>∃k:Nat,n+k=z A/\s.f 1=iv .i64 f/\s.f 2=.one (.ptr 2 (s.gen 2) 0)/\s.f 6=.one (.d (uI A))/\s.f 7=.one (.osl 42 (s.gen 42) 1 0 (z A))/\s.f 44=iv .i64 (z A)/\s.f 45=iv .i64 k/\
  s.obj 2=S [.d (.int .i64 w),.d (.sl (fs.map sfD))]/\s.obj 42=S (icells (List.replicate k (-1)++List.replicate (z A-k) 0))/\∀j,200<=j->s.obj j=N) (z A) ?_ ?_
 .refine⟨0,rfl,?_⟩
  simp only[go_sem];refine⟨?_,λj hj=>nu⟩;rw[pj,icells,A7,Ov,Ov,L1,x9]
 clear g;rintro n g gn ob ⟨k,hk,f1,f2,f6,f7,ch,c',o2,i,L⟩;simp only at f1 f2 f6 f7 ch c' o2 i L;have hw:=ab (k:=k) a6;have b4:(icells (List.replicate k (-1)++List.replicate (z A-k) 0)).length=z A:=by rw[cO,j4,I0,I0];omega
 by_cases af:k<z A
 .have H:(k:Int)<(z A:Int):=a6
  have an:(0:Int)<=(k:Int):=a6;simp only[go_sem,f1,f2,f6,f7,ch,c',o2,i,H,an,af,b4,hw];refine⟨a6,?_⟩;refine eA (n-1) a6 ⟨k+1,a6,?_⟩;simp only[go_sem,f1,f2,f6,f7,ch,o2,i,hw,setAt];exact⟨by rw[iZ,IX (z A) k af],λj hj=>nt (L j hj)⟩
 have bs:k=z A:=a6;subst bs;have H:¬(z A:Int)<(z A:Int):=a6;rw[J4,L1,s5]at i;simp only[go_sem,f1,f2,f6,f7,ch,c',o2,i,H,cO,I0,hn];refine⟨a6,a6,?_⟩;refine Eh _ (dR (t:=9) (o:=9) (b:=200) (j:=0) (sz:=1) (off:=0) (cells:=[.d .nsl]) Wh Wh rfl a7) ?_;simp only[St.claimAt];refine ct rfl (by simp only[go_sem];exact(IW (B:=300) (G:=9) (D:=200) (l:=[]) (x:=0) (λj hj=>nt (L j a6)) a7 a7 a7 ⟨by simp[upd],[],by simp[upd,icells]⟩ Wq a8).toR) ?_;rintro _ g2 b3 ⟨pl,q1,q2⟩;have e2:=q1 2 a7;have cu:=q1 42 a7;have e9:=q1 9 a7;have p2:=q2 2 a7 a7;have X:=q2 42 a7 a7;simp[upd]at e2 cu e9 p2 X;have b8:∀j,300<=j->b3 j=N:=λj hj=>by rw[q2 j a6 a6];exact nt (L j a6)
 obtain⟨s1,s2,s3⟩:=Gv (G:=G) hn h0;simp only[go_sem];refine eO (λm s=>∃(out:List Int)(c:List Nat),m=left out+z c/\m<=z A/\Mid G (z A) out c/\Emit.search A (left out+z c) (out,c)=Emit.mJ A/\s.f 1=iv .i64 f/\s.f 2=.one (.ptr 2 (s.gen 2) 0)/\s.f 6=.one (.d (uI A))/\s.f 7=.one (.osl 42 (s.gen 42) 1 0 (z A))/\s.f 9=.one (.ptr 9 (s.gen 9) 0)/\s.obj 2=S [.d (.int .i64 w),.d (.sl (fs.map sfD))]/\s.obj 42=S (icells out)/\ub 9 200 (nI c) s.gen s.obj/\(∀j,300<=j->s.obj j=N)) (z A) ?_ ?_
 .refine⟨(List.replicate (z A) (-1)).set 0 0,[0],by rw[j6,j7];exact s2.symm,l0 _,⟨s1,λv hv=>by have:=s3 v hv;omega⟩,by rw[j6,j7,s2];rfl,?_⟩
  simp only[go_sem,f1,f2,f6,f7,e2,cu,e9,p2,X,o2];exact⟨iZ _ _ _,pl,b8⟩
 clear f1 f2 f6 f7 ch c' o2 i hk af hw s1 s2 s3 L b8 e2 cu e9 p2 X pl q1 q2 b4 H;clear n g gn ob g2 b3;rintro n g gn ob ⟨out,c,hm,cb,J,O,f1,f2,f6,f7,f9,o2,i,pl,L⟩;simp only at f1 f2 f6 f7 f9 o2 i pl L;have c4:z (nI c)=z c:=by simp[nI]
 simp only[go_sem,f9];refine ct rfl (by simp only[go_sem,f9];exact(QH (B:=300) (G:=9) (D:=200) (l:=nI c) L a7 pl rfl).toR) ?_;rintro _ g2 b3 ⟨rfl,rfl,rfl⟩;rw[c4];rcases Ba c with rfl|⟨c,a,rfl⟩
 .rw[Emit.CY]at O
  subst O;simp only[go_sem,f7,j7];refine⟨_,⟨_,eG (s:=⟨_,_,_⟩) rfl (Emit.mJ A) (λk=>[.int .i64 k]) i ?_ (λ_ _ y hy=>by simp at hy;subst hy;rfl) (λ_ _=>rfl) J.inv.1,rfl⟩,⟨J.inv,λv hv=>by have:=J.le v hv;omega⟩,rfl⟩;simp only[icells,l9,v8];clear i J hm;generalize Emit.mJ A=out
  induction out with
  |nil=>rfl
  |cons b out ih=>rw[l9,A1,ih];rfl
 obtain⟨cx,v,hv,c6,cz,b0⟩:=J.popL;have c2:=e6 a v c6;have bf:=c6;rw[hT]at bf;obtain⟨⟨x,v'⟩,I,eh⟩:=H4.1 bf;obtain rfl:v'=v:=eh;obtain⟨t,p,Q,ad,et,ds,bl⟩:=IY hg I;have cy:(0:Int)<((z c+1:Nat):Int):=a6;have b5:nI (c++[a])=nI c++[(a:Int)]:=by simp[nI]
 rw[b5]at pl;have cv:z (c++[a])=z c+1:=a8;rw[cv];have Z:z c<=1000000000:=by rw[cv]at hm;omega
 have dx:Emit.search A (n-1) (Emit.visit A ((next x a).drop 0) (out,c))=Emit.mJ A:=by
  rw[cv,<-C7,Emit.Ax A _ out c a I]at O;rw[hm,cv];exact O
 have b2:z (nI c)=z c:=by simp[nI]
 simp only[go_sem,cy,f9];refine ct rfl (by simp only[go_sem,f9];exact(UT (B:=300) (G:=9) (D:=200) (l:=nI c) (x:=(a:Int)) L a7 a7 a7 pl rfl a6).toR) ?_;rintro _ g3 cf ⟨rfl,dd,rfl,q3⟩;have p2:=q3 2 a7;have X:=q3 42 a7;rw[o2]at p2;rw[i]at X;have d':∀j,300<=j->cf j=N:=λj hj=>by rw[q3 j a6];exact L j hj
 simp only[go_sem];refine dC aR mixed b9 ?_;have bc:=J.inv.1;have av:(0:Int)<=(a:Int):=a6;have bz:(a:Int)<(z A:Int):=a6;have e':a<z out:=a6;simp only[go_sem,f1,f2,f6,f7,p2,X,c2,I,av,bz,j5,AZ,hv,iY,cO,bc];have dh:v'<=1000000000:=a6;refine bm rfl (IV hf Q ad et dh ds) ⟨_,_,rfl,AY (cs:=[.int .i64 w,.sl (fs.map sfD)]) rfl,_,_,rfl,⟨_,.d _,rfl⟩,_,_,rfl,AY (cs:=bQ x) rfl,_,_,rfl,⟨_,.d _,rfl⟩,rfl⟩ rfl ?_;have hp:=MV Q;obtain⟨V,K⟩:∃q:Int,(if x.op=11 then 0 else v'-t+p)=q:=⟨_,rfl⟩
 rw[K]
 have e7:∀y∈next x a,∃E:Nat,y=(E:Int)/\G E=S V/\0<=V/\V<=v'+1:=λy hy=>by
  obtain⟨E,U,Y⟩:=bl y hy
  have W:¬x.op=11:=by
   intro e;unfold next at hy;rw[j8 a6,j8 a6,l7 e]at hy;cases hy
  rw[j8 W]at K;exact⟨E,U,by rw[Y,K],a6,a6⟩
 simp only[go_sem,f1,f2,f6,f7,p2,X,c2,I,av,bz,j5,AZ];refine fY rfl (QG (at':=a) (x:=x) a6) c9 ?_;rintro _ rfl;simp only[go_sem,j5,ksD];refine eO (λm s=>∃(out:List Int)(c:List Nat)(j:Nat),m+j=z (next x a)/\left out+z c+1=n/\Mid G (z A) out c/\Emit.search A (n-1) (Emit.visit A ((next x a).drop j) (out,c))=Emit.mJ A/\v'+left out<=z A/\s.f 11=iv .i64 V/\s.f 79=.one (.d (ksD (next x a)))/\s.f 80=iv .i64 (z (next x a))/\s.f 81=iv .i64 j/\s.f 1=iv .i64 f/\s.f 2=.one (.ptr 2 (s.gen 2) 0)/\s.f 6=.one (.d (uI A))/\s.f 7=.one (.osl 42 (s.gen 42) 1 0 (z A))/\s.f 9=.one (.ptr 9 (s.gen 9) 0)/\s.obj 2=S [.d (.int .i64 w),.d (.sl (fs.map sfD))]/\s.obj 42=S (icells out)/\ub 9 200 (nI c) s.gen s.obj/\(∀j,300<=j->s.obj j=N)) (z (next x a)) ?_ ?_
 .refine⟨out,c,0,rfl,by rw[hm,cv];omega,cx,dx,b0,?_⟩
  simp only[go_sem,f1,f2,f6,f7,f9,p2,X,ksD];exact⟨dd,d'⟩
 clear f1 f2 f6 f7 f9 o2 i pl dd p2 X q3 L d' hm J cx O dx hv b0 bc e' cv b5 c4 b2 Z cy dh;clear g g3 b3 cf out c;rintro m g gn ob ⟨out,c,j,hj,hm,J,O,b0,bd,b',ca,c0,f1,f2,f6,f7,f9,o2,i,pl,L⟩;simp only at bd b' ca c0 f1 f2 f6 f7 f9 o2 i pl L;have bc:=J.inv.1
 have dz:z (next x a)<=2:=by
  unfold next;by_cases e1:x.op=8
  .simp[e1]
  .by_cases e2:x.op=9
   .simp[e2]
   .by_cases e3:x.op=11<;>simp[e1,e2,e3]
 have c7:=ab (k:=j) a6;by_cases af:j<z (next x a)
 case neg=>
  have b6:¬(j:Int)<(z (next x a):Int):=a6;simp only[go_sem,b',ca,c0,b6,ksD];refine eA (n-1) a6 ⟨out,c,a6,a6,J,?_,?_⟩
  .rw[y2 a6]at O
   rw[show left out+z c=n-1 by omega];exact O
  simp only[go_sem,f1,f2,f6,f7,f9,o2,i];exact⟨pl,L⟩
 have b6:(j:Int)<(z (next x a):Int):=a6;have ek:(0:Int)<=(j:Int):=a6;obtain⟨y,hy⟩:=getq af;obtain⟨k,rfl,dk,ec,e8⟩:=e7 y (l5 hy);rw[A8 af,show (next x a)[j]=(k:Int)from(l8.1 hy).2]at O;have b1:=e6 k _ dk;have P:¬z A<=k:=a6;have a1:¬(z A:Int)<=(k:Int):=a6;have a':(k:Int)<(z A:Int):=a6;have ef:(0:Int)<=(k:Int):=a6;have an:¬(k:Int)<0:=a6;obtain⟨u,hu⟩:=getq (show k<z out by omega);rcases J.inv.seen dk hu with c1|bo
 .have eo:¬0<=u:=a6
  obtain⟨m1,m2,m3⟩:=J.find dk ec hu c1 e8 b0;rw[Emit.vE (u:=u) (d:=V) YE c1 (by rw[B6,<-hT];exact dk),B6]at O;simp only[go_sem,f1,f2,f6,f7,f9,bd,b',ca,c0,o2,i,af,b6,ek,hy,b1,P,a1,a',ef,an,hu,c1,eo,bc,j5,iY,cO,ksD,setAt];refine⟨a6,?_⟩;have b8:∀j,300<=j->upd ob 42 (S (icells (out.set k V))) j=N:=λj hj=>by simp only[upd];rw[j8 a6];exact L j hj
  have fa:ub 9 200 (nI c) gn (upd ob 42 (S (icells (out.set k V)))):=⟨by simp[upd];exact pl.t,by simp[upd];exact pl.d⟩
  rw[iZ];refine ct rfl (by simp only[go_sem,f9];exact(IW (B:=300) (G:=9) (D:=200) (l:=nI c) (x:=(k:Int)) b8 a7 a7 a7 fa rfl (by simp[nI];omega)).toR) ?_;rintro _ g2 b3 ⟨dd,q1,q2⟩;have e2:=q1 2 a7;have cu:=q1 42 a7;have e9:=q1 9 a7;have p2:=q2 2 a7 a7;have X:=q2 42 a7 a7;simp[upd]at p2 X;rw[o2]at p2;simp only[go_sem,c0,c7];refine eA (m-1) a6 ⟨out.set k V,c++[k],j+1,a6,a6,m1,O,m3,?_⟩;simp only[go_sem,f1,f2,f6,f7,f9,bd,b',ca,e2,cu,e9,p2,X,ksD];exact⟨by rw[show nI (c++[k])=nI c++[(k:Int)] by simp[nI]];exact dd,λj hj=>by rw[q2 j a6 a6];exact b8 j hj⟩
 .subst bo
  have cc:¬u<0:=a6;rw[Emit.vF (u:=u) YE cc]at O;simp only[go_sem,f1,f2,f6,f7,f9,bd,b',ca,c0,o2,i,af,b6,ek,hy,b1,P,a1,a',ef,an,hu,ec,cc,bc,j5,iY,cO,ksD,c7];refine eA (m-1) a6 ⟨out,c,j+1,a6,hm,J,O,b0,?_⟩;simp only[go_sem,f1,f2,f6,f7,f9,bd,b',ca,o2,i,ksD];exact⟨pl,L⟩
end
end
end Go.Proofs.YtednjibjomfhfaaGreatDoor.Low
namespace Go.Emit
section
open Go.Lower (Ins Code Sig codeOf takes next Inv left Good OkI jv)
section
variable{ps:Sig}{word:Bool}
def xH{x:Ins}{r:Int×Int}(h:takes ps word x=S r):x.op=1\/x.op=2\/x.op=3\/x.op=4\/x.op=5\/x.op=6\/x.op=7\/x.op=8\/x.op=9\/x.op=10\/x.op=11\/x.op=12\/x.op=13:=by
 unfold takes at h;by_cases U:x.op=1\/x.op=2\/x.op=12
 .omega
 exact qo
def HT{x:Ins}{t p:Int}(h:takes ps word x=S (t,p)):0<=p/\p<=1:=by
 rcases xH h with U|U|U|U|U|U|U|U|U|U|U|U|U
 all_goals try (obtain⟨rfl,rfl⟩:_=t/\_=p:=by simpa[takes,U]using h)
 all_goals try (exact⟨by decide,by decide⟩)
 .simp only[takes,U]at h
  simp at h;obtain⟨_,a,⟨_,_,b⟩|⟨_,_,b⟩⟩:=h<;>omega
 .cases word<;>simp[takes,U]at h<;>omega
structure vH (G:Nat->Option Int) (A:Lower.Code) (out:List Int) (c:List Nat):Prop where
 inv:Inv G A.length out c
 le:∀v∈out,v+left out<=A.length
 clo:∀(k:Nat)(v:Int),out[k]?=some v->0<=v->k∈c\/∀x d,A[k]?=some (x,d)->∀y∈next x k,∃u,out[y.toNat]?=some u/\0<=u
def vH.find{G:Nat->Option Int}{A:Lower.Code}{k:Nat}{out:List Int}{c:List Nat}{b v d:Int}(h:vH G A out c)(hT:G k=S b)(g:0<=b)(l:out[k]?=S v)(n:v<0)(hd:b<=d+1)(w:d+left out<=z A):
  vH G A (out.set k b) (c++[k])/\left (out.set k b)+z (c++[k])=left out+z c/\d+left (out.set k b)<=z A:=by
 obtain⟨U,Y⟩:=h.inv.find hT g l n;have B:=Lower.mj l n g;have b1:=(l8.1 l).1;refine⟨⟨U,λu f=>?_,λj u o f=>?_⟩,Y,a6⟩
 .rcases N4 f with f|rfl
  .have:=h.le u f;omega
  .omega
 .have a:∀(i:Nat)(u:Int),out[i]?=S u->0<=u->∃m,(out.set k b)[i]?=S m/\0<=m:=λi u p f=>by
   by_cases e:k=i
   .subst e;exact⟨b,by rw[D9,l7 rfl,l7 b1],g⟩
   .exact⟨u,by rw[D9,j8 e];exact p,f⟩
  by_cases e:k=j
  .subst e;exact .inl a8
  .rw[D9,j8 e]at o
   rcases h.clo j u o f with q|q
   .exact .inl (by simp[q])
   .refine .inr λx d I y r=>?_
    obtain⟨m,s,t⟩:=q x d I y r;exact a _ _ s t
def sK{G:Nat->Option Int}{A:Lower.Code}(hT:∀k,G k=(A[k]?).map Prod.snd){v:Int}:∀(l:List Int)(out:List Int)(c:List Nat),vH G A out c->(∀y∈l,∃(k:Nat)(V:Int),y=(k:Int)/\G k=S V/\0<=V/\V<=v+1)->v+left out<=z A->
  vH G A (visit A l (out,c)).1 (visit A l (out,c)).2/\left (visit A l (out,c)).1+z (visit A l (out,c)).2=left out+z c/\(∀(i:Nat)(u:Int),out[i]?=S u->0<=u->(visit A l (out,c)).1[i]?=S u)/\(∀y∈l,∃u,(visit A l (out,c)).1[y.toNat]?=S u/\0<=u)/\(∀k∈c,k∈(visit A l (out,c)).2)
 |[],out,c,h,_,_=>⟨h,rfl,λ_ _ q _=>q,λ_ q=>(by cases q),λ_ q=>q⟩
 |y::l,out,c,h,hl,B=>by
   obtain⟨k,V,rfl,g,o,U⟩:=hl y a8
   have b1:k<z out:=by
    rw[h.inv.1];rw[hT]at g;rcases Sv k (z A)with q|q
    .exact q
    .rw[E0 q]at g;cases g
   obtain⟨u,hu⟩:∃u,out[k]?=S u:=⟨_,y8 b1⟩
   have a:∀y∈l,∃(k:Nat)(V:Int),y=(k:Int)/\G k=S V/\0<=V/\V<=v+1:=λy b=>hl y (by simp[b]);by_cases r:u<0
   .obtain⟨E,H,I⟩:=h.find g o hu r U B
    rw[vE (u:=u) (d:=V) YE r (by rw[B6,<-hT];exact g),B6];obtain⟨s,t,m,w,x⟩:=sK hT l (out.set k V) (c++[k]) E a I
    have keep:∀(i:Nat)(f:Int),out[i]?=S f->0<=f->(out.set k V)[i]?=S f:=λi f n p=>by
     have:k≠i:=λe=>by subst e;rw[n]at hu;cases hu;omega
     rw[D9,j8 this];exact n
    refine⟨s,t.trans H,λi f n p=>m i f (keep i f n p) p,λy b=>?_,λj J=>x j (by simp[J])⟩;rcases y9.1 b with rfl|b
    .exact⟨V,m _ V (by rw[B6,D9,l7 rfl,l7 b1]) o,o⟩
    .exact w y b
   .rw[vF (u:=u) YE r]
    obtain⟨s,t,m,w,x⟩:=sK hT l out c h a B;refine⟨s,t,m,λy b=>?_,x⟩;rcases y9.1 b with rfl|b
    .exact⟨u,by rw[B6];exact m k u hu a6,a6⟩
    .exact w y b
def yR{b:Type}(l:List b):l=[]\/∃c a,l=c++[a]:=by
 exact Wa
def vI{ps:Sig}{word:Bool}{G:Nat->Option Int}{A:Lower.Code}(hT:∀k,G k=(A[k]?).map Prod.snd)(hg:Lower.Good ps word G 0 A):∀(m:Nat)(out:List Int)(c:List Nat),m=left out+z c->vH G A out c->
  vH G A (search A m (out,c)) []/\∀(i:Nat)(u:Int),out[i]?=S u->0<=u->(search A m (out,c))[i]?=S u
 |0,out,c,hm,h=>by
   obtain rfl:c=[]:=r0 a6;exact⟨h,λ_ _ q _=>q⟩
 |m+1,out,c,hm,h=>by
   rcases yR c with rfl|⟨c,a,rfl⟩
   .rw[CY];exact⟨h,λ_ _ q _=>q⟩
   .obtain⟨v,hv,c6,cz⟩:=h.inv.2.2 a a8
    have bf:=c6;rw[hT]at bf;obtain⟨⟨x,E⟩,I,eh⟩:=H4.1 bf;obtain rfl:E=v:=eh;obtain⟨t,p,Q,ad,et,ds,bl⟩:=(by have:=jv hg I;rwa [B9]at this:OkI ps word G a x E)
    have hp:=HT Q;rw[Ax A m out c a I]
    have c4:∀y∈next x a,∃(k:Nat)(V:Int),y=(k:Int)/\G k=S V/\0<=V/\V<=E+1:=λy O=>by
     obtain⟨k,U,Y⟩:=bl y O;exact⟨k,_,U,Y,a6,a6⟩
    have b0:=h.le E (l5 hv)
    -- a is taken off,s c7 j places behind e0 o: visit with a put back in r
    have Y:vH G A out (c++[a]):=h;obtain⟨w,X,Z,q4,q5⟩:=sK hT (next x a) out (c++[a]) h c4 b0
    have e:∀(l:List Int)(out:List Int)(H B:List Nat),(visit A l (out,H++B)).1=(visit A l (out,B)).1/\(visit A l (out,H++B)).2=H++(visit A l (out,B)).2:=by
     intro l
     induction l with
     |nil=>intro out H B;exact⟨rfl,rfl⟩
     |cons y l ih=>
       intro out H B;simp only[visit];split
       .rw[l6];exact ih _ _ _
       .exact ih _ _ _
    have W:=e (next x a) out c [];have f:=e (next x a) out (c++[a]) [];rw[s5]at W f;rw[f.1,f.2]at w X;rw[f.1]at Z q4;rw[show visit A (next (x,E).fst a) (out,c)=((visit A (next x a) (out,[])).1,c++(visit A (next x a) (out,[])).2)from Prod.ext W.1 W.2]
    have J:vH G A (visit A (next x a) (out,[])).1 (c++(visit A (next x a) (out,[])).2):=by
     refine⟨⟨w.inv.1,w.inv.2.1,λb K=>w.inv.2.2 b (by rcases D7.1 K with K|K<;>simp[K])⟩,w.le,λk u hk L=>?_⟩;rcases w.clo k u hk L with hc|hc
     .simp only[l6,D7,y9,A4,E7,H9]at hc
      rcases hc with hc|rfl|hc
      .exact .inl Yk
      .refine .inr λn d g y O=>?_
       rw[I]at g;cases g;exact q4 y O
      .exact .inl Yk
     .exact .inr hc
    obtain⟨r1,r2⟩:=vI hT hg m _ _ (by simp only[j4,j6,j7]at hm X|-;omega) J;exact⟨r1,λi u hi L=>r2 i u (Z i u hi L) L⟩
def yS{G:Nat->Option Int}{A:Lower.Code}(hT:∀k,G k=(A[k]?).map Prod.snd)(c:G 0=S 0)(hg:Lower.Good ps word G 0 A):vH G A (mJ A) []/\(mJ A)[0]?=S 0:=by
 have j:0<z A:=by
  cases e:A with
  |nil=>rw[hT]at c;simp[e]at c
  |cons=>simp
 obtain⟨m,b⟩:∃m,z A=m+1:=⟨z A-1,a6⟩
 have hl:left ((List.replicate (z A) (-1)).set 0 0)+z [0]=z A:=by
  rw[b,E6,G4];unfold left;rw[Sl,TU];simp
 have J:vH G A ((List.replicate (z A) (-1)).set 0 0) [0]:=by
  have l:left ((List.replicate (z A) (-1)).set 0 0)<=z A:=a6;refine⟨⟨a8,λk v h=>?_,λa f=>?_⟩,λv d=>?_,λk v h d=>?_⟩
  .rw[b,E6,G4]at h
   cases k with
   |zero=>simp at h;subst h;exact .inr ⟨c,G9 _⟩
   |succ k=>rw[v7,Ow]at h;split at h<;>simp at h;exact .inl h.symm
  .obtain rfl:a=0:=by simpa using f
   exact⟨0,by rw[b,E6,G4];rfl,c,G9 _⟩
  .have:v<=0:=by
    rw[b,E6,G4]at d;rcases y9.1 d with rfl|h
    .exact G9 _
    .have:=H0 h;omega
   omega
  .rw[b,E6,G4]at h
   cases k with
   |zero=>exact .inl a8
   |succ k=>rw[v7,Ow]at h;split at h<;>simp at h;omega
 obtain⟨g,i⟩:=vI hT hg (z A) _ _ hl.symm J;exact⟨g,i 0 0 (by rw[b,E6,G4];rfl) (G9 _)⟩
end
end
end Go.Emit
namespace Go.Proofs.YtednjibjomfhfaaGreatDoor.Low
section
open Go Go.Am Go.Lower
attribute[local congr]ite_cc
def Ja(h:List (List Int))(back base:List Int)(data:Int):AV:=.agg [.d (.sl (h.map λo=>[ksD o])),.d (ksD back),.d (ksD base),.d (.int .i64 data)]
def ocells(l:List (List Int)):List C:=l.map λo=>.d (ksD o)
def Dq(l:List (List Int)):z (ocells l)=z l:=by simp[ocells]
def vX(a b:List (List Int)):ocells (a++b)=ocells a++ocells b:=by simp[ocells]
def QI{w:Int}{fs:List Src.CFn}(ds:List (List Int))(b4:z ds=z fs)(bk:0<=w/\w<=1000000)(hl:z fs<=1000000)(av:∀o∈ds,(∀v∈o,v<=100000000)/\z o<=1000000000)
 (W:∀f o,ds[f]?=S o->aF Tryz.prog 89 [jt w fs,iv .i64 (f:Nat)] (·=.tup [.one (.d (ksD o)),bv T])):
  aF Tryz.prog 53 [jt w fs] (·=Ja ds (Emit.js (z fs) 0 ds w).1 (Emit.js (z fs) 0 ds w).2.1 (Emit.js (z fs) 0 ds w).2.2):=by
 refine hdR Tryz.func53 rfl [.cell 2 126] λg=>?_;have b8:jt w fs=.agg [.d (.int .i64 w),.d (.sl (fs.map sfD))]:=rfl;rw[b8]at W|-;have cc:IntKind.i64.wrap ((z fs:Int)-1)=(z fs:Int)-1:=by rw[wrap_i64]<;>omega
 simp only[go_sem,j5,cc]
 refine zZ _ (((dR (t:=3) (o:=3) (b:=34) (j:=0) (sz:=1) (off:=0) (cells:=[.d .nsl,.d .nsl,.d .nsl,.d (.int .i64 w)]) Wh Wh rfl a7).trans
   (dR (t:=3) (o:=3) (b:=41) (j:=1) (sz:=1) (off:=0) (cells:=[.osl 34 (g 34+1) 1 0 0,.d .nsl,.d .nsl,.d (.int .i64 w)]) WW WW rfl a7)).trans
   (dR (t:=3) (o:=3) (b:=55) (j:=2) (sz:=1) (off:=0) (cells:=[.osl 34 (g 34+1) 1 0 0,.osl 41 (g 41+1) 1 0 0,.d .nsl,.d (.int .i64 w)]) WW WW rfl a7))
  (λn s=>∃(k:Nat)(h:List (List Int))(back base:List Int)(data:Int),n+k=z fs/\z h=k/\z back=k/\z base=k/\(h=ds.take k/\Emit.js (z fs) 0 h w=(back,base,data))/\0<=data/\data<=1000000+100000001*k/\s.f 1=.one (.ptr 1 (s.gen 1) 0)/\s.f 2=.one (.ptr 2 (s.gen 2) 0)/\s.f 3=.one (.ptr 3 (s.gen 3) 0)/\s.f 20=iv .i64 (z fs)/\s.f 21=iv .i64 k/\s.f 4=iv .i64 ((z fs:Int)-1)/\
    s.obj 1=S [.d (.int .i64 w),.d (.sl (fs.map sfD))]/\(∃a b c d,s.obj 2=S [a,b,c,d])/\s.obj 3=S [.osl 34 (s.gen 34) 1 0 k,.osl 41 (s.gen 41) 1 0 k,.osl 55 (s.gen 55) 1 0 k,.d (.int .i64 data)]/\s.obj 34=S (ocells h)/\s.obj 41=S (icells back)/\s.obj 55=S (icells base)) (z fs) ?_ ?_
 .simp only[St.claimAt]
  refine⟨0,[],[],[],w,rfl,rfl,rfl,rfl,⟨rfl,rfl⟩,bk.1,a6,?_⟩;simp only[go_sem,cc];exact⟨⟨_,_,_,_,rfl,rfl,rfl,rfl⟩,rfl,rfl⟩
 clear g;rintro n g gn ob ⟨k,h,back,base,data,hk,lo,U,O,⟨L,hP⟩,fm,X,f1,f2,f3,u,p,f4,o1,⟨a0,b0,c0,d0,o2⟩,o3,r,x,q⟩;simp only at f1 f2 f3 u p f4 o1 o2 o3 r x q;have E:=ab (k:=k) a6;by_cases af:k<z fs
 case neg=>
  have H:¬(k:Int)<(z fs:Int):=a6;obtain rfl:k=z fs:=a6;simp only[go_sem,f1,f2,f3,u,p,H,o2,o3]
  have Q:∀{α:Type}(l:List α)(e:α->D),(l.map λa=>C.d (e a))=l.flatMap λa=>([e a]:List D).map C.d:=by
   intro α l e
   induction l with
   |nil=>rfl
   |cons b l ih=>rw[l9,A1,ih];rfl
  have r1:∀{s:St},s.gen 34=gn 34->s.obj 34=ob 34->Frz s (.osl 34 (gn 34) 1 0 (z fs)) (.sl (h.map λo=>[ksD o])):=λ{s}hg ho=>by
   refine eG (s:=s) hg h (λo=>[ksD o]) (ho.trans r) (Q h ksD) (λa _ y hy=>?_) (λ_ _=>rfl) lo;rw[C6.1 hy];rfl
  have r2:∀{s:St},s.gen 41=gn 41->s.obj 41=ob 41->Frz s (.osl 41 (gn 41) 1 0 (z fs)) (ksD back):=λ{s}hg ho=>by
   refine eG (s:=s) hg back (λo=>[.int .i64 o]) (ho.trans x) (Q back _) (λa _ y hy=>?_) (λ_ _=>rfl) U;rw[C6.1 hy];rfl
  have r3:∀{s:St},s.gen 55=gn 55->s.obj 55=ob 55->Frz s (.osl 55 (gn 55) 1 0 (z fs)) (ksD base):=λ{s}hg ho=>by
   refine eG (s:=s) hg base (λo=>[.int .i64 o]) (ho.trans q) (Q base _) (λa _ y hy=>?_) (λ_ _=>rfl) O;rw[C6.1 hy];rfl
  refine⟨_,⟨[.sl (h.map λo=>[ksD o]),ksD back,ksD base,.int .i64 data],rfl,λi c hc=>?_,rfl⟩,?_⟩
  rotate_left
  .rw[s6 a6]at L
   subst L;rw[hP];rfl
  match i,hc with
  |0,hc=>cases hc;exact⟨_,rfl,r1 rfl Wq⟩
  |1,hc=>cases hc;exact⟨_,rfl,r2 rfl Wq⟩
  |2,hc=>cases hc;exact⟨_,rfl,r3 rfl Wq⟩
  |3,hc=>cases hc;exact⟨_,rfl,.d _⟩
 have H:(k:Int)<(z fs:Int):=a6;have an:(0:Int)<=(k:Int):=a6;have bc:=Dq h;have eh:=cO back;have cd:=cO base;simp only[go_sem,f1,f2,f3,u,p,f4,H,o1];obtain⟨out,I⟩:=getq (show k<z ds by omega);obtain⟨Y,a1⟩:=av out (l5 I);have Z:h++[out]=ds.take (k+1):=by rw[L,B4,I];rfl
 have ad:=Emit.Ay (z fs) h 0 w out;rw[hP]at ad;simp only[lo,B9]at ad;refine fY rfl (W k out I) c9 ?_;rintro _ rfl;simp only[go_sem,f1,f3,o3,r,bc,lo,aZ,x,eh,U,f4];refine⟨l0 _,⟨a7,a6⟩,l0 _,⟨a7,a6⟩,?_⟩;have b2:IntKind.i64.wrap (data+1)=data+1:=by rw[wrap_i64]<;>omega
 by_cases b1:(k:Int)=(z fs:Int)-1
 .skip
  simp only[go_sem,s9 b1,q,cd,O,f3,ksD,j5];refine⟨l0 _,⟨a7,a6⟩,?_⟩
  refine eO (λm s=>∃(j:Nat)(V:Int),m+j=z out/\Emit.deepest (out.drop j) V=Emit.deepest out 0/\0<=V/\V<=100000000/\s.f 1=.one (.ptr 1 (s.gen 1) 0)/\s.f 2=.one (.ptr 2 (s.gen 2) 0)/\s.f 3=.one (.ptr 3 (s.gen 3) 0)/\s.f 20=iv .i64 (z fs)/\s.f 21=iv .i64 k/\s.f 4=iv .i64 ((z fs:Int)-1)/\s.f 57=.one (.d (.sl (out.map λk=>[.int .i64 k])))/\s.f 58=iv .i64 (z out)/\s.f 59=iv .i64 j/\s.f 8=iv .i64 V/\
   s.obj 1=S [.d (.int .i64 w),.d (.sl (fs.map sfD))]/\s.obj 2=S [a0,b0,c0,d0]/\s.obj 3=S [.osl 34 (s.gen 34) 1 0 (k+1),.osl 41 (s.gen 41) 1 0 (k+1),.osl 55 (s.gen 55) 1 0 (k+1),.d (.int .i64 (data))]/\s.obj 34=S (ocells (h++[out]))/\s.obj 41=S (icells (back++[data]))/\s.obj 55=S (icells (base++[data]))) (z out) ?_ ?_
  .exact R0
  clear f1 f2 f3 u p f4 o1 o2 o3 r x q;rintro m g gn ob ⟨j,V,hj,K,e9,ca,f1,f2,f3,u,p,f4,A,G,J,P,o1,o2,o3,r,x,q⟩;simp only at f1 f2 f3 u p f4 A G J P o1 o2 o3 r x q;have c7:=ab (k:=j) a6;by_cases B:j<z out
  .exact oL
  have b6:¬(j:Int)<(z out:Int):=a6;have ch:IntKind.i64.wrap (data+V)=data+V:=by rw[wrap_i64]<;>omega
  simp only[go_sem,A,G,J,P,b6,f3,o3,ch,p,E,j5];refine eA (n-1) a6 ⟨k+1,h++[out],back++[data],base++[data],data+V,a6,by simp;omega,by simp;omega,by simp;omega,⟨Z,ad.trans ?_⟩,a6,a6,?_⟩
  .rw[l7 (show k+1=z fs by omega)]
   rw[y2 a6]at K;rw[<-K];rfl
  simp only[go_sem,f1,f2,f3,u,f4,o1,o2,r,x,q];exact⟨_,_,_,_,rfl,rfl,rfl,rfl⟩
 .skip
  simp only[go_sem,b1,b2,q,cd,O,f3,ksD,j5];refine⟨l0 _,⟨a7,a6⟩,?_⟩
  refine eO (λm s=>∃(j:Nat)(V:Int),m+j=z out/\Emit.deepest (out.drop j) V=Emit.deepest out 0/\0<=V/\V<=100000000/\s.f 1=.one (.ptr 1 (s.gen 1) 0)/\s.f 2=.one (.ptr 2 (s.gen 2) 0)/\s.f 3=.one (.ptr 3 (s.gen 3) 0)/\s.f 20=iv .i64 (z fs)/\s.f 21=iv .i64 k/\s.f 4=iv .i64 ((z fs:Int)-1)/\s.f 57=.one (.d (.sl (out.map λk=>[.int .i64 k])))/\s.f 58=iv .i64 (z out)/\s.f 59=iv .i64 j/\s.f 8=iv .i64 V/\
   s.obj 1=S [.d (.int .i64 w),.d (.sl (fs.map sfD))]/\s.obj 2=S [a0,b0,c0,d0]/\s.obj 3=S [.osl 34 (s.gen 34) 1 0 (k+1),.osl 41 (s.gen 41) 1 0 (k+1),.osl 55 (s.gen 55) 1 0 (k+1),.d (.int .i64 ((data+1)))]/\s.obj 34=S (ocells (h++[out]))/\s.obj 41=S (icells (back++[data]))/\s.obj 55=S (icells (base++[(data+1)]))) (z out) ?_ ?_
  .exact R0
  clear f1 f2 f3 u p f4 o1 o2 o3 r x q;rintro m g gn ob ⟨j,V,hj,K,e9,ca,f1,f2,f3,u,p,f4,A,G,J,P,o1,o2,o3,r,x,q⟩;simp only at f1 f2 f3 u p f4 A G J P o1 o2 o3 r x q;have c7:=ab (k:=j) a6;by_cases B:j<z out
  .exact oL
  have b6:¬(j:Int)<(z out:Int):=a6;have ch:IntKind.i64.wrap ((data+1)+V)=(data+1)+V:=by rw[wrap_i64]<;>omega
  simp only[go_sem,A,G,J,P,b6,f3,o3,ch,p,E,j5];refine eA (n-1) a6 ⟨k+1,h++[out],back++[data],base++[(data+1)],(data+1)+V,a6,by simp;omega,by simp;omega,by simp;omega,⟨Z,ad.trans ?_⟩,a6,a6,?_⟩
  .rw[j8 (show ¬k+1=z fs by omega)]
   rw[y2 a6]at K;rw[<-K];rfl
  simp only[go_sem,f1,f2,f3,u,f4,o1,o2,r,x,q];exact⟨_,_,_,_,rfl,rfl,rfl,rfl⟩
abbrev jm:=Int×Int×Int×Int
def Bb(x:jm):List C:=[.d (.int .i64 x.1),.d (.int .i64 x.2.1),.d (.int .i64 x.2.2.1),.d (.int .i64 x.2.2.2)]
def fB(l:List jm):List C:=l.flatMap Bb
def jg(l:List jm):z (fB l)=z l*4:=by
 induction l with
 |nil=>rfl
 |cons a l b=>simp only[fB,A1,j4,Bb,j6,j7]at b|-;omega
def Gw(l m:List jm):fB (l++m)=fB l++fB m:=by simp[fB]
def xP{B:Nat}(l:List jm):∀c∈fB l,nX B c:=λc a=>by
 unfold fB at a;obtain⟨x,_,I⟩:=List.mem_flatMap.1 a;simp only[Bb,y9,A4,E7]at I;rcases I with rfl|rfl|rfl|rfl<;>trivial
def UU{B G D u:Nat}{code:List jm}{c0 c1 c2 c3 c4 c5 d0 d1 d2 d3 d4:C}{op a b c:Int}{g:Nat->Nat}{ob:Obs}(hB:∀i,B<=i->ob i=N)(m:G<B)(W:D<B)(o:G≠D)(j:g G=u)(ho:ob G=S [c0,c1,c2,c3,c4,c5,.osl D (g D) 4 0 (z code),d0,d1,d2,d3,d4])(q:ob D=S (fB code))(f:∀x∈[c0,c1,c2,c3,c4,c5,d0,d1,d2,d3,d4],nX B x)(hl:z code<=100000000):
  fv Tryz.prog 91 [.one (.ptr G u 0),iv .i64 op,iv .i64 a,iv .i64 b,iv .i64 c] g ob (λ_ g' Z=>(∀i,i≠D->g' i=g i)/\Z G=S [c0,c1,c2,c3,c4,c5,.osl D (g' D) 4 0 (z code+1),d0,d1,d2,d3,d4]/\Z D=S (fB (code++[(op,a,b,c)]))/\∀i,i≠G->i≠D->Z i=ob i) (λ_ _ _=>False):=by
 refine hdM B [G,D] Tryz.func91 rfl [] Wk hB λO bo s0 w0=>?_;have Q:∀k,(G=B+k)=False:=λk=>by simp;omega
 have r:∀k,(D=B+k)=False:=λk=>by simp;omega
 have s:(G=D)=False:=by simp[o]
 have w:(D=G)=False:=by simp[A9 o]
 simp only[go_sem,Q,r,s,w,ho,q,j,jg,aZ];refine⟨l0 _,⟨a7,a6⟩,?_⟩;refine⟨_,ae.refl _,?_⟩;simp only[go_sem]
 have t:List.take (z code*4) (fB code)++[C.d (.int .i64 op),C.d (.int .i64 a),C.d (.int .i64 b),C.d (.int .i64 c)]=fB (code++[(op,a,b,c)]):=by
  rw[s6 (by rw[jg];exact l0 _),Gw];simp[fB,Bb]
 rw[t];refine⟨⟨λi hi hn=>?_,λi hi n l=>?_⟩,[],rfl,λi hi=>?_,?_,?_,λi hi y=>?_⟩
 .exact VV
 .simp only[y9,A4,E7]at hi
  rcases hi with rfl|rfl
  .simp[upd]at l
   subst l;intro x I;simp only[y9,A4,E7]at I f;rcases I with h|h|h|h|h|h|h|h|h|h|h|h
   all_goals first|(subst h;exact W)|exact f x (by simp[h])
  .simp[upd,w]at l
   subst l;exact xP _
 .exact Ud
 .simp[jT,fM,upd]
 .simp[fM,upd,w]
 .unfold fM
  rw[j8 (by simp[hi,y])]
end
section
open Go Go.Am Go.Lower
open Go.Emit (Wr)
section
def EW{B B':Nat}(hB:B<=B'){c:C}(h:nX B c):nX B' c:=by
 cases c with
 |d x=>trivial
 |osl id _ _ _ _=>exact F7 h hB
 |ptr id _ _=>exact F7 h hB
 |mp id _ _=>exact F7 h hB
 |lsl _=>trivial
 |raw _=>trivial
 |clo f b=>
   intro p a;have:=h p a;cases p with
   |d x=>trivial
   |ptr id _ _=>exact F7 this hB
abbrev kL:=Int×Int×Int
def nY(l:List kL):List C:=l.flatMap λx=>[.d (.int .i64 x.1),.d (.int .i64 x.2.1),.d (.int .i64 x.2.2)]
def Bd(l:List kL):z (nY l)=z l*3:=by
 induction l with
 |nil=>rfl
 |cons a l b=>simp only[nY,A1,j4,j6,j7]at b|-;omega
def Jb(l m:List kL):nY (l++m)=nY l++nY m:=by simp[nY]
def Jc{B:Nat}(l:List kL):∀c∈nY l,nX B c:=λc a=>by
 unfold nY at a;obtain⟨x,_,I⟩:=List.mem_flatMap.1 a;simp only[y9,A4,E7]at I;rcases I with rfl|rfl|rfl<;>trivial
structure bG where
 c0:C
 c1:C
 c2:C
 c3:C
 c4:C
 c5:C
 d0:C
 d1:C
 d3:C
 d4:C
def bG.cells(k:bG)(D a n H j m:Nat):List C:=[k.c0,k.c1,k.c2,k.c3,k.c4,k.c5,.osl D a 4 0 n,k.d0,k.d1,.osl H j 3 0 m,k.d3,k.d4]
def bG.all(k:bG):List C:=[k.c0,k.c1,k.c2,k.c3,k.c4,k.c5,k.d0,k.d1,k.d3,k.d4]
structure eY (B G D H:Nat) (k:bG) (code:List jm) (holes:List kL) (g:Nat->Nat) (ob:Obs):Prop where
 top:∀i,B<=i->ob i=none
 gB:G<B
 dB:D<B
 hB:H<B
 gd:G≠D
 gh:G≠H
 dh:D≠H
 oG:ob G=some (k.cells D (g D) code.length H (g H) holes.length)
 oD:ob D=some (fB code)
 oH:ob H=some (nY holes)
 low:∀x∈k.all,nX B x
variable{k:bG}{g:Nat->Nat}{ob:Obs}{B B' G D H:Nat}{code:List jm}{holes:List kL}
def eY.up(an:eY B G D H k code holes g ob)(h:B<=B'):eY B' G D H k code holes g ob:=
 ⟨λi a=>an.top i a6,by have:=an.gB;omega,by have:=an.dB;omega,by have:=an.hB;omega,an.gd,an.gh,an.dh,an.oG,an.oD,an.oH,λx I=>EW h (an.low x I)⟩
def eY.upd{B G D H i:Nat}{k:bG}{code:List jm}{holes:List kL}{g:Nat->Nat}{ob:Obs}(an:eY B G D H k code holes g ob)(h:i<B)(Q:i≠G)(a:i≠D)(b:i≠H)(x:Nat)(y:Option (List C)):eY B G D H k code holes (Am.upd g i x) (Am.upd ob i y):=
 ⟨λj c=>by simp only[Am.upd];rw[j8 a6];exact an.top j c,an.gB,an.dB,an.hB,an.gd,an.gh,an.dh,by simp only[Am.upd];rw[j8 (A9 Q),j8 (A9 a),j8 (A9 b)];exact an.oG,by simp only[Am.upd];rw[j8 (A9 a)];exact an.oD,by simp only[Am.upd];rw[j8 (A9 b)];exact an.oH,an.low⟩
def eY.to{B G D H:Nat}{g g':Nat->Nat}{ob Z:Obs}(an:eY B G D H k code holes g ob)(a:∀i,B<=i->Z i=N)(U:g' D=g D)(Y:g' H=g H)(b:Z G=ob G)(c:Z D=ob D)(d:Z H=ob H):eY B G D H k code holes g' Z:=
 ⟨a,an.gB,an.dB,an.hB,an.gd,an.gh,an.dh,by rw[U,Y,b];exact an.oG,by rw[c];exact an.oD,by rw[d];exact an.oH,an.low⟩
structure cY (B G D H:Nat) (g:Nat->Nat) (ob:Obs) (g':Nat->Nat) (Z:Obs):Prop where
 gen:∀i,i<B->i≠D->i≠H->g' i=g i
 fr:∀i,i<B->i≠G->i≠D->i≠H->Z i=ob i
def cY.refl{B G D H:Nat}:cY B G D H g ob g ob:=⟨λ_ _ _ _=>rfl,λ_ _ _ _ _=>rfl⟩
def cY.trans{B G D H:Nat}{g c g2:Nat->Nat}{ob ad d:Obs}(a:cY B G D H g ob c ad)(b:cY B G D H c ad g2 d):cY B G D H g ob g2 d:=
 ⟨λi h x y=>(b.gen i h x y).trans (a.gen i h x y),λi h x y X=>(b.fr i h x y X).trans (a.fr i h x y X)⟩
def cY.down{g b:Nat->Nat}{ob ad:Obs}(a:cY B' G D H g ob b ad)(h:B<=B'):cY B G D H g ob b ad:=⟨λi q=>a.gen i a6,λi q=>a.fr i a6⟩
def dv(f:FuncId)(xs:List AV)(w:Nat->Wr)(k:bG):Prop:=
 ∀(B G D H u:Nat)(code:List jm)(holes:List kL)(g:Nat->Nat)(ob:Obs),eY B G D H k code holes g ob->g G=u->z code+(w (z code)).code.length<=100000000->z holes+(w (z code)).holes.length<=100000000->
  fv Tryz.prog f (.one (.ptr G u 0)::xs) g ob (λ_ a Z=>eY B G D H k (code++(w (z code)).code) (holes++(w (z code)).holes) a Z/\cY B G D H g ob a Z) (λ_ _ _=>False)
def eY.pack{B c G D H:Nat}{code b:List jm}{holes a:List kL}{s:St}{Q q:List AV}(an:eY B G D H k code holes g ob)(d:eY c G D H k b a s.gen s.obj)(r:cY B G D H g ob s.gen s.obj){f:List jm}{n:List kL}(h:f=b)(j:n=a)(hf:fT B s Q q):bD B [G,D,H] g ob (λ_ g' Z=>eY B G D H k f n g' Z/\cY B G D H g ob g' Z) s Q:=by
 subst h j;have l:∀{i},i∈[G,D,H]↔i=G\/i=D\/i=H:=λ{i}=>by simp
 refine⟨⟨λi o t=>?_,λi o u p=>?_⟩,q,hf,⟨λi o=>?_,an.gB,an.dB,an.hB,an.gd,an.gh,an.dh,?_,?_,?_,an.low⟩,λi o y m=>?_,λi o E y m=>?_⟩
 .have J:i≠G:=λe=>t Yj
  have v:i≠D:=λe=>t Yj;have w:i≠H:=λe=>t Yj;exact⟨r.gen i o v w,r.fr i o J v w⟩
 .rcases l.1 o with rfl|rfl|rfl
  .have p:=d.oG.symm.trans p
   cases p;intro x I;have A:=an.low;simp only[bG.cells,bG.all,y9,A4,E7]at I A;rcases I with e|e|e|e|e|e|e|e|e|e|e|e
   all_goals first|(subst e;first|exact an.dB|exact an.hB)|exact A x (by simp[e])
  .have p:=d.oD.symm.trans p
   cases p;exact xP _
  .have p:=d.oH.symm.trans p
   cases p;exact Jc _
 .unfold fM
  have:=an.gB;have:=an.dB;have:=an.hB;rw[j8 (λe=>by rcases l.1 e with e|e|e<;>omega)];exact an.top i o
 .simp only[fM,jT,y9,A4,E7,S7,R4,B5]
  exact d.oG
 .simp only[fM,y9,A4,E7,S7,R4,B5]
  exact d.oD
 .simp only[fM,y9,A4,E7,S7,R4,B5]
  exact d.oH
 .unfold jT
  split
  .exact r.gen i o y m
  .rfl
 .unfold fM
  rw[j8 (λe=>by rcases l.1 e with e|e|e;exact E e;exact y e;exact m e)]
def eZ(op a b c:Int)(k:bG):dv 91 [iv .i64 op,iv .i64 a,iv .i64 b,iv .i64 c] (Emit.ao op a b c) k:=by
 intro B G D H u code holes g ob an m hl p;have n:=an.gh;have j:=an.dh;refine(UU (d2:=.osl H (g H) 3 0 (z holes)) an.top an.gB an.dB an.gd m an.oG an.oD ?_ (by simp only[Emit.ao,j6,j7]at hl;omega)).mono ?_ (λ_ _ _ h=>h)
 .intro x I
  have l:=an.low;simp only[bG.all,y9,A4,E7]at I l;rcases I with e|e|e|e|e|e|e|e|e|e|e
  all_goals first|(subst e;exact an.hB)|exact l x (by simp[e])
 rintro _ q Z ⟨U,Y,o,f⟩;refine⟨⟨λi d=>?_,an.gB,an.dB,an.hB,an.gd,an.gh,an.dh,?_,o,?_,an.low⟩,λi _ d _=>U i d,λi _ d y _=>f i d y⟩
 .have:=an.gB;have:=an.dB
  rw[f i a6 a6];exact an.top i d
 .rw[Y,U H (A9 j)]
  simp only[bG.cells,Emit.ao,j4,j6,j7,s5,B9]
 .rw[f H (A9 n) (A9 j)]
  simp only[Emit.ao,s5];exact an.oH
section
variable{O:Bs}{rd:Option Nat}{t:St->Am.Loc->List Deferred->World->Prop}
def bn{d:fW}{e:Nat}(i:br O t){o:Oper}{s:St}{K:St->Prop}{b:Box K}{f:FuncId}{args:Array Operand}{tys:Array TypeId}(ho:o.op=.call ⟨.value (.func f),args,tys⟩){xs:List AV}{w:Nat->Wr}(hw:dv f xs w k)(c G D H u:Nat)(code:List jm)(holes:List kL)
 (I:args.toList.map s.ev=.one (.ptr G u 0)::xs)(hg:s.gen G=u)(an:eY c G D H k code holes s.gen s.obj)(hl:z code+(w (z code)).code.length<=100000000)(a:z holes+(w (z code)).holes.length<=100000000)
 (j:∀r g' Z,eY c G D H k (code++(w (z code)).code) (holes++(w (z code)).holes) g' Z->cY c G D H s.gen s.obj g' Z->K (St.put ⟨s.f,g',Z⟩ o.dst r)):bu (spF Tryz.prog rd O t e d) o s b:=by
 refine bX (R:=λ_ g' Z=>eY c G D H k (code++(w (z code)).code) (holes++(w (z code)).holes) g' Z/\cY c G D H s.gen s.obj g' Z) (cd:=λ_ _ _=>False) i ho Yv (λ_ _ _ h=>h.elim) ?_;rintro r g' Z ⟨U,Y⟩;exact j r g' Z U Y
end
end
end
section
open Go Go.Am Go.Lower
open Go.Emit (Wr ao ax aw sJ fQ)
attribute[local congr]ite_cc
section
structure nq (k:bG) (fs:List Src.CFn) (P:Emit.Plan) (f:Nat) (V:Int):Prop where
 s:k.c1=.d (.sl (fs.map sfD))
 ds:k.c2=.d (.sl (P.depths.map λo=>[ksD o]))
 bk:k.c3=.d (ksD P.back)
 b:k.c4=.d (ksD P.base)
 fn:k.d3=.d (.int .i64 (f:Nat))
 d:k.d4=.d (.int .i64 V)
 fl:f<fs.length
 dl:P.depths.length=fs.length
 bl:P.back.length=fs.length
 l:P.base.length=fs.length
 fz:fs.length<=1000000
 bz:∀x∈P.base,0<=x/\x<=1000000000000000
 dz:-1<=V/\V<=1000000000
 pz:∀x∈fs,0<=x.params/\x.params<=1000000/\0<=x.first/\x.first<=1000000000000000
variable{k:bG}{fs:List Src.CFn}{P:Emit.Plan}{f:Nat}{V:Int}
def lC(m:nq k fs P f V)(reg a:Int)(hb:0<=a/\a<=1000000):dv 149 [iv .i64 reg,iv .i64 a] (Emit.lR P f V reg a) k:=by
 intro B G D H u code holes g ob an t hl x;have A:=an.gB;have E:=an.dB;have ef:=an.hB;refine hdM B [G,D,H] Tryz.func149 rfl [] Wk an.top λO bo s0 w0=>?_;have s:=an.oG;unfold bG.cells at s;rw[m.b,m.fn,m.d]at s;have I:=m.fl;have J:=m.l;obtain⟨n,c⟩:=getq (show f<z P.base by omega);have i:=m.bz n (l5 c);have gx:=m.dz;have y:(0:Int)<=(f:Int):=a6;have bc:(f:Int)<(z P.base:Int):=a6;have e:f<z P.base:=a6;have v:IntKind.i64.wrap (n+V)=n+V:=by rw[wrap_i64]<;>omega
 have w:IntKind.i64.wrap (n+V-a)=n+V-a:=by rw[wrap_i64]<;>omega
 simp only[go_sem];refine bh b9 ?_;simp only[go_sem,s,t,ksD,j5,y,bc,e,c,v,w];refine bn aa rfl (eZ 16 reg 0 (n+V-a) k) (B+27) G D H u code holes (by simp only[go_sem,v,w]) t (an.up a6) hl x ?_;intro r K Z o h;simp only[go_sem];refine⟨_,ae.refl _,?_⟩;simp only[go_sem];exact an.pack o (h.down a6) (by simp only[Emit.lR,ao,c,A2]) rfl (q:=[]) rfl
def nr(m:nq k fs P f V)(reg a:Int)(hb:0<=a/\a<=1000000):dv 146 [iv .i64 reg,iv .i64 a] (Emit.nk P f V reg a) k:=by
 intro B G D H u code holes g ob an t hl x;have A:=an.gB;have E:=an.dB;have ef:=an.hB;refine hdM B [G,D,H] Tryz.func146 rfl [] Wk an.top λO bo s0 w0=>?_;have s:=an.oG;unfold bG.cells at s;rw[m.b,m.fn,m.d]at s;have I:=m.fl;have J:=m.l;obtain⟨n,c⟩:=getq (show f<z P.base by omega);have i:=m.bz n (l5 c);have gx:=m.dz;have y:(0:Int)<=(f:Int):=a6;have bc:(f:Int)<(z P.base:Int):=a6;have e:f<z P.base:=a6;have v:IntKind.i64.wrap (n+V)=n+V:=by rw[wrap_i64]<;>omega
 have w:IntKind.i64.wrap (n+V-a)=n+V-a:=by rw[wrap_i64]<;>omega
 simp only[go_sem];refine bh b9 ?_;simp only[go_sem,s,t,ksD,j5,y,bc,e,c,v,w];refine bn aa rfl (eZ 17 reg 0 (n+V-a) k) (B+27) G D H u code holes (by simp only[go_sem,v,w]) t (an.up a6) hl x ?_;intro r K Z o h;simp only[go_sem];refine⟨_,ae.refl _,?_⟩;simp only[go_sem];exact an.pack o (h.down a6) (by simp only[Emit.nk,ao,c,A2]) rfl (q:=[]) rfl
def Pn{n:Int}:IntKind.u32.wrap ((BitVec.ofInt 32 n &&&BitVec.ofInt 32 65535).toNat:Int)=n%65536:=by
 rw[show (65535:Int)=((65535:Nat):Int)from rfl,BitVec.toNat_and,Q3,Q3,show (((65535:Nat):Int)%(2^32:Nat)).toNat=65535 by omega,show (n%(2^32:Nat)).toNat &&&65535=(n%(2^32:Nat)).toNat%65536 from Nat.and_two_pow_sub_one_eq_mod _ 16,IntKind.wrap_u32];omega
def QJ{n:Int}:n.fdiv ((2:Int)^min 16 32)=n/65536:=by
 rw[show (2:Int)^min 16 32=65536 from rfl,Q4 _ a6]
def Jd(reg n:Int):dv 145 [iv .i64 reg,iv .u32 n] (Emit.yN reg n) k:=by
 intro B G D H u code holes g ob an b hl a;have w:=an.gB;have x:=an.dB;have ef:=an.hB;refine hdM B [G,D,H] Tryz.func145 rfl [] Wk an.top λO bo s0 w0=>?_;have d:IntKind.i64.wrap (n%65536)=n%65536:=by rw[wrap_i64]<;>omega
 have e:IntKind.i64.wrap (n/65536)=Emit.hi16 n:=by rw[IntKind.wrap_i64];unfold Emit.hi16;omega
 by_cases hn:65535<n
 .have W:Emit.yN reg n=aw (ao 1 reg 0 (n%65536)) (ao 2 reg 0 (Emit.hi16 n)):=l7 hn
  rw[W]at hl a|-;simp only[aw,ao,j4,j6,j7]at hl a;simp only[go_sem,hn];erw[Pn];rw[d];refine bn aa rfl (eZ 1 reg 0 (n%65536) k) (B+20) G D H u code holes Wh b (an.up a6) YA a ?_;intro r m s o h;simp only[go_sem,hn];have l:(n.fdiv ((2:Int)^min 16 32))=n/65536:=QJ;refine bn aa rfl (eZ 2 reg 0 (Emit.hi16 n) k) (B+20) G D H u _ _ (by simp only[go_sem,l,e]) ((h.gen G a6 an.gd an.gh).trans b) o W0 W5 ?_;intro r y A t v;simp only[go_sem];refine⟨_,ae.refl _,?_⟩;simp only[go_sem];exact an.pack t ((h.trans v).down a6) Yl Yl (q:=[]) rfl
 .have W:Emit.yN reg n=ao 1 reg 0 (n%65536):=j8 hn
  rw[W]at hl a|-;simp only[go_sem,hn];erw[Pn];rw[d];refine bn aa rfl (eZ 1 reg 0 (n%65536) k) (B+20) G D H u code holes Wh b (an.up a6) hl a ?_;intro r m s o h;simp only[go_sem,hn];exact K6
def MW(e:nq k fs P f V):dv 160 [] (Emit.yO fs P f V) k:=by
 intro B G D H u code holes g ob an l hl m;have d':=an.gB;have ec:=an.dB;have ef:=an.hB;refine hdM B [G,D,H] Tryz.func160 rfl [] Wk an.top λO bo s0 w0=>?_;have n:=an.oG;unfold bG.cells at n;rw[e.b,e.fn,e.d,e.s,e.bk]at n;have K:=e.fl;have eo:=e.fz;have eh:=e.bl;have Q:IntKind.i64.wrap ((z fs:Int)-1)=(z fs:Int)-1:=by rw[wrap_i64]<;>omega
 obtain⟨x,c⟩:=getq (show f<z P.back by omega);obtain⟨fx,y⟩:=getq K;have A:(0:Int)<=(f:Int):=a6;have bc:(f:Int)<(z fs:Int):=a6;have U:(f:Int)<(z P.back:Int):=a6;have a:f<z P.back:=a6;simp only[go_sem];refine bh b9 ?_;by_cases Y:(f:Int)=(z fs:Int)-1
 .have W:Emit.yO fs P f V=ao 26 0 0 0:=l7 a6
  rw[W]at hl m|-;simp only[go_sem,n,l,j5,Q,s9 Y];refine bn aa rfl (eZ 26 0 0 0 k) (B+45) G D H u code holes Wh l (an.up a6) hl m ?_;intro r Z ad o h;simp only[go_sem];exact K6
 .simp only[go_sem,n,l,j5,Q,Y]
  refine bh b9 ?_;simp only[go_sem,n,l,j5,A,bc,K,y,sfD];cases b2:fx.word
  .have W:Emit.yO fs P f V=aw (ao 16 14 0 x) (ao 22 14 0 0):=by
    unfold Emit.yO;rw[j8 a6,y];simp only[z8,A2,b2,c,A3,B8]
   rw[W]at hl m|-;simp only[aw,ao,j4,j6,j7]at hl m;simp only[go_sem];refine bh b9 ?_;simp only[go_sem,n,l,ksD,j5,A,U,a,c];refine bn aa rfl (eZ 16 14 0 x k) (B+45) G D H u code holes Wh l (an.up a6) YA m ?_;intro r2 g2 b3 I w;simp only[go_sem];refine bn aa rfl (eZ 22 14 0 0 k) (B+45) G D H u _ _ WX ((w.gen G Yi an.gd an.gh).trans l) I W0 W5 ?_;intro r3 g3 cf E v;simp only[go_sem];refine⟨_,ae.refl _,?_⟩;simp only[go_sem];exact an.pack E ((w.trans v).down a6) Yl Yl (q:=[]) rfl
  .have W:Emit.yO fs P f V=aw (Emit.lR P f V 1 1) (aw (ao 16 14 0 x) (ao 22 14 0 0)):=by
    unfold Emit.yO;rw[j8 a6,y];simp only[z8,A2,b2,c,B5]
   rw[W]at hl m|-;simp only[aw,ao,Emit.lR,j4,j6,j7]at hl m;simp only[go_sem];refine bn aa rfl (lC e 1 1 a7) (B+45) G D H u code holes Wh l (an.up a6) (by simp only[ao,Emit.lR,j6,j7];omega) (by simp only[ao,Emit.lR,j7];omega) ?_;intro r1 Z ad o h;have J:Z G=u:=(h.gen G a6 an.gd an.gh).trans l;have t:=o.oG;unfold bG.cells at t;rw[e.b,e.fn,e.d,e.s,e.bk]at t;simp only[go_sem];refine bh b9 ?_;simp only[go_sem,t,J,ksD,j5,A,U,a,c];refine bn aa rfl (eZ 16 14 0 x k) (B+45) G D H u _ _ Wh J o (by simp only[ao,Emit.lR,j4,j6,j7];omega) (by simp only[ao,Emit.lR,s5,j7];omega) ?_;intro r2 g2 b3 I w;simp only[go_sem];refine bn aa rfl (eZ 22 14 0 0 k) (B+45) G D H u _ _ WX ((w.gen G Yi an.gd an.gh).trans J) I (by simp only[ao,Emit.lR,j4,j6,j7];omega) (by simp only[ao,Emit.lR,s5,j7];omega) ?_;intro r3 g3 cf E v;simp only[go_sem];refine⟨_,ae.refl _,?_⟩;simp only[go_sem];exact an.pack E ((h.trans (w.trans v)).down a6) (by simp only[aw,ao,Emit.lR,l6]) (by simp only[aw,ao,Emit.lR,l6]) (q:=[]) rfl
end
def MX{k:bG}(a b:Int)(h0:0<=a)(i:a<=b)(hb:b<=1000000000000000):dv 163 [iv .i64 a,iv .i64 b] (Emit.yQ a b) k:=by
 intro B G D H u code holes g ob an Y hl s;have d':=an.gB;have ec:=an.dB;have ef:=an.hB;refine hdM B [G,D,H] Tryz.func163 rfl [] Wk an.top λO bo s0 w0=>?_;have hw:IntKind.i64.wrap (b-a)=b-a:=by rw[wrap_i64]<;>omega
 by_cases w:b-a<=6
 .have W:Emit.yQ a b=Emit.yP a (b-a).toNat:=l7 w
  rw[W]at hl s|-
  have A:∀(j n:Nat),z (Emit.yP a j n).code=j/\(Emit.yP a j n).holes=[]:=by
   intro j
   induction j with
   |zero=>intro n;exact⟨rfl,rfl⟩
   |succ j ih=>intro n;exact⟨by simp[Emit.yP,aw,ao,(ih _).1],by simp[Emit.yP,aw,ao,(ih _).2]⟩
  rw[(A _ _).1]at hl;simp only[go_sem,hw,w];refine aq (λm K=>∃j:Nat,m+j=(b-a).toNat/\K.f 0=.one (.ptr G u 0)/\K.f 2=iv .i64 b/\K.f 6=iv .i64 (a+j)/\eY (B+41) G D H k (code++(Emit.yP a j (z code)).code) (holes++(Emit.yP a j (z code)).holes) K.gen K.obj/\cY (B+41) G D H g ob K.gen K.obj) (b-a).toNat ?_ ?_
  .refine⟨0,rfl,?_⟩
   simp only[go_sem,Emit.yP,fQ,s5];exact⟨a8,an.up a6,.refl⟩
  rintro m f g1 ad ⟨j,hm,q0,Q,U,o,h⟩;simp only at q0 Q U o h;by_cases af:a+j<b
  .have c:IntKind.i64.wrap (a+j+1)=a+j+1:=by rw[wrap_i64]<;>omega
   simp only[go_sem,q0,Q,U,af];refine bn aa rfl (eZ 17 0 0 (a+j) k) (B+41) G D H u _ _ XT ((h.gen G a6 an.gd an.gh).trans Y) o (by simp only[j4,(A _ _).1,ao,j6,j7];omega) (by simp only[j4,(A _ _).2,ao,j7];rw[(A _ _).2]at s;simpa using s) ?_;intro r g2 b3 t V;simp only[go_sem,U,c];refine ai (m-1) a6 ⟨j+1,a6,?_⟩;simp only[go_sem,q0,Q];refine⟨by first|omega|(rw[show a+(j:Int)+1=a+((j+1:Nat):Int) by omega]),?_,h.trans V⟩;simp only[Emit.yP,aw,<-l6];exact t
  .obtain rfl:j=(b-a).toNat:=a6
   simp only[go_sem,Q,U,af];exact K6
 .have W:Emit.yQ a b=λn=>⟨[(1,1,0,a),(1,2,0,b),(17,0,1,0),(4,1,1,15),(14,3,1,2),(20,3,0,(n:Int)+2)],[]⟩:=j8 w
  rw[W]at hl s|-;simp only[j6,j7]at hl s;have b5:∀x:Nat,x<=100000000->IntKind.i64.wrap (x:Int)=(x:Int):=λx I=>by rw[wrap_i64]<;>omega
  simp only[go_sem,hw,w];refine bn aa rfl (eZ 1 1 0 a k) (B+41) G D H u code holes WX Y (an.up Yi) W0 W5 ?_;intro r1 g1 ad o h;have b8:g1 G=u:=(h.gen G a6 an.gd an.gh).trans Y;simp only[go_sem];refine bn aa rfl (eZ 1 2 0 b k) (B+41) G D H u _ _ WX b8 o W0 W5 ?_;intro r2 g2 b3 t V;have Z:g2 G=u:=(V.gen G a6 an.gd an.gh).trans b8;have I:=t.oG;unfold bG.cells at I;simp only[go_sem,I,Z];refine⟨by rw[t.oD];rfl,?_⟩;refine bn aa rfl (eZ 17 0 1 0 k) (B+41) G D H u _ _ WX Z t W0 W5 ?_;intro r3 g3 cf E v;have y:g3 G=u:=(v.gen G a6 an.gd an.gh).trans Z;simp only[go_sem];refine bn aa rfl (eZ 4 1 1 15 k) (B+41) G D H u _ _ WX y E W0 W5 ?_;intro r4 g4 c0 L J;have cx:g4 G=u:=(J.gen G a6 an.gd an.gh).trans y;simp only[go_sem];refine bn aa rfl (eZ 14 3 1 2 k) (B+41) G D H u _ _ WX cx L W0 W5 ?_;intro r5 g5 c' e d;have bs:g5 G=u:=(d.gen G a6 an.gd an.gh).trans cx;simp only[go_sem];refine bn aa rfl (eZ 20 3 0 ((z code:Int)+2) k) (B+41) G D H u _ _ (by (first|rfl|simp only[go_sem,ao,j4,j6,j7]);rfl) bs e (by simp only[ao,j4,j6,j7];omega) (by simp only[ao,s5,j7];omega) ?_;intro r6 g6 bk l p;simp only[go_sem];refine⟨_,ae.refl _,?_⟩;simp only[go_sem];exact an.pack l ((h.trans (V.trans (v.trans (J.trans (d.trans p))))).down a6) (by simp only[ao,l6,u7,x9]) (by simp only[ao,s5]) (q:=[]) rfl
def Dr{k:bG}(op a f pl:Int):dv 155 [iv .i64 op,iv .i64 a,iv .i64 f,iv .i64 pl] (ax op a f pl) k:=by
 intro B G D H u code holes g ob an hg hl hh;have m:=an.gB;have W:=an.dB;have c:=an.hB;have c6:=an.gd;have t:=an.gh;have Y:=an.dh;have hc:=an.oD;have e:=an.oH;simp only[ax,j6,j7]at hl hh;refine hdM B [G,D,H] Tryz.func155 rfl [] Wk an.top λO bo s0 w0=>?_;have a1:=an.oG;unfold bG.cells at a1;have Q:∀k,(G=B+k)=False:=λk=>by simp;omega
 have A:∀k,(D=B+k)=False:=λk=>by simp;omega
 have E:∀k,(H=B+k)=False:=λk=>by simp;omega
 have w:(G=H)=False:=by simp[t]
 have K:(H=G)=False:=by simp[A9 t]
 simp only[go_sem];refine dS aR mixed aa [B+23,H,G] [([0],[0,1,2],[],F),([0],[0],[],F),([11],[0],[],F),([12],[0],[],F),([13],[0],[],F),([0],[],[],F),([15],[],[],F),([16],[],[],F),([17],[],[],F),([18],[],[],F),([3],[],[],F),([4],[],[],F),([19,20,21],[],[],F),([22],[],[0],F),([14,23],[],[1],F),([10],[],[],F),([25],[],[],F),([26,24],[],[],T)] 3 rfl b9 rfl Wk ?_;have b:=Bd holes;have b5:=jg code;simp only[go_sem]
 iterate 10 (apply ay;(case hg=>first|exact w8|exact⟨_,rfl,by decide,rfl⟩);(case U=>intro fa ga oa s J;simp only[go_sem,Q,A,E,w,K,a1,hg,hc,b5]at J|-;exact J))
 iterate 3 (apply ay;(case hg=>first|exact w8|exact⟨_,rfl,by decide,rfl⟩);(case U=>intro fa ga oa s J;simp only[go_sem,Q,A,E,w,K]at J|-;exact J))
 (apply de;(case hg=>first|exact w8|exact⟨_,rfl,by decide,rfl⟩);(case U=>intro fa ga oa s J;simp only[go_sem,aZ]at J|-;exact J))
 refine de (a:=1) (v:=.one (.osl H (nxC (apC 181 (g H) 0) (g H)) 3 0 (z holes+1))) (x:=nxC (apC 181 (g H) 0) (g H)) (y:=S (nY (holes++[((z code:Int),f,pl)]))) w8 (λfa ga oa s J=>?_) ?_
 .have e1:List.take (z holes*3) (nY holes)++[C.d (.int .i64 (z code:Int)),C.d (.int .i64 f),C.d (.int .i64 pl)]=nY (holes++[((z code:Int),f,pl)]):=by
   rw[s6 (by rw[b];exact l0 _),Jb];simp[nY]
  simp only[go_sem,aZ,e,b,Q,A,E,w,K]at J|-;exact UD
 iterate 2 (apply ay;(case hg=>first|exact w8|exact⟨_,rfl,by decide,rfl⟩);(case U=>intro fa ga oa s J;simp only[go_sem,Q,A,E,w,K,a1,hg]at J|-;exact J))
 refine dU w8 ?_;intro s b0;simp only[go_sem,Q,A,E,w,K,a1,hg];refine b0 _ ?_;clear b0 s;have l:(D=H)=False:=by simp[Y]
 have n:(D=G)=False:=by simp[A9 c6]
 simp only[go_sem];obtain⟨j,gm⟩:∃x,nxC (apC 181 (g H) 0) (g H)=x:=⟨_,rfl⟩
 rw[gm];refine bn aa rfl (eZ op a 0 0 k) (B+31) G D H u code (holes++[((z code:Int),f,pl)]) WX (by simp only[upd];rw[j8 t];(repeat rw[j8 (by omega)]);exact hg) ⟨λi hi=>nt (an.top i (by omega)),by omega,by omega,by omega,c6,t,Y,?_,?_,?_,λx I=>EW (by omega) (an.low x I)⟩ (by simp only[ao,j6,j7];omega) (by simp only[ao,j4,j6,j7];omega) ?_
 .simp only[upd,bG.cells,j4,j6,j7]
  rw[l7 trivial,j8 Y]
  (repeat rw[j8 (by omega)])
  try rfl
 .simp only[upd]
  rw[j8 (A9 c6),j8 Y]
  (repeat rw[j8 (by omega)])
  exact hc
 .simp only[upd]
  rw[j8 (A9 t)]
  try rw[l7 trivial]
 intro r g' Z o h;simp only[go_sem];refine⟨_,ae.refl _,?_⟩;simp only[go_sem];refine an.pack o ⟨λi hi e2 V=>(h.gen i a6 e2 V).trans ?_,λi hi e1 e2 V=>(h.fr i a6 e1 e2 V).trans ?_⟩ (by simp only[ax,ao]) (by simp only[ax,ao,s5]) (q:=[]) rfl
 .simp only[upd];rw[j8 V,j8 a6]
 .simp only[upd];rw[j8 e1,j8 V];(repeat rw[j8 (by omega)])
def Be(P:Emit.Plan)(f:Nat)(V params first:Int):∀j n:Nat,z (Emit.HR P f V params first j n).code=2*j/\(Emit.HR P f V params first j n).holes=[]
 |0,n=>⟨by simp[Emit.HR,fQ],by simp[Emit.HR,fQ]⟩
 |j+1,n=>by
   have a:=Be P f V params first j
   exact⟨by simp[Emit.HR,aw,ao,Emit.lR,(a _).1];omega,by simp[Emit.HR,aw,ao,Emit.lR,(a _).2]⟩
def QK{k:bG}{fs:List Src.CFn}{P:Emit.Plan}{f:Nat}{V:Int}(hP:nq k fs P f V)(x:Ins){c:Nat}{y:Src.CFn}(hc:x.a=(c:Int))(hy:fs[c]?=S y):dv 158 [.agg ((bQ x).map .d)] (Emit.Es fs P f V x.a) k:=by
 intro B G D H u code holes g ob an hg hl hh;have d':=an.gB;have ec:=an.dB;have ef:=an.hB;have c6:=an.gd;have cz:=an.gh;have dd:=an.dh;refine hdM B [G,D,H] Tryz.func158 rfl [] Wk an.top λO bo s0 w0=>?_;obtain⟨op,a,b,n⟩:=x;simp only at hc;subst hc
 have W:Emit.Es fs P f V (c:Int)=aw (Emit.HR P f V y.params y.first y.params.toNat) (aw (ax 21 14 (c:Int) (-1)) (if y.word then Emit.nk P f V 1 y.params else fQ)):=by
  unfold Emit.Es;rw[B6,hy]
 rw[W]at hl hh|-;have a1:=an.oG;unfold bG.cells at a1;rw[hP.s]at a1;have b4:c<z fs:=(l8.1 hy).1;have bl:(0:Int)<=(c:Int):=a6;have L:(c:Int)<(z fs:Int):=a6;obtain⟨e9,ca,dc,bc⟩:=hP.pz y (l5 hy);have Q:∀k,(G=B+k)=False:=λk=>by simp;omega
 have n2:∀k,(D=B+k)=False:=λk=>by simp;omega
 have n3:∀k,(H=B+k)=False:=λk=>by simp;omega
 simp only[go_sem,bQ];refine dS aR mixed aa [B+4] [([0],[0],[],F),([6],[0],[],F),([7],[0],[],F),([8],[0],[],F),([9],[0],[],F),([3],[0],[],F),([11],[0],[],F),([10,12],[0],[],F),([13],[0],[],F),([],[],[0],F),([4,14],[],[],T)] 1 rfl b9 rfl a8 ?_;simp only[go_sem]
 iterate 7 (apply ay;(case hg=>first|exact w8|exact⟨_,rfl,by decide,rfl⟩);(case U=>intro fa ga oa K' J;simp only[go_sem,Q,n2,n3,a1,hg]at J|-;exact J))
 iterate 2 (apply ay;(case hg=>first|exact w8|exact⟨_,rfl,by decide,rfl⟩);(case U=>intro fa ga oa K' J;simp only[go_sem,Q,n2,n3,a1,hg,bl,L,b4,hy,j5,sfD]at J|-;exact J))
 (apply de;(case hg=>first|exact w8|exact⟨_,rfl,by decide,rfl⟩);(case U=>intro fa ga oa K' J;simp only[go_sem,Q,n2,n3]at J|-;exact J))
 refine dU w8 ?_;intro K' b0;simp only[go_sem,Q,n2,n3];refine b0 _ ?_;clear b0 K';simp only[go_sem];have c2:=Be P f V y.params y.first
 have p:z code+(2*y.params.toNat+2)<=100000000+1:=by
  have U:(aw (Emit.HR P f V y.params y.first y.params.toNat) (aw (ax 21 14 (c:Int) (-1)) (if y.word then Emit.nk P f V 1 y.params else fQ)) (z code)).code.length≥2*y.params.toNat+1:=by
   simp only[aw,ax,j4,(c2 _ _).1,j6,j7];omega
  omega
 have t:z holes+1<=100000000:=by
  have U:(aw (Emit.HR P f V y.params y.first y.params.toNat) (aw (ax 21 14 (c:Int) (-1)) (if y.word then Emit.nk P f V 1 y.params else fQ)) (z code)).holes.length≥1:=by
   simp only[aw,ax,j4,(c2 _ _).2,j6,j7];omega
  omega
 refine aq (λm K=>∃j:Nat,m+j=y.params.toNat/\K.f 0=.one (.ptr G u 0)/\K.f 3=.one (.ptr (B+3) (K.gen (B+3)) 0)/\K.f 4=.one (.ptr (B+4) (K.gen (B+4)) 0)/\K.f 16=iv .i64 y.params/\K.f 17=iv .i64 j/\K.obj (B+3)=S [.d (.int .i64 op),.d (.int .i64 c),.d (.int .i64 b),.d (.int .u32 n)]/\
  K.obj (B+4)=S [.d (.int .i64 y.params),.d (.int .i64 y.slots),.d (.int .i64 y.first),.d (.bool y.word),.d (uI (codeOf y.word y.body))]/\eY (B+43) G D H k (code++(Emit.HR P f V y.params y.first j (z code)).code) (holes++(Emit.HR P f V y.params y.first j (z code)).holes) K.gen K.obj/\cY B G D H g ob K.gen K.obj) y.params.toNat ?_ ?_
 .refine⟨0,rfl,?_⟩
  simp only[go_sem,Emit.HR,fQ,s5,Q,n2,n3];exact⟨(an.up (B':=B+43) a6).to (λi hi=>nt (an.top i a6)) (nu) (nu) (nu) (nu) (nu),⟨λi U Y h3=>nu,λi U Y h3 h4=>nu⟩⟩
 rintro m fa g1 ad ⟨j,hm,q0,q3,q4,A,e,p3,p4,o,h⟩;simp only at q0 q3 q4 A e p3 p4 o h;have b8:g1 G=u:=(h.gen G a6 an.gd an.gh).trans hg;have lg:=(Emit.HR P f V y.params y.first j (z code))
 by_cases af:(j:Int)<y.params
 .have b':IntKind.i64.wrap (y.params-j)=y.params-j:=by rw[wrap_i64]<;>omega
  have ch:IntKind.i64.wrap (y.first+j)=y.first+j:=by rw[wrap_i64]<;>omega
  have c7:=ab (k:=j) a6;simp only[go_sem,q0,q3,q4,A,e,af,p4,b'];refine bn aa rfl (lC hP 1 (y.params-j) a6) (B+43) G D H u _ _ XT b8 o (by simp only[j4,(c2 _ _).1,ao,Emit.lR,j6,j7];omega) (by simp only[j4,(c2 _ _).2,ao,Emit.lR,j7];omega) ?_;intro r g2 b3 S2 K2;have cm:g2 G=u:=(K2.gen G a6 an.gd an.gh).trans b8;have X:=(K2.fr (B+4) a6 a6 a6 a6).trans p4;have w:=(K2.fr (B+3) a6 a6 a6 a6).trans p3;have l:=K2.gen (B+4) a6 a6 a6;have I:=K2.gen (B+3) a6 a6 a6;simp only[go_sem,q0,q3,q4,A,e,X,l,ch];refine bn aa rfl (eZ 17 1 0 (y.first+j) k) (B+43) G D H u _ _ XT cm S2 (by simp only[j4,(c2 _ _).1,ao,Emit.lR,j6,j7];omega) (by simp only[j4,(c2 _ _).2,ao,Emit.lR,j7];omega) ?_;intro r g3 cf E v;have Z:=(v.fr (B+4) a6 a6 a6 a6).trans X;have av:=(v.fr (B+3) a6 a6 a6 a6).trans w;have a':=(v.gen (B+4) a6 a6 a6).trans l;have bd:=(v.gen (B+3) a6 a6 a6).trans I;simp only[go_sem,e,c7];refine ai (m-1) a6 ⟨j+1,a6,?_⟩;simp only[go_sem,q0,q3,q4,A,av,Z,bd,a'];refine⟨?_,h.trans ((K2.trans v).down a6)⟩;simp only[Emit.HR,aw,<-l6];simp only[j4,C7]at E;exact E
 .have hj:j=y.params.toNat:=a6
  subst hj;simp only[go_sem,q0,q3,q4,A,e,af,p3];refine bn aa rfl (Dr 21 14 (c:Int) (-1)) (B+43) G D H u _ _ XT b8 o (by simp only[j4,(c2 _ _).1,ax,j6,j7];omega) (by simp only[j4,(c2 _ _).2,ax,j6,j7];omega) ?_;intro r g2 b3 S2 K2;have cm:g2 G=u:=(K2.gen G a6 an.gd an.gh).trans b8;have X:=(K2.fr (B+4) a6 a6 a6 a6).trans p4;have l:=K2.gen (B+4) a6 a6 a6;cases b2:y.word with
  |false=>
    rw[b2]at X hl hh;simp only[go_sem,q0,q4,X,l];refine⟨_,ae.refl _,?_⟩;simp only[go_sem];exact an.pack S2 (h.trans (K2.down a6)) (by simp[aw,fQ,l6,ax]) (by simp[aw,fQ,l6,ax]) (q:=[]) rfl
  |true=>
    rw[b2]at X hl hh;simp only[go_sem,q0,q4,X,l];refine bn aa rfl (nr hP 1 y.params a6) (B+43) G D H u _ _ XT cm S2 ?_ ?_ ?_
    .simp only[aw,ax,Emit.nk,ao,j4,(c2 _ _).1,j6,j7,B5]at hl|-;omega
    .simp only[aw,ax,Emit.nk,ao,j4,(c2 _ _).2,j6,j7,B5]at hh|-;omega
    intro r g3 cf E v;simp only[go_sem];refine⟨_,ae.refl _,?_⟩;simp only[go_sem];exact an.pack E (h.trans ((K2.trans v).down a6)) (by simp[aw,fQ,l6,ax,Emit.nk,ao]) (by simp[aw,fQ,l6,ax,Emit.nk,ao]) (q:=[]) rfl
section
variable{k:bG}{fs:List Src.CFn}{P:Emit.Plan}{f:Nat}{V:Int}
def QL(hP:nq k fs P f V)(a b n:Int):dv 144 [.agg ((bQ ⟨1,a,b,n⟩).map .d)] (Emit.xd fs P f V ⟨1,a,b,n⟩) k:=by
 intro B G D H u code holes g ob an s hl hh;have E:=an.gB;have I:=an.dB;have ef:=an.hB;have J:=an.gd;have K:=an.gh;have U:=an.dh;refine hdM B [G,D,H] Tryz.func144 rfl [] Wk an.top λO bo s0 w0=>?_;have Q:∀k,(G=B+k)=False:=λk=>by simp;omega
 have Y:∀k,(D=B+k)=False:=λk=>by simp;omega
 have Z:∀k,(H=B+k)=False:=λk=>by simp;omega
 have m:=an.oG;unfold bG.cells at m;rw[hP.fn]at m;have W:Emit.xd fs P f V ⟨1,a,b,n⟩=(aw (Emit.yN 1 n) (Emit.nk P f V 1 0)):=by simp[Emit.xd]
 rw[W]at hl hh|-;simp only[aw,ao,ax,Emit.lR,Emit.nk,j4,j6,j7]at hl hh;simp only[go_sem,bQ];obtain⟨l,j⟩:∃x,nxC 253 (g (B+3))=x:=⟨_,rfl⟩
 have t:eY (B+10) G D H k code holes (upd g (B+3) l) (upd ob (B+3) (S [.d (.int .i64 1),.d (.int .i64 a),.d (.int .i64 b),.d (.int .u32 n)])):=(an.up a6).upd a6 a6 a6 a6 _ _;have w:cY B G D H g ob (upd g (B+3) l) (upd ob (B+3) (S [.d (.int .i64 1),.d (.int .i64 a),.d (.int .i64 b),.d (.int .u32 n)])):=⟨λi v _ _=>nu,λi v _ _ _=>nu⟩
 have A:upd g (B+3) l G=u:=by simp only[upd];rw[j8 a6];exact s
 rw[j];refine bn aa rfl (Jd 1 n) (B+10) G D H u _ _ WE A t WG WH ?_;intro r g1 y o h;have b8:g1 G=u:=(h.gen G a6 an.gd an.gh).trans A;have c:y (B+3)=S [.d (.int .i64 1),.d (.int .i64 a),.d (.int .i64 b),.d (.int .u32 n)]:=(h.fr (B+3) a6 a6 a6 a6).trans Wl;exact n1
def QM(hP:nq k fs P f V)(a b n:Int):dv 147 [.agg ((bQ ⟨2,a,b,n⟩).map .d)] (Emit.xd fs P f V ⟨2,a,b,n⟩) k:=by
 intro B G D H u code holes g ob an s hl hh;have E:=an.gB;have I:=an.dB;have ef:=an.hB;have J:=an.gd;have K:=an.gh;have U:=an.dh;refine hdM B [G,D,H] Tryz.func147 rfl [] Wk an.top λO bo s0 w0=>?_;have Q:∀k,(G=B+k)=False:=λk=>by simp;omega
 have Y:∀k,(D=B+k)=False:=λk=>by simp;omega
 have Z:∀k,(H=B+k)=False:=λk=>by simp;omega
 have m:=an.oG;unfold bG.cells at m;rw[hP.fn]at m;have W:Emit.xd fs P f V ⟨2,a,b,n⟩=(aw (ao 16 1 0 a) (Emit.nk P f V 1 0)):=by simp[Emit.xd]
 rw[W]at hl hh|-;simp only[aw,ao,ax,Emit.lR,Emit.nk,j4,j6,j7]at hl hh;simp only[go_sem,bQ];obtain⟨l,j⟩:∃x,nxC 253 (g (B+3))=x:=⟨_,rfl⟩
 have t:eY (B+10) G D H k code holes (upd g (B+3) l) (upd ob (B+3) (S [.d (.int .i64 2),.d (.int .i64 a),.d (.int .i64 b),.d (.int .u32 n)])):=(an.up a6).upd a6 a6 a6 a6 _ _;have w:cY B G D H g ob (upd g (B+3) l) (upd ob (B+3) (S [.d (.int .i64 2),.d (.int .i64 a),.d (.int .i64 b),.d (.int .u32 n)])):=⟨λi v _ _=>nu,λi v _ _ _=>nu⟩
 have A:upd g (B+3) l G=u:=by simp only[upd];rw[j8 a6];exact s
 rw[j];refine bn aa rfl (eZ 16 1 0 a k) (B+10) G D H u _ _ WE A t WG WH ?_;intro r g1 y o h;have b8:g1 G=u:=(h.gen G a6 an.gd an.gh).trans A;have c:y (B+3)=S [.d (.int .i64 2),.d (.int .i64 a),.d (.int .i64 b),.d (.int .u32 n)]:=(h.fr (B+3) a6 a6 a6 a6).trans Wl;exact n1
def QN(m:nq k fs P f V)(a b n:Int):dv 148 [.agg ((bQ ⟨3,a,b,n⟩).map .d)] (Emit.xd fs P f V ⟨3,a,b,n⟩) k:=by
 intro B G D H u code holes g ob an v hl hh;have K:=an.gB;have U:=an.dB;have ef:=an.hB;have Y:=an.gd;have Z:=an.gh;have dd:=an.dh;refine hdM B [G,D,H] Tryz.func148 rfl [] Wk an.top λO bo s0 w0=>?_;have Q:∀k,(G=B+k)=False:=λk=>by simp;omega
 have n2:∀k,(D=B+k)=False:=λk=>by simp;omega
 have n3:∀k,(H=B+k)=False:=λk=>by simp;omega
 have s:=an.oG;unfold bG.cells at s;rw[m.fn]at s;have W:Emit.xd fs P f V ⟨3,a,b,n⟩=(aw (Emit.lR P f V 1 1) (ao 17 1 0 a)):=by simp[Emit.xd]
 rw[W]at hl hh|-;simp only[aw,ao,ax,Emit.lR,Emit.nk,j4,j6,j7]at hl hh;simp only[go_sem,bQ];obtain⟨l,j⟩:∃x,nxC 253 (g (B+3))=x:=⟨_,rfl⟩
 have y:eY (B+10) G D H k code holes (upd g (B+3) l) (upd ob (B+3) (S [.d (.int .i64 3),.d (.int .i64 a),.d (.int .i64 b),.d (.int .u32 n)])):=(an.up a6).upd a6 a6 a6 a6 _ _;have w:cY B G D H g ob (upd g (B+3) l) (upd ob (B+3) (S [.d (.int .i64 3),.d (.int .i64 a),.d (.int .i64 b),.d (.int .u32 n)])):=⟨λi E _ _=>nu,λi E _ _ _=>nu⟩
 have A:upd g (B+3) l G=u:=by simp only[upd];rw[j8 a6];exact v
 rw[j];refine bn aa rfl (lC m 1 1 a7) (B+10) G D H u _ _ WE A y WG WH ?_;intro r t I o h;have J:t G=u:=(h.gen G a6 an.gd an.gh).trans A;have c:I (B+3)=S [.d (.int .i64 3),.d (.int .i64 a),.d (.int .i64 b),.d (.int .u32 n)]:=(h.fr (B+3) a6 a6 a6 a6).trans Wl;have e:t (B+3)=l:=(h.gen (B+3) a6 a6 a6).trans Wl;simp only[go_sem,c,e];refine bn aa rfl (eZ 17 1 0 a k) (B+10) G D H u _ _ WK J o WL WM ?_;exact gT
def QO(I:nq k fs P f V)(a b n:Int):dv 150 [.agg ((bQ ⟨4,a,b,n⟩).map .d)] (Emit.xd fs P f V ⟨4,a,b,n⟩) k:=by
 intro B G D H u code holes g ob an hg hl hh;have d':=an.gB;have ec:=an.dB;have ef:=an.hB;have c6:=an.gd;have cz:=an.gh;have dd:=an.dh;refine hdM B [G,D,H] Tryz.func150 rfl [] Wk an.top λO bo s0 w0=>?_;have Q:∀k,(G=B+k)=False:=λk=>by simp;omega
 have n2:∀k,(D=B+k)=False:=λk=>by simp;omega
 have n3:∀k,(H=B+k)=False:=λk=>by simp;omega
 have K:=an.oG;unfold bG.cells at K;rw[I.fn]at K;have W:Emit.xd fs P f V ⟨4,a,b,n⟩=(aw (Emit.lR P f V 1 1) (aw (ao 25 1 0 b) (aw (ao 16 1 1 a) (Emit.nk P f V 1 1)))):=by simp[Emit.xd]
 rw[W]at hl hh|-;simp only[aw,ao,ax,Emit.lR,Emit.nk,j4,j6,j7]at hl hh;simp only[go_sem,bQ];obtain⟨l,j⟩:∃x,nxC 253 (g (B+3))=x:=⟨_,rfl⟩
 have S0:eY (B+16) G D H k code holes (upd g (B+3) l) (upd ob (B+3) (S [.d (.int .i64 4),.d (.int .i64 a),.d (.int .i64 b),.d (.int .u32 n)])):=(an.up a6).upd a6 a6 a6 a6 _ _;have w:cY B G D H g ob (upd g (B+3) l) (upd ob (B+3) (S [.d (.int .i64 4),.d (.int .i64 a),.d (.int .i64 b),.d (.int .u32 n)])):=⟨λi hi _ _=>nu,λi hi _ _ _=>nu⟩
 have A:upd g (B+3) l G=u:=by simp only[upd];rw[j8 a6];exact hg
 rw[j];refine bn aa rfl (lC I 1 1 a7) (B+16) G D H u _ _ WE A S0 WG WH ?_;intro r U ad o h;have Y:U G=u:=(h.gen G a6 an.gd an.gh).trans A;have c:ad (B+3)=S [.d (.int .i64 4),.d (.int .i64 a),.d (.int .i64 b),.d (.int .u32 n)]:=(h.fr (B+3) a6 a6 a6 a6).trans Wl;have e:U (B+3)=l:=(h.gen (B+3) a6 a6 a6).trans Wl;simp only[go_sem,c,e];refine bn aa rfl (eZ 25 1 0 b k) (B+16) G D H u _ _ WK Y o WL WM ?_;intro r Z b3 S2 K2;have cm:Z G=u:=(K2.gen G a6 an.gd an.gh).trans Y;have m:b3 (B+3)=S [.d (.int .i64 4),.d (.int .i64 a),.d (.int .i64 b),.d (.int .u32 n)]:=(K2.fr (B+3) a6 a6 a6 a6).trans c;have p:Z (B+3)=l:=(K2.gen (B+3) a6 a6 a6).trans e;simp only[go_sem,m,p];refine bn aa rfl (eZ 16 1 1 a k) (B+16) G D H u _ _ Xp cm S2 Xq Xr ?_;intro r g3 cf E v;have y:g3 G=u:=(v.gen G a6 an.gd an.gh).trans cm;have s:cf (B+3)=S [.d (.int .i64 4),.d (.int .i64 a),.d (.int .i64 b),.d (.int .u32 n)]:=(v.fr (B+3) a6 a6 a6 a6).trans m;have t:g3 (B+3)=l:=(v.gen (B+3) a6 a6 a6).trans p;simp only[go_sem,s,t];refine bn aa rfl (nr I 1 1 a7) (B+16) G D H u _ _ Yf y E Yg Yh ?_;exact j3
def QP(I:nq k fs P f V)(a b n:Int):dv 151 [.agg ((bQ ⟨5,a,b,n⟩).map .d)] (Emit.xd fs P f V ⟨5,a,b,n⟩) k:=by
 intro B G D H u code holes g ob an hg hl hh;have d':=an.gB;have ec:=an.dB;have ef:=an.hB;have c6:=an.gd;have cz:=an.gh;have dd:=an.dh;refine hdM B [G,D,H] Tryz.func151 rfl [] Wk an.top λO bo s0 w0=>?_;have Q:∀k,(G=B+k)=False:=λk=>by simp;omega
 have n2:∀k,(D=B+k)=False:=λk=>by simp;omega
 have n3:∀k,(H=B+k)=False:=λk=>by simp;omega
 have K:=an.oG;unfold bG.cells at K;rw[I.fn]at K;have W:Emit.xd fs P f V ⟨5,a,b,n⟩=(aw (Emit.lR P f V 1 2) (aw (ao 25 1 0 b) (aw (Emit.lR P f V 2 1) (ao 17 2 1 a)))):=by simp[Emit.xd]
 rw[W]at hl hh|-;simp only[aw,ao,ax,Emit.lR,Emit.nk,j4,j6,j7]at hl hh;simp only[go_sem,bQ];obtain⟨l,j⟩:∃x,nxC 253 (g (B+3))=x:=⟨_,rfl⟩
 have S0:eY (B+16) G D H k code holes (upd g (B+3) l) (upd ob (B+3) (S [.d (.int .i64 5),.d (.int .i64 a),.d (.int .i64 b),.d (.int .u32 n)])):=(an.up a6).upd a6 a6 a6 a6 _ _;have w:cY B G D H g ob (upd g (B+3) l) (upd ob (B+3) (S [.d (.int .i64 5),.d (.int .i64 a),.d (.int .i64 b),.d (.int .u32 n)])):=⟨λi hi _ _=>nu,λi hi _ _ _=>nu⟩
 have A:upd g (B+3) l G=u:=by simp only[upd];rw[j8 a6];exact hg
 rw[j];refine bn aa rfl (lC I 1 2 a7) (B+16) G D H u _ _ WE A S0 WG WH ?_;intro r U ad o h;have Y:U G=u:=(h.gen G a6 an.gd an.gh).trans A;have c:ad (B+3)=S [.d (.int .i64 5),.d (.int .i64 a),.d (.int .i64 b),.d (.int .u32 n)]:=(h.fr (B+3) a6 a6 a6 a6).trans Wl;have e:U (B+3)=l:=(h.gen (B+3) a6 a6 a6).trans Wl;simp only[go_sem,c,e];refine bn aa rfl (eZ 25 1 0 b k) (B+16) G D H u _ _ WK Y o WL WM ?_;intro r Z b3 S2 K2;have cm:Z G=u:=(K2.gen G a6 an.gd an.gh).trans Y;have m:b3 (B+3)=S [.d (.int .i64 5),.d (.int .i64 a),.d (.int .i64 b),.d (.int .u32 n)]:=(K2.fr (B+3) a6 a6 a6 a6).trans c;have p:Z (B+3)=l:=(K2.gen (B+3) a6 a6 a6).trans e;simp only[go_sem,m,p];refine bn aa rfl (lC I 2 1 a7) (B+16) G D H u _ _ Xp cm S2 Xq Xr ?_;intro r g3 cf E v;have y:g3 G=u:=(v.gen G a6 an.gd an.gh).trans cm;have s:cf (B+3)=S [.d (.int .i64 5),.d (.int .i64 a),.d (.int .i64 b),.d (.int .u32 n)]:=(v.fr (B+3) a6 a6 a6 a6).trans m;have t:g3 (B+3)=l:=(v.gen (B+3) a6 a6 a6).trans p;simp only[go_sem,s,t];refine bn aa rfl (eZ 17 2 1 a k) (B+16) G D H u _ _ Yf y E Yg Yh ?_;exact j3
def QQ(I:nq k fs P f V)(a b n:Int):dv 152 [.agg ((bQ ⟨6,a,b,n⟩).map .d)] (Emit.xd fs P f V ⟨6,a,b,n⟩) k:=by
 intro B G D H u code holes g ob an hg hl hh;have d':=an.gB;have ec:=an.dB;have ef:=an.hB;have c6:=an.gd;have cz:=an.gh;have dd:=an.dh;refine hdM B [G,D,H] Tryz.func152 rfl [] Wk an.top λO bo s0 w0=>?_;have Q:∀k,(G=B+k)=False:=λk=>by simp;omega
 have n2:∀k,(D=B+k)=False:=λk=>by simp;omega
 have n3:∀k,(H=B+k)=False:=λk=>by simp;omega
 have K:=an.oG;unfold bG.cells at K;rw[I.fn]at K;have W:Emit.xd fs P f V ⟨6,a,b,n⟩=(aw (Emit.lR P f V 1 2) (aw (Emit.lR P f V 2 1) (aw (ao a 1 1 2) (Emit.nk P f V 1 2)))):=by simp[Emit.xd]
 rw[W]at hl hh|-;simp only[aw,ao,ax,Emit.lR,Emit.nk,j4,j6,j7]at hl hh;simp only[go_sem,bQ];obtain⟨l,j⟩:∃x,nxC 253 (g (B+3))=x:=⟨_,rfl⟩
 have S0:eY (B+14) G D H k code holes (upd g (B+3) l) (upd ob (B+3) (S [.d (.int .i64 6),.d (.int .i64 a),.d (.int .i64 b),.d (.int .u32 n)])):=(an.up a6).upd a6 a6 a6 a6 _ _;have w:cY B G D H g ob (upd g (B+3) l) (upd ob (B+3) (S [.d (.int .i64 6),.d (.int .i64 a),.d (.int .i64 b),.d (.int .u32 n)])):=⟨λi hi _ _=>nu,λi hi _ _ _=>nu⟩
 have A:upd g (B+3) l G=u:=by simp only[upd];rw[j8 a6];exact hg
 rw[j];refine bn aa rfl (lC I 1 2 a7) (B+14) G D H u _ _ WE A S0 WG WH ?_;intro r U ad o h;have Y:U G=u:=(h.gen G a6 an.gd an.gh).trans A;have c:ad (B+3)=S [.d (.int .i64 6),.d (.int .i64 a),.d (.int .i64 b),.d (.int .u32 n)]:=(h.fr (B+3) a6 a6 a6 a6).trans Wl;have e:U (B+3)=l:=(h.gen (B+3) a6 a6 a6).trans Wl;simp only[go_sem,c,e];refine bn aa rfl (lC I 2 1 a7) (B+14) G D H u _ _ WK Y o WL WM ?_;intro r Z b3 S2 K2;have cm:Z G=u:=(K2.gen G a6 an.gd an.gh).trans Y;have m:b3 (B+3)=S [.d (.int .i64 6),.d (.int .i64 a),.d (.int .i64 b),.d (.int .u32 n)]:=(K2.fr (B+3) a6 a6 a6 a6).trans c;have p:Z (B+3)=l:=(K2.gen (B+3) a6 a6 a6).trans e;simp only[go_sem,m,p];refine bn aa rfl (eZ a 1 1 2 k) (B+14) G D H u _ _ Xp cm S2 Xq Xr ?_;intro r g3 cf E v;have y:g3 G=u:=(v.gen G a6 an.gd an.gh).trans cm;have s:cf (B+3)=S [.d (.int .i64 6),.d (.int .i64 a),.d (.int .i64 b),.d (.int .u32 n)]:=(v.fr (B+3) a6 a6 a6 a6).trans m;have t:g3 (B+3)=l:=(v.gen (B+3) a6 a6 a6).trans p;simp only[go_sem,s,t];refine bn aa rfl (nr I 1 2 a7) (B+14) G D H u _ _ Yf y E Yg Yh ?_;exact j3
def QR(t:nq k fs P f V)(a b n:Int):dv 153 [.agg ((bQ ⟨7,a,b,n⟩).map .d)] (Emit.xd fs P f V ⟨7,a,b,n⟩) k:=by
 intro B G D H u code holes g ob an U hl hh;have d':=an.gB;have ec:=an.dB;have ef:=an.hB;have c6:=an.gd;have cz:=an.gh;have dd:=an.dh;refine hdM B [G,D,H] Tryz.func153 rfl [] Wk an.top λO bo s0 w0=>?_;have Q:∀k,(G=B+k)=False:=λk=>by simp;omega
 have n2:∀k,(D=B+k)=False:=λk=>by simp;omega
 have n3:∀k,(H=B+k)=False:=λk=>by simp;omega
 have y:=an.oG;unfold bG.cells at y;rw[t.fn]at y;have W:Emit.xd fs P f V ⟨7,a,b,n⟩=(aw (Emit.lR P f V 1 1) (aw (ao 15 1 1 0) (Emit.nk P f V 1 1))):=by simp[Emit.xd]
 rw[W]at hl hh|-;simp only[aw,ao,ax,Emit.lR,Emit.nk,j4,j6,j7]at hl hh;simp only[go_sem,bQ];obtain⟨l,j⟩:∃x,nxC 253 (g (B+3))=x:=⟨_,rfl⟩
 have Y:eY (B+10) G D H k code holes (upd g (B+3) l) (upd ob (B+3) (S [.d (.int .i64 7),.d (.int .i64 a),.d (.int .i64 b),.d (.int .u32 n)])):=(an.up a6).upd a6 a6 a6 a6 _ _;have w:cY B G D H g ob (upd g (B+3) l) (upd ob (B+3) (S [.d (.int .i64 7),.d (.int .i64 a),.d (.int .i64 b),.d (.int .u32 n)])):=⟨λi Z _ _=>nu,λi Z _ _ _=>nu⟩
 have A:upd g (B+3) l G=u:=by simp only[upd];rw[j8 a6];exact U
 rw[j];refine bn aa rfl (lC t 1 1 a7) (B+10) G D H u _ _ WE A Y WG WH ?_;intro r I ad o h;have J:I G=u:=(h.gen G a6 an.gd an.gh).trans A;have c:ad (B+3)=S [.d (.int .i64 7),.d (.int .i64 a),.d (.int .i64 b),.d (.int .u32 n)]:=(h.fr (B+3) a6 a6 a6 a6).trans Wl;have e:I (B+3)=l:=(h.gen (B+3) a6 a6 a6).trans Wl;simp only[go_sem,c,e];refine bn aa rfl (eZ 15 1 1 0 k) (B+10) G D H u _ _ WK J o WL WM ?_;intro r K b3 S2 s;have cm:K G=u:=(s.gen G a6 an.gd an.gh).trans J;have m:b3 (B+3)=S [.d (.int .i64 7),.d (.int .i64 a),.d (.int .i64 b),.d (.int .u32 n)]:=(s.fr (B+3) a6 a6 a6 a6).trans c;have p:K (B+3)=l:=(s.gen (B+3) a6 a6 a6).trans e;simp only[go_sem,m,p];refine bn aa rfl (nr t 1 1 a7) (B+10) G D H u _ _ Xp cm S2 Xq Xr ?_;intro r g3 cf E v;simp only[go_sem];refine⟨_,ae.refl _,?_⟩;simp only[go_sem];exact an.pack E (w.trans (cY.down (h.trans (s.trans v)) a6)) YB YB (q:=[]) rfl
def QS(s:nq k fs P f V)(a b n:Int):dv 154 [.agg ((bQ ⟨8,a,b,n⟩).map .d)] (Emit.xd fs P f V ⟨8,a,b,n⟩) k:=by
 intro B G D H u code holes g ob an m hl hh;have I:=an.gB;have J:=an.dB;have ef:=an.hB;have K:=an.gd;have U:=an.gh;have Y:=an.dh;refine hdM B [G,D,H] Tryz.func154 rfl [] Wk an.top λO bo s0 w0=>?_;have Q:∀k,(G=B+k)=False:=λk=>by simp;omega
 have t:∀k,(D=B+k)=False:=λk=>by simp;omega
 have v:∀k,(H=B+k)=False:=λk=>by simp;omega
 have e:=an.oG;unfold bG.cells at e;rw[s.fn]at e;have W:Emit.xd fs P f V ⟨8,a,b,n⟩=(ax 18 0 f a):=by simp[Emit.xd]
 rw[W]at hl hh|-;simp only[go_sem,bQ];obtain⟨l,j⟩:∃x,nxC 253 (g (B+3))=x:=⟨_,rfl⟩
 have y:eY (B+12) G D H k code holes (upd g (B+3) l) (upd ob (B+3) (S [.d (.int .i64 8),.d (.int .i64 a),.d (.int .i64 b),.d (.int .u32 n)])):=(an.up a6).upd a6 a6 a6 a6 _ _;have w:cY B G D H g ob (upd g (B+3) l) (upd ob (B+3) (S [.d (.int .i64 8),.d (.int .i64 a),.d (.int .i64 b),.d (.int .u32 n)])):=⟨λi E _ _=>nu,λi E _ _ _=>nu⟩
 have A:upd g (B+3) l G=u:=by simp only[upd];rw[j8 a6];exact m
 rw[j];refine bh b9 ?_;simp only[go_sem,Q,t,v,e,m];refine bn aa rfl (Dr 18 0 f a) (B+12) G D H u _ _ WE A y WG WH ?_;exact sr
def QT(m:nq k fs P f V)(a b n:Int):dv 156 [.agg ((bQ ⟨9,a,b,n⟩).map .d)] (Emit.xd fs P f V ⟨9,a,b,n⟩) k:=by
 intro B G D H u code holes g ob an E hl hh;have U:=an.gB;have Y:=an.dB;have ef:=an.hB;have Z:=an.gd;have cz:=an.gh;have dd:=an.dh;refine hdM B [G,D,H] Tryz.func156 rfl [] Wk an.top λO bo s0 w0=>?_;have Q:∀k,(G=B+k)=False:=λk=>by simp;omega
 have n2:∀k,(D=B+k)=False:=λk=>by simp;omega
 have n3:∀k,(H=B+k)=False:=λk=>by simp;omega
 have s:=an.oG;unfold bG.cells at s;rw[m.fn]at s;have W:Emit.xd fs P f V ⟨9,a,b,n⟩=(aw (Emit.lR P f V 1 1) (ax 19 1 f a)):=by simp[Emit.xd]
 rw[W]at hl hh|-;simp only[aw,ao,ax,Emit.lR,Emit.nk,j4,j6,j7]at hl hh;simp only[go_sem,bQ];obtain⟨l,j⟩:∃x,nxC 253 (g (B+3))=x:=⟨_,rfl⟩
 have I:eY (B+14) G D H k code holes (upd g (B+3) l) (upd ob (B+3) (S [.d (.int .i64 9),.d (.int .i64 a),.d (.int .i64 b),.d (.int .u32 n)])):=(an.up a6).upd a6 a6 a6 a6 _ _;have w:cY B G D H g ob (upd g (B+3) l) (upd ob (B+3) (S [.d (.int .i64 9),.d (.int .i64 a),.d (.int .i64 b),.d (.int .u32 n)])):=⟨λi J _ _=>nu,λi J _ _ _=>nu⟩
 have A:upd g (B+3) l G=u:=by simp only[upd];rw[j8 a6];exact E
 rw[j];refine bn aa rfl (lC m 1 1 a7) (B+14) G D H u _ _ WE A I WG WH ?_;intro r v K o h;have y:v G=u:=(h.gen G a6 an.gd an.gh).trans A;have c:K (B+3)=S [.d (.int .i64 9),.d (.int .i64 a),.d (.int .i64 b),.d (.int .u32 n)]:=(h.fr (B+3) a6 a6 a6 a6).trans Wl;have e:v (B+3)=l:=(h.gen (B+3) a6 a6 a6).trans Wl;simp only[go_sem,c,e];refine bh b9 ?_;have t:=o.oG;unfold bG.cells at t;rw[m.fn]at t;simp only[go_sem,t,y,c,e];refine bn aa rfl (Dr 19 1 f a) (B+14) G D H u _ _ WK y o WL WM ?_;exact gT
def MY(e:nq k fs P f V)(a b n:Int){c:Nat}{y:Src.CFn}(s:a=(c:Int))(t:fs[c]?=S y):dv 157 [.agg ((bQ ⟨10,a,b,n⟩).map .d)] (Emit.xd fs P f V ⟨10,a,b,n⟩) k:=by
 intro B G D H u code holes g ob an v hl hh;have J:=an.gB;have K:=an.dB;have ef:=an.hB;have U:=an.gd;have Y:=an.gh;have Z:=an.dh;refine hdM B [G,D,H] Tryz.func157 rfl [] Wk an.top λO bo s0 w0=>?_;have Q:∀k,(G=B+k)=False:=λk=>by simp;omega
 have n2:∀k,(D=B+k)=False:=λk=>by simp;omega
 have n3:∀k,(H=B+k)=False:=λk=>by simp;omega
 have m:=an.oG;unfold bG.cells at m;rw[e.fn]at m;have W:Emit.xd fs P f V ⟨10,a,b,n⟩=(Emit.Es fs P f V a):=by simp[Emit.xd]
 rw[W]at hl hh|-;simp only[go_sem,bQ];obtain⟨l,j⟩:∃x,nxC 253 (g (B+3))=x:=⟨_,rfl⟩
 have E:eY (B+7) G D H k code holes (upd g (B+3) l) (upd ob (B+3) (S [.d (.int .i64 10),.d (.int .i64 a),.d (.int .i64 b),.d (.int .u32 n)])):=(an.up a6).upd a6 a6 a6 a6 _ _;have w:cY B G D H g ob (upd g (B+3) l) (upd ob (B+3) (S [.d (.int .i64 10),.d (.int .i64 a),.d (.int .i64 b),.d (.int .u32 n)])):=⟨λi I _ _=>nu,λi I _ _ _=>nu⟩
 have A:upd g (B+3) l G=u:=by simp only[upd];rw[j8 a6];exact v
 rw[j];refine bn aa rfl (QK e ⟨10,a,b,n⟩ s t) (B+7) G D H u _ _ WE A E WG WH ?_;exact sr
def MZ(e:nq k fs P f V)(a b n:Int):dv 159 [.agg ((bQ ⟨11,a,b,n⟩).map .d)] (Emit.xd fs P f V ⟨11,a,b,n⟩) k:=by
 intro B G D H u code holes g ob an s hl hh;have y:=an.gB;have E:=an.dB;have ef:=an.hB;have I:=an.gd;have J:=an.gh;have K:=an.dh;refine hdM B [G,D,H] Tryz.func159 rfl [] Wk an.top λO bo s0 w0=>?_;have Q:∀k,(G=B+k)=False:=λk=>by simp;omega
 have U:∀k,(D=B+k)=False:=λk=>by simp;omega
 have Y:∀k,(H=B+k)=False:=λk=>by simp;omega
 have m:=an.oG;unfold bG.cells at m;rw[e.fn]at m;have W:Emit.xd fs P f V ⟨11,a,b,n⟩=(Emit.yO fs P f V):=by simp[Emit.xd]
 rw[W]at hl hh|-;simp only[go_sem,bQ];obtain⟨l,j⟩:∃x,nxC 253 (g (B+3))=x:=⟨_,rfl⟩
 have t:eY (B+6) G D H k code holes (upd g (B+3) l) (upd ob (B+3) (S [.d (.int .i64 11),.d (.int .i64 a),.d (.int .i64 b),.d (.int .u32 n)])):=(an.up a6).upd a6 a6 a6 a6 _ _;have w:cY B G D H g ob (upd g (B+3) l) (upd ob (B+3) (S [.d (.int .i64 11),.d (.int .i64 a),.d (.int .i64 b),.d (.int .u32 n)])):=⟨λi v _ _=>nu,λi v _ _ _=>nu⟩
 have A:upd g (B+3) l G=u:=by simp only[upd];rw[j8 a6];exact s
 rw[j];refine bn aa rfl (MW e) (B+6) G D H u _ _ WE A t WG WH ?_;exact sr
def Na(m:nq k fs P f V)(a b n:Int):dv 161 [.agg ((bQ ⟨12,a,b,n⟩).map .d)] (Emit.xd fs P f V ⟨12,a,b,n⟩) k:=by
 intro B G D H u code holes g ob an v hl hh;have K:=an.gB;have U:=an.dB;have ef:=an.hB;have Y:=an.gd;have Z:=an.gh;have dd:=an.dh;refine hdM B [G,D,H] Tryz.func161 rfl [] Wk an.top λO bo s0 w0=>?_;have Q:∀k,(G=B+k)=False:=λk=>by simp;omega
 have n2:∀k,(D=B+k)=False:=λk=>by simp;omega
 have n3:∀k,(H=B+k)=False:=λk=>by simp;omega
 have s:=an.oG;unfold bG.cells at s;rw[m.fn]at s;have W:Emit.xd fs P f V ⟨12,a,b,n⟩=(aw (ao 23 1 0 0) (Emit.nk P f V 1 0)):=by simp[Emit.xd]
 rw[W]at hl hh|-;simp only[aw,ao,ax,Emit.lR,Emit.nk,j4,j6,j7]at hl hh;simp only[go_sem,bQ];obtain⟨l,j⟩:∃x,nxC 253 (g (B+3))=x:=⟨_,rfl⟩
 have y:eY (B+8) G D H k code holes (upd g (B+3) l) (upd ob (B+3) (S [.d (.int .i64 12),.d (.int .i64 a),.d (.int .i64 b),.d (.int .u32 n)])):=(an.up a6).upd a6 a6 a6 a6 _ _;have w:cY B G D H g ob (upd g (B+3) l) (upd ob (B+3) (S [.d (.int .i64 12),.d (.int .i64 a),.d (.int .i64 b),.d (.int .u32 n)])):=⟨λi E _ _=>nu,λi E _ _ _=>nu⟩
 have A:upd g (B+3) l G=u:=by simp only[upd];rw[j8 a6];exact v
 rw[j];refine bn aa rfl (eZ 23 1 0 0 k) (B+8) G D H u _ _ WE A y WG WH ?_;intro r t I o h;have J:t G=u:=(h.gen G a6 an.gd an.gh).trans A;have c:I (B+3)=S [.d (.int .i64 12),.d (.int .i64 a),.d (.int .i64 b),.d (.int .u32 n)]:=(h.fr (B+3) a6 a6 a6 a6).trans Wl;have e:t (B+3)=l:=(h.gen (B+3) a6 a6 a6).trans Wl;simp only[go_sem,c,e];refine bn aa rfl (nr m 1 0 a7) (B+8) G D H u _ _ WK J o WL WM ?_;exact gT
def Nb(m:nq k fs P f V)(a b n:Int):dv 162 [.agg ((bQ ⟨13,a,b,n⟩).map .d)] (Emit.xd fs P f V ⟨13,a,b,n⟩) k:=by
 intro B G D H u code holes g ob an v hl hh;have K:=an.gB;have U:=an.dB;have ef:=an.hB;have Y:=an.gd;have Z:=an.gh;have dd:=an.dh;refine hdM B [G,D,H] Tryz.func162 rfl [] Wk an.top λO bo s0 w0=>?_;have Q:∀k,(G=B+k)=False:=λk=>by simp;omega
 have n2:∀k,(D=B+k)=False:=λk=>by simp;omega
 have n3:∀k,(H=B+k)=False:=λk=>by simp;omega
 have s:=an.oG;unfold bG.cells at s;rw[m.fn]at s;have W:Emit.xd fs P f V ⟨13,a,b,n⟩=(aw (Emit.lR P f V 1 1) (ao 24 1 0 0)):=by simp[Emit.xd]
 rw[W]at hl hh|-;simp only[aw,ao,ax,Emit.lR,Emit.nk,j4,j6,j7]at hl hh;simp only[go_sem,bQ];obtain⟨l,j⟩:∃x,nxC 253 (g (B+3))=x:=⟨_,rfl⟩
 have y:eY (B+8) G D H k code holes (upd g (B+3) l) (upd ob (B+3) (S [.d (.int .i64 13),.d (.int .i64 a),.d (.int .i64 b),.d (.int .u32 n)])):=(an.up a6).upd a6 a6 a6 a6 _ _;have w:cY B G D H g ob (upd g (B+3) l) (upd ob (B+3) (S [.d (.int .i64 13),.d (.int .i64 a),.d (.int .i64 b),.d (.int .u32 n)])):=⟨λi E _ _=>nu,λi E _ _ _=>nu⟩
 have A:upd g (B+3) l G=u:=by simp only[upd];rw[j8 a6];exact v
 rw[j];refine bn aa rfl (lC m 1 1 a7) (B+8) G D H u _ _ WE A y WG WH ?_;intro r t I o h;have J:t G=u:=(h.gen G a6 an.gd an.gh).trans A;have c:I (B+3)=S [.d (.int .i64 13),.d (.int .i64 a),.d (.int .i64 b),.d (.int .u32 n)]:=(h.fr (B+3) a6 a6 a6 a6).trans Wl;have e:t (B+3)=l:=(h.gen (B+3) a6 a6 a6).trans Wl;simp only[go_sem,c,e];refine bn aa rfl (eZ 24 1 0 0 k) (B+8) G D H u _ _ WK J o WL WM ?_;exact gT
end
end
end Go.Proofs.YtednjibjomfhfaaGreatDoor.Low
namespace Go.Am
section
attribute[local congr]ite_cc
section
variable{s:St}{K:St->Prop}{o:Oper}{t:TypeId}{m L x:Operand}{t1 t2:TypeId}{id dh g g2 sz n:Nat}{cells b0:List C}{k:Box K}
section
variable{P:Program}{G:Nat->TI}{O:Bs}{β:Loc}{w:World}{rd:Option Nat}{Φ:St->Loc->List Deferred->World->Prop}{B0:Nat}{Ψ:fW}{cd:Pan}
def wZ(w:World)(f g ty c:TypeId)(b o n d Q sz:Nat)(a:Addr)(cs:List Value)(arr:Array Value)(el:TypeId)(lo l:Nat)
 (u:P.underlying f=S (.slice c))(r:(P.info? c).map (·.size)=S sz)(y:n*sz=z cs)
 (e:∀j v,cs[j]?=S v->w.cell? (a.add j)=S v)(q:w.heap[b]?=S (.cells arr el (lo,l)))(hf:l<=lo\/arr.size<=lo)(E:o+z cs<=arr.size)(U:∀v∈cs,v.oneCell'=T):
  (Builtin.copy_ #[f,g] ty #[.slice (S ⟨b,o,N⟩) n d,.slice (S a) n Q]).run P w=.ok (goInt n) (w.setCells b o cs):=by
 have hl:=run_loadCells_list (P:=P) w a cs e;have A:=run_storeCells_cells (P:=P) b o cs 0 w (λj B=>by simp[World.cell?,q];omega) (λj B=>pN q hf a6) U;cases p:P.info? c with
 |none=>simp[p]at r
 |some i=>
   have l:i.size=sz:=by simpa[p]using r
   simp[Builtin.copy_,run_underlying u,Builtin.lenOf,Builtin.firstCells,sizeOf,typeInfo,p,l,y,hl,A]
def FZ(hT:bp P G){B:Nat}{x y:Operand}(ho:o.op=.call ⟨.builtin .copy,#[x,y],#[t1,t2]⟩)(cd:dQ G t1=T)
 (I:s.ev x=.one (.osl id g sz 0 n))(hg:s.gen id=g)(hy:s.ev y=.one (.osl dh g2 sz 0 n))(cm:s.gen dh=g2)(bc:(bq G t1).size=sz)(t:s.obj id=S cells)(c7:z cells=n*sz)(cz:s.obj dh=S b0)(b6:z b0=n*sz)(bk:0<n)
 (hk:K (St.put {s with obj:=upd s.obj id (S b0)} o.dst (iv .i64 n))):bu (spB P B) o s k:=by
 refine⟨λs'=>s'=St.put {s with obj:=upd s.obj id (S b0)} o.dst (iv .i64 n),λO av β a w V hd next Q hn=>?_,λ_ e=>e▸hk⟩;obtain⟨e,c6,ca,hu,b3⟩:=eV hT cd;rw[ca]at bc;have hv:=V.ev x;rw[I]at hv;simp only[ag,aD]at hv;have hv:=hv.2.2 hg (by simp[t]);have d:=V.ev y;rw[hy]at d;simp only[ag,aD]at d;have d:=d.2.2 cm (by simp[cz]);have Z:=d.spot;rcases pO (off:=0) (n:=n*sz) V Z cz a6 with⟨af,p,vs,cy,hl,bd⟩|⟨p,_⟩
 case inr=>rw[p]at d;have:=d.1;omega
 cases H:β id with
 |none=>rw[H]at hv;have:=hv.1;omega
 |some ad=>
   rw[H]at hv;obtain⟨b2,⟨cap,hv,hc,_⟩|⟨h0,_⟩⟩:=hv
   case inr=>omega
   rw[p]at d;obtain⟨_,⟨cf,d,b5,_⟩|⟨h0,_⟩⟩:=d
   case inr=>omega
   have bs:=V.obj id cells t;rw[H]at bs;obtain⟨hB,arr,el,lo,hi,q,L,bf,bo⟩:=bs.cells b2
   have b7:(P.info? e).map (·.size)=S sz:=by
    obtain⟨i,q1,q2,_⟩:=b3.info;rw[q1,z8,q2,bc]
   have bz:=wZ (P:=P) w t1 t2 o.type e ad.block (ad.off+0) n cap cf sz ⟨af.block,af.off+0,N⟩ vs arr el lo hi hu b7 hl.symm (λj v hj=>by rw[eb];exact bd j v hj) q L.1 a6 cy.one
   have b8:(execOp a.eval o).run P w=.ok (.value (goInt n)) (w.setCells ad.block (ad.off+0) vs):=by
    simp only[I3]at bz hv d|-;simp[execOp,ho,resolve,invoke,hv,d,builtin,bz]
   obtain⟨b1,f1,f2,f3⟩:=fO ad.block vs (ad.off+0) w arr el (lo,hi) q
   have A:∀i,(upd s.obj id (S b0) i).isSome=(s.obj i).isSome:=λi=>by
    simp only[upd];split
    .rename_i he;rw[he,t];rfl
    .rfl
   have m:ft O β s.gen s.obj w β s.gen (upd s.obj id (S b0)) (w.setCells ad.block (ad.off+0) vs):=by
    refine⟨λb hb=>?_,λ_=>l0 _,λi _ b4=>?_⟩
    .have bl:b≠ad.block:=λhe=>hb.2.2 id ad (by simp[t]) H he.symm
     exact Ui
    .exact ra
   have cu:bL O β s w b0 vs:=by
    rw[B1,s6 a6]at cy;exact cy
   have J:Rel O av {s with obj:=upd s.obj id (S b0)} β a (w.setCells ad.block (ad.off+0) vs):=by
    refine⟨V.defers,V.size,λi=>ag.keep m _ (V.f i),λi l r=>?_,λi i' a1 a2 U Y=>V.inj i i' a1 a2 (by rw[<-A i];exact U) (by rw[<-A i'];exact Y),by rw[setCells_size];exact V.base⟩;by_cases b':i=id
    .subst b'
     simp only[upd,B5,w9]at r;subst r;rw[H];refine .ofCells b2 ⟨hB,b1,el,lo,hi,f1,by rw[f2];exact L,by rw[f2];omega,λj c hc=>?_⟩;have dz:j<z b0:=(l8.1 hc).1;rw[f3,l7 a6,show ad.off+j-(ad.off+0)=j by omega];obtain⟨u,cc,E⟩:=cu.2 j c hc;exact⟨u,cc,E.keep m⟩
    .have X:s.obj i=S l:=by
      have h:=r;simp only[upd,j8 b']at h;exact h
     refine(V.obj i l X).keep m (λW an=>heap_setCells_other _ _ _ _ _ (λhb=>b' (V.inj i id W ad (by simp[X]) (by simp[t]) an H hb)))
   have cv:Tr O β s w β {s with obj:=upd s.obj id (S b0)} (w.setCells ad.block (ad.off+0) vs):=
    ⟨by rw[setCells_size];exact l0 _,λb hb=>heap_setCells_other _ _ _ _ _ a6,m,lO _ _ _ _⟩
   refine fh b8 (hn _ β _ _ rfl (J.put hd ?_) (cv.trans (Tr.same (St.put_gen _ _ _) (St.put_obj _ _ _) rfl)));simp only[ag,aD];exact .int _ _
def CR(a:br O Φ)(hT:bp P G){x y:Operand}(ho:o.op=.call ⟨.builtin .copy,#[x,y],#[t1,t2]⟩)(cd:dQ G t1=T)
 (I:s.ev x=.one (.osl id g sz 0 n))(b:s.gen id=g)(c:s.ev y=.one (.osl dh g2 sz 0 n))(d:s.gen dh=g2)(bc:(bq G t1).size=sz)(t:s.obj id=S cells)(e:z cells=n*sz)(f:s.obj dh=S b0)(i:z b0=n*sz)(bk:0<n)
 (j:K (St.put {s with obj:=upd s.obj id (S b0)} o.dst (iv .i64 n))):bu (spF P rd O Φ B0 Ψ) o s k:=
 Ag a X2 (FZ (B:=0) (k:=k) hT ho cd I b c d bc t e f i bk j)
def CS(a1:br O Φ){t:Nat}{args:Array Operand}{tys:Array TypeId}(ho:o.op=.call ⟨.value (.tmp t),args,tys⟩){f:FuncId}(hf:s.f t=.one (.d (.fn f))){R:AV->(Nat->Nat)->Obs->Prop}
 (hp:fv P f (args.toList.map s.ev) s.gen s.obj R cd)(I:∀ch g' Z,cd ch g' Z->Ψ ch ⟨s.f,g',Z⟩)(hk:∀r g' Z,R r g' Z->K (St.put ⟨s.f,g',Z⟩ o.dst r)):bu (spF P rd O Φ B0 Ψ) o s k:=by
 refine⟨λj=>∃r g' Z,R r g' Z/\j=St.put ⟨s.f,g',Z⟩ o.dst r,λav β a ds w V A c next Q hn g=>?_,λ_⟨r,g',Z,V,e⟩=>e▸hk r g' Z V⟩;have l:aX o=T:=by simp[aX,ho]
 refine iC l ?_;have hv:=V.f t;rw[hf]at hv;simp only[ag,aD]at hv;have hv:a.tmps.getD t undef=.func (.func f) #[] #[]:=by generalize a.tmps.getD t undef=v at hv;cases hv;rfl
 have bz:(execOp a.eval o).run P w=.ok (.enter f (args.map a.eval)) w:=by
  exact mc
 unfold Oper.wp;rw[bz];exact S4
def Ao(hT:bp P G){B:Nat}(ho:o.op=.insert t m L x)(h:eR G t s (s.ev m) (s.ev L) (s.ev x) (bx λs'=>K (s'.put o.dst uv))):bu (spB P B) o s k:=by
 refine⟨K,λO e β a w V hd next Q b=>?_,λ_ h=>h⟩;obtain⟨s',w',U,Y,c,d⟩:=mH hT V h (V.ev m) (V.ev L) (V.ev x);exact vB (w':=w') (by simp[execOp,ho,Y]) (b _ _ _ _ U (c.put hd cL) (d.trans (Tr.same (St.put_gen _ _ _) (St.put_obj _ _ _) rfl)))
def yI(a:br O Φ)(hT:bp P G)(ho:o.op=.insert t m L x)(h:eR G t s (s.ev m) (s.ev L) (s.ev x) (bx λb=>K (b.put o.dst uv))):bu (spF P rd O Φ B0 Ψ) o s k:=
 Ag a X2 (Ao (B:=0) (k:=k) hT ho h)
end
section
variable{an:Sp}{G:Nat->TI}
@[go_sem]def PV{dst:Option Tmp}{ty:TypeId}{ps:String}{H:Array Edge}{gd:Option (Nat×Bool)}:opA an G ⟨dst,.insert t m L x,ty,ps,H,gd⟩ s k=bu an ⟨dst,.insert t m L x,ty,ps,H,gd⟩ s k:=A6 rfl rfl
end
end
end
end Go.Am
namespace Go.Proofs.YtednjibjomfhfaaGreatDoor.Low
section
open Go Go.Am Go.Lower
open Go.Emit (Wr ao ax aw sJ fQ)
attribute[local congr]ite_cc
section
def Je:List C:=[.d (.int .i64 1),.d (.fn 144),.d (.int .i64 2),.d (.fn 147),.d (.int .i64 3),.d (.fn 148),.d (.int .i64 4),.d (.fn 150),.d (.int .i64 5),.d (.fn 151),.d (.int .i64 6),.d (.fn 152),.d (.int .i64 7),.d (.fn 153),.d (.int .i64 8),.d (.fn 154),.d (.int .i64 9),.d (.fn 156),.d (.int .i64 10),.d (.fn 157),.d (.int .i64 11),.d (.fn 159),.d (.int .i64 12),.d (.fn 161),.d (.int .i64 13),.d (.fn 162)]
def Ds{g:Nat->Nat}{ob:Obs}(B:Nat):
  fv Tryz.prog 90 [] g ob (λr g' Z=>r=.one (.mp (B+1) (g' (B+1)) 3)/\Z (B+1)=S Je/\∀i,i<B\/B+3<=i->g' i=g i/\Z i=ob i) (λ_ _ _=>False):=by
 refine hdX B Tryz.func90 rfl [.tmp 0] λO bo s0 w0=>?_;have c:∀a b:Int,kE (.int .i64 a) (.int .i64 b)=decide (a=b):=λa b=>by simp[kE]
 simp only[go_sem]
 iterate 13 (refine yI aa aR rfl ?_;simp only[go_sem,mset,c,s7,K7,R1,A3])
 refine⟨_,ae.refl _,?_⟩;simp only[go_sem];exact⟨rfl,rfl,λi d=>⟨nu,nu⟩⟩
structure EX (fs:List Src.CFn) (x:Ins):Prop where
 op:1<=x.op/\x.op<=13
 c:x.op=10->∃(c:Nat)(y:Src.CFn),x.a=(c:Int)/\fs[c]?=some y
variable{k:bG}{fs:List Src.CFn}{P:Emit.Plan}
def UW{f:Nat}{V:Int}(e:nq k fs P f V){x:Ins}(h:EX fs x):∃fn,mget Je (.int .i64 x.op)=S (.d (.fn fn))/\dv fn [.agg ((bQ x).map .d)] (Emit.xd fs P f V x) k:=by
 obtain⟨⟨U,Y⟩,g⟩:=h;obtain⟨op,a,b,n⟩:=x;simp only at U Y g;have:op=1\/op=2\/op=3\/op=4\/op=5\/op=6\/op=7\/op=8\/op=9\/op=10\/op=11\/op=12\/op=13:=a6;rcases this with rfl|rfl|rfl|rfl|rfl|rfl|rfl|rfl|rfl|rfl|rfl|rfl|rfl
 .exact⟨144,rfl,QL e a b n⟩
 .exact⟨147,rfl,QM e a b n⟩
 .exact⟨148,rfl,QN e a b n⟩
 .exact⟨150,rfl,QO e a b n⟩
 .exact⟨151,rfl,QP e a b n⟩
 .exact⟨152,rfl,QQ e a b n⟩
 .exact⟨153,rfl,QR e a b n⟩
 .exact⟨154,rfl,QS e a b n⟩
 .exact⟨156,rfl,QT e a b n⟩
 .obtain⟨c,y,i,j⟩:=g rfl
  exact⟨157,rfl,MY e a b n i j⟩
 .exact⟨159,rfl,MZ e a b n⟩
 .exact⟨161,rfl,Na e a b n⟩
 .exact⟨162,rfl,Nb e a b n⟩
section
variable{O:Bs}{rd:Option Nat}{j:St->Am.Loc->List Deferred->World->Prop}
def Nc{e:fW}{g:Nat}(i:br O j){o:Oper}{s:St}{K:St->Prop}{b:Box K}{t:Nat}{f:FuncId}{args:Array Operand}{tys:Array TypeId}(ho:o.op=.call ⟨.value (.tmp t),args,tys⟩)(hf:s.f t=.one (.d (.fn f))){xs:List AV}{w:Nat->Wr}(hw:dv f xs w k)(c G D H u:Nat)(code:List jm)(holes:List kL)
 (I:args.toList.map s.ev=.one (.ptr G u 0)::xs)(hg:s.gen G=u)(an:eY c G D H k code holes s.gen s.obj)(hl:z code+(w (z code)).code.length<=100000000)(a:z holes+(w (z code)).holes.length<=100000000)
 (l:∀r g' Z,eY c G D H k (code++(w (z code)).code) (holes++(w (z code)).holes) g' Z->cY c G D H s.gen s.obj g' Z->K (St.put ⟨s.f,g',Z⟩ o.dst r)):bu (spF Tryz.prog rd O j g e) o s b:=by
 refine CS (R:=λ_ g' Z=>eY c G D H k (code++(w (z code)).code) (holes++(w (z code)).holes) g' Z/\cY c G D H s.gen s.obj g' Z) (cd:=λ_ _ _=>False) i ho hf Yv (λ_ _ _ h=>h.elim) ?_;rintro r g' Z ⟨U,Y⟩;exact l r g' Z U Y
end
def bG.at(k:bG)(f:Nat)(c:C):bG:={k with d3:=.d (.int .i64 (f:Nat)),d4:=c}
structure Bf (k:bG) (fs:List Src.CFn) (P:Emit.Plan) (E Pl gE gP:Nat):Prop where
 s:k.c1=.d (.sl (fs.map sfD))
 ds:k.c2=.d (.sl (P.depths.map λo=>[ksD o]))
 bk:k.c3=.d (ksD P.back)
 b:k.c4=.d (ksD P.base)
 e:k.d0=.osl E gE 1 0 fs.length
 p:k.d1=.osl Pl gP 1 0 fs.length
 dl:P.depths.length=fs.length
 bl:P.back.length=fs.length
 l:P.base.length=fs.length
 fz:fs.length<=1000000
 bz:∀x∈P.base,0<=x/\x<=1000000000000000
 dz:∀ds∈P.depths,∀d∈ds,-1<=d/\d<=1000000000
 pz:∀x∈fs,0<=x.params/\x.params<=1000000/\0<=x.first/\x.first<=1000000000000
 sz:∀x∈fs,x.params<=x.slots/\x.slots<=1000000
def Bf.at{k:bG}{fs:List Src.CFn}{P:Emit.Plan}{E Pl gE gP:Nat}(h:Bf k fs P E Pl gE gP)(f:Nat)(c:C):Bf (k.at f c) fs P E Pl gE gP:=⟨h.s,h.ds,h.bk,h.b,h.e,h.p,h.dl,h.bl,h.l,h.fz,h.bz,h.dz,h.pz,h.sz⟩
def Bf.toP{E Pl gE gP:Nat}(h:Bf k fs P E Pl gE gP){f:Nat}{V:Int}(hf:f<z fs)(hd:-1<=V/\V<=1000000000):nq (k.at f (.d (.int .i64 V))) fs P f V:=
 ⟨h.s,h.ds,h.bk,h.b,rfl,rfl,hf,h.dl,h.bl,h.l,h.fz,h.bz,hd,λx I=>by have:=h.pz x I;omega⟩
end
section
structure Gx (B G D H E Pl gE gP M gM:Nat) (k:bG) (fs:List Src.CFn) (P:Emit.Plan) (code:List jm) (holes:List kL) (ent:List Int) (t:List C) (g:Nat->Nat) (ob:Obs):Prop where
 an:eY B G D H k code holes g ob
 q:Bf k fs P E Pl gE gP
 gE:g E=gE
 gP:g Pl=gP
 gM:g M=gM
 oE:ob E=some (icells ent)
 oP:ob Pl=some t
 oM:ob M=some Je
 eB:E<B
 pB:Pl<B
 mB:M<B
 el:ent.length=fs.length
 pl:t.length=fs.length
 d:[G,D,H,E,Pl,M].Nodup
def Oth(B G D H E Pl:Nat)(g:Nat->Nat)(ob:Obs)(g':Nat->Nat)(Z:Obs):Prop:=∀i,i<B->i≠G->i≠D->i≠H->i≠E->i≠Pl->g' i=g i/\Z i=ob i
variable{code:List jm}{holes:List kL}
def eY.re{B G D H:Nat}{k E:bG}{g g':Nat->Nat}{ob Z:Obs}(an:eY B G D H k code holes g ob)(a:∀i,B<=i->Z i=N)(U:g' D=g D)(Y:g' H=g H)(b:Z G=S (E.cells D (g D) (z code) H (g H) (z holes)))(c:Z D=ob D)(d:Z H=ob H)(f:∀x∈E.all,nX B x):eY B G D H E code holes g' Z:=
 ⟨a,an.gB,an.dB,an.hB,an.gd,an.gh,an.dh,by rw[U,Y];exact b,by rw[c];exact an.oD,by rw[d];exact an.oH,f⟩
def bG.at_low{B:Nat}{k:bG}{f:Nat}{c c':C}(h:∀x∈(k.at f c).all,nX B x)(a:nX B c'):∀x∈(k.at f c').all,nX B x:=λx I=>by
 simp only[bG.all,bG.at,y9,A4,E7]at I h;rcases I with e|e|e|e|e|e|e|e|e|e
 all_goals first|(subst e;trivial)|(subst e;exact a)|exact h x (by simp[e])
def UX{an:Sp}{G:Nat->TI}{id:Nat}{ops:Array Oper}{s:St}{Q:Exit->St->Prop}{q:Box Q}(I:St->Prop)(a:I s)(h:∀f g ob,I ⟨f,g,ob⟩->ll an G id ops ⟨f,g,ob⟩ q):ll an G id ops s q:=h s.f s.gen s.obj a
def UY(B G D H E Pl gE gP M gM u:Nat)(k:bG)(fs:List Src.CFn)(P:Emit.Plan)(code:List jm)(holes:List kL)(ent:List Int)(t:List C)(g:Nat->Nat)(ob:Obs)(f:Nat)(a:Src.CFn)(K:St):Prop:=
 K.f 0=.one (.ptr G u 0)/\K.f 1=iv .i64 f/\K.f 2=.one (.mp M gM 3)/\K.f 6=.one (.ptr (B+6) (K.gen (B+6)) 0)/\K.obj (B+6)=S [.d (.int .i64 a.params),.d (.int .i64 a.slots),.d (.int .i64 a.first),.d (.bool a.word),.d (uI (codeOf a.word a.body))]/\
 eY (B+122) G D H (k.at f k.d4) (code++(Emit.HS fs P f (z code)).code) (holes++(Emit.HS fs P f (z code)).holes) K.gen K.obj/\K.obj E=S (icells (ent.set f (z code)))/\K.gen E=gE/\K.obj Pl=S t/\K.gen Pl=gP/\K.gen G=u/\Oth B G D H E Pl g ob K.gen K.obj
def Dt{B G D H E Pl gE gP M gM u:Nat}{k:bG}{fs:List Src.CFn}{P:Emit.Plan}{ent:List Int}{t:List C}{g:Nat->Nat}{ob:Obs}(b1:Gx B G D H E Pl gE gP M gM k fs P code holes ent t g ob)(hg:g G=u)
 {f:Nat}{fx:Src.CFn}{ds:List Int}(hf:fs[f]?=S fx)(b4:P.depths[f]?=S ds){A:Lower.Code}(cm:codeOf fx.word fx.body=A)(dp:z ds=z A)(hz:z A<=100000000)(bd:∀x∈A,EX fs x.1)
 (hl:∀j,j<=z A->z code+(Emit.tZ fs P f A ds j (z code)).code.length<=100000000)(hh:∀j,j<=z A->z holes+(Emit.tZ fs P f A ds j (z code)).holes.length<=100000000):
  fv Tryz.prog 92 [.one (.ptr G u 0),iv .i64 f,.one (.mp M gM 3)] g ob (λ_ g' Z=>(∃c4,Gx (B+122) G D H E Pl gE gP M gM (k.at f c4) fs P (code++(Emit.tZ fs P f A ds (z A) (z code)).code) (holes++(Emit.tZ fs P f A ds (z A) (z code)).holes) (ent.set f (z code)) (t.set f (.osl (B+71) (g' (B+71)) 1 0 (z A))) g' Z)/\
   Z (B+71)=S (icells (Emit.placesOf fs P f A ds (z code)))/\g' G=u/\Oth B G D H E Pl g ob g' Z) (λ_ _ _=>False):=by
 have b7:f<z fs:=(l8.1 hf).1;have hQ:=b1.q;have d':=b1.an.gB;have ec:=b1.an.dB;have ef:=b1.an.hB;have im:=b1.eB;have ix:=b1.pB;have fw:=b1.mB;have b5:=b1.d;simp only[N9,y9,A4,E7,TW,M3,TX,LB]at b5;obtain⟨⟨c6,cz,e1,e4,f'⟩,⟨dd,et,e2,ha⟩,⟨ev,e3,hb⟩,⟨gb,hc⟩,hj⟩:=b5;refine hdX B Tryz.func92 rfl [] λO bo s0 w0=>?_;have ho:=b1.an.oG;unfold bG.cells at ho;rw[hQ.s,hQ.ds,hQ.bk,hQ.b,hQ.e,hQ.p]at ho;have eo:=hQ.fz;have dc:(0:Int)<=(f:Int):=a6;have bc:(f:Int)<(z fs:Int):=a6;have a':=b1.el;have dk:=b1.pl;have Q:∀k,(G=B+k)=False:=λk=>by simp;omega
 have n2:∀k,(E=B+k)=False:=λk=>by simp;omega
 have n3:∀k,(Pl=B+k)=False:=λk=>by simp;omega
 have w:∀k,(D=B+k)=False:=λk=>by simp;omega
 have n5:∀k,(H=B+k)=False:=λk=>by simp;omega
 have n6:(E=G)=False:=by simp[A9 e1]
 have n7:(Pl=G)=False:=by simp[A9 e4]
 have n8:(G=E)=False:=by simp[e1]
 have cc:IntKind.i64.wrap ((z fs:Int)-1)=(z fs:Int)-1:=by rw[wrap_i64]<;>omega
 have fo:=b1.gE;have hk:=b1.gP;have hn:=b1.oE;simp only[go_sem,ho,hg,j5,dc,bc,b7,hf,sfD,Q];refine bh b9 ?_;have m1:∀k,(B+k=G)=False:=λk=>by simp;omega
 have m2:∀k,(B+k=E)=False:=λk=>by simp;omega
 have m3:∀k,(B+k=Pl)=False:=λk=>by simp;omega
 have n9:(D=G)=False:=by simp[A9 c6]
 have hs:(D=E)=False:=by simp[et]
 have gi:(H=G)=False:=by simp[A9 cz]
 have ht:(H=E)=False:=by simp[ev]
 have hv:(Pl=E)=False:=by simp[A9 gb]
 have hp:(E=Pl)=False:=by simp[gb]
 have hy:(G=Pl)=False:=by simp[e4]
 have h9:(S (fB code)).isSome=T:=rfl;have eh:=hQ.bl;obtain⟨bf,c⟩:=getq (show f<z P.back by omega);have cu:(f:Int)<(z P.back:Int):=a6;have cf:f<z P.back:=a6;have cy:=l5 hf;obtain⟨e9,ca,cb,b2⟩:=hQ.pz fx cy;obtain⟨i',bz⟩:=hQ.sz fx cy;have b':IntKind.i64.wrap (fx.first+fx.params)=fx.first+fx.params:=by rw[wrap_i64]<;>omega
 have ch:IntKind.i64.wrap (fx.first+fx.slots)=fx.first+fx.slots:=by rw[wrap_i64]<;>omega
 have cx:=hl 0 (L5 _);have hq:=hh 0 (L5 _);simp only[Emit.tZ]at cx hq
 have S0:∀(g':Nat->Nat)(Z:Obs),(∀i,B+122<=i->Z i=N)->g' D=g D->g' H=g H->Z D=ob D->Z H=ob H->Z G=S [k.c0,k.c1,k.c2,k.c3,k.c4,k.c5,.osl D (g D) 4 0 (z code),k.d0,k.d1,.osl H (g H) 3 0 (z holes),.d (.int .i64 (f:Nat)),k.d4]->eY (B+122) G D H (k.at f k.d4) code holes g' Z:=λg' Z U Y h3 h4 h5 h6=>by
  have SU:=b1.an.up (B':=B+122) a6;refine⟨U,SU.gB,SU.dB,SU.hB,SU.gd,SU.gh,SU.dh,?_,by rw[h4];exact SU.oD,by rw[h5];exact SU.oH,λx I=>?_⟩
  .rw[h6,Y,h3];rfl
  .have bs:=SU.low
   simp only[bG.all,bG.at,y9,A4,E7]at I bs;rcases I with e|e|e|e|e|e|e|e|e|e
   all_goals first|(subst e;trivial)|exact bs x (by simp[e])
 by_cases cv:(f:Int)=(z fs:Int)-1
 case' pos=>
  have W:Emit.HS fs P f=fQ:=l7 a6;simp only[go_sem,ho,hg,j5,dc,bc,b7,hf,sfD,Q,n2,w,n6,n8,n9,hs,gi,ht,fo,hn,a',cO,b1.an.oD,cc,s9 cv];refine⟨a6,?_⟩;refine UX (UY B G D H E Pl gE gP M gM u k fs P code holes ent t g ob f fx) ⟨by simp only[go_sem],by simp only[go_sem],by simp only[go_sem],by simp only[go_sem],?_,?_,?_,?_,?_,?_,?_,λi hi U Y h3 h4 h5=>⟨?_,?_⟩⟩ ?_
  .simp only;(try simp only[upd]);(repeat rw[j8 (by omega)])
   rw[l7 trivial]
  .rw[W]
   simp only[fQ,s5];refine S0 _ _ (λi hi=>?_) ?_ ?_ ?_ ?_ ?_
   .exact nt (b1.an.top i a6)
   .exact hx
   .exact hx
   .exact hx
   .exact hx
   .simp only[upd];rw[j8 e1,l7 trivial,hQ.s,hQ.ds,hQ.bk,hQ.b,hQ.e,hQ.p]
  .simp only[upd];rw[l7 trivial,iZ]
  .exact nt (fo)
  .exact nt (b1.oP)
  .exact nt (hk)
  .exact nt (hg)
  .exact hx
  .exact hx
 case' neg=>
  have W:Emit.HS fs P f=aw (ao 17 14 0 bf) (Emit.yQ (fx.first+fx.params) (fx.first+fx.slots)):=by
   unfold Emit.HS;rw[j8 a6,hf,c];rfl
  simp only[go_sem,ho,hg,j5,dc,bc,b7,hf,sfD,Q,n2,w,n6,n8,n9,hs,gi,ht,fo,hn,a',cO,b1.an.oD,cc,cv,c,cu,cf,ksD];refine⟨a6,?_⟩;rw[W]at cx hq;simp only[aw,ao,j4,j6,j7,B9]at cx hq;refine bn aa rfl (eZ 17 14 0 bf (k.at f k.d4)) (B+122) G D H u code holes Wh ?_ (S0 _ _ (λi hi=>?_) ?_ ?_ ?_ ?_ ?_) YA (by simp only[ao,j7];omega) ?_
  .exact nt (hg)
  .exact nt (b1.an.top i a6)
  .exact hx
  .exact hx
  .exact hx
  .exact hx
  .simp only[upd];rw[j8 e1,l7 trivial,hQ.s,hQ.ds,hQ.bk,hQ.b,hQ.e,hQ.p];rfl
  intro r1 g1 ad o h;have b8:g1 G=u:=(h.gen G a6 c6 cz).trans (nt (hg));have p6:ad (B+6)=S [.d (.int .i64 fx.params),.d (.int .i64 fx.slots),.d (.int .i64 fx.first),.d (.bool fx.word),.d (uI (codeOf fx.word fx.body))]:=(h.fr (B+6) Yi Yi Yi Yi).trans (by (try simp only[upd]);(repeat rw[j8 (by omega)]);rw[l7 trivial]);have g6:g1 (B+6)=nxC 142 (g (B+6)):=(h.gen (B+6) a6 a6 a6).trans Wl;simp only[go_sem,p6,g6,b',ch];refine bn aa rfl (MX (fx.first+fx.params) (fx.first+fx.slots) Yi Yi Yi) (B+122) G D H u _ _ Wh b8 o (by simp only[ao,j4,j6,j7,B9];omega) (by simp only[ao,j4,j6,j7,B9,s5];omega) ?_;intro r2 g2 b3 S2 K2;have h':=(K2.fr (B+6) a6 a6 a6 a6).trans p6;have ia:=(K2.gen (B+6) a6 a6 a6).trans g6;simp only[go_sem];refine UX (UY B G D H E Pl gE gP M gM u k fs P code holes ent t g ob f fx) ⟨by simp only[go_sem],by simp only[go_sem],by simp only[go_sem],by simp only[go_sem,ia],h',?_,?_,?_,?_,?_,(K2.gen G a6 c6 cz).trans b8,λi hi U Y h3 h4 h5=>⟨?_,?_⟩⟩ ?_
  .rw[W]
   simp only[aw,<-l6];simp only[j4]at S2;exact S2
  .refine(K2.fr E a6 (A9 e1) (A9 et) (A9 ev)).trans ((h.fr E a6 (A9 e1) (A9 et) (A9 ev)).trans ?_)
   simp only[upd];rw[l7 trivial,iZ]
  .refine(K2.gen E a6 (A9 et) (A9 ev)).trans ((h.gen E a6 (A9 et) (A9 ev)).trans ?_)
   exact nt (fo)
  .refine(K2.fr Pl a6 (A9 e4) (A9 e2) (A9 e3)).trans ((h.fr Pl a6 (A9 e4) (A9 e2) (A9 e3)).trans ?_)
   exact nt (b1.oP)
  .refine(K2.gen Pl a6 (A9 e2) (A9 e3)).trans ((h.gen Pl a6 (A9 e2) (A9 e3)).trans ?_)
   exact nt (hk)
  .refine(K2.gen i a6 Y h3).trans ((h.gen i a6 Y h3).trans ?_)
   exact hx
  .refine(K2.fr i a6 U Y h3).trans ((h.fr i a6 U Y h3).trans ?_)
   exact hx
 all_goals
  clear ho S0;rintro fa g1 ad ⟨q0,q1,q2,q6,o6,o,an,a1,V,r,b8,O1⟩;simp only at q0 q1 q2 q6 o6 o an a1 V r b8 O1;have ho:=o.oG;unfold bG.cells at ho;rw[(hQ.at f k.d4).s,(hQ.at f k.d4).ds,(hQ.at f k.d4).bk,(hQ.at f k.d4).b,(hQ.at f k.d4).e,(hQ.at f k.d4).p]at ho
  skip
  refine dS aR mixed aa [B+71,Pl] [([0],[0],[],F),([63],[0],[],F),([64],[0],[],F),([65],[0],[],F),([1],[0],[],F),([6],[],[],F),([68],[],[],F),([69],[],[],F),([70],[],[0],F),([66,67],[],[],F),([72,71],[],[],T)] 2 rfl b9 rfl Wk ?_;simp only[go_sem]
  iterate 5 (apply ay;(case hg=>first|exact w8|exact⟨_,rfl,by decide,rfl⟩);(case U=>intro fa ga oa K' J;simp only[go_sem,q0,q1,q2,q6,b8,Q,n3,n7,ho,j5]at J|-;exact J))
  iterate 3 (apply ay;(case hg=>first|exact w8|exact⟨_,rfl,by decide,rfl⟩);(case U=>intro fa ga oa K' J;simp only[go_sem,q0,q1,q2,q6,o6,Q,n3,n7,ho,cm,j5]at J|-;exact J))
  refine de (a:=0) (v:=.one (.osl (B+71) (nxC 4 (g1 (B+71))) 1 0 (z A))) (x:=nxC 4 (g1 (B+71))) (y:=S (icells (List.replicate (z A) 0))) w8 (λfa ga oa K' J=>?_) ?_
  .simp only[go_sem,aZ,Q,n3,n7]at J|-
   refine⟨l0 _,a6,a6,?_⟩;rw[show (List.replicate (z A) [C.d (.int .i64 0)]).flatten=icells (List.replicate (z A) 0) by rw[pj,icells,Ov]];exact J
  (apply ay;(case hg=>first|exact w8|exact⟨_,rfl,by decide,rfl⟩);(case U=>intro fa ga oa K' J;simp only[go_sem,q0,q1,q2,q6,V,r,Q,n3,n7,dc,bc,b7,dk]at J|-;exact J))
  refine dU w8 ?_;intro K' b0;simp only[go_sem,Q,n3,n7,V,r,dk];refine⟨a6,b0 _ ?_⟩;clear b0 K';simp only[go_sem,q0,q1,q2,q6,o6,n3,m3,cm,j5];have hr:List.replicate (z A) (0:Int)=(List.range 0).map (λj=>((z code+(Emit.tZ fs P f A ds j (z code)).code.length:Nat):Int))++List.replicate (z A-0) 0:=a8
  refine aq (λm K=>∃(j:Nat)(c4:C),m+j=z A/\K.f 0=.one (.ptr G u 0)/\K.f 1=iv .i64 f/\K.f 2=.one (.mp M gM 3)/\K.f 74=.one (.d (uI A))/\K.f 75=iv .i64 (z A)/\K.f 76=iv .i64 j/\
   eY (B+122) G D H (k.at f c4) (code++(Emit.tZ fs P f A ds j (z code)).code) (holes++(Emit.tZ fs P f A ds j (z code)).holes) K.gen K.obj/\K.gen G=u/\K.obj E=S (icells (ent.set f (z code)))/\K.gen E=gE/\K.obj Pl=S (t.set f (.osl (B+71) (K.gen (B+71)) 1 0 (z A)))/\K.gen Pl=gP/\
   K.obj (B+71)=S (icells ((List.range j).map (λj=>((z code+(Emit.tZ fs P f A ds j (z code)).code.length:Nat):Int))++List.replicate (z A-j) 0))/\Oth B G D H E Pl g ob K.gen K.obj) (z A) ?_ ?_
  .refine⟨0,k.d4,rfl,?_⟩
   simp only[go_sem,q0,q1,q2,Q,n2,n3,m1,m2,m3,hp,b8,an,a1,r];refine⟨o.to (λi hi=>nt (o.top i hi)) ?_ ?_ ?_ ?_ ?_,?_,λi hi U Y h3 h4 h5=>⟨?_,?_⟩⟩
   .exact hx
   .exact hx
   .exact hx
   .exact hx
   .exact hx
   .rfl
   .exact nt ((O1 i hi U Y h3 h4 h5).1)
   .exact nt ((O1 i hi U Y h3 h4 h5).2)
  clear ho hr o an a1 V r b8 O1 q0 q1 q2 q6 o6 fo hk hn;clear fa g1 ad;rintro m fa g1 ad ⟨j,c4,hm,q0,q1,q2,e8,e5,e',o,b8,an,a1,V,r,fl,O1⟩;simp only at q0 q1 q2 e8 e5 e' o b8 an a1 V r fl O1;by_cases af:j<z A
  case neg=>
   have b6:¬(j:Int)<(z A:Int):=a6;obtain rfl:j=z A:=a6;simp only[go_sem,e5,e',b6];refine⟨_,ae.refl _,?_⟩;simp only[go_sem];rw[J4,L1,s5]at fl;exact⟨⟨c4,⟨o,hQ.at f c4,a1,r,((O1 M fw (A9 f') (A9 ha) (A9 hb) (A9 hc) (A9 hj)).1).trans b1.gM,an,V,((O1 M fw (A9 f') (A9 ha) (A9 hb) (A9 hc) (A9 hj)).2).trans b1.oM,a6,a6,a6,by rw[D1];exact a',by rw[D1];exact dk,b1.d⟩⟩,fl,b8,O1⟩
  have b6:(j:Int)<(z A:Int):=a6;have ek:(0:Int)<=(j:Int):=a6;obtain⟨⟨x,dx⟩,I⟩:∃y,A[j]?=S y:=⟨_,y8 af⟩
  obtain⟨d,hd⟩:=getq (show j<z ds by omega);have gx:=hQ.dz ds (l5 b4) d (l5 hd);have e7:f<z P.depths:=by have:=hQ.dl;omega
  have gl:(f:Int)<(z P.depths:Int):=by have:=hQ.dl;omega
  have gm:j<z ds:=a6;have gn:(j:Int)<(z ds:Int):=a6;have c7:=ab (k:=j) a6;have gr:bQ x=[.int .i64 x.op,.int .i64 x.a,.int .i64 x.b,.int .u32 x.n]:=rfl;have ho:=o.oG;unfold bG.cells at ho;rw[(hQ.at f c4).s,(hQ.at f c4).ds,(hQ.at f c4).bk,(hQ.at f c4).b,(hQ.at f c4).e,(hQ.at f c4).p]at ho;have h0:(t.set f (.osl (B+71) (g1 (B+71)) 1 0 (z A)))[f]?=S (.osl (B+71) (g1 (B+71)) 1 0 (z A)):=by rw[D9,l7 rfl,l7 a6]
  simp only[go_sem,q0,q1,q2,e8,e5,e',b6,ek,I,uI,j5,gr];have e6:((List.range j).map (λj=>((z code+(Emit.tZ fs P f A ds j (z code)).code.length:Nat):Int))++List.replicate (z A-j) 0).length=z A:=by simp;omega
  obtain⟨L,hL⟩:∃L,(List.range j).map (λj=>((z code+(Emit.tZ fs P f A ds j (z code)).code.length:Nat):Int))++List.replicate (z A-j) 0=L:=⟨_,rfl⟩
  rw[hL]at fl e6;have h9:∀l,(S (fB l)).isSome=T:=λ_=>rfl;refine bh b9 ?_;obtain⟨h7,gj⟩:=O1 M fw (A9 f') (A9 ha) (A9 hb) (A9 hc) (A9 hj);rw[b1.gM]at h7;rw[b1.oM]at gj;have ib:∀k,(M=B+k)=False:=λk=>by simp;omega
  have ic:(M=G)=False:=by simp[A9 f']
  have h8:L.set j ((code++(Emit.tZ fs P f A ds j (z code)).code).length:Nat)=(List.range (j+1)).map (λj=>((z code+(Emit.tZ fs P f A ds j (z code)).code.length:Nat):Int))++List.replicate (z A-(j+1)) 0:=by
   rw[<-hL,J3 _ _ a8,j5,List.length_range,J4,P1,A7,l6];congr 1;obtain⟨X,hz⟩:∃X,z A-j=X+1:=⟨z A-j-1,a6⟩
   rw[hz,show z A-(j+1)=X by omega,E6,G4,j4];rfl
  have fu:=bG.at_low (c':=.d (.int .i64 d)) o.low trivial;by_cases fm:0<=d
  .obtain⟨fn,av,hw⟩:=UW (hQ.toP b7 gx) (bd _ (l5 I))
   simp only at av hw
   have hU:Emit.tZ fs P f A ds (j+1)=aw (Emit.tZ fs P f A ds j) (Emit.xd fs P f d x):=by
    rw[Emit.tZ,I,hd];simp only[fm,B5]
   simp only[go_sem,q0,q1,q2,e8,e5,e',ho,b8,V,r,Q,n2,n3,w,n5,m1,m2,m3,n7,n9,gi,hv,hp,hy,h0,D1,dk,dc,bc,b7,fl,cO,e6,ek,b6,af,o.oD,b4,hd,e7,gl,gm,gn,ksD,j5,setAt,iZ,s9 fm,ib,ic,h7,gj,av,tQ,A2];refine⟨a6,?_⟩;refine Nc aa rfl Wh hw (B+122) G D H u _ _ (by simp only[go_sem,gr]) ?_ (eY.re o (λi hi=>?_) ?_ ?_ ?_ ?_ ?_ fu) ?_ ?_ ?_
   .exact nt (b8)
   .exact nt (o.top i hi)
   .exact hx
   .exact hx
   .exact V6
   .exact hx
   .exact hx
   .have:=hl (j+1) a6
    rw[hU]at this;simp only[aw,j4]at this|-;omega
   .have:=hh (j+1) a6
    rw[hU]at this;simp only[aw,j4]at this|-;omega
   intro r2 g2 b3 S2 K2;have ih:g2 (B+71)=g1 (B+71):=(K2.gen (B+71) a6 a6 a6).trans (nu);simp only[go_sem,e',c7];refine ai (m-1) a6 ⟨j+1,.d (.int .i64 d),a6,?_⟩;simp only[go_sem,q0,q1,q2,e8,e5,uI];refine⟨?_,(K2.gen G a6 c6 cz).trans ?_,(K2.fr E a6 (A9 e1) (A9 et) (A9 ev)).trans ?_,(K2.gen E a6 (A9 et) (A9 ev)).trans ?_,(K2.fr Pl a6 (A9 e4) (A9 e2) (A9 e3)).trans ?_,(K2.gen Pl a6 (A9 e2) (A9 e3)).trans ?_,(K2.fr (B+71) a6 a6 a6 a6).trans ?_,λi hi U Y h3 h4 h5=>⟨(K2.gen i a6 Y h3).trans ?_,(K2.fr i a6 U Y h3).trans ?_⟩⟩
   .rw[hU]
    simp only[aw,<-l6];simp only[j4]at S2;exact S2
   .exact nt (b8)
   .exact nt (an)
   .exact nt (a1)
   .rw[ih];exact nt (V)
   .exact nt (r)
   .simp only[upd];rw[j8 a6,l7 trivial,h8,P1]
   .exact nt ((O1 i hi U Y h3 h4 h5).1)
   .exact nt ((O1 i hi U Y h3 h4 h5).2)
  .have hU:Emit.tZ fs P f A ds (j+1)=aw (Emit.tZ fs P f A ds j) fQ:=by
    rw[Emit.tZ,I,hd];simp only[fm,B8]
   simp only[go_sem,q0,q1,q2,e8,e5,e',ho,b8,V,r,Q,n2,n3,w,n5,m1,m2,m3,n7,n9,gi,hv,hp,hy,h0,D1,dk,dc,bc,b7,fl,cO,e6,ek,b6,af,o.oD,b4,hd,e7,gl,gm,gn,ksD,j5,setAt,iZ,fm];refine⟨a6,?_⟩;refine ai (m-1) a6 ⟨j+1,.d (.int .i64 d),a6,?_⟩;simp only[go_sem,q0,q1,q2,e8,e5,uI,Q,n2,n3,m1,m2,m3,b8,an,a1,r,n6,n7,V,c7];refine⟨?_,?_,λi hi U Y h3 h4 h5=>⟨?_,?_⟩⟩
   .rw[hU]
    simp only[aw,fQ,s5];refine eY.re o (λi hi=>?_) ?_ ?_ ?_ ?_ ?_ fu
    .exact nt (o.top i hi)
    .exact hx
    .exact hx
    .exact V6
    .exact hx
    .exact hx
   .rw[h8,P1]
   .exact nt ((O1 i hi U Y h3 h4 h5).1)
   .exact nt ((O1 i hi U Y h3 h4 h5).2)
end
end
section
open Go Go.Am Go.Lower
open Go.Emit (Wr ao ax aw sJ fQ jV gp)
section
structure xQ (fs:List Src.CFn) (P:Emit.Plan) (d:jV) (f:Nat):Prop where
 ok:∀x,fs[f]?=some x->∀i∈codeOf x.word x.body,EX fs i.1
 dl:∀x ds,fs[f]?=some x->P.depths[f]?=some ds->ds.length=(codeOf x.word x.body).length
 X:∀x,fs[f]?=some x->(codeOf x.word x.body).length<=100000000
 l:∀x ds,fs[f]?=some x->P.depths[f]?=some ds->∀j,j<=(codeOf x.word x.body).length->d.code.length+(Emit.tZ fs P f (codeOf x.word x.body) ds j d.code.length).code.length<=100000000
 h:∀x ds,fs[f]?=some x->P.depths[f]?=some ds->∀j,j<=(codeOf x.word x.body).length->d.holes.length+(Emit.tZ fs P f (codeOf x.word x.body) ds j d.code.length).holes.length<=100000000
structure sV (B0 B G D H E Pl gE gP M gM:Nat) (k:bG) (fs:List Src.CFn) (P:Emit.Plan) (d:jV) (a:List (Nat×Nat)) (g:Nat->Nat) (ob:Obs):Prop where
 b1:∃t,Gx B G D H E Pl gE gP M gM k fs P d.code d.holes d.ent t g ob/\∀f id,(f,id)∈a->∃l,d.pls[f]?=some l/\t[f]?=some (.osl id (g id) 1 0 l.length)/\ob id=some (icells l)/\B0<=id/\id<B
 pl:d.pls.length=fs.length
variable{fs:List Src.CFn}{P:Emit.Plan}
def Du{d:jV}{f:Nat}(h:z d.pls=z fs):z (gp fs P d f).pls=z fs:=by
 unfold gp;split
 .simp only[D1];exact h
 .exact h
def ze(fs:List Src.CFn)(P:Emit.Plan)(f:Nat)(A:Lower.Code)(ds:List Int)(n:Nat):z (Emit.placesOf fs P f A ds n)=z A:=by simp[Emit.placesOf]
def vY{n B G D H E Pl gE gP M gM u:Nat}{k:bG}{d:jV}{a:List (Nat×Nat)}{g:Nat->Nat}{ob:Obs}(X:sV n B G D H E Pl gE gP M gM k fs P d a g ob)(e:n<=B)(L:G<n/\D<n/\H<n/\E<n/\Pl<n)(hg:g G=u){f:Nat}(hf:f<z fs)(ok:xQ fs P d f)(s:∀x∈a,x.1≠f):
  fv Tryz.prog 92 [.one (.ptr G u 0),iv .i64 f,.one (.mp M gM 3)] g ob (λ_ g' Z=>(∃c4,sV n (B+122) G D H E Pl gE gP M gM (k.at f c4) fs P (gp fs P d f) (a++[(f,B+71)]) g' Z)/\g' G=u/\Oth B G D H E Pl g ob g' Z) (λ_ _ _=>False):=by
 obtain⟨⟨t,b1,v⟩,w⟩:=X;obtain⟨m,o⟩:=getq hf;obtain⟨ds,r⟩:=getq (show f<z P.depths by rw[b1.q.dl];exact hf);have y:=ok.X m o;refine(Dt b1 hg o r rfl (ok.dl m ds o r) y (ok.ok m o) (ok.l m ds o r) (ok.h m ds o r)).mono ?_ (λ_ _ _ h=>h);rintro _ g' Z ⟨⟨c4,i⟩,j,c,O⟩
 have b:gp fs P d f=⟨d.code++(Emit.tZ fs P f (codeOf m.word m.body) ds (z (codeOf m.word m.body)) (z d.code)).code,d.holes++(Emit.tZ fs P f (codeOf m.word m.body) ds (z (codeOf m.word m.body)) (z d.code)).holes,d.ent.set f (z d.code),d.pls.set f (Emit.placesOf fs P f (codeOf m.word m.body) ds (z d.code))⟩:=by
  unfold gp;rw[o,r]
 refine⟨⟨c4,⟨_,by rw[b];exact i,λf1 id p=>?_⟩,Du w⟩,c,O⟩;rw[b];rcases D7.1 p with p|p
 .obtain⟨l,U,Y,A,I,J⟩:=v f1 id p
  have bl:f1≠f:=s _ p;obtain⟨o1,K⟩:=O id J a6 a6 a6 a6 a6;exact⟨l,by simp only;rw[D9,j8 (A9 bl)];exact U,by rw[D9,j8 (A9 bl),o1];exact Y,by rw[K];exact A,I,a6⟩
 .obtain⟨rfl,rfl⟩:f1=f/\id=B+71:=by simpa using p
  refine⟨Emit.placesOf fs P f1 (codeOf m.word m.body) ds (z d.code),by simp only;rw[D9,l7 rfl,l7 a6],?_,j,a6,a6⟩;rw[D9,l7 rfl,l7 (by rw[b1.pl];exact hf),ze]
end
def EY:∀{l:List kL}{j:Nat}{h:kL},l[j]?=S h->((nY l).drop (j*3)).take 3=[.d (.int .i64 h.1),.d (.int .i64 h.2.1),.d (.int .i64 h.2.2)]
 |a::l,0,h,e=>by
   cases e;simp[nY]
 |a::l,j+1,h,e=>by
   have b:=EY (l:=l) (j:=j) (h:=h) (by simpa using e);rw[show nY (a::l)=[C.d (.int .i64 a.1),.d (.int .i64 a.2.1),.d (.int .i64 a.2.2)]++nY l by simp[nY],show (j+1)*3=3+j*3 by omega,List.drop_append,y2 a8,x9];simpa using b
def lD(a:jm)(l:List jm):fB (a::l)=[C.d (.int .i64 a.1),.d (.int .i64 a.2.1),.d (.int .i64 a.2.2.1),.d (.int .i64 a.2.2.2)]++fB l:=by simp[fB,Bb]
def qK:∀{l:List jm}{j:Nat}{x:jm}{v:Int},l[j]?=S x->(fB l).set (j*4+3) (.d (.int .i64 v))=fB (l.set j (x.1,x.2.1,x.2.2.1,v))
 |a::l,0,x,v,e=>by
   cases e;simp[lD]
 |a::l,j+1,x,v,e=>by
   have b:=qK (l:=l) (j:=j) (x:=x) (v:=v) (by simpa using e);rw[lD,Ot,lD,<-b,J3 _ _ Wk];simp only[j6,j7];rw[show (j+1)*4+3-(0+1+1+1+1)=j*4+3 by omega]
end
section
open Go Go.Am Go.Lower
open Go.Emit (Wr ao ax aw sJ fQ jV gp)
attribute[local congr]ite_cc
section
section
variable{an:Sp}{G:Nat->TI}
@[go_sem]def UZ{dst:Option Tmp}{ty:TypeId}{ps:String}{H:Array Edge}{gd:Option (Nat×Bool)}{s:St}{K:St->Prop}{k:Box K}{a:Array Operand}{A:Array TypeId}:opA an G ⟨dst,.call ⟨.builtin .copy,a,A⟩,ty,ps,H,gd⟩ s k=bu an ⟨dst,.call ⟨.builtin .copy,a,A⟩,ty,ps,H,gd⟩ s k:=A6 rfl rfl
end
def Gx.up{B B' G D H E Pl gE gP M gM:Nat}{k:bG}{fs:List Src.CFn}{P:Emit.Plan}{code:List jm}{holes:List kL}{ent:List Int}{t:List C}{g:Nat->Nat}{ob:Obs}(b1:Gx B G D H E Pl gE gP M gM k fs P code holes ent t g ob)(h:B<=B'):Gx B' G D H E Pl gE gP M gM k fs P code holes ent t g ob:=
 ⟨b1.an.up h,b1.q,b1.gE,b1.gP,b1.gM,b1.oE,b1.oP,b1.oM,by have:=b1.eB;omega,by have:=b1.pB;omega,by have:=b1.mB;omega,b1.el,b1.pl,b1.d⟩
def sV.up{b B B' G D H E Pl gE gP M gM:Nat}{k:bG}{fs:List Src.CFn}{P:Emit.Plan}{d:jV}{a:List (Nat×Nat)}{g:Nat->Nat}{ob:Obs}(X:sV b B G D H E Pl gE gP M gM k fs P d a g ob)(h:B<=B'):sV b B' G D H E Pl gE gP M gM k fs P d a g ob:=by
 obtain⟨⟨t,b1,c⟩,e⟩:=X;exact⟨⟨t,b1.up h,λf id i=>by obtain⟨l,U,Y,j,m,n⟩:=c f id i;exact⟨l,U,Y,j,m,a6⟩⟩,e⟩
def sV.to{b B G D H E Pl gE gP M gM:Nat}{k:bG}{fs:List Src.CFn}{P:Emit.Plan}{d:jV}{a:List (Nat×Nat)}{g g':Nat->Nat}{ob Z:Obs}(X:sV b B G D H E Pl gE gP M gM k fs P d a g ob)(s:∀i,B<=i->Z i=N)(h:∀i,i=G\/i=D\/i=H\/i=E\/i=Pl\/i=M\/(b<=i/\i<B)->g' i=g i/\Z i=ob i):sV b B G D H E Pl gE gP M gM k fs P d a g' Z:=by
 obtain⟨⟨t,b1,u⟩,v⟩:=X;have m:=h G a8;have W:=h D a8;have c:=h H a8;have e:=h E a8;have n:=h Pl a8;have j:=h M a8;refine⟨⟨t,⟨b1.an.to s W.1 c.1 m.2 W.2 c.2,b1.q,by rw[e.1];exact b1.gE,by rw[n.1];exact b1.gP,by rw[j.1];exact b1.gM,by rw[e.2];exact b1.oE,by rw[n.2];exact b1.oP,by rw[j.2];exact b1.oM,b1.eB,b1.pB,b1.mB,b1.el,b1.pl,b1.d⟩,λf id w=>?_⟩,v⟩;obtain⟨l,U,Y,x,o,p⟩:=u f id w;have r:=h id (by simp[o,p]);exact⟨l,U,by rw[r.1];exact Y,by rw[r.2];exact x,o,p⟩
variable{fs:List Src.CFn}{P:Emit.Plan}
def xR{d:jV}{f:Nat}:z d.code<=z (gp fs P d f).code:=by
 unfold gp;split
 .simp only[j4];omega
 .exact l0 _
def Bg{fs:List Src.CFn}{P:Emit.Plan}:∀k,0<z (Emit.PY fs P k).code
 |0=>F7 a8 (xR (d:=⟨[(1,15,0,1)],[],List.replicate (z fs) 0,List.replicate (z fs) []⟩))
 |k+1=>F7 (Bg k) xR
def nQ(B n:Nat)(k:Nat):List (Nat×Nat):=(n-1,B+271)::(List.range k).map λf=>(f,B+471+200*f)
def Dv(B n k:Nat):nQ B n (k+1)=nQ B n k++[(k,B+400+200*k+71)]:=by
 simp only[nQ,P1,A7,l9,v8,u7];rw[show B+471+200*k=B+400+200*k+71 by omega]
def Jf(d:jV)(n:Nat)(h:kL):Prop:=
 (0<=h.1/\h.1<(z d.code:Int))/\(0<=h.2.1/\h.2.1<(n:Int))/\(0<=h.2.2->∃l:List Int,d.pls[h.2.1.toNat]?=S l/\h.2.2<(z l:Int))
def Nd{B G D H E Pl gE gP u:Nat}{k:bG}{g:Nat->Nat}{ob:Obs}(an:eY B G D H k [] [] g ob)(q:Bf k fs P E Pl gE gP)(hg:g G=u)(hq:g E=gE)(hr:g Pl=gP)(oE:ob E=S (icells (List.replicate (z fs) 0)))(oP:ob Pl=S (List.replicate (z fs) (.d .nsl)))(eB:E<B)(pB:Pl<B)
 (hs:[G,D,H,E,Pl].Nodup)(hn:0<z fs)(ok0:xQ fs P ⟨[(1,15,0,1)],[],List.replicate (z fs) 0,List.replicate (z fs) []⟩ (z fs-1))(okj:∀j,j<z fs-1->xQ fs P (Emit.PY fs P j) j)
 (hz:z (Emit.whole fs P).code<=100000000)(ht:z (Emit.whole fs P).holes<=100000000)(gn:∀h∈(Emit.whole fs P).holes,Jf (Emit.whole fs P) (z fs) h):
  fv Tryz.prog 54 [.one (.ptr G u 0)] g ob (λr g' Z=>r=.one (.osl (B+37) (g' (B+37)) 4 0 (z (Emit.whole fs P).code))/\Z (B+37)=S (fB (Emit.filled (Emit.whole fs P)))/\Oth B G D H E Pl g ob g' Z) (λ_ _ _=>False):=by
 have d':=an.gB;have ec:=an.dB;have ef:=an.hB;have b5:=hs;simp only[N9,y9,A4,E7,TW,M3,TX,LB]at b5;obtain⟨⟨c6,cz,e1,e4⟩,⟨dd,et,e2⟩,⟨ev,e3⟩,gb⟩:=b5;have eo:=q.fz;refine hdX B Tryz.func54 rfl [.tmp 2] λO bo s0 w0=>?_;have cc:IntKind.i64.wrap ((z fs:Int)-1)=((z fs-1:Nat):Int):=by rw[wrap_i64]<;>omega
 simp only[go_sem];refine bX (cd:=λ_ _ _=>False) aa rfl (by simp only[go_sem];exact Ds (B+100)) (λ_ _ _ h=>h.elim) ?_;rintro r g1 ad ⟨rfl,gj,ch⟩;have o:eY (B+200) G D H k [] [] g1 ad:=(an.up (B':=B+200) a6).to (λi hi=>by rw[(ch i a6).2];exact an.top i a6) (ch D a6).1 (ch H a6).1 (ch G a6).2 (ch D a6).2 (ch H a6).2;have b8:g1 G=u:=(ch G a6).1.trans hg;have ho:=o.oG;unfold bG.cells at ho;rw[q.s,q.ds,q.bk,q.b,q.e,q.p]at ho;simp only[go_sem,ho,b8,j5,cc];refine bn aa rfl (eZ 1 15 0 1 k) (B+200) G D H u [] [] Wh b8 o (by simp[ao]) (by simp[ao]) ?_;intro r g2 b3 S2 K2;simp only[x9,s5,ao]at S2;have cm:g2 G=u:=(K2.gen G a6 c6 cz).trans b8;have gr:g2 (B+101)=g1 (B+101):=K2.gen (B+101) a6 a6 a6
 have X0:sV (B+102) (B+200) G D H E Pl gE gP (B+101) (g1 (B+101)) k fs P ⟨[(1,15,0,1)],[],List.replicate (z fs) 0,List.replicate (z fs) []⟩ [] g2 b3:=by
  refine⟨⟨List.replicate (z fs) (.d .nsl),⟨S2,q,?_,?_,gr,?_,?_,?_,a6,a6,a6,a8,a8,?_⟩,λf id hm=>by cases hm⟩,a8⟩
  .exact(K2.gen E a6 (A9 et) (A9 ev)).trans ((ch E a6).1.trans hq)
  .exact(K2.gen Pl a6 (A9 e2) (A9 e3)).trans ((ch Pl a6).1.trans hr)
  .exact(K2.fr E a6 (A9 e1) (A9 et) (A9 ev)).trans ((ch E a6).2.trans oE)
  .exact(K2.fr Pl a6 (A9 e4) (A9 e2) (A9 e3)).trans ((ch Pl a6).2.trans oP)
  .exact(K2.fr (B+101) a6 a6 a6 a6).trans gj
  .simp only[N9,y9,A4,E7,TW,M3,TX,LB]
   exact⟨⟨c6,cz,e1,e4,a6⟩,⟨dd,et,e2,a6⟩,⟨ev,e3,a6⟩,⟨gb,a6⟩,a6⟩
 simp only[go_sem];refine bX (cd:=λ_ _ _=>False) aa rfl (by simp only[go_sem];exact vY (k:=k) X0 a6 ⟨a6,a6,a6,a6,a6⟩ cm (f:=z fs-1) a6 ok0 (λx I=>by cases I)) (λ_ _ _ h=>h.elim) ?_;rintro r g3 cf ⟨⟨c4,X3⟩,y,O3⟩;have hy:=(O3 (B+101) a6 a6 a6 a6 a6 a6).1;rw[gr]at hy;have h0:sV (B+102) (B+400+200*0) G D H E Pl gE gP (B+101) (g1 (B+101)) (k.at (z fs-1) c4) fs P (Emit.PY fs P 0) (nQ B (z fs) 0) g3 cf:=X3.up a6;simp only[go_sem]
 refine aq (λm K=>∃(j:Nat)(kk:bG),m+j=z fs-1/\K.f 0=.one (.ptr G u 0)/\K.f 3=.one (.mp (B+101) (g1 (B+101)) 3)/\K.f 23=iv .i64 (z fs-1:Nat)/\K.f 24=iv .i64 j/\K.gen G=u/\
  sV (B+102) (B+400+200*j) G D H E Pl gE gP (B+101) (g1 (B+101)) kk fs P (Emit.PY fs P j) (nQ B (z fs) j) K.gen K.obj/\Oth B G D H E Pl g ob K.gen K.obj) (z fs-1) ?_ ?_
 .refine⟨0,k.at (z fs-1) c4,rfl,?_⟩
  simp only[go_sem];refine⟨y,h0,λi hi U Y h3 h4 h5=>?_⟩;obtain⟨a1,a2⟩:=O3 i a6 U Y h3 h4 h5;obtain⟨b1,b2⟩:=ch i a6;exact⟨a1.trans ((K2.gen i a6 Y h3).trans b1),a2.trans ((K2.fr i a6 U Y h3).trans b2)⟩
 clear ho;rintro m fa g4 c0 ⟨j,kk,hm,q0,q3,dx,cv,cx,X4,O4⟩;simp only at q0 q3 dx cv cx X4 O4;by_cases af:j<z fs-1
 case pos=>
  have b6:(j:Int)<((z fs-1:Nat):Int):=a6;have c7:=ab (k:=j) a6
  have bl:∀x∈nQ B (z fs) j,x.1≠j:=λx I=>by
   simp only[nQ,y9,G3,E4]at I;rcases I with rfl|⟨a,ha,rfl⟩
   .simp only;omega
   .simp only;omega
  simp only[go_sem,q0,q3,dx,cv,b6];refine bX (cd:=λ_ _ _=>False) aa rfl (by simp only[go_sem,q0,q3];exact vY (k:=kk) X4 a6 ⟨a6,a6,a6,a6,a6⟩ cx (f:=j) a6 (okj j af) bl) (λ_ _ _ h=>h.elim) ?_;rintro r g5 c' ⟨⟨c5,X5⟩,bs,O5⟩;simp only[go_sem,cv,c7];refine ai (m-1) a6 ⟨j+1,kk.at j c5,a6,?_⟩;simp only[go_sem,q0,q3,dx];refine⟨bs,?_,λi hi U Y h3 h4 h5=>?_⟩
  .rw[Dv]
   exact X5.up a6
  .obtain⟨a1,a2⟩:=O5 i a6 U Y h3 h4 h5
   obtain⟨b1,b2⟩:=O4 i hi U Y h3 h4 h5;exact⟨a1.trans b1,a2.trans b2⟩
 obtain rfl:j=z fs-1:=a6;have b6:¬((z fs-1:Nat):Int)<((z fs-1:Nat):Int):=a6;have h6:Emit.PY fs P (z fs-1)=Emit.whole fs P:=rfl;rw[h6]at X4;obtain⟨W,hW⟩:∃W,Emit.whole fs P=W:=⟨_,rfl⟩
 rw[hW]at X4 hz ht gn|-;have gx:=X4;obtain⟨⟨t,F4,fo⟩,dk⟩:=X4;have ho:=F4.an.oG;unfold bG.cells at ho;rw[F4.q.s,F4.q.ds,F4.q.bk,F4.q.b,F4.q.e,F4.q.p]at ho;have Q:∀k,(G=B+k)=False:=λk=>by simp;omega
 have n2:∀k,(D=B+k)=False:=λk=>by simp;omega
 simp only[go_sem,q0,q3,dx,cv,b6,ho,cx,Q];have h7:0<z W.code:=by rw[<-hW];exact Bg _
 refine⟨by rw[F4.an.oD];rfl,l0 _,a6,a6,?_⟩;obtain⟨gC,L⟩:∃x,nxC (aZ Tt 129+1) (g4 (B+37))=x:=⟨_,rfl⟩
 rw[L];refine CR (cells:=(List.replicate (z W.code) [C.d (.int .i64 0),C.d (.int .i64 0),C.d (.int .i64 0),C.d (.int .i64 0)]).flatten) (b0:=fB W.code) (n:=z W.code) (sz:=4) (id:=B+37) (g:=gC) (dh:=D) (g2:=g4 D) aa aR rfl rfl Wh Wl Wh (nu) rfl Wl ?_ (nt (F4.an.oD)) (jg _) h7 ?_
 .simp[List.length_flatten]
 have n3:∀k,(H=B+k)=False:=λk=>by simp;omega
 have w:∀k,(E=B+k)=False:=λk=>by simp;omega
 have n5:∀k,(Pl=B+k)=False:=λk=>by simp;omega
 simp only[go_sem,q0,ho,cx,Q,n2,n3];refine⟨by rw[F4.an.oH];rfl,?_⟩;have fx:=jg W.code;obtain⟨k4,h8⟩:∃k4:bG,Bf k4 fs P E Pl gE gP/\sV (B+102) (B+400+200*(z fs-1)) G D H E Pl gE gP (B+101) (g1 (B+101)) k4 fs P W (nQ B (z fs) (z fs-1)) g4 c0:=⟨kk,F4.q,gx⟩
 refine aq (λm K=>∃j:Nat,m+j=z W.holes/\K.f 0=.one (.ptr G u 0)/\K.f 6=.one (.osl (B+37) gC 4 0 (z W.code))/\K.f 47=.one (.osl H (K.gen H) 3 0 (z W.holes))/\K.f 48=iv .i64 (z W.holes)/\K.f 49=iv .i64 j/\K.gen G=u/\K.gen (B+37)=gC/\K.obj (B+37)=S (fB ((W.holes.take j).foldl (Emit.fill W) W.code))/\
  sV (B+102) (B+400+200*(z fs-1)) G D H E Pl gE gP (B+101) (g1 (B+101)) kk fs P W (nQ B (z fs) (z fs-1)) K.gen K.obj/\Oth B G D H E Pl g ob K.gen K.obj) (z W.holes) ?_ ?_
 .refine⟨0,rfl,?_⟩
  simp only[go_sem,q0,Q,n2,n3,cx,F6,TV];refine⟨gx.to (λi hi=>?_) (λi hi=>⟨?_,?_⟩),λi hi U Y h3 h4 h5=>⟨?_,?_⟩⟩
  .exact nt (F4.an.top i hi)
  .have:i≠B+37:=a6
   exact hx
  .have:i≠B+37:=a6
   exact hx
  .exact nt ((O4 i hi U Y h3 h4 h5).1)
  .exact nt ((O4 i hi U Y h3 h4 h5).2)
 clear ho h8 k4;rintro m ia g5 c' ⟨j,e0,p0,p6,e5,e7,e8,bs,c1,eh,X5,O5⟩;simp only at p0 p6 e5 e7 e8 bs c1 eh X5 O5;have hb:=X5;obtain⟨⟨h',F5,f'⟩,dp⟩:=X5;have ho:=F5.an.oG;unfold bG.cells at ho;rw[F5.q.s,F5.q.ds,F5.q.bk,F5.q.b,F5.q.e,F5.q.p]at ho;have gm:g5 H=g5 H:=rfl
 have e6:∀l:List kL,z (l.foldl (Emit.fill W) W.code)=z W.code:=λl=>by
  have:∀(l:List kL)(c:List jm),z (l.foldl (Emit.fill W) c)=z c:=by
   intro l
   induction l with
   |nil=>intro c;rfl
   |cons a l ih=>
     intro c;rw[L9,ih];unfold Emit.fill;split
     .rw[D1]
     .rfl
  exact this l W.code
 by_cases af:j<z W.holes
 case pos=>
  have b6:(j:Int)<(z W.holes:Int):=a6;have ek:(0:Int)<=(j:Int):=a6;obtain⟨h,hh⟩:=getq af;have A:=EY hh;obtain⟨⟨av,bz⟩,⟨dc,bc⟩,fu⟩:=gn h (l5 hh);have c7:=ab (k:=j) a6;have b4:=Bd W.holes;obtain⟨hA,hF,hP⟩:=h;simp only at A av bz dc bc fu;obtain⟨a,rfl⟩:∃a:Nat,hA=(a:Int):=⟨hA.toNat,a6⟩
  obtain⟨f,rfl⟩:∃f:Nat,hF=(f:Int):=⟨hF.toNat,a6⟩
  obtain⟨cy,e9⟩:∃c,(W.holes.take j).foldl (Emit.fill W) W.code=c:=⟨_,rfl⟩
  have c2:z cy=z W.code:=by rw[<-e9];exact e6 _
  rw[e9]at eh;have hc:a<z cy:=a6;have e':(a:Int)<(z W.code:Int):=a6;have fl:a<z W.code:=a6;obtain⟨x,I⟩:∃x,cy[a]?=S x:=⟨_,y8 hc⟩
  have b7:f<z fs:=a6;have a':=F5.el;have dp:=F5.pl;obtain⟨e,he⟩:=getq (show f<z W.ent by omega);have fm:=jg cy
  have J:(W.holes.take (j+1)).foldl (Emit.fill W) W.code=cy.set a (x.1,x.2.1,x.2.2.1,Emit.place W ((a:Int),(f:Int),hP)):=by
   rw[B4,hh,Option.toList,List.foldl_append,e9];simp only[L9,TV,Emit.fill,B6,I]
  have m1:∀k,(B+k=G)=False:=λk=>by simp;omega
  have m2:∀k,(B+k=D)=False:=λk=>by simp;omega
  have V:∀k,(B+k=E)=False:=λk=>by simp;omega
  have m5:∀k,(B+k=Pl)=False:=λk=>by simp;omega
  have hd:=F5.oE;have hf:=F5.gE;have ga:=F5.oP;have gd:=F5.gP;have gh:(f:Int)<(z fs:Int):=a6;have bd:=qK (v:=e) I;simp only[go_sem,p0,p6,e5,e7,e8,b6,ek,af,F5.an.oH,b4,A];refine⟨a6,?_⟩;refine bh b9 ?_;have X:∀(v:Int),Emit.place W ((a:Int),(f:Int),hP)=v->cy.set a (x.1,x.2.1,x.2.2.1,v)=(W.holes.take (j+1)).foldl (Emit.fill W) W.code:=λv hv=>by rw[J,hv]
  by_cases hp:0<=hP
  .obtain⟨p,rfl⟩:∃p:Nat,hP=(p:Int):=⟨hP.toNat,a6⟩
   obtain⟨l,hl,gl⟩:=fu hp;rw[B6]at hl
   obtain⟨id,b'⟩:∃id,(f,id)∈nQ B (z fs) (z fs-1):=by
    by_cases e:f=z fs-1
    .exact⟨B+271,by rw[e];simp[nQ]⟩
    .exact⟨B+471+200*f,by simp only[nQ,y9,G3,E4];exact .inr ⟨f,a6,rfl⟩⟩
   obtain⟨l',k1,k2,k3,k4,k5⟩:=f' f id b';rw[hl]at k1;cases k1;obtain⟨v,hv⟩:=getq (show p<z l by omega);have ca:(p:Int)<(z l:Int):=a6;have cb:p<z l:=a6;have bf:(0:Int)<=(p:Int):=a6;have i1:∀k,k<=100->(id=B+k)=False:=λk hk=>by simp;omega
   have i8:=i1 8 a7;have h9:=i1 37 a7;have fw:(cy.set a (x.1,x.2.1,x.2.2.1,e))[a]?=S (x.1,x.2.1,x.2.2.1,e):=by rw[D9,l7 rfl,l7 hc]
   have cu:=qK (v:=v) fw;rw[List.set_set]at cu;have hj:=jg (cy.set a (x.1,x.2.1,x.2.2.1,e))
   have gi:Emit.place W ((a:Int),(f:Int),(p:Int))=v:=by
    simp only[Emit.place,hp,B5,B6,hl,A2,hv]
   simp only[go_sem,p0,p6,ho,bs,Q,w,n5,m1,m2,V,m5,hd,hf,ga,gd,dc,gh,b7,a',dp,cO,iY,he,eh,c1,av,e',fl,fm,c2,setAt,bd,s9 hp];refine⟨a6,?_⟩;refine bh b9 ?_;simp only[go_sem,p0,p6,ho,bs,Q,w,n5,m1,m2,V,m5,ga,gd,dc,gh,b7,dp,cO,iY,av,e',fl,hj,c2,D1,setAt,cu,k2,k3,i8,h9,ca,cb,bf,hv,c1];exact lv
  .have gi:Emit.place W ((a:Int),(f:Int),hP)=e:=by
    simp only[Emit.place,hp,B8,B6,he,A2]
   simp only[go_sem,p0,p6,ho,bs,Q,w,n5,m1,m2,V,m5,hd,hf,ga,gd,dc,gh,b7,a',dp,cO,iY,he,eh,c1,av,e',fl,fm,c2,setAt,bd,hp];exact lv
 have b6:¬(j:Int)<(z W.holes:Int):=a6;have dz:j=z W.holes:=a6;rw[dz,F0]at eh;simp only[go_sem,p0,p6,e5,e7,e8,b6];refine⟨_,ae.refl _,?_⟩;simp only[go_sem,c1];exact⟨rfl,eh,O5⟩
end
end
end Go.Proofs.YtednjibjomfhfaaGreatDoor.Low
namespace Go.Proofs.YtednjibjomfhfaaGreatDoor
section
open Go Go.Shelf
end
section
open Go Go.Am Go.Asm
end
section
open Go Go.Am Go.Asm Go.RowKit Go.Sort Go.Lib Go.Proofs
def By(o:cg):Prop:=∀w:World,qC 4 o w->Lib.TabIs Tryz.prog w "internal/strconv.uint64pow10" .u64 Lib.pow10Tab
def grown(w:World)(k:Nat)(os:Array Obj):w.heap.size<=(grow (w.drewN k) os).heap.size/\(∀b,b<w.heap.size->(grow (w.drewN k) os).heap[b]?=w.heap[b]?)/\((grow (w.drewN k) os).os=w.os/\(grow (w.drewN k) os).output=w.output):=
 ⟨by rw[size_grow];exact Sf _ _,λb a=>heap_grow_old (w.drewN k) os a,rfl,rfl⟩
end
section
open Go Go.Am Go.RowKit
def Bz:Tryz.prog.underlying 48=S (.pointer 51):=c8
def JJ:Tryz.prog.underlying 200=S .unsafePointer:=c8
def Po:Tryz.prog.underlying 51=S (.struct #[⟨ "addr",48,0,F,"","strings",0⟩,⟨ "buf",49,1,F,"","strings",8⟩]):=c8
def Vj:Tryz.prog.underlying 4=S .bool:=c8
def JK:∃j,Tryz.prog.info? 51=S j/\j.size=2:=by
 obtain⟨i,a,b,_⟩:=WB.info;exact⟨i,a,b⟩
def Rj:∃j,Tryz.prog.info? 48=S j/\j.size=1:=by
 obtain⟨i,a,b,_⟩:=TT.info;exact⟨i,a,b⟩
def wk(b:Nat)(w:World)(f:w.cell? ⟨b,0,N⟩=S (.pointer (S ⟨b,0,N⟩))):
  Calls Tryz.prog 66 #[.pointer (S ⟨b,0,N⟩)] w λe w'=>e=.returned (.tuple #[])/\w'=w:=by
 obtain⟨j,d,_⟩:=JK;have a:=run_underlying Bz;have c:=run_underlying Po;have u4:=run_underlying Vj
 go_enter Tryz.func66,Tryz.ntmps66
 go_wp2
 rw[Lib.run_neq_ptr_same w _ Bz d]
 go_wp2
 go_end0
 exact⟨rfl,rfl⟩
def NI:Tryz.prog.cellsOf 51=2:=c8
def Rk:yK Tryz.prog 66:=⟨_,Tryz.func66,rfl,c9⟩
def Vk(c:UInt8):C:=.d (.int .u8 c.toNat)
def Vl:Tryz.prog.underlying 102=S (.pointer 5):=c8
def Rl:Tryz.prog.cellsOf 5=1:=c8
end
end Go.Proofs.YtednjibjomfhfaaGreatDoor
namespace Go.Proofs
section
open Go.Shelf
end
end Go.Proofs
namespace Go.Proofs.YtednjibjomfhfaaGreatDoor
section
open Go Go.Am Go.Asm Go.Shelf
end
section
open Go Go.Am Go.Asm
def AB(op:Nat):(Asm.shape op=(T,F,1)\/Asm.shape op=(T,T,0)\/Asm.shape op=(T,T,2)\/Asm.shape op=(T,T,1)\/Asm.shape op=(F,F,1)\/Asm.shape op=(T,F,0)\/Asm.shape op=(F,F,0)):=by
 unfold Asm.shape
 repeat' split
 all_goals simp
end
end Go.Proofs.YtednjibjomfhfaaGreatDoor
namespace Go.Asm
section
end
end Go.Asm
namespace Go.Proofs.YtednjibjomfhfaaGreatDoor
section
open Go Go.Am Go.Asm
def gw(code:List Nat):D:=.sl (code.map λn=>[.int .u32 (n:Nat)])
def ik(m:List Nat×Nat):AV:=.agg [.d (gw m.1),.d (.int .i64 (m.2:Nat))]
def vN{s:St}{id g n:Nat}{code:List Nat}(hg:s.gen id=g)(ho:s.obj id=S (code.map λn=>C.d (.int .u32 (n:Nat))))(b:z code=n):Frz s (.osl id g 1 0 n) (gw code):=by
 refine eG hg code (λn=>[.int .u32 (n:Nat)]) ho ?_ (λa _ x I=>?_) (λa _=>rfl) b
 .clear ho b;induction code with|nil=>rfl|cons a l c=>simpa using c
 .simp at I;subst I;rfl
end
section
open Go Go.Am Go.Asm
attribute[local congr]ite_cc
def HX(op:Nat):Str:=(if (Asm.shape op).1=T then [97]else [])++(if (Asm.shape op).2.1=T then [98]else [])++(if (Asm.shape op).2.2=2 then [114]else if (Asm.shape op).2.2=1 then [99]else [])
def eC(op:Int):Str:=if kB op.toNat=T then HX op.toNat else [63]
def yT{op:Int}(h:op.toNat=0\/28<=op.toNat):eC op=[63]:=by
 unfold eC;rw[j8];unfold kB;simp;omega
def Dd{op:Int}(U:4<=op)(Y:op<=15):eC op=[97,98,114]:=by
 obtain⟨k,rfl⟩:∃k:Nat,op=k:=⟨op.toNat,a6⟩
 have b:∀k:Nat,k<16->4<=k->eC (k:Int)=[97,98,114]:=a7;exact b k a6 a6
def HY(op:Int):aF Tryz.prog 220 [iv .i64 op] (·=sv (eC op)):=by
 refine hdP Tryz.func220 rfl [2] λg=>?_;by_cases V:1<=op/\op<=27
 case neg=>
  rw[yT a6];simp only[go_sem,show ¬op=1 by omega,show ¬op=2 by omega,show ¬op=3 by omega,show ¬op=16 by omega,show ¬op=17 by omega,show ¬op=18 by omega,show ¬op=19 by omega,show ¬op=20 by omega,show ¬op=21 by omega,show ¬op=22 by omega,show ¬op=23 by omega,show ¬op=24 by omega,show ¬op=25 by omega,show ¬op=26 by omega,show ¬op=27 by omega];exact λh b=>by omega
 by_cases a:4<=op/\op<=15
 .rw[Dd a.1 a.2]
  simp only[go_sem,show ¬op=1 by omega,show ¬op=2 by omega,show ¬op=3 by omega,show ¬op=16 by omega,show ¬op=17 by omega,show ¬op=18 by omega,show ¬op=19 by omega,show ¬op=20 by omega,show ¬op=21 by omega,show ¬op=22 by omega,show ¬op=23 by omega,show ¬op=24 by omega,show ¬op=25 by omega,show ¬op=26 by omega,show ¬op=27 by omega,a.1,a.2]
 rcases(show op=1\/op=2\/op=3\/op=16\/op=17\/op=18\/op=19\/op=20\/op=21\/op=22\/op=23\/op=24\/op=25\/op=26\/op=27 by omega)with rfl|rfl|rfl|rfl|rfl|rfl|rfl|rfl|rfl|rfl|rfl|rfl|rfl|rfl|rfl
 all_goals
  simp only[go_sem];rfl
def vO(s:Str)(c:UInt8):Bool:=s.contains c
def TN(s:Str)(c:UInt8)(hl:z s<=1000000):aF Tryz.prog 221 [sv s,iv .u8 c.toNat] (·=bv (vO s c)):=by
 refine hdP Tryz.func221 rfl [4] λg=>?_;simp only[go_sem];refine fj (λn K=>∃k:Nat,n+k=z s/\K.f 0=sv s/\K.f 1=iv .u8 c.toNat/\K.f 5=iv .i64 k/\∀x∈s.take k,x≠c) (z s) ?_ ?_
 .refine⟨0,a6,?_⟩
  simp only[go_sem];exact λx I=>by simp at I
 rintro n f g o ⟨k,q,d,i,j,u⟩;simp only at d i j;have l:=ab (k:=k) a6;by_cases m:k<z s
 .obtain⟨x,I⟩:=getq m
  have H:(k:Int)<(z s:Int):=a6;have an:(0:Int)<=(k:Int):=a6;by_cases a:x=c
  .subst a
   simp only[go_sem,d,i,j,H,an,I];have:vO s x=T:=by unfold vO;rw[H8];exact l5 I
   rw[this]
  .have E:¬(x.toNat:Int)=(c.toNat:Int):=λe=>a (P0.1 a6)
   simp only[go_sem,d,i,j,H,an,I,E,l];refine cZ (n-1) a6 ⟨k+1,a6,?_⟩;simp only[go_sem,d,i];intro y b;rw[B4,I,D7]at b;rcases b with b|b
   .exact u y b
   .simp at b;rw[b];exact a
 .have H:¬(k:Int)<(z s:Int):=a6
  simp only[go_sem,d,i,j,H];rw[s6 a6]at u
  have:vO s c=F:=by
   unfold vO;cases h:s.contains c with
   |false=>rfl
   |true=>exact absurd rfl (u c (H8.1 h))
  rw[this]
def sO(b:Bool)(v i:Int):aF Tryz.prog 222 [bv b,iv .i64 v,iv .i64 i] (·=bv (inW v i b)):=by
 refine hdP Tryz.func222 rfl [6] λg=>?_;exact U7
def AE(op:Int):(kB op.toNat=F/\eC op=[63])\/(kB op.toNat=T/\(
  (Asm.shape op.toNat=(T,F,1)/\eC op=[97,99])\/(Asm.shape op.toNat=(T,T,0)/\eC op=[97,98])\/(Asm.shape op.toNat=(T,T,2)/\eC op=[97,98,114])\/(Asm.shape op.toNat=(T,T,1)/\eC op=[97,98,99])\/
  (Asm.shape op.toNat=(F,F,1)/\eC op=[99])\/(Asm.shape op.toNat=(T,F,0)/\eC op=[97])\/(Asm.shape op.toNat=(F,F,0)/\eC op=[]))):=by
 unfold eC;cases a:kB op.toNat
 .exact .inl ⟨rfl,a8⟩
 .refine .inr ⟨rfl,?_⟩
  unfold HX;rcases AB op.toNat with h|h|h|h|h|h|h<;>simp[h]
def HZ(op a b c:Int):aF Tryz.prog 194 [qp op a b c] (·=bv (fA op a b c)):=by
 refine hdP Tryz.func194 rfl [2] λg=>?_;unfold qp;simp only[go_sem];refine bT rfl (by simp only[go_sem];exact HY op) ?_;rintro _ rfl
 have m:∀s:Str,z s<=3->∀k:Nat,k<256->aF Tryz.prog 221 [sv s,iv .u8 k] (·=bv (vO s (UInt8.ofNat k))):=λs l k hk=>by
  have:=TN s (UInt8.ofNat k) a6
  rwa [show (UInt8.ofNat k).toNat=k by rw[L6];omega]at this
 rcases AE op with⟨hk,hp⟩|⟨hk,⟨l,hp⟩|⟨l,hp⟩|⟨l,hp⟩|⟨l,hp⟩|⟨l,hp⟩|⟨l,hp⟩|⟨l,hp⟩⟩
 .rw[hp,show fA op a b c=F by unfold fA;rw[hk];rfl]
  simp only[go_sem];refine bT rfl (by simp only[go_sem];exact m [63] a7 114 a7) ?_;rintro _ rfl;rw[show vO [63] (UInt8.ofNat 114)=F by decide];simp only[go_sem];refine dC aR mixed b9 ?_;simp only[go_sem,reduceCtorEq]
 all_goals
  have f:z (eC op)<=3:=by rw[hp];decide
  have bl:(eC op=[63])=False:=by rw[hp];simp
  have h:vO (eC op) (UInt8.ofNat 97)=(Asm.shape op.toNat).1:=by rw[hp,l];decide
  have i:vO (eC op) (UInt8.ofNat 98)=(Asm.shape op.toNat).2.1:=by rw[hp,l];decide
  have j:vO (eC op) (UInt8.ofNat 99)=decide ((Asm.shape op.toNat).2.2=1):=by rw[hp,l];decide
  have e:vO (eC op) (UInt8.ofNat 114)=decide ((Asm.shape op.toNat).2.2=2):=by rw[hp,l];decide
  have d:fA op a b c=(inW a 15 (Asm.shape op.toNat).1&&(inW b 15 (Asm.shape op.toNat).2.1&&inW c (rH op.toNat) (decide ((Asm.shape op.toNat).2.2≠0)))):=by unfold fA;rw[hk,w7]
  unfold rH at d;rw[l]at h i j e d;simp only[R1,K7,Nat.reduceEqDiff,ne_eq,Oz,M3,B5,B8,reduceCtorEq]at h i j e d;rw[d];clear hp l d hk;simp only[go_sem];refine bT rfl (by simp only[go_sem];exact m (eC op) f 114 a7) ?_;rintro _ rfl;rw[e];simp only[go_sem];refine dC aR mixed b9 ?_;simp only[go_sem,bl];refine bm rfl (m (eC op) f 97 a7) (cC rfl) rfl ?_;rw[h];simp only[go_sem];refine bm rfl (sO _ _ _) (cC rfl) rfl ?_;generalize inW a 15 _=P;cases P
  .simp only[go_sem]
   try simp
  simp only[go_sem];refine bm rfl (m (eC op) f 98 a7) (cC rfl) rfl ?_;rw[i];simp only[go_sem];refine bm rfl (sO _ _ _) (cC rfl) rfl ?_;generalize inW b 15 _=n;cases n
  .simp only[go_sem]
   try simp
  simp only[go_sem];refine bm rfl (m (eC op) f 99 a7) (cC rfl) rfl ?_;rw[j];simp only[go_sem]
  try
   refine bm rfl (m (eC op) f 114 a7) (cC rfl) rfl ?_;rw[e];simp only[go_sem]
  refine bm rfl (sO _ _ _) (cC rfl) rfl ?_;simp only[go_sem]
  try rfl
end
section
open Go Go.Am Go.Asm
def BA(code:List Nat)(d:Int):AV:=.agg [.d (gw code),.d (.int .i64 d)]
end
end Go.Proofs.YtednjibjomfhfaaGreatDoor
namespace Go.Am
section
attribute[local congr]ite_cc
def Jg{P:Program}{rd:Option Nat}{O:Bs}{b:St->Loc->List Deferred->World->Prop}{e:Nat}{f:fW}(a1:br O b){o:Oper}{s:St}(d:St){K:St->Prop}{k:Box K}(hv:ae s d)(h:bu (spF P rd O b e f) o d k):bu (spF P rd O b e f) o s k:=by
 exact S1
end
end Go.Am
namespace Go.Proofs.YtednjibjomfhfaaGreatDoor.Low
section
open Go Go.Am Go.Lower
open Go.Emit (Wr ao ax aw sJ fQ jV gp)
attribute[local congr]ite_cc
def vZ(x:jm):Bool:=fA x.1 x.2.1 x.2.2.1 x.2.2.2
def mL(x:jm):Nat:=Asm.word x.1.toNat x.2.1.toNat x.2.2.1.toNat x.2.2.2.toNat
def xS(fs:List Src.CFn)(P:Emit.Plan):AV:=
 if 32768<P.data then .tup [BA [] 0,iv .i64 2]
 else
  let c:=Emit.filled (Emit.whole fs P)
  if 16384<z c then .tup [BA [] 0,iv .i64 2]
  else if c.all vZ then .tup [BA (c.map mL) P.data,iv .i64 0]else .tup [BA [] 0,iv .i64 2]
structure Va (w:Int) (fs:List Src.CFn) (P:Emit.Plan):Prop where
 n:0<fs.length
 dl:P.depths.length=fs.length
 bl:P.back.length=fs.length
 l:P.base.length=fs.length
 fz:fs.length<=1000000
 bz:∀x∈P.base,0<=x/\x<=1000000000000000
 dz:∀ds∈P.depths,∀d∈ds,-1<=d/\d<=1000000000
 pz:∀x∈fs,0<=x.params/\x.params<=1000000/\0<=x.first/\x.first<=1000000000000
 sz:∀x∈fs,x.params<=x.slots/\x.slots<=1000000
 d0:0<=P.data
 ok0:xQ fs P ⟨[(1,15,0,1)],[],List.replicate fs.length 0,List.replicate fs.length []⟩ (fs.length-1)
 okj:∀j,j<fs.length-1->xQ fs P (Emit.PY fs P j) j
 X:(Emit.whole fs P).code.length<=100000000
 zh:(Emit.whole fs P).holes.length<=100000000
 ho:∀h∈(Emit.whole fs P).holes,Jf (Emit.whole fs P) fs.length h
def Bh(d:jV):∀(l:List kL)(c:List jm),z (l.foldl (Emit.fill d) c)=z c
 |[],c=>rfl
 |a::l,c=>by
   rw[L9,Bh d l];unfold Emit.fill;split
   .rw[D1]
   .rfl
def Bi:∀{l:List jm}{j:Nat}{x:jm},l[j]?=S x->((fB l).drop (j*4)).take 4=Bb x
 |a::l,0,x,e=>by
   cases e;simp[lD,Bb]
 |a::l,j+1,x,e=>by
   have b:=Bi (l:=l) (j:=j) (x:=x) (by simpa using e);rw[lD,show (j+1)*4=4+j*4 by omega,List.drop_append,y2 a8,x9];simpa using b
def wcells(l:List Nat):List C:=l.map λn=>.d (.int .u32 (n:Nat))
def Dw(l:List Nat):z (wcells l)=z l:=by simp[wcells]
def pk{s:St}{n:Int}:rq s [.agg [.d .nsl,.d (.int .i64 0)],iv .i64 n] (.tup [BA [] 0,iv .i64 n]):=by
 refine⟨_,⟨BA [] 0,_,rfl,⟨[gw [],.int .i64 0],rfl,λi c r=>?_,rfl⟩,_,_,rfl,⟨_,.d _,rfl⟩,rfl⟩,rfl⟩
 match i,r with
 |0,r=>cases r;exact⟨_,rfl,.d _⟩
 |1,r=>cases r;exact⟨_,rfl,.d _⟩
def XD{o:cg}{w:Int}{fs:List Src.CFn}{P:Emit.Plan}(ok:P.data<=32768->Va w fs P)(dk:aF Tryz.prog 53 [jt w fs] (·=Ja P.depths P.back P.base P.data)):bP Tryz.prog 4 o 30 [jt w fs] (·=xS fs P):=by
 refine hdG Tryz.func30 rfl [.cell 2 36,.tmp 3] λO bo s0 w0 g=>?_;obtain⟨X,hz⟩:∃X,xS fs P=X:=⟨_,rfl⟩
 rw[hz];unfold xS at hz;have b8:jt w fs=.agg [.d (.int .i64 w),.d (.sl (fs.map sfD))]:=rfl;rw[b8]at dk|-;simp only[go_sem];refine jR aG rfl (by simp only[go_sem];exact dk) c9 ?_;rintro _ rfl;unfold Ja;by_cases hd:32768<P.data
 .rw[l7 hd]at hz
  subst hz;simp only[go_sem,hd];exact⟨_,pk,rfl⟩
 rw[j8 hd]at hz;have k:=ok a6;simp only[go_sem,hd];have eo:=k.fz;have b7:(List.replicate (z fs) [C.d .nsl]).flatten=List.replicate (z fs) (C.d .nsl):=pj _ _;refine dS aR mixed aG [23,27,29] [([1],[0,1],[],F),([4],[0,1],[],F),([1],[1],[],F),([20],[1],[],F),([21],[1],[],F),([22],[1],[0],F),([1],[0],[],F),([24],[0],[],F),([25],[0],[],F),([26],[0],[1],F),([18,19,23,27],[],[],F),([28],[],[2],F),([29],[],[],T)] 3 rfl b9 rfl a7 ?_;simp only[go_sem]
 iterate 5 (apply ay;(case hg=>first|exact w8|exact⟨_,rfl,by decide,rfl⟩);(case U=>intro fa ga oa K' J;simp only[go_sem,j5]at J|-;exact J))
 refine de (a:=0) (v:=.one (.osl 23 (nxC 4 (g 23)) 1 0 (z fs))) (x:=nxC 4 (g 23)) (y:=S (icells (List.replicate (z fs) 0))) w8 (λfa ga oa K' J=>?_) ?_
 .simp only[go_sem,aZ]at J|-
  refine⟨l0 _,a6,a6,?_⟩;rw[show (List.replicate (z fs) [C.d (.int .i64 0)]).flatten=icells (List.replicate (z fs) 0) by rw[pj,icells,Ov]];exact J
 iterate 3 (apply ay;(case hg=>first|exact w8|exact⟨_,rfl,by decide,rfl⟩);(case U=>intro fa ga oa K' J;simp only[go_sem,j5]at J|-;exact J))
 refine de (a:=1) (v:=.one (.osl 27 (nxC (aZ Tt 124+1) (g 27)) 1 0 (z fs))) (x:=nxC (aZ Tt 124+1) (g 27)) (y:=S (List.replicate (z fs) (.d .nsl))) w8 (λfa ga oa K' J=>?_) ?_
 .simp only[go_sem]at J|-
  refine⟨l0 _,a6,a6,?_⟩;rw[b7];exact J
 (apply ay;(case hg=>first|exact w8|exact⟨_,rfl,by decide,rfl⟩);(case U=>intro fa ga oa K' J;simp only[go_sem]at J|-;exact J))
 (apply de;(case hg=>first|exact w8|exact⟨_,rfl,by decide,rfl⟩);(case U=>intro fa ga oa K' J;simp only[go_sem]at J|-;exact J))
 refine dU w8 ?_;intro K' b0;simp only[go_sem];refine b0 _ ?_;clear b0 K';obtain⟨an,bf⟩:∃x,nxC 4 (g 23)=x:=⟨_,rfl⟩
 obtain⟨av,bk⟩:∃x,nxC (aZ Tt 124+1) (g 27)=x:=⟨_,rfl⟩
 rw[bf,bk];have ca:P.depths.map (λo=>[ksD o])=P.depths.map (λo=>[ksD o]):=rfl;simp only[go_sem]
 refine Jg aG _ ((dR (t:=5) (o:=29) (b:=200) (j:=6) (sz:=4) (off:=0) (cells:=[.d (.int .i64 w),.d (.sl (fs.map sfD)),.d (.sl (P.depths.map λo=>[ksD o])),.d (ksD P.back),.d (ksD P.base),.d (.int .i64 P.data),.d .nsl,.osl 23 an 1 0 (z fs),.osl 27 av 1 0 (z fs),.d .nsl,.d (.int .i64 0),.d (.int .i64 0)]) Wh Wh rfl a7).trans
  (dR (t:=5) (o:=29) (b:=201) (j:=9) (sz:=3) (off:=0) (cells:=[.d (.int .i64 w),.d (.sl (fs.map sfD)),.d (.sl (P.depths.map λo=>[ksD o])),.d (ksD P.back),.d (ksD P.base),.d (.int .i64 P.data),.osl 200 (g 200+1) 4 0 0,.osl 23 an 1 0 (z fs),.osl 27 av 1 0 (z fs),.d .nsl,.d (.int .i64 0),.d (.int .i64 0)]) WW WW rfl a7)) ?_
 simp only[St.claimAt];refine bX (cd:=λ_ _ _=>False) (R:=λr g' Z=>r=.one (.osl 1037 (g' 1037) 4 0 (z (Emit.whole fs P).code))/\Z 1037=S (fB (Emit.filled (Emit.whole fs P)))/\∀i,i<10->g' i=(upd (upd (upd g 1 (nxC 85 (g 1))) 2 (nxC 37 (g 2))) 4 (nxC 127 (g 4))) i/\Z i=(upd (upd (upd (λ_=>N) 1 (S [C.d (D.int IntKind.i64 w),C.d (D.sl (List.map sfD fs))])) 2 (S [C.d D.nsl,C.d (D.int IntKind.i64 0)])) 4 (S [C.d (D.sl (P.depths.map λo=>[ksD o])),C.d (ksD P.back),C.d (ksD P.base),C.d (D.int IntKind.i64 P.data)])) i) aG rfl ?_ (λ_ _ _ h=>h.elim) ?_
 .simp only[go_sem]
  refine(Nd (B:=1000) (G:=29) (D:=200) (H:=201) (E:=23) (Pl:=27) (gE:=an) (gP:=av) (P:=P) (fs:=fs) (k:=⟨.d (.int .i64 w),.d (.sl (fs.map sfD)),.d (.sl (P.depths.map λo=>[ksD o])),.d (ksD P.back),.d (ksD P.base),.d (.int .i64 P.data),.osl 23 an 1 0 (z fs),.osl 27 av 1 0 (z fs),.d (.int .i64 0),.d (.int .i64 0)⟩)
   ⟨λi hi=>?_,a7,a7,a7,a7,a7,a7,?_,?_,?_,?_⟩ ⟨rfl,rfl,rfl,rfl,rfl,rfl,k.dl,k.bl,k.l,k.fz,k.bz,k.dz,k.pz,k.sz⟩ ?_ ?_ ?_ ?_ ?_ a7 a7 a7 k.n k.ok0 k.okj k.X k.zh k.ho).mono ?_ (λ_ _ _ h=>h)
  .exact hx
  .simp[upd,bG.cells]
  .simp[upd];rfl
  .simp[upd];rfl
  .intro x I
   simp only[bG.all,y9,A4,E7]at I;rcases I with e|e|e|e|e|e|e|e|e|e
   all_goals (subst e;first|trivial|(show (23:Nat)<1000;decide)|(show (27:Nat)<1000;decide))
  .simp[upd]
  .simp[upd]
  .simp[upd]
  .simp[upd]
  .simp[upd]
  rintro r g' Z ⟨U,Y,h3⟩;refine⟨U,Y,λi hi=>?_⟩;obtain⟨a1,a2⟩:=h3 i a6 a6 a6 a6 a6 a6;refine⟨a1.trans ?_,a2.trans ?_⟩
  .simp only[upd]
   (repeat rw[j8 (show ¬i=201 by omega)])
   (repeat rw[j8 (show ¬i=200 by omega)])
   (repeat rw[j8 (show ¬i=29 by omega)])
   (repeat rw[j8 (show ¬i=27 by omega)])
   (repeat rw[j8 (show ¬i=23 by omega)])
  .simp only[upd]
   (repeat rw[j8 (show ¬i=201 by omega)])
   (repeat rw[j8 (show ¬i=200 by omega)])
   (repeat rw[j8 (show ¬i=29 by omega)])
   (repeat rw[j8 (show ¬i=27 by omega)])
   (repeat rw[j8 (show ¬i=23 by omega)])
   split
   .rfl
   .rfl
 rintro r g1 ad ⟨rfl,Q,O1⟩;have e2:=O1 2 a7;have e4:=O1 4 a7;simp[upd]at e2 e4;obtain⟨e2,o2⟩:=e2;obtain⟨e4,o4⟩:=e4;clear O1;obtain⟨W,hW⟩:∃W,Emit.whole fs P=W:=⟨_,rfl⟩
 rw[hW]at Q hz;have b2:=k.X;rw[hW]at b2|-;obtain⟨c,hc⟩:∃c,Emit.filled W=c:=⟨_,rfl⟩
 have b4:z W.code=z c:=by rw[<-hc];exact(Bh W W.holes W.code).symm
 simp only[hc]at hz;rw[hc]at Q;rw[b4]at b2|-;obtain⟨gC,L⟩:∃x,g1 1037=x:=⟨_,rfl⟩
 rw[L];have fm:=jg c;by_cases q:16384<z c
 .rw[l7 q]at hz
  subst hz;have hb:(16384:Int)<(z c:Int):=a6;simp only[go_sem,hb,L,Q,e2,o2];exact⟨_,pk,rfl⟩
 rw[j8 q]at hz;have hb:¬(16384:Int)<(z c:Int):=a6;simp only[go_sem,hb,L,Q,e2,o2];refine⟨l0 _,a6,a6,?_⟩
 have b':(List.replicate (z c) [C.d (.int .u32 0)]).flatten=wcells ((c.take 0).map mL++List.replicate (z c-0) 0):=by
  rw[pj];simp[wcells]
 refine aq (λm K=>∃j:Nat,m+j=z c/\(c.take j).all vZ=T/\K.f 2=.one (.ptr 2 (K.gen 2) 0)/\K.f 4=.one (.ptr 4 (K.gen 4) 0)/\K.f 7=.one (.osl 38 (K.gen 38) 1 0 (z c))/\K.f 39=.one (.osl 1037 gC 4 0 (z c))/\K.f 40=iv .i64 (z c)/\K.f 41=iv .i64 j/\K.gen 1037=gC/\
  K.obj 1037=S (fB c)/\K.obj 38=S (wcells ((c.take j).map mL++List.replicate (z c-j) 0))/\(∃x y,K.obj 2=S [x,y])/\K.obj 4=S [.d (.sl (P.depths.map λo=>[ksD o])),.d (ksD P.back),.d (ksD P.base),.d (.int .i64 P.data)]) (z c) ?_ ?_
 .refine⟨0,rfl,rfl,?_⟩
  simp only[go_sem,L,Q,e2,e4,o2,o4];exact⟨by rw[b'];simp,_,_,rfl,rfl⟩
 clear e2 e4 o2 o4 Q L b' bf bk;rintro m fa g2 b3 ⟨j,hm,bs,q2,q4,q7,b1,bc,bd,L,Q,p,⟨x0,y0,o2⟩,o4⟩;simp only at q2 q4 q7 b1 bc bd L Q p o2 o4
 have cc:(wcells ((c.take j).map mL++List.replicate (z c-j) 0)).length=z c:=by
  rw[Dw,j4,j5,C2,I0];omega
 by_cases af:j<z c
 case neg=>
  obtain rfl:j=z c:=a6;have b6:¬(z c:Int)<(z c:Int):=a6;rw[F0]at bs p;rw[J4,L1,s5]at p;rw[l7 bs]at hz;subst hz;simp only[go_sem,q2,q4,q7,bc,bd,b6,o2,o4];refine⟨_,⟨_,⟨BA (c.map mL) P.data,_,rfl,⟨[gw (c.map mL),.int .i64 P.data],rfl,λi y hy=>?_,rfl⟩,_,_,rfl,⟨_,.d _,rfl⟩,rfl⟩,rfl⟩,rfl⟩
  match i,hy with
  |0,hy=>
    cases hy;refine⟨_,rfl,eG (s:=⟨_,_,_⟩) (cells:=wcells (c.map mL)) rfl (c.map mL) (λn=>[.int .u32 (n:Nat)]) ?_ ?_ (λ_ _ y hy=>by simp at hy;subst hy;rfl) (λ_ _=>rfl) a8⟩
    .simp only[upd]
     exact p
    .unfold wcells
     generalize c.map mL=l
     induction l with
     |nil=>rfl
     |cons b l ih=>rw[l9,A1,ih];rfl
  |1,hy=>cases hy;exact⟨_,rfl,.d _⟩
 have b6:(j:Int)<(z c:Int):=a6;have ek:(0:Int)<=(j:Int):=a6;obtain⟨x,I⟩:∃x,c[j]?=S x:=⟨_,y8 af⟩
 have A:=Bi I;unfold Bb at A;have c7:=ab (k:=j) a6;simp only[go_sem,q2,q4,q7,b1,bc,bd,b6,ek,af,L,Q,fm,A];refine⟨a6,?_⟩;refine jU rfl (by simp only[go_sem];exact Ib x.1 x.2.1 x.2.2.1 x.2.2.2) ?_;rintro _ rfl;cases V:vZ x
 .have b5:fA x.1 x.2.1 x.2.2.1 x.2.2.2=F:=V
  have a':c.all vZ=F:=by
   rw[Bool.eq_false_iff];intro h;rw[x7]at h;rw[h x (l5 I)]at V;cases V
  rw[a']at hz;simp only[A3,B8]at hz;subst hz;simp only[go_sem,b5,A3,q2,o2];exact⟨_,pk,rfl⟩
 .have b5:fA x.1 x.2.1 x.2.2.1 x.2.2.2=T:=V
  have u:(wcells ((c.take j).map mL++List.replicate (z c-j) 0)).set j (.d (.int .u32 (mL x:Nat)))=wcells ((c.take (j+1)).map mL++List.replicate (z c-(j+1)) 0):=by
   obtain⟨n,hn⟩:∃n,z c-j=n+1:=⟨z c-j-1,a6⟩
   rw[hn,show z c-(j+1)=n by omega,B4,I,Option.toList,A7,l6];unfold wcells;rw[A7,J3 _ _ Wk];simp only[j5,C2,A7,l9,v8,E6];rw[show j-min j (z c)=0 by omega];rfl
  simp only[go_sem,b5,q2,q4,q7,p,cc,af,b6,ek];refine⟨a6,?_⟩;simp only[go_sem,bd,c7,setAt];refine ai (m-1) a6 ⟨j+1,a6,?_,?_⟩
  .rw[B4,I,Option.toList,G2,bs]
   simp[V]
  simp only[go_sem,q2,q4,q7,b1,bc,L,Q,o2,o4,c7];exact⟨u▸rfl,_,_,rfl,rfl⟩
end
end Go.Proofs.YtednjibjomfhfaaGreatDoor.Low
namespace Go.Emit
section
open Go.Lower (Ins Code Sig codeOf takes next Inv left Good OkI jv)
section
def Fits(L M:Nat)(Q:Int×Int->Prop)(w:Nat->Wr):Prop:=∀n,z (w n).code<=L/\z (w n).holes<=M/\∀h∈(w n).holes,(n:Int)<=h.1/\h.1<(n:Int)+z (w n).code/\Q h.2
variable{P:Plan}{f:Nat}{fs:List Src.CFn}{d r b:Int}
section
variable{L a M J:Nat}{Q:Int×Int->Prop}{v w:Nat->Wr}
def Fits.mono(h:Fits L M Q w)(c:L<=a)(j:M<=J):Fits a J Q w:=λn=>⟨C1 (h n).1 c,C1 (h n).2.1 j,(h n).2.2⟩
def iK:Fits 0 0 Q fQ:=λ_=>⟨l0 _,l0 _,λ_ h=>by cases h⟩
def cM{a b c d:Int}:Fits 1 0 Q (ao a b c d):=λ_=>⟨l0 _,l0 _,λ_ h=>by cases h⟩
def pP{a b f pl:Int}(hq:Q (f,pl)):Fits 1 1 Q (ax a b f pl):=λn=>⟨l0 _,l0 _,λh hh=>by
 obtain rfl:h=((n:Int),f,pl):=by simpa[ax]using hh
 exact⟨G9 _,by simp[ax];omega,hq⟩⟩
def Fits.seq(e:Fits L M Q v)(g:Fits a J Q w):Fits (L+a) (M+J) Q (aw v w):=λn=>by
 obtain⟨i,j,G⟩:=e n;obtain⟨b1,k,B⟩:=g (n+z (v n).code);refine⟨by simp only[aw,j4];omega,by simp only[aw,j4];omega,λh c=>?_⟩;simp only[aw,D7,j4]at c|-;rcases c with c|c
 .obtain⟨c1,c2,c3⟩:=G h c
  exact⟨c1,a6,c3⟩
 .obtain⟨c1,c2,c3⟩:=B h c
  exact⟨a6,a6,c3⟩
def fy:Fits 1 0 Q (lR P f d r b):=cM
def iW:Fits 1 0 Q (nk P f d r b):=cM
def Az{r n:Int}:Fits 2 0 Q (yN r n):=by
 unfold yN;split
 .exact cM.seq cM
 .exact cM.mono a7 a7
def CZ{d:Int}:Fits 3 0 Q (yO fs P f d):=by
 unfold yO;split
 .exact cM.mono a7 a7
 .simp only
  split
  .exact fy.seq (cM.seq cM)
  .exact(cM.seq cM).mono a7 a7
def vJ{a:Int}:∀k,Fits k 0 Q (yP a k)
 |0=>iK
 |k+1=>(vJ k).seq cM
def Da{a b:Int}:Fits 6 0 Q (yQ a b):=by
 by_cases h:b-a<=6
 .have e:yQ a b=yP a (b-a).toNat:=l7 h
  rw[e];exact(vJ _).mono a6 a7
 .have e:yQ a b=λn=>⟨[(1,1,0,a),(1,2,0,b),(17,0,1,0),(4,1,1,15),(14,3,1,2),(20,3,0,(n:Int)+2)],[]⟩:=j8 h
  rw[e];exact λn=>⟨l0 _,l0 _,λ_ h=>by cases h⟩
def sL{P:Plan}{f:Nat}{d p i:Int}:∀k,Fits (2*k) 0 Q (HR P f d p i k)
 |0=>iK
 |k+1=>((sL k).seq (fy.seq cM)).mono a6 a7
def Gc{d a:Int}{an:Nat}(c:∀y,fs[a.toNat]?=S y->y.params.toNat<=an/\Q (a,-1)):Fits (2*an+2) 1 Q (Es fs P f d a):=by
 unfold Es;cases e:fs[a.toNat]? with
 |none=>exact iK.mono a6 a7
 |some y=>
   obtain⟨U,Y⟩:=c y e;simp only;split
   .exact((sL _).seq ((pP Y).seq iW)).mono a6 a7
   .exact((sL _).seq ((pP Y).seq iK)).mono a6 a7
def HU{d:Int}{x:Ins}{an:Nat}(p:x.op=10->∀y,fs[x.a.toNat]?=S y->y.params.toNat<=an/\Q (x.a,-1))(l:x.op=8\/x.op=9->Q ((f:Int),x.a)):Fits (2*an+5) 1 Q (xd fs P f d x):=by
 by_cases U:x.op=1
 .rw[show xd fs P f d x=_ from l7 U]
  exact(Az.seq iW).mono a6 a7
 by_cases Y:x.op=2
 .rw[show xd fs P f d x=_ from(j8 U).trans (l7 Y)]
  exact(cM.seq iW).mono a6 a7
 by_cases e:x.op=3
 .rw[show xd fs P f d x=_ from(j8 U).trans ((j8 Y).trans (l7 e))]
  exact(fy.seq cM).mono a6 a7
 by_cases g:x.op=4
 .rw[show xd fs P f d x=_ from(j8 U).trans ((j8 Y).trans ((j8 e).trans (l7 g)))]
  exact(fy.seq (cM.seq (cM.seq iW))).mono a6 a7
 by_cases i:x.op=5
 .rw[show xd fs P f d x=_ from(j8 U).trans ((j8 Y).trans ((j8 e).trans ((j8 g).trans (l7 i))))]
  exact(fy.seq (cM.seq (fy.seq cM))).mono a6 a7
 by_cases j:x.op=6
 .rw[show xd fs P f d x=_ from(j8 U).trans ((j8 Y).trans ((j8 e).trans ((j8 g).trans ((j8 i).trans (l7 j)))))]
  exact(fy.seq (fy.seq (cM.seq iW))).mono a6 a7
 by_cases m:x.op=7
 .rw[show xd fs P f d x=_ from(j8 U).trans ((j8 Y).trans ((j8 e).trans ((j8 g).trans ((j8 i).trans ((j8 j).trans (l7 m))))))]
  exact(fy.seq (cM.seq iW)).mono a6 a7
 have u:xd fs P f d x=if x.op=8 then ax 18 0 f x.a
 else if x.op=9 then aw (lR P f d 1 1) (ax 19 1 f x.a)
 else if x.op=10 then Es fs P f d x.a
 else if x.op=11 then yO fs P f d
 else if x.op=12 then aw (ao 23 1 0 0) (nk P f d 1 0)
 else if x.op=13 then aw (lR P f d 1 1) (ao 24 1 0 0)
 else fQ:=(j8 U).trans ((j8 Y).trans ((j8 e).trans ((j8 g).trans ((j8 i).trans ((j8 j).trans (j8 m))))))
 rw[u];by_cases k:x.op=8
 .rw[l7 k]
  exact(pP (l (.inl k))).mono a6 a7
 rw[j8 k];by_cases c:x.op=9
 .rw[l7 c]
  exact(fy.seq (pP (l (.inr c)))).mono a6 a7
 rw[j8 c];by_cases o:x.op=10
 .rw[l7 o]
  exact(Gc (p o)).mono a6 a7
 rw[j8 o];by_cases W:x.op=11
 .rw[l7 W]
  exact CZ.mono a6 a7
 rw[j8 W];by_cases q:x.op=12
 .rw[l7 q]
  exact(cM.seq iW).mono a6 a7
 rw[j8 q];by_cases H:x.op=13
 .rw[l7 H]
  exact(fy.seq cM).mono a6 a7
 rw[j8 H];exact iK.mono a6 a7
def Gd:Fits 7 0 Q (HS fs P f):=by
 unfold HS;split
 .exact iK.mono a7 a7
 .cases fs[f]? with
  |none=>exact iK.mono a7 a7
  |some y=>exact(cM.seq Da).mono a7 a7
def xI{fs:List Src.CFn}{P:Plan}{f:Nat}{A:Lower.Code}{ds:List Int}{an:Nat}(h:∀x∈A,(x.1.op=10->∀y,fs[x.1.a.toNat]?=S y->y.params.toNat<=an/\Q (x.1.a,-1))/\(x.1.op=8\/x.1.op=9->Q ((f:Int),x.1.a))):∀k,Fits (7+k*(2*an+5)) k Q (tZ fs P f A ds k)
 |0=>Gd.mono a6 a6
 |k+1=>by
   have c:=xI (P:=P) (ds:=ds) h k;rw[tZ];cases I:A[k]? with
   |none=>exact(c.seq iK).mono (by rw[F2];omega) a6
   |some x=>
     cases hd:ds[k]? with
     |none=>exact(c.seq iK).mono (by rw[F2];omega) a6
     |some d=>
       simp only;obtain⟨U,Y⟩:=h x (l5 I);split
       .exact(c.seq (HU U Y)).mono (by rw[F2];omega) a6
       .exact(c.seq iK).mono (by rw[F2];omega) a6
end
end
section
def jD(x:Src.CFn):Lower.Code:=codeOf x.word x.body
def szF(fs:List Src.CFn)(an f:Nat):Nat:=match fs[f]? with|some x=>7+z (jD x)*(2*an+5)|none=>0
def sM(fs:List Src.CFn)(an:Nat):Nat->Nat
 |0=>0
 |k+1=>sM fs an k+szF fs an k
def Ge(fs:List Src.CFn)(an:Nat){a b:Nat}(h:a<=b):sM fs an a<=sM fs an b:=by
 induction h with
 |refl=>exact l0 _
 |step _ c=>exact C1 c (Sf _ _)
def Et(fs:List Src.CFn)(an:Nat):∀k,k<=z fs->sM fs an k<=7*k+((fs.take k).map λx=>z (jD x)).sum*(2*an+5)
 |0,_=>by simp[sM]
 |k+1,h=>by
   have b:=Et fs an k a6;have a:fs[k]?=S (fs[k]'a6):=y8 a6;rw[sM,B4,a];simp only[szF,a,Option.toList,A7,Lb,l9,v8,D6,P8,F2,I3];omega
def OL(fs:List Src.CFn)(q:Int×Int):Prop:=(0<=q.1/\q.1<(z fs:Int))/\(0<=q.2->∃x,fs[q.1.toNat]?=S x/\q.2<(z (jD x):Int))
structure HV (fs:List Src.CFn) (P:Plan) (an:Nat):Prop where
 n:0<fs.length
 dl:P.depths.length=fs.length
 c:∀x∈fs,∀y∈jD x,y.1.op=10->∃(k:Nat)(X:Src.CFn),y.1.a=(k:Int)/\fs[k]?=some X
 j:∀x∈fs,∀y∈jD x,y.1.op=8\/y.1.op=9->0<=y.1.a/\y.1.a<((jD x).length:Int)
 p:∀x∈fs,x.params.toNat<=an
variable{fs:List Src.CFn}{P:Plan}{x:Src.CFn}
def HV.fits{an:Nat}(h:HV fs P an){f:Nat}(I:fs[f]?=S x)(ds:List Int)(k:Nat):Fits (7+k*(2*an+5)) k (OL fs) (tZ fs P f (jD x) ds k):=by
 have b:=l5 I;have n:f<z fs:=(l8.1 I).1;refine xI (λy d=>⟨λo X e=>?_,λr=>?_⟩) k
 .obtain⟨c,a,g,i⟩:=h.c x b y d o
  have:c<z fs:=(l8.1 i).1;exact⟨h.p X (l5 e),⟨by simp only[g];omega,λl=>by simp only at l;omega⟩⟩
 .obtain⟨q,m⟩:=h.j x b y d r
  exact⟨⟨by simp only;omega,by simp only;omega⟩,λ_=>⟨x,by simp only[B6];exact I,m⟩⟩
structure vK (fs:List Src.CFn) (d:jV) (done:Nat->Prop) (av:Nat):Prop where
 c:d.code.length<=av
 hl:d.holes.length<=av
 h:∀x∈d.holes,0<=x.1/\x.1<(d.code.length:Int)/\OL fs x.2
 pl:d.pls.length=fs.length
 el:d.ent.length=fs.length
 p:∀f,done f->∃x l,fs[f]?=some x/\d.pls[f]?=some l/\l.length=(jD x).length
def Gf{d:jV}{f:Nat}{ds:List Int}(I:fs[f]?=S x)(hd:P.depths[f]?=S ds):gp fs P d f =
  ⟨d.code++(tZ fs P f (jD x) ds (z (jD x)) (z d.code)).code,d.holes++(tZ fs P f (jD x) ds (z (jD x)) (z d.code)).holes,d.ent.set f (z d.code),d.pls.set f (placesOf fs P f (jD x) ds (z d.code))⟩:=by
 unfold gp;rw[I,hd];rfl
def vK.add{an:Nat}(H:HV fs P an){d:jV}{done:Nat->Prop}{av f:Nat}(h:vK fs d done av)(hf:f<z fs):vK fs (gp fs P d f) (λi=>done i\/i=f) (av+szF fs an f):=by
 obtain⟨x,I⟩:∃x,fs[f]?=S x:=⟨_,y8 hf⟩
 obtain⟨ds,hd⟩:∃ds,P.depths[f]?=S ds:=⟨_,y8 (by rw[H.dl];exact hf)⟩
 obtain⟨f1,q,f3⟩:=H.fits I ds (z (jD x)) (z d.code);have bc:szF fs an f=7+z (jD x)*(2*an+5):=by unfold szF;rw[I]
 have r:z (jD x)<=z (jD x)*(2*an+5):=Sn _ a6;rw[Gf I hd,bc];refine⟨?_,?_,λy a=>?_,?_,?_,λi g=>?_⟩
 .simp only[j4];have:=h.c;omega
 .simp only[j4];have:=h.hl;omega
 .simp only[D7,j4]at a|-
  rcases a with a|a
  .obtain⟨b,j,G⟩:=h.h y a
   exact⟨b,a6,G⟩
  .obtain⟨b,j,G⟩:=f3 y a
   exact⟨a6,a6,G⟩
 .simp only[D1];exact h.pl
 .simp only[D1];exact h.el
 .simp only
  by_cases e:i=f
  .subst e
   exact⟨x,_,I,by rw[D9,l7 rfl,l7 (by rw[h.pl];exact hf)],by simp[placesOf]⟩
  .obtain⟨n,l,k,m,o⟩:=h.p i (g.resolve_right e)
   exact⟨n,l,k,by rw[D9,j8 (A9 e)];exact m,o⟩
def LQ{fs:List Src.CFn}{P:Plan}{an:Nat}(H:HV fs P an):∀k,k<=z fs-1->vK fs (PY fs P k) (λi=>i<k\/i=z fs-1) (1+szF fs an (z fs-1)+sM fs an k)
 |0,_=>by
   have g:=H.n;have d:vK fs ⟨[(1,15,0,1)],[],List.replicate (z fs) 0,List.replicate (z fs) []⟩ (λ_=>False) 1:=⟨a8,a8,(λ_ h=>by cases h),a8,a8,(λ_ h=>False.elim h)⟩
   have U:=d.add H (f:=z fs-1) a6;refine⟨U.c,U.hl,U.h,U.pl,U.el,λi a=>U.p i (.inr (a.resolve_left a6))⟩
 |k+1,j=>by
   have b:=(LQ H k a6).add H (f:=k) a6;refine⟨by have:=b.c;rw[sM];exact C1 this a6,by have:=b.hl;rw[sM];exact C1 this a6,b.h,b.pl,b.el,λi a=>b.p i ?_⟩;rcases a with a|a
   .by_cases e:i=k
    .exact .inr e
    .exact .inl (.inl a6)
   .exact .inl (.inr a)
def SP(fs:List Src.CFn)(an:Nat){k:Nat}(c:0<z fs)(a:k<=z fs-1):szF fs an (z fs-1)+sM fs an k<=sM fs an (z fs):=by
 obtain⟨m,b⟩:∃m,z fs=m+1:=⟨z fs-1,a6⟩
 have U:=Ge fs an a;rw[b]at U|-;rw[show m+1-1=m by omega]at U|-;rw[sM];omega
end
end
section
open Go.Lower (Ins Code Sig codeOf takes next Inv left Good OkI jv)
open Go.Src (au eF nE lG yf bB sigs cW cD nZ aE CFn)
section
def Gg(n:Nat):∀(l:List (List Int))(k:Nat)(w:Int),(∀o∈l,0<=deepest o 0)->w<=(js n k l w).2.2/\∀x∈(js n k l w).2.1,w<=x/\x<=(js n k l w).2.2
 |[],k,w,_=>⟨G9 _,λ_ h=>by cases h⟩
 |o::l,k,w,h=>by
   have c:=h o a8;simp only[js];have a:=Gg n l (k+1) ((if k+1=n then w else w+1)+deepest o 0) (λo ho=>h o WS);have b:w<=(if k+1=n then w else w+1):=by split<;>omega
   refine⟨a6,λx I=>?_⟩;rcases y9.1 I with rfl|I
   .exact⟨b,a6⟩
   .have:=a.2 x I
    exact⟨a6,a6⟩
def Db:∀(l:List Int)(d:Int),d<=deepest l d
 |[],d=>G9 _
 |a::l,d=>by rw[yL];have:=Db l (max d a);omega
def OM:∀(l:List Asm.Str)(m:Src.Pl)(w:Int),w<=(Src.gV l m w).2
 |[],m,w=>G9 _
 |n::l,m,w=>by rw[Src.gV];have:=OM l ((n,w,0)::m) (w+1);omega
def ON:∀(l:List (Asm.Str×Int))(m:Src.Pl)(w:Int),(∀a∈l,0<=a.2)->w<=(Src.gA l m w).2
 |[],m,w,_=>G9 _
 |n::l,m,w,h=>by rw[Src.gA];have:=ON l ((n.1,w,n.2)::m) (w+n.2) (λa b=>h a (by simp[b]));have:=h n a8;omega
variable{p:Src.Prog}{x:CFn}
def PZ(h:cW p=0):0<=(bB p).2:=by
 obtain⟨V,_,_⟩:=Src.BK h;unfold cD at V;simp only[l4,x7]at V
 have b:∀a∈p.arrays,0<=a.2:=λa c=>by
  have:=V.2.1 a c;unfold Src.fb at this;simp at this;omega
 unfold bB;have U:=OM p.vars [] 0;have Y:=ON p.arrays (Src.gV p.vars [] 0).1 (Src.gV p.vars [] 0).2 b;omega
def OO{k:Nat}(I:(au p).funcs[k]?=S x):∃f w,p.funcs[k]?=S f/\(bB p).2<=w/\x=Src.pE (bB p).1 f w/\w+(z f.params+z f.locals)<=(au p).words:=by
 unfold au at I|-;simp only at I|-
 have b:k<z p.funcs:=by
  have:=(l8.1 I).1;rw[lG]at this;exact this
 obtain⟨f,a⟩:∃f,p.funcs[k]?=S f:=⟨_,y8 b⟩
 obtain⟨c,U,Y,d⟩:=nE (bB p).1 p.funcs (bB p).2 k f a;rw[I]at Y;exact⟨f,c,a,U,E8 Y,d⟩
def Qa(I:x∈(au p).funcs):∃f w,f∈p.funcs/\(bB p).2<=w/\x=Src.pE (bB p).1 f w/\w+(z f.params+z f.locals)<=(au p).words:=by
 obtain⟨k,a⟩:=C9 I;obtain⟨f,w,U,Y⟩:=OO a;exact⟨f,w,l5 U,Y⟩
def Dc(p:Src.Prog):z (au p).funcs=z p.funcs:=lG _ _ _
def Qb(p:Src.Prog):(au p).funcs.map (λx=>(x.params,x.word))=sigs p.funcs:=by
 apply M5;intro k;unfold sigs;rw[y7,y7];cases I:(au p).funcs[k]? with
 |none=>
   have:z p.funcs<=k:=by rw[<-Dc];exact Q8.1 I
   rw[E0 this];rfl
 |some x=>
   obtain⟨f,w,U,_,rfl,_⟩:=OO I;rw[U];rfl
def xJ(h:cW p=0)(I:x∈(au p).funcs):
  let G:=λk=>((jD x)[k]?).map Prod.snd
  G 0=S 0/\Lower.Good (sigs p.funcs) x.word G 0 (jD x):=by
 obtain⟨k,a⟩:=C9 I;exact Lower.BI (Src.RH h a)
def HW(h:cW p=0)(I:x∈(au p).funcs){y:Ins×Int}(f:y∈jD x):(1<=y.1.op/\y.1.op<=13)/\(y.1.op=10->∃(c:Nat)(X:CFn),y.1.a=(c:Int)/\(au p).funcs[c]?=S X)/\(y.1.op=8\/y.1.op=9->0<=y.1.a/\y.1.a<(z (jD x):Int)):=by
 obtain⟨k,g⟩:=C9 I;obtain⟨i,b⟩:=C9 f;obtain⟨t,q,Q,_⟩:=jv (xJ h I).2 b;refine⟨by have:=xH Q;omega,λo=>?_,λr=>Lower.NT (Src.RH h g) b r⟩;by_cases j:y.1.a<0
 .simp[takes,o,j]at Q
 .obtain⟨c,d⟩:∃c:Nat,y.1.a=(c:Int):=⟨y.1.a.toNat,a6⟩
  cases e:(sigs p.funcs)[c]? with
  |none=>simp[takes,o,d,e]at Q
  |some s=>
    have hl:c<z (au p).funcs:=by
     have:=(l8.1 e).1;rw[<-Qb,j5]at this;exact this
    exact⟨c,_,d,y8 hl⟩
def Qc{f:Nat}{ds:List Int}(hd:(yM (au p).words (au p).funcs).depths[f]?=S ds):∃x,(au p).funcs[f]?=S x/\ds=mJ (jD x):=by
 unfold yM at hd;simp only[y7]at hd;obtain⟨x,U,Y⟩:=H4.1 hd;exact⟨x,U,Y.symm⟩
def SQ(h:cW p=0)(I:x∈(au p).funcs):z (mJ (jD x))=z (jD x)/\∀d∈mJ (jD x),-1<=d/\d<=(z (jD x):Int):=by
 obtain⟨b,c⟩:=xJ h I;obtain⟨a,_⟩:=yS (λ_=>rfl) b c;refine⟨a.inv.1,λd hd=>?_⟩;obtain⟨k,e⟩:=C9 hd;have:=a.le d hd;rcases a.inv.2.1 k d e with h|⟨_,h⟩<;>omega
def XS(h:cW p=0){an:Nat}(b:∀f∈p.funcs,z f.params<=an):HV (au p).funcs (yM (au p).words (au p).funcs) an:=by
 obtain⟨V,_,_⟩:=Src.BK h;have hl:1<=z p.funcs:=by unfold cD at V;simp at V;exact V.1.1.1
 refine⟨by rw[Dc];exact hl,by simp[yM],λx I y a=>(HW h I a).2.1,λx I y a=>(HW h I a).2.2,λx I=>?_⟩;obtain⟨f,w,U,_,rfl,_⟩:=Qa I;simp only[Src.pE,B6];exact b f U
def vL{b:Type}(f g:b->Nat)(h:∀x,f x<=6*g x+2):∀l:List b,(l.map f).sum<=6*(l.map g).sum+2*z l
 |[]=>by simp
 |a::l=>by
   have:=vL f g h l;have:=h a;simp only[l9,D6,j6];omega
def TL{an:Nat}(hl:z p.funcs<=64)(b:(p.funcs.map λf=>aE f.body).sum<=an):sM (au p).funcs an (z (au p).funcs)<=448+(6*an+128)*(2*an+5):=by
 have U:=Et (au p).funcs an (z (au p).funcs) (l0 _);rw[F0]at U;have Y:=vL (λx:CFn=>z (jD x)) (λx=>Src.nZ x.body) (λx=>Src.SW x.word x.body) (au p).funcs;have c:((au p).funcs.map λx=>Src.nZ x.body).sum=(p.funcs.map λf=>aE f.body).sum:=Src.BN _ _ _;have d:=Dc p;have a:((au p).funcs.map λx=>z (jD x)).sum<=6*an+128:=a6;have:=LD (2*an+5) a;omega
end
end
end Go.Emit
