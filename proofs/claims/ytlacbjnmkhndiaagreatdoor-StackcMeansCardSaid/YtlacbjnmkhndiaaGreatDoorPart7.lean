/- A part of the proof; no conditions. -/
import Derived.Test.YtlacbjnmkhndiaaGreatDoorPart6
set_option linter.unusedSimpArgs false
set_option linter.unusedVariables false
set_option linter.defProp false
open List renaming length -> z
open Option renaming some -> S, none -> N
open Bool renaming true -> T, false -> F
set_option maxHeartbeats 64000000
set_option maxRecDepth 100000
namespace Go.Proofs.YtlacbjnmkhndiaaGreatDoor
section
open Go Go.Am Go.Asm
attribute[local congr]ite_cc
section
def Nm:Option Str->Src.R (Nat×Str×Nat)
 |some t=>.ok (4,t,0)
 |none=>.err 3
def nW(c:UInt8)(r:Str):Src.firstT (c::r)=if digit c=T then(if 4294967295<iO ((c::r).takeWhile digit)then .err 2 else .ok (2,(c::r).takeWhile digit,iO ((c::r).takeWhile digit)))
  else if c=39 then sD (c::r)else if letter c=T then sE ((c::r).takeWhile ew)
  else Nm (Src.Py.find? λt=>t.isPrefixOf (c::r)):=by
 unfold Src.firstT sE;by_cases hd:digit c=T
 .simp only[hd,B1]
 simp only[hd,A8];by_cases a:c=39
 .simp only[a,B1]
  match r with
  |[]=>rfl
  |[_]=>rfl
  |x::y::r=>rfl
 .simp only[a,A8]
  rfl
def EA{A:Type}{p:A->Bool}{l:List A}{k:Nat}{x:A}(h:∀y∈l.take k,p y=F)(I:l[k]?=S x)(b:p x=T):l.find? p=S x:=by
 have a:=(l5.1 I).1;rw[<-H3 k l,List.find?_append,List.find?_eq_none.2 (λy c=>by rw[h y c];simp)]
 have:l.drop k=x::l.drop (k+1):=by
  rw[C1 a];congr 1;exact G6 ((v8 a).symm.trans I)
 rw[this,List.find?_cons,b];rfl
def uP{k v:Nat}{t:Str}:qu (.ok (k,t,v))=.tup [.agg [.d (.int .i64 (k:Nat)),.d (.str t),.d (.int .u32 (v:Nat)),.d (.int .i64 ((0:Nat):Int))],iv .i64 0]:=rfl
def uQ{e:Nat}:qu (.err e)=.tup [.agg [.d (.int .i64 ((0:Nat):Int)),.d (.str []),.d (.int .u32 ((0:Nat):Int)),.d (.int .i64 ((0:Nat):Int))],iv .i64 (e:Nat)]:=rfl
variable{o:cF}
def zM(c:UInt8)(s:Str)(a:s[0]?=S c)(b:z s<=1000000)(hd:digit c=T){x:Src.R (Nat×Str×Nat)}(I:(if 4294967295<iO (s.takeWhile digit)then .err 2 else .ok (2,s.takeWhile digit,iO (s.takeWhile digit)))=x):
  bP Tryz.prog 1 o 145 [sv s] (·=qu x):=by
 refine hdG Tryz.func145 rfl [.cell 2 179,.tmp 3] λO bn s0 w0 g=>?_;have hD:=lO c;rw[hd]at hD;have hl:=C8 (P0 digit (l:=s)).length_le b;have hN:=By (s.takeWhile digit) a7 List.all_takeWhile;rw[I]at hN;have ar:=tg lO s a7;generalize s.takeWhile digit=u at hN ar I;simp only[go_sem,a];refine ip rfl W5 ?_;rintro _ rfl;simp only[go_sem];refine ip rfl (by simp only[go_sem];exact ar) ?_;rintro _ rfl;simp only[go_sem];refine ip rfl Wd ?_;rintro _ rfl;cases x with
 |ok y=>
   exact SA
 |err e=>
   exact T8
def Bz(s:Str)(a:s[0]?=S 39):bP Tryz.prog 1 o 145 [sv s] (·=qu (sD s)):=by
 refine hdG Tryz.func145 rfl [.cell 2 179,.tmp 3] λO bn s0 w0 g=>?_;have hD:=lO 39;rw[show digit 39=F from rfl]at hD;have b:(((39:UInt8).toNat:Nat):Int)=39:=rfl;have hB:=If s;generalize sD s=x at hB|-;simp only[go_sem,a];refine ip rfl W5 ?_;rintro _ rfl;simp only[go_sem,b];refine ip rfl WH ?_;rintro _ rfl;cases x with
 |ok y=>
   exact SA
 |err e=>
   exact T8
def BA(ho:jS o)(c:UInt8)(s:Str)(b:s[0]?=S c)(j:z s<=1000000)(hd:digit c=F)(a:c≠39)(hl:letter c=T):
  bP Tryz.prog 1 o 145 [sv s] (·=qu (sE (s.takeWhile ew))):=by
 refine hdG Tryz.func145 rfl [.cell 2 179,.tmp 3] λO bn s0 w0 g=>?_;have hD:=lO c;rw[hd]at hD;have hL:=oY c;rw[hl]at hL;have i:¬((c.toNat:Nat):Int)=39:=pk (d:=39) a;have ar:=tg wz s a7;have hN:=Ig ho (s.takeWhile ew);generalize s.takeWhile ew=u at hN ar|-;generalize sE u=x at hN|-;simp only[go_sem,b];refine ip rfl W5 ?_;rintro _ rfl;simp only[go_sem,i];refine ip rfl VU ?_;rintro _ rfl;simp only[go_sem];refine ip rfl (by simp only[go_sem];exact ar) ?_;rintro _ rfl;simp only[go_sem];refine cG rfl Wd ?_;rintro _ rfl;cases x with
 |ok y=>
   exact SA
 |err e=>
   exact T8
def BB(ho:jS o)(c:UInt8)(s:Str)(U:s[0]?=S c)(hd:digit c=F)(a:c≠39)(hl:letter c=F){x:Option Str}(I:Src.Py.find? (λt=>t.isPrefixOf s)=x):
  bP Tryz.prog 1 o 145 [sv s] (·=qu (Nm x)):=by
 refine hdG Tryz.func145 rfl [.cell 2 179,.tmp 3] λO bn s0 w0 g=>?_;have hD:=lO c;rw[hd]at hD;have hL:=oY c;rw[hl]at hL;have V:¬((c.toNat:Nat):Int)=39:=pk (d:=39) a;have W:z Src.Py=24:=rfl;simp only[go_sem,U];refine ip rfl W5 ?_;rintro _ rfl;simp only[go_sem,V];refine ip rfl VU ?_;rintro _ rfl;simp only[go_sem];refine aw (λn K=>∃k:Nat,n+k=24/\K.f 0=sv s/\K.f 31=iv .i64 k/\K.f 2=.one (.ptr 2 (nxC 180 (g 2)) 0)/\K.gen 2=nxC 180 (g 2)/\K.obj 2=S [.d (.int .i64 0),.d (.str []),.d (.int .u32 0),.d (.int .i64 0)]/\∀t∈Src.Py.take k,t.isPrefixOf s=F) 24 ?_ ?_
 .refine⟨0,rfl,?_⟩
  simp only[go_sem];simp
 rintro n f Z ob ⟨k,hk,A,b,B,E,H,u⟩;simp only at A b B E H;have J:=ac (k:=k) a7;by_cases Q:k<24
 .have G:(k:Int)<24:=a7
  obtain⟨t,L⟩:=getq (l:=Src.Py) (k:=k) a7;have hP:=sC s t
  have m:∀w:World,sJ 1 o w->∀(j:Nat)(x:D),([D.str t]:List D)[j]?=S x->w.cell? ⟨0,k*(Tt 9).size+j,N⟩=S (dV x):=λw J j x I=>by
   match j,I with
   |0,I=>cases I;rw[show k*(Tt 9).size+0=k from by show k*1+0=k;omega];exact(ho w J).2 k t L
  simp only[go_sem,A,b,G];refine rm aE (λs X ds w h=>h.1.2) aA (n:=24) (e:=9) rfl rfl b9 (kd:=.i64) (i:=k) (by simp only[go_sem,b]) Q (cs:=[.str t]) (λj x I=>by match j,I with|0,I=>cases I;rfl) m ?_;simp only[go_sem,A];refine ip rfl Xp ?_;rintro _ rfl;cases hp:t.isPrefixOf s
  .simp only[go_sem,b,J]
   refine ah (n-1) a7 ⟨k+1,a7,?_⟩;simp only[go_sem,A,B,E,H];rw[D0,L];intro x I;rcases C4.1 I with I|I
   .exact u x I
   .simp at I;rw[I];exact hp
  .rw[EA (p:=λt=>t.isPrefixOf s) u L hp]at I
   subst I;simp only[go_sem,b,G];refine rm aE (λs X ds w h=>h.1.2) aA (n:=24) (e:=9) rfl rfl b9 (kd:=.i64) (i:=k) (by simp only[go_sem,b]) Q (cs:=[.str t]) (λj x I=>by match j,I with|0,I=>cases I;rfl) m ?_;simp only[go_sem,B,E,H];exact⟨_,dE (k:=4) (v:=0) (e:=0),rfl⟩
 .obtain rfl:k=24:=a7
  rw[s6 (by rw[W];decide)]at u;rw[List.find?_eq_none.2 (λy Y=>by rw[u y Y];simp)]at I;subst I;simp only[go_sem,A,b,B,E,H,show ¬((24:Nat):Int)<24 by decide];exact z8
def LC(ho:jS o)(c:UInt8)(r:Str)(b:z (c::r)<=1000000):bP Tryz.prog 1 o 145 [sv (c::r)] (·=qu (Src.firstT (c::r))):=by
 rw[nW];cases hd:digit c with
 |true=>rw[l8 rfl];exact zM c (c::r) rfl b hd rfl
 |false=>
   rw[j8 a8];by_cases a:c=39
   .rw[l8 a];exact Bz (c::r) (by rw[a];rfl)
   .rw[j8 a]
    cases hl:letter c with
    |true=>rw[l8 rfl];exact BA ho c (c::r) rfl b hd a hl
    |false=>rw[j8 a8];exact BB ho c (c::r) rfl hd a hl rfl
end
def jW(l:List Src.Tok):D:=.sl (l.map rV)
def TK(r:List Src.Tok×Nat×Nat):AV:=.tup [.one (.d (jW r.1)),iv .i64 (r.2.1:Nat),iv .i64 (r.2.2:Nat)]
def uR(l:List Src.Tok):List C:=l.flatMap λt=>(rV t).map .d
def wA:∀l:List Src.Tok,z (uR l)=z l*4
 |[]=>rfl
 |t::l=>by have a:=wA l;unfold uR at a|-;rw[G2,j7,a];simp only[rV,j6,j9,l4];omega
def BC(l:List Src.Tok)(t:Src.Tok):uR (l++[t])=uR l++(rV t).map .d:=by unfold uR;rw[N3];simp
def vA(l:List Src.Tok):Src.R (List Src.Tok)×Nat->Src.R (List Src.Tok)×Nat
 |(.ok a,p)=>(.ok (l++a),p)
 |(.err e,p)=>(.err e,p)
def Ih(x:Src.R (List Src.Tok)×Nat):vA [] x=x:=by obtain⟨a,b⟩:=x;cases a<;>rfl
def EB(l:List Src.Tok)(t:Src.Tok)(x:Src.R (List Src.Tok)×Nat):vA (l++[t]) x=vA l (vA [t] x):=by obtain⟨a,b⟩:=x;cases a<;>simp[vA]
def nX{p:UInt8->Bool}:∀s:Str,s.drop (z (s.takeWhile p))=s.dropWhile p
 |[]=>rfl
 |c::s=>by
   by_cases h:p c=T
   .rw[J8,l8 h,List.dropWhile_cons,l8 h,j9,List.drop_succ_cons,nX s]
   .rw[J8,j8 h,List.dropWhile_cons,j8 h];rfl
def BD{s t:Str}{k v:Nat}(h:Src.firstT s=.ok (k,t,v)):0<z t/\z t<=z s/\v<4294967296/\k<=4:=by
 have bs:(Src.Py.all λt=>decide (0<z t))=T:=b9;cases s with
 |nil=>unfold Src.firstT at h;cases h
 |cons c r=>
   rw[nW]at h;have a:∀p:UInt8->Bool,z ((c::r).takeWhile p)<=z (c::r):=λp=>(P0 p).length_le;split at h
   .rename_i hd
    split at h
    .cases h
    .cases h
     refine⟨?_,a _,a7,b9⟩;rw[J8,l8 hd];simp
   .split at h
    .unfold sD at h
     split at h
     .rename_i x y q I
      split at h
      .cases h
       rename_i g;rw[I];refine⟨a8,a8,?_,b9⟩;omega
      .cases h
     .cases h
    .split at h
     .rename_i hl
      unfold sE at h;split at h
      .cases h
      .have d:0<z ((c::r).takeWhile ew):=by
        rw[J8,l8 (by unfold ew;rw[hl];rfl)];simp
       split at h<;>cases h<;>exact⟨d,a _,b9,b9⟩
     .cases b:Src.Py.find? λt=>t.isPrefixOf (c::r)with
      |some i=>
        rw[b]at h;cases h;have e:=Q8 b;have f:=List.find?_some b;refine⟨M4 (y8.1 bs _ e),?_,b9,b9⟩;exact(Nt.1 f).length_le
      |none=>rw[b]at h;cases h
def BE{s:Str}{e:Nat}(b:s≠[])(h:Src.firstT s=.err e):e=2\/e=3:=by
 cases s with
 |nil=>exact absurd rfl b
 |cons c r=>
   rw[nW]at h;split at h
   .split at h
    .cases h;exact .inl rfl
    .cases h
   .split at h
    .unfold sD at h
     split at h
     .split at h
      .cases h
      .cases h;exact .inr rfl
     .cases h;exact .inr rfl
    .split at h
     .unfold sE at h
      split at h
      .cases h;exact .inl rfl
      .split at h<;>cases h
     .cases a:Src.Py.find? λt=>t.isPrefixOf (c::r)with
      |some d=>rw[a]at h;cases h
      |none=>rw[a]at h;cases h;exact .inr rfl
def TM{o:cF}(ho:jS o)(s:Str):bP Tryz.prog 1 o 80 [sv s] (·=TK (Src.Xk s)):=by
 refine hdG Tryz.func80 rfl [.tmp 2,.tmp 3,.tmp 4] λO bn s0 w0 g=>?_;unfold Src.Xk;by_cases q:20000<z s
 .have b5:(20000:Int)<(z s:Int):=a7
  rw[l8 q];simp only[go_sem,b5];exact SH
 have b5:¬(20000:Int)<(z s:Int):=a7;rw[j8 q];simp only[go_sem,b5]
 refine aw (λn K=>∃(k:Nat)(m:Nat)(l:List Src.Tok),n+k=z s/\z (s.drop k)<m/\Src.Dc (z s+1) 0 s=vA l (Src.Dc m k (s.drop k))/\z l<=k/\K.f 0=sv s/\K.f 6=iv .i64 k/\
  ((l=[]/\K.f 5=.one (.d .nsl))\/(l≠[]/\K.f 5=.one (.osl 61 (K.gen 61) 4 0 (z l))/\K.obj 61=S (uR l)))) (z s) ?_ ?_
 .refine⟨0,z s+1,[],a7,a8,by rw[Ih];rfl,a8,?_⟩
  simp only[go_sem];exact .inl trivial
 rintro n f g' ob ⟨k,m,l,hk,hm,L,A,X,q6,q5⟩;simp only at X q6 q5;have bf:(0:Int)<=(k:Int):=a7;by_cases af:k<z s
 case neg=>
  have G:¬(k:Int)<(z s:Int):=a7;rw[y9 a7]at L;obtain⟨W,rfl⟩:∃W,m=W+1:=⟨m-1,a7⟩
  rw[L];have bl:∀k,vA l (Src.Dc (W+1) k [])=(.ok l,0):=λk=>by unfold Src.Dc vA;simp
  rw[bl];rcases q5 with⟨rfl,q5⟩|⟨bz,q5,o5⟩
  .simp only[go_sem,X,q6,q5,G]
   exact SH
  .simp only[go_sem,X,q6,q5,G]
   exact⟨_,⟨_,⟨_,_,rfl,LA (dN rfl l rV (by simp[upd,o5,uR]) rfl (λt _ x I=>by simp only[rV,A3,A9,E6]at I;rcases I with rfl|rfl|rfl|rfl<;>rfl) (λ_ _=>rfl) rfl),_,_,rfl,ke _,_,_,rfl,ke _,rfl⟩,rfl⟩,rfl⟩
 have G:(k:Int)<(z s:Int):=a7;obtain⟨c,Z⟩:=getq af
 have i:s.drop k=c::s.drop (k+1):=by
  rw[C1 af];congr 1;exact G6 ((v8 af).symm.trans Z)
 obtain⟨W,rfl⟩:∃W,m=W+1:=⟨m-1,a7⟩
 have P:z (s.drop (k+1))<W:=by rw[i]at hm;simp only[j9]at hm;omega
 have hw:=ac (k:=k) a7
 have bk:∀k r,Src.Dc (W+1) k (c::r)=if c=32\/c=9\/c=10 then Src.Dc W (k+1) r
   else if c=47/\r.head?=S 47 then Src.Dc W (k+z ((c::r).takeWhile (· != 10))) ((c::r).dropWhile (· != 10))
   else match Src.firstT (c::r)with
    |.err e=>(.err e,k)
    |.ok (kd,t,v)=>vA [⟨kd,t,v,k⟩] (Src.Dc W (k+z t) ((c::r).drop (z t))):=by
  intro k r
  conv=>lhs;unfold Src.Dc
  split
  .rfl
  .split
   .rfl
   .split
    .rename_i h;rw[h]
    .rename_i kd t v h
     rw[h];simp only;rcases Src.Dc W (k+z t) ((c::r).drop (z t))with⟨a,b⟩
     cases a<;>rfl
 rw[i,bk]at L;by_cases cm:c=32\/c=9\/c=10
 .rw[l8 cm]at L
  have J:(((c.toNat:Nat):Int)=32)\/(¬((c.toNat:Nat):Int)=32/\((c.toNat:Nat):Int)=9)\/(¬((c.toNat:Nat):Int)=32/\¬((c.toNat:Nat):Int)=9/\((c.toNat:Nat):Int)=10):=by
   rcases cm with rfl|rfl|rfl
   .exact .inl rfl
   .exact .inr (.inl ⟨b9,rfl⟩)
   .exact .inr (.inr ⟨b9,b9,rfl⟩)
  rcases J with U|⟨U,h2⟩|⟨U,h2,h3⟩
  case' inl=>simp only[go_sem,X,q6,G,Z,bf,U,hw]
  case' inr.inl=>simp only[go_sem,X,q6,G,Z,bf,U,h2,hw]
  case' inr.inr=>simp only[go_sem,X,q6,G,Z,bf,U,h2,h3,hw]
  all_goals
   refine ah (n-1) a7 ⟨k+1,W,l,a7,P,L,a7,?_⟩;simp only[go_sem,X];exact q5
 rw[j8 cm]at L;have b1:¬((c.toNat:Nat):Int)=32:=pk (d:=32) λh=>cm (.inl h);have b2:¬((c.toNat:Nat):Int)=9:=pk (d:=9) λh=>cm (.inr (.inl h));have b3:¬((c.toNat:Nat):Int)=10:=pk (d:=10) λh=>cm (.inr (.inr h));have av:List.drop k (List.take (z s) s)=s.drop k:=by rw[H8]
 have c7:z (s.drop k)<=1000000:=by rw[F7];omega
 simp only[go_sem,X,q6,G,Z,bf,b1,b2,b3,av];refine⟨a7,a7,?_⟩;refine ip rfl (by simp only[go_sem];exact sC (s.drop k) [47,47]) ?_;rintro _ rfl;cases hp:([47,47]:Str).isPrefixOf (s.drop k)
 case true=>
  obtain⟨r2,Q⟩:=Nt.1 hp
  have p:c=47/\(s.drop (k+1)).head?=S 47:=by
   rw[i]at Q;simp only[C3,A6,P7]at Q;exact⟨Q.1.symm,by rw[<-Q.2];rfl⟩
  rw[l8 p,<-i,<-nX,Q2]at L;have Y:z ((s.drop k).takeWhile (· != 10))<=z (s.drop k):=(P0 _).length_le
  have u:1<=z ((s.drop k).takeWhile (· != 10)):=by
   rw[i,J8,l8 (by rw[p.1];rfl)];simp
  have e3:z (s.drop k)=z s-k:=F7;generalize hT:z ((s.drop k).takeWhile (· != 10))=E at L Y u;have w:IntKind.i64.wrap ((k:Int)+(E:Int))=((k+E:Nat):Int):=by rw[wrap_i64]<;>omega
  simp only[go_sem,X,q6,bf,av];refine⟨a7,a7,?_⟩;refine ip rfl (by simp only[go_sem];exact tg Lz (s.drop k) a7) ?_;rintro _ rfl;simp only[go_sem,hT,w,q6];refine ah (n-E) a7 ⟨k+E,W,l,a7,by rw[F7];rw[F7]at P;omega,L,a7,?_⟩;simp only[go_sem,X];exact q5
 have j:¬(c=47/\(s.drop (k+1)).head?=S 47):=by
  rintro⟨U,h2⟩;rw[i,U]at hp;cases V:s.drop (k+1)with
  |nil=>rw[V]at h2;cases h2
  |cons x y=>
    rw[V]at h2 hp;simp only[List.head?_cons,v7]at h2;rw[h2]at hp;simp[List.isPrefixOf]at hp
 rw[j8 j]at L;have hF:=LC ho c (s.drop (k+1)) (by rw[<-i];exact c7);rw[<-i]at hF L;simp only[go_sem,X,q6,bf,av];refine⟨a7,a7,?_⟩;refine cG rfl Xn ?_;rintro _ rfl;cases hf:Src.firstT (s.drop k)with
 |err e=>
   have he:e=2\/e=3:=BE (by rw[i];simp) hf;have ca:¬(e:Int)=0:=a7;rw[hf]at L;simp only[vA]at L;rw[L];unfold qu vz rV;simp only[go_sem,l9,w9,ca,q6];exact SH
 |ok x=>
   obtain⟨kd,t,v⟩:=x;obtain⟨t1,t2,t3,H⟩:=BD hf;rw[hf]at L;simp only at L;rw[Q2,<-EB]at L;have e3:z (s.drop k)=z s-k:=F7;have w:IntKind.i64.wrap ((k:Int)+(z t:Int))=((k+z t:Nat):Int):=by rw[wrap_i64]<;>omega
   unfold qu vz rV;rcases q5 with⟨rfl,q5⟩|⟨bz,q5,o5⟩
   .simp only[go_sem,l9,w9,q6,q5,aW,w]
    refine⟨⟨b9,b9⟩,?_⟩;refine ah (n-z t) a7 ⟨k+z t,W,[⟨kd,t,v,k⟩],a7,by rw[F7];rw[F7]at P;omega,L,by simp;omega,?_⟩;simp only[go_sem,X]
    first|exact .inr rfl|exact .inr ⟨by simp,rfl⟩|exact .inr ⟨by simp,rfl,rfl⟩
   .have B:=wA l
    simp only[go_sem,l9,w9,q6,q5,o5,aW,w];refine⟨a7,⟨b9,a7⟩,?_⟩;refine ah (n-z t) a7 ⟨k+z t,W,l++[⟨kd,t,v,k⟩],a7,by rw[F7];rw[F7]at P;omega,L,by simp;omega,?_⟩;simp only[go_sem,X];refine .inr ⟨a8,a8,?_⟩;rw[BC,s6 a7];rfl
end
end Go.Proofs.YtlacbjnmkhndiaaGreatDoor
namespace Go.Src
section
open Go.Asm (Str)
section
inductive PR (A:Type) where
 |ok (a:A) (n:Nat)
 |no (n:Nat)
section
variable(ts:List Tok)
def fc(n:Nat):Nat:=match ts[n]? with|some t=>t.kind|none=>0
def eV(n:Nat):Str:=match ts[n]? with|some t=>if t.kind=3\/t.kind=4 then t.text else []|none=>[]
def takeN(k:Nat)(n:Nat):PR Tok:=match ts[n]? with|some t=>if t.kind=k then .ok t (n+1)else .no n|none=>.no n
def eE:List Str->Nat->PR Unit
 |[],n=>.ok () n
 |s::l,n=>if eV ts n=s then eE l (n+1)else .no n
end
section
variable{ts:List Tok}
end
end
end
end Go.Src
