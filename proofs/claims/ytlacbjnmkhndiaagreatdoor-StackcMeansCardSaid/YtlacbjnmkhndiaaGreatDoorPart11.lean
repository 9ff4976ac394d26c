/- A part of the proof; no conditions. -/
import Derived.Test.YtlacbjnmkhndiaaGreatDoorPart10
set_option linter.unusedSimpArgs false
set_option linter.unusedVariables false
set_option linter.defProp false
open List renaming length -> z
open Option renaming some -> S, none -> N
open Bool renaming true -> T, false -> F
set_option maxHeartbeats 64000000
set_option maxRecDepth 100000
namespace Go.Proofs.YtlacbjnmkhndiaaGreatDoor
section
attribute [local congr] Go.Am.ite_cc
open Go Go.Am Go.Asm
def jW(l:List Src.Tok):D:=.sl (l.map rV)
def TK(r:List Src.Tok×Nat×Nat):AV:=.tup [.one (.d (jW r.1)),iv .i64 (r.2.1:Nat),iv .i64 (r.2.2:Nat)]
def uR(l:List Src.Tok):List C:=l.flatMap λt=>(rV t).map .d
def wA:∀l:List Src.Tok,z (uR l)=z l*4
 |[]=>rfl
 |t::l=>by have a:=wA l;unfold uR at a|-;rw[G2,j7,a];simp only[rV,j6,j9,l4];omega
def BC(l:List Src.Tok)(t:Src.Tok):uR (l++[t])=uR l++(rV t).map .d:=by unfold uR;rw[N3];simp
def vA(l:List Src.Tok):Src.R (List Src.Tok)×Nat->Src.R (List Src.Tok)×Nat
 |(.ok a,p)=>(.ok (l++a),p)
 |(.err e,p)=>(.err e,p)
def Ih(x:Src.R (List Src.Tok)×Nat):vA [] x=x:=by obtain⟨a,b⟩:=x;cases a<;>rfl
def EB(l:List Src.Tok)(t:Src.Tok)(x:Src.R (List Src.Tok)×Nat):vA (l++[t]) x=vA l (vA [t] x):=by obtain⟨a,b⟩:=x;cases a<;>simp[vA]
def nX{p:UInt8->Bool}:∀s:Str,s.drop (z (s.takeWhile p))=s.dropWhile p
 |[]=>rfl
 |c::s=>by
   by_cases h:p c=T
   .rw[J8,l8 h,List.dropWhile_cons,l8 h,j9,List.drop_succ_cons,nX s]
   .rw[J8,j8 h,List.dropWhile_cons,j8 h];rfl
def BD{s t:Str}{k v:Nat}(h:Src.firstT s=.ok (k,t,v)):0<z t/\z t<=z s/\v<4294967296/\k<=4:=by
 have bs:(Src.Py.all λt=>decide (0<z t))=T:=b9;cases s with
 |nil=>unfold Src.firstT at h;cases h
 |cons c r=>
   rw[nW]at h;have a:∀p:UInt8->Bool,z ((c::r).takeWhile p)<=z (c::r):=λp=>(P0 p).length_le;split at h
   .rename_i hd
    split at h
    .cases h
    .cases h
     refine⟨?_,a _,a7,b9⟩;rw[J8,l8 hd];simp
   .split at h
    .unfold sD at h
     split at h
     .rename_i x y q I
      split at h
      .cases h
       rename_i g;rw[I];refine⟨a8,a8,?_,b9⟩;omega
      .cases h
     .cases h
    .split at h
     .rename_i hl
      unfold sE at h;split at h
      .cases h
      .have d:0<z ((c::r).takeWhile ew):=by
        rw[J8,l8 (by unfold ew;rw[hl];rfl)];simp
       split at h<;>cases h<;>exact⟨d,a _,b9,b9⟩
     .cases b:Src.Py.find? λt=>t.isPrefixOf (c::r)with
      |some i=>
        rw[b]at h;cases h;have e:=Q8 b;have f:=List.find?_some b;refine⟨M4 (y8.1 bs _ e),?_,b9,b9⟩;exact(Nt.1 f).length_le
      |none=>rw[b]at h;cases h
def BE{s:Str}{e:Nat}(b:s≠[])(h:Src.firstT s=.err e):e=2\/e=3:=by
 cases s with
 |nil=>exact absurd rfl b
 |cons c r=>
   rw[nW]at h;split at h
   .split at h
    .cases h;exact .inl rfl
    .cases h
   .split at h
    .unfold sD at h
     split at h
     .split at h
      .cases h
      .cases h;exact .inr rfl
     .cases h;exact .inr rfl
    .split at h
     .unfold sE at h
      split at h
      .cases h;exact .inl rfl
      .split at h<;>cases h
     .cases a:Src.Py.find? λt=>t.isPrefixOf (c::r)with
      |some d=>rw[a]at h;cases h
      |none=>rw[a]at h;cases h;exact .inr rfl
def TM{o:cF}(ho:jS o)(s:Str):bP Tryz.prog 1 o 80 [sv s] (·=TK (Src.Xk s)):=by
 refine hdG Tryz.func80 rfl [.tmp 2,.tmp 3,.tmp 4] λO bn s0 w0 g=>?_;unfold Src.Xk;by_cases q:20000<z s
 .have b5:(20000:Int)<(z s:Int):=a7
  rw[l8 q];simp only[go_sem,b5];exact SH
 have b5:¬(20000:Int)<(z s:Int):=a7;rw[j8 q];simp only[go_sem,b5]
 refine aw (λn K=>∃(k:Nat)(m:Nat)(l:List Src.Tok),n+k=z s/\z (s.drop k)<m/\Src.Dc (z s+1) 0 s=vA l (Src.Dc m k (s.drop k))/\z l<=k/\K.f 0=sv s/\K.f 6=iv .i64 k/\
  ((l=[]/\K.f 5=.one (.d .nsl))\/(l≠[]/\K.f 5=.one (.osl 61 (K.gen 61) 4 0 (z l))/\K.obj 61=S (uR l)))) (z s) ?_ ?_
 .refine⟨0,z s+1,[],a7,a8,by rw[Ih];rfl,a8,?_⟩
  simp only[go_sem];exact .inl trivial
 rintro n f g' ob ⟨k,m,l,hk,hm,L,A,X,q6,q5⟩;simp only at X q6 q5;have bf:(0:Int)<=(k:Int):=a7;by_cases af:k<z s
 case neg=>
  have G:¬(k:Int)<(z s:Int):=a7;rw[y9 a7]at L;obtain⟨W,rfl⟩:∃W,m=W+1:=⟨m-1,a7⟩
  rw[L];have bl:∀k,vA l (Src.Dc (W+1) k [])=(.ok l,0):=λk=>by unfold Src.Dc vA;simp
  rw[bl];rcases q5 with⟨rfl,q5⟩|⟨bz,q5,o5⟩
  .simp only[go_sem,X,q6,q5,G]
   exact SH
  .simp only[go_sem,X,q6,q5,G]
   exact⟨_,⟨_,⟨_,_,rfl,LA (dN rfl l rV (by simp[upd,o5,uR]) rfl (λt _ x I=>by simp only[rV,A3,A9,E6]at I;rcases I with rfl|rfl|rfl|rfl<;>rfl) (λ_ _=>rfl) rfl),_,_,rfl,ke _,_,_,rfl,ke _,rfl⟩,rfl⟩,rfl⟩
 have G:(k:Int)<(z s:Int):=a7;obtain⟨c,Z⟩:=getq af
 have i:s.drop k=c::s.drop (k+1):=by
  rw[C1 af];congr 1;exact G6 ((v8 af).symm.trans Z)
 obtain⟨W,rfl⟩:∃W,m=W+1:=⟨m-1,a7⟩
 have P:z (s.drop (k+1))<W:=by rw[i]at hm;simp only[j9]at hm;omega
 have hw:=ac (k:=k) a7
 have bk:∀k r,Src.Dc (W+1) k (c::r)=if c=32\/c=9\/c=10 then Src.Dc W (k+1) r
   else if c=47/\r.head?=S 47 then Src.Dc W (k+z ((c::r).takeWhile (· != 10))) ((c::r).dropWhile (· != 10))
   else match Src.firstT (c::r)with
    |.err e=>(.err e,k)
    |.ok (kd,t,v)=>vA [⟨kd,t,v,k⟩] (Src.Dc W (k+z t) ((c::r).drop (z t))):=by
  intro k r
  conv=>lhs;unfold Src.Dc
  split
  .rfl
  .split
   .rfl
   .split
    .rename_i h;rw[h]
    .rename_i kd t v h
     rw[h];simp only;rcases Src.Dc W (k+z t) ((c::r).drop (z t))with⟨a,b⟩
     cases a<;>rfl
 rw[i,bk]at L;by_cases cm:c=32\/c=9\/c=10
 .rw[l8 cm]at L
  have J:(((c.toNat:Nat):Int)=32)\/(¬((c.toNat:Nat):Int)=32/\((c.toNat:Nat):Int)=9)\/(¬((c.toNat:Nat):Int)=32/\¬((c.toNat:Nat):Int)=9/\((c.toNat:Nat):Int)=10):=by
   rcases cm with rfl|rfl|rfl
   .exact .inl rfl
   .exact .inr (.inl ⟨b9,rfl⟩)
   .exact .inr (.inr ⟨b9,b9,rfl⟩)
  rcases J with U|⟨U,h2⟩|⟨U,h2,h3⟩
  case' inl=>simp only[go_sem,X,q6,G,Z,bf,U,hw]
  case' inr.inl=>simp only[go_sem,X,q6,G,Z,bf,U,h2,hw]
  case' inr.inr=>simp only[go_sem,X,q6,G,Z,bf,U,h2,h3,hw]
  all_goals
   refine ah (n-1) a7 ⟨k+1,W,l,a7,P,L,a7,?_⟩;simp only[go_sem,X];exact q5
 rw[j8 cm]at L;have b1:¬((c.toNat:Nat):Int)=32:=pk (d:=32) λh=>cm (.inl h);have b2:¬((c.toNat:Nat):Int)=9:=pk (d:=9) λh=>cm (.inr (.inl h));have b3:¬((c.toNat:Nat):Int)=10:=pk (d:=10) λh=>cm (.inr (.inr h));have av:List.drop k (List.take (z s) s)=s.drop k:=by rw[H8]
 have c7:z (s.drop k)<=1000000:=by rw[F7];omega
 simp only[go_sem,X,q6,G,Z,bf,b1,b2,b3,av];refine⟨a7,a7,?_⟩;refine ip rfl (by simp only[go_sem];exact sC (s.drop k) [47,47]) ?_;rintro _ rfl;cases hp:([47,47]:Str).isPrefixOf (s.drop k)
 case true=>
  obtain⟨r2,Q⟩:=Nt.1 hp
  have p:c=47/\(s.drop (k+1)).head?=S 47:=by
   rw[i]at Q;simp only[C3,A6,P7]at Q;exact⟨Q.1.symm,by rw[<-Q.2];rfl⟩
  rw[l8 p,<-i,<-nX,Q2]at L;have Y:z ((s.drop k).takeWhile (· != 10))<=z (s.drop k):=(P0 _).length_le
  have u:1<=z ((s.drop k).takeWhile (· != 10)):=by
   rw[i,J8,l8 (by rw[p.1];rfl)];simp
  have e3:z (s.drop k)=z s-k:=F7;generalize hT:z ((s.drop k).takeWhile (· != 10))=E at L Y u;have w:IntKind.i64.wrap ((k:Int)+(E:Int))=((k+E:Nat):Int):=by rw[wrap_i64]<;>omega
  simp only[go_sem,X,q6,bf,av];refine⟨a7,a7,?_⟩;refine ip rfl (by simp only[go_sem];exact tg Lz (s.drop k) a7) ?_;rintro _ rfl;simp only[go_sem,hT,w,q6];refine ah (n-E) a7 ⟨k+E,W,l,a7,by rw[F7];rw[F7]at P;omega,L,a7,?_⟩;simp only[go_sem,X];exact q5
 have j:¬(c=47/\(s.drop (k+1)).head?=S 47):=by
  rintro⟨U,h2⟩;rw[i,U]at hp;cases V:s.drop (k+1)with
  |nil=>rw[V]at h2;cases h2
  |cons x y=>
    rw[V]at h2 hp;simp only[List.head?_cons,v7]at h2;rw[h2]at hp;simp[List.isPrefixOf]at hp
 rw[j8 j]at L;have hF:=LC ho c (s.drop (k+1)) (by rw[<-i];exact c7);rw[<-i]at hF L;simp only[go_sem,X,q6,bf,av];refine⟨a7,a7,?_⟩;refine cG rfl Xn ?_;rintro _ rfl;cases hf:Src.firstT (s.drop k)with
 |err e=>
   have he:e=2\/e=3:=BE (by rw[i];simp) hf;have ca:¬(e:Int)=0:=a7;rw[hf]at L;simp only[vA]at L;rw[L];unfold qu vz rV;simp only[go_sem,l9,w9,ca,q6];exact SH
 |ok x=>
   obtain⟨kd,t,v⟩:=x;obtain⟨t1,t2,t3,H⟩:=BD hf;rw[hf]at L;simp only at L;rw[Q2,<-EB]at L;have e3:z (s.drop k)=z s-k:=F7;have w:IntKind.i64.wrap ((k:Int)+(z t:Int))=((k+z t:Nat):Int):=by rw[wrap_i64]<;>omega
   unfold qu vz rV;rcases q5 with⟨rfl,q5⟩|⟨bz,q5,o5⟩
   .simp only[go_sem,l9,w9,q6,q5,aW,w]
    refine⟨⟨b9,b9⟩,?_⟩;refine ah (n-z t) a7 ⟨k+z t,W,[⟨kd,t,v,k⟩],a7,by rw[F7];rw[F7]at P;omega,L,by simp;omega,?_⟩;simp only[go_sem,X]
    first|exact .inr rfl|exact .inr ⟨by simp,rfl⟩|exact .inr ⟨by simp,rfl,rfl⟩
   .have B:=wA l
    simp only[go_sem,l9,w9,q6,q5,o5,aW,w];refine⟨a7,⟨b9,a7⟩,?_⟩;refine ah (n-z t) a7 ⟨k+z t,W,l++[⟨kd,t,v,k⟩],a7,by rw[F7];rw[F7]at P;omega,L,by simp;omega,?_⟩;simp only[go_sem,X];refine .inr ⟨a8,a8,?_⟩;rw[BC,s6 a7];rfl
end
end Go.Proofs.YtlacbjnmkhndiaaGreatDoor
namespace Go.Src
section
open Go.Asm (Str)
section
inductive PR (A:Type) where
 |ok (a:A) (n:Nat)
 |no (n:Nat)
section
variable(ts:List Tok)
def fc(n:Nat):Nat:=match ts[n]? with|some t=>t.kind|none=>0
def eV(n:Nat):Str:=match ts[n]? with|some t=>if t.kind=3\/t.kind=4 then t.text else []|none=>[]
def takeN(k:Nat)(n:Nat):PR Tok:=match ts[n]? with|some t=>if t.kind=k then .ok t (n+1)else .no n|none=>.no n
def eE:List Str->Nat->PR Unit
 |[],n=>.ok () n
 |s::l,n=>if eV ts n=s then eE l (n+1)else .no n
end
section
variable{ts:List Tok}
end
end
end
end Go.Src
