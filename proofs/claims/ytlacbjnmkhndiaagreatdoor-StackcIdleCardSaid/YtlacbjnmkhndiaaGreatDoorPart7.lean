/- A part of the proof; no conditions. -/
import Derived.Test.YtlacbjnmkhndiaaGreatDoorPart6
set_option linter.unusedSimpArgs false
set_option linter.unusedVariables false
set_option linter.defProp false
open List renaming length -> z
open Option renaming some -> S, none -> N
open Bool renaming true -> T, false -> F
set_option maxHeartbeats 64000000
set_option maxRecDepth 100000
namespace Go.Proofs.YtlacbjnmkhndiaaGreatDoor
section
open Go Go.Am Go.Asm
attribute[local congr]ite_cc
section
def PZ:Option Str->Src.R (Nat×Str×Nat)
 |some t=>.ok (4,t,0)
 |none=>.err 3
def pH(c:UInt8)(r:Str):Src.firstT (c::r)=if digit c=T then(if 4294967295<jC ((c::r).takeWhile digit)then .err 2 else .ok (2,(c::r).takeWhile digit,jC ((c::r).takeWhile digit)))
  else if c=39 then uj (c::r)else if letter c=T then uk ((c::r).takeWhile eG)
  else PZ (Src.Ss.find? λt=>t.isPrefixOf (c::r)):=by
 unfold Src.firstT uk;by_cases hd:digit c=T
 .simp only[hd,B5]
 simp only[hd,B1];by_cases a:c=39
 .simp only[a,B5]
  match r with
  |[]=>rfl
  |[_]=>rfl
  |x::y::r=>rfl
 .simp only[a,B1]
  rfl
def GP{A:Type}{p:A->Bool}{l:List A}{k:Nat}{x:A}(h:∀y∈l.take k,p y=F)(I:l[k]?=S x)(b:p x=T):l.find? p=S x:=by
 have a:=(l6.1 I).1;rw[<-H7 k l,List.find?_append,List.find?_eq_none.2 (λy c=>by rw[h y c];simp)]
 have:l.drop k=x::l.drop (k+1):=by
  rw[C3 a];congr 1;exact H0 ((v8 a).symm.trans I)
 rw[this,List.find?_cons,b];rfl
def wz{k v:Nat}{t:Str}:rH (.ok (k,t,v))=.tup [.agg [ag (k:Nat),bF t,.d (.int .u32 (v:Nat)),ag ((0:Nat):Int)],ae 0]:=rfl
def wA{e:Nat}:rH (.err e)=.tup [.agg [ag ((0:Nat):Int),bF [],.d (.int .u32 ((0:Nat):Int)),ag ((0:Nat):Int)],ae (e:Nat)]:=rfl
variable{o:cT}
def BA(c:UInt8)(s:Str)(a:s[0]?=S c)(b:z s<=1000000)(hd:digit c=T){x:Src.R (Nat×Str×Nat)}(I:(if 4294967295<jC (s.takeWhile digit)then .err 2 else .ok (2,s.takeWhile digit,jC (s.takeWhile digit)))=x):
  ck Tryz.prog 1 o 145 [sv s] (·=rH x):=by
 refine hdG Tryz.func145 rfl [.cell 2 179,.tmp 3] λO bn s0 w0 g=>?_;have hD:=mW c;rw[hd]at hD;have hl:=D0 (Qi digit (l:=s)).length_le b;have hN:=Du (s.takeWhile digit) a7 List.all_takeWhile;rw[I]at hN;have ar:=uU mW s a7;generalize s.takeWhile digit=u at hN ar I;simp only[go_sem,a];refine jd rfl Zj ?_;rintro _ rfl;simp only[go_sem];refine jd rfl (by simp only[go_sem];exact ar) ?_;rintro _ rfl;simp only[go_sem];refine jd rfl YM ?_;rintro _ rfl;cases x with
 |ok y=>
   exact R0
 |err e=>
   exact VN
def Dv(s:Str)(a:s[0]?=S 39):ck Tryz.prog 1 o 145 [sv s] (·=rH (uj s)):=by
 refine hdG Tryz.func145 rfl [.cell 2 179,.tmp 3] λO bn s0 w0 g=>?_;have hD:=mW 39;rw[show digit 39=F from rfl]at hD;have b:(((39:UInt8).toNat:Nat):Int)=39:=rfl;have hB:=Kq s;generalize uj s=x at hB|-;simp only[go_sem,a];refine jd rfl Zj ?_;rintro _ rfl;simp only[go_sem,b];refine jd rfl YW ?_;rintro _ rfl;cases x with
 |ok y=>
   exact R0
 |err e=>
   exact VN
def Dw(ho:kN o)(c:UInt8)(s:Str)(b:s[0]?=S c)(j:z s<=1000000)(hd:digit c=F)(a:c≠39)(hl:letter c=T):
  ck Tryz.prog 1 o 145 [sv s] (·=rH (uk (s.takeWhile eG))):=by
 refine hdG Tryz.func145 rfl [.cell 2 179,.tmp 3] λO bn s0 w0 g=>?_;have hD:=mW c;rw[hd]at hD;have hL:=qj c;rw[hl]at hL;have i:¬((c.toNat:Nat):Int)=39:=qw (d:=39) a;have ar:=uU yf s a7;have hN:=Kr ho (s.takeWhile eG);generalize s.takeWhile eG=u at hN ar|-;generalize uk u=x at hN|-;simp only[go_sem,b];refine jd rfl Zj ?_;rintro _ rfl;simp only[go_sem,i];refine jd rfl Yt ?_;rintro _ rfl;simp only[go_sem];refine jd rfl (by simp only[go_sem];exact ar) ?_;rintro _ rfl;simp only[go_sem];refine cU rfl YM ?_;rintro _ rfl;cases x with
 |ok y=>
   exact R0
 |err e=>
   exact VN
def Dx(ho:kN o)(c:UInt8)(s:Str)(U:s[0]?=S c)(hd:digit c=F)(a:c≠39)(hl:letter c=F){x:Option Str}(I:Src.Ss.find? (λt=>t.isPrefixOf s)=x):
  ck Tryz.prog 1 o 145 [sv s] (·=rH (PZ x)):=by
 refine hdG Tryz.func145 rfl [.cell 2 179,.tmp 3] λO bn s0 w0 g=>?_;have hD:=mW c;rw[hd]at hD;have hL:=qj c;rw[hl]at hL;have V:¬((c.toNat:Nat):Int)=39:=qw (d:=39) a;have W:z Src.Ss=24:=rfl;simp only[go_sem,U];refine jd rfl Zj ?_;rintro _ rfl;simp only[go_sem,V];refine jd rfl Yt ?_;rintro _ rfl;simp only[go_sem];refine aG (λn K=>∃k:Nat,n+k=24/\K.f 0=sv s/\K.f 31=ae k/\K.f 2=aj 2 (nxC 180 (g 2)) 0/\K.gen 2=nxC 180 (g 2)/\K.obj 2=S [ag 0,bF [],.d (.int .u32 0),ag 0]/\∀t∈Src.Ss.take k,t.isPrefixOf s=F) 24 ?_ ?_
 .refine⟨0,rfl,?_⟩
  simp only[go_sem];simp
 rintro n f Z ob ⟨k,hk,A,b,B,E,G,u⟩;simp only at A b B E G;have J:=ah (k:=k) a7;by_cases Q:k<24
 .have H:(k:Int)<24:=a7
  obtain⟨t,L⟩:=getq (l:=Src.Ss) (k:=k) a7;have hP:=ui s t
  have m:∀w:World,uB 1 o w->∀(j:Nat)(x:D),([D.str t]:List D)[j]?=S x->w.cell? ⟨0,k*(Tt 9).size+j,N⟩=S (dV x):=λw J j x I=>by
   match j,I with
   |0,I=>cases I;rw[show k*(Tt 9).size+0=k from by show k*1+0=k;omega];exact(ho w J).2 k t L
  simp only[go_sem,A,b,H];refine sJ aL (λs X ds w h=>h.1.2) aO (n:=24) (e:=9) rfl rfl b9 (kd:=.i64) (i:=k) (by simp only[go_sem,b]) Q (cs:=[.str t]) (λj x I=>by match j,I with|0,I=>cases I;rfl) m ?_;simp only[go_sem,A];refine jd rfl ZQ ?_;rintro _ rfl;cases hp:t.isPrefixOf s
  .simp only[go_sem,b,J]
   refine ao (n-1) a7 ⟨k+1,a7,?_⟩;simp only[go_sem,A,B,E,G];rw[D2,L];intro x I;rcases C1.1 I with I|I
   .exact u x I
   .simp at I;rw[I];exact hp
  .rw[GP (p:=λt=>t.isPrefixOf s) u L hp]at I
   subst I;simp only[go_sem,b,H];refine sJ aL (λs X ds w h=>h.1.2) aO (n:=24) (e:=9) rfl rfl b9 (kd:=.i64) (i:=k) (by simp only[go_sem,b]) Q (cs:=[.str t]) (λj x I=>by match j,I with|0,I=>cases I;rfl) m ?_;simp only[go_sem,B,E,G];exact⟨_,eb (k:=4) (v:=0) (e:=0),rfl⟩
 .obtain rfl:k=24:=a7
  rw[s7 (by rw[W];decide)]at u;rw[List.find?_eq_none.2 (λy Y=>by rw[u y Y];simp)]at I;subst I;simp only[go_sem,A,b,B,E,G,show ¬((24:Nat):Int)<24 by decide];exact y1
def Og(ho:kN o)(c:UInt8)(r:Str)(b:z (c::r)<=1000000):ck Tryz.prog 1 o 145 [sv (c::r)] (·=rH (Src.firstT (c::r))):=by
 rw[pH];cases hd:digit c with
 |true=>rw[l9 rfl];exact BA c (c::r) rfl b hd rfl
 |false=>
   rw[j9 a8];by_cases a:c=39
   .rw[l9 a];exact Dv (c::r) (by rw[a];rfl)
   .rw[j9 a]
    cases hl:letter c with
    |true=>rw[l9 rfl];exact Dw ho c (c::r) rfl b hd a hl
    |false=>rw[j9 a8];exact Dx ho c (c::r) rfl hd a hl rfl
end
def kR(l:List Src.Tok):D:=.sl (l.map tD)
def WH(r:List Src.Tok×Nat×Nat):AV:=.tup [.one (.d (kR r.1)),ae (r.2.1:Nat),ae (r.2.2:Nat)]
def wB(l:List Src.Tok):List C:=l.flatMap λt=>(tD t).map .d
def yg:∀l:List Src.Tok,z (wB l)=z l*4
 |[]=>rfl
 |t::l=>by have a:=yg l;unfold wB at a|-;rw[G8,j8,a];simp only[tD,j7,l4,l5];omega
def Dy(l:List Src.Tok)(t:Src.Tok):wB (l++[t])=wB l++(tD t).map .d:=by unfold wB;rw[P0];simp
def xl(l:List Src.Tok):Src.R (List Src.Tok)×Nat->Src.R (List Src.Tok)×Nat
 |(.ok a,p)=>(.ok (l++a),p)
 |(.err e,p)=>(.err e,p)
def Kt(x:Src.R (List Src.Tok)×Nat):xl [] x=x:=by obtain⟨a,b⟩:=x;cases a<;>rfl
def GQ(l:List Src.Tok)(t:Src.Tok)(x:Src.R (List Src.Tok)×Nat):xl (l++[t]) x=xl l (xl [t] x):=by obtain⟨a,b⟩:=x;cases a<;>simp[xl]
def pI{p:UInt8->Bool}:∀s:Str,s.drop (z (s.takeWhile p))=s.dropWhile p
 |[]=>rfl
 |c::s=>by
   by_cases h:p c=T
   .rw[I6,l9 h,List.dropWhile_cons,l9 h,l4,List.drop_succ_cons,pI s]
   .rw[I6,j9 h,List.dropWhile_cons,j9 h];rfl
def Dz{s t:Str}{k v:Nat}(h:Src.firstT s=.ok (k,t,v)):0<z t/\z t<=z s/\v<4294967296/\k<=4:=by
 have bs:(Src.Ss.all λt=>decide (0<z t))=T:=b9;cases s with
 |nil=>unfold Src.firstT at h;cases h
 |cons c r=>
   rw[pH]at h;have a:∀p:UInt8->Bool,z ((c::r).takeWhile p)<=z (c::r):=λp=>(Qi p).length_le;split at h
   .rename_i hd
    split at h
    .cases h
    .cases h
     refine⟨?_,a _,a7,b9⟩;rw[I6,l9 hd];simp
   .split at h
    .unfold uj at h
     split at h
     .rename_i x y q I
      split at h
      .cases h
       rename_i g;rw[I];refine⟨a8,a8,?_,b9⟩;omega
      .cases h
     .cases h
    .split at h
     .rename_i hl
      unfold uk at h;split at h
      .cases h
      .have d:0<z ((c::r).takeWhile eG):=by
        rw[I6,l9 (by unfold eG;rw[hl];rfl)];simp
       split at h<;>cases h<;>exact⟨d,a _,b9,b9⟩
     .cases b:Src.Ss.find? λt=>t.isPrefixOf (c::r)with
      |some i=>
        rw[b]at h;cases h;have e:=Tg b;have f:=List.find?_some b;refine⟨OX (x9.1 bs _ e),?_,b9,b9⟩;exact(O9.1 f).length_le
      |none=>rw[b]at h;cases h
def DA{s:Str}{e:Nat}(b:s≠[])(h:Src.firstT s=.err e):e=2\/e=3:=by
 cases s with
 |nil=>exact absurd rfl b
 |cons c r=>
   rw[pH]at h;split at h
   .split at h
    .cases h;exact .inl rfl
    .cases h
   .split at h
    .unfold uj at h
     split at h
     .split at h
      .cases h
      .cases h;exact .inr rfl
     .cases h;exact .inr rfl
    .split at h
     .unfold uk at h
      split at h
      .cases h;exact .inl rfl
      .split at h<;>cases h
     .cases a:Src.Ss.find? λt=>t.isPrefixOf (c::r)with
      |some d=>rw[a]at h;cases h
      |none=>rw[a]at h;cases h;exact .inr rfl
def WI{o:cT}(ho:kN o)(s:Str):ck Tryz.prog 1 o 80 [sv s] (·=WH (Src.aaf s)):=by
 refine hdG Tryz.func80 rfl [.tmp 2,.tmp 3,.tmp 4] λO bn s0 w0 g=>?_;unfold Src.aaf;by_cases q:20000<z s
 .have a6:(20000:Int)<(z s:Int):=a7
  rw[l9 q];simp only[go_sem,a6];exact S6
 have a6:¬(20000:Int)<(z s:Int):=a7;rw[j9 q];simp only[go_sem,a6]
 refine aG (λn K=>∃(k:Nat)(m:Nat)(l:List Src.Tok),n+k=z s/\z (s.drop k)<m/\Src.Fl (z s+1) 0 s=xl l (Src.Fl m k (s.drop k))/\z l<=k/\K.f 0=sv s/\K.f 6=ae k/\
  ((l=[]/\K.f 5=.one (.d .nsl))\/(l≠[]/\K.f 5=dL 61 (K.gen 61) 4 0 (z l)/\K.obj 61=S (wB l)))) (z s) ?_ ?_
 .refine⟨0,z s+1,[],a7,a8,by rw[Kt];rfl,a8,?_⟩
  simp only[go_sem];exact .inl trivial
 rintro n f g' ob ⟨k,m,l,hk,hm,L,A,X,q6,q5⟩;simp only at X q6 q5;have bf:(0:Int)<=(k:Int):=a7;by_cases af:k<z s
 case neg=>
  have H:¬(k:Int)<(z s:Int):=a7;rw[y9 a7]at L;obtain⟨W,rfl⟩:∃W,m=W+1:=⟨m-1,a7⟩
  rw[L];have b':∀k,xl l (Src.Fl (W+1) k [])=(.ok l,0):=λk=>by unfold Src.Fl xl;simp
  rw[b'];rcases q5 with⟨rfl,q5⟩|⟨b4,q5,o5⟩
  .simp only[go_sem,X,q6,q5,H]
   exact S6
  .simp only[go_sem,X,q6,q5,H]
   exact⟨_,⟨_,⟨_,_,rfl,Oc (eu rfl l tD (by simp[upd,o5,wB]) rfl (λt _ x I=>by simp only[tD,A0,B3,F2]at I;rcases I with rfl|rfl|rfl|rfl<;>rfl) (λ_ _=>rfl) rfl),_,_,rfl,kM _,_,_,rfl,kM _,rfl⟩,rfl⟩,rfl⟩
 have H:(k:Int)<(z s:Int):=a7;obtain⟨c,Z⟩:=getq af
 have i:s.drop k=c::s.drop (k+1):=by
  rw[C3 af];congr 1;exact H0 ((v8 af).symm.trans Z)
 obtain⟨W,rfl⟩:∃W,m=W+1:=⟨m-1,a7⟩
 have P:z (s.drop (k+1))<W:=by rw[i]at hm;simp only[l4]at hm;omega
 have hw:=ah (k:=k) a7
 have av:∀k r,Src.Fl (W+1) k (c::r)=if c=32\/c=9\/c=10 then Src.Fl W (k+1) r
   else if c=47/\r.head?=S 47 then Src.Fl W (k+z ((c::r).takeWhile (· != 10))) ((c::r).dropWhile (· != 10))
   else match Src.firstT (c::r)with
    |.err e=>(.err e,k)
    |.ok (kd,t,v)=>xl [⟨kd,t,v,k⟩] (Src.Fl W (k+z t) ((c::r).drop (z t))):=by
  intro k r
  conv=>lhs;unfold Src.Fl
  split
  .rfl
  .split
   .rfl
   .split
    .rename_i h;rw[h]
    .rename_i kd t v h
     rw[h];simp only;rcases Src.Fl W (k+z t) ((c::r).drop (z t))with⟨a,b⟩
     cases a<;>rfl
 rw[i,av]at L;by_cases cm:c=32\/c=9\/c=10
 .rw[l9 cm]at L
  have J:(((c.toNat:Nat):Int)=32)\/(¬((c.toNat:Nat):Int)=32/\((c.toNat:Nat):Int)=9)\/(¬((c.toNat:Nat):Int)=32/\¬((c.toNat:Nat):Int)=9/\((c.toNat:Nat):Int)=10):=by
   rcases cm with rfl|rfl|rfl
   .exact .inl rfl
   .exact .inr (.inl ⟨b9,rfl⟩)
   .exact .inr (.inr ⟨b9,b9,rfl⟩)
  rcases J with U|⟨U,h2⟩|⟨U,h2,h3⟩
  case' inl=>simp only[go_sem,X,q6,H,Z,bf,U,hw]
  case' inr.inl=>simp only[go_sem,X,q6,H,Z,bf,U,h2,hw]
  case' inr.inr=>simp only[go_sem,X,q6,H,Z,bf,U,h2,h3,hw]
  all_goals
   refine ao (n-1) a7 ⟨k+1,W,l,a7,P,L,a7,?_⟩;simp only[go_sem,X];exact q5
 rw[j9 cm]at L;have b1:¬((c.toNat:Nat):Int)=32:=qw (d:=32) λh=>cm (.inl h);have b2:¬((c.toNat:Nat):Int)=9:=qw (d:=9) λh=>cm (.inr (.inl h));have b3:¬((c.toNat:Nat):Int)=10:=qw (d:=10) λh=>cm (.inr (.inr h));have cb:List.drop k (List.take (z s) s)=s.drop k:=by rw[I1]
 have c7:z (s.drop k)<=1000000:=by rw[G0];omega
 simp only[go_sem,X,q6,H,Z,bf,b1,b2,b3,cb];refine⟨a7,a7,?_⟩;refine jd rfl (by simp only[go_sem];exact ui (s.drop k) [47,47]) ?_;rintro _ rfl;cases hp:([47,47]:Str).isPrefixOf (s.drop k)
 case true=>
  obtain⟨r2,Q⟩:=O9.1 hp
  have p:c=47/\(s.drop (k+1)).head?=S 47:=by
   rw[i]at Q;simp only[C6,A7,Q7]at Q;exact⟨Q.1.symm,by rw[<-Q.2];rfl⟩
  rw[l9 p,<-i,<-pI,S9]at L;have Y:z ((s.drop k).takeWhile (· != 10))<=z (s.drop k):=(Qi _).length_le
  have u:1<=z ((s.drop k).takeWhile (· != 10)):=by
   rw[i,I6,l9 (by rw[p.1];rfl)];simp
  have ev:z (s.drop k)=z s-k:=G0;generalize hT:z ((s.drop k).takeWhile (· != 10))=E at L Y u;have w:IntKind.i64.wrap ((k:Int)+(E:Int))=((k+E:Nat):Int):=by rw[wrap_i64]<;>omega
  simp only[go_sem,X,q6,bf,cb];refine⟨a7,a7,?_⟩;refine jd rfl (by simp only[go_sem];exact uU Ob (s.drop k) a7) ?_;rintro _ rfl;simp only[go_sem,hT,w,q6];refine ao (n-E) a7 ⟨k+E,W,l,a7,by rw[G0];rw[G0]at P;omega,L,a7,?_⟩;simp only[go_sem,X];exact q5
 have j:¬(c=47/\(s.drop (k+1)).head?=S 47):=by
  rintro⟨U,h2⟩;rw[i,U]at hp;cases V:s.drop (k+1)with
  |nil=>rw[V]at h2;cases h2
  |cons x y=>
    rw[V]at h2 hp;simp only[List.head?_cons,w7]at h2;rw[h2]at hp;simp[List.isPrefixOf]at hp
 rw[j9 j]at L;have hF:=Og ho c (s.drop (k+1)) (by rw[<-i];exact c7);rw[<-i]at hF L;simp only[go_sem,X,q6,bf,cb];refine⟨a7,a7,?_⟩;refine cU rfl ZO ?_;rintro _ rfl;cases hf:Src.firstT (s.drop k)with
 |err e=>
   have he:e=2\/e=3:=DA (by rw[i];simp) hf;have cc:¬(e:Int)=0:=a7;rw[hf]at L;simp only[xl]at L;rw[L];unfold rH xk tD;simp only[go_sem,s6,x7,cc,q6];exact S6
 |ok x=>
   obtain⟨kd,t,v⟩:=x;obtain⟨t1,t2,t3,G⟩:=Dz hf;rw[hf]at L;simp only at L;rw[S9,<-GQ]at L;have ev:z (s.drop k)=z s-k:=G0;have w:IntKind.i64.wrap ((k:Int)+(z t:Int))=((k+z t:Nat):Int):=by rw[wrap_i64]<;>omega
   unfold rH xk tD;rcases q5 with⟨rfl,q5⟩|⟨b4,q5,o5⟩
   .simp only[go_sem,s6,x7,q6,q5,ba,w]
    refine⟨⟨b9,b9⟩,?_⟩;refine ao (n-z t) a7 ⟨k+z t,W,[⟨kd,t,v,k⟩],a7,by rw[G0];rw[G0]at P;omega,L,by simp;omega,?_⟩;simp only[go_sem,X]
    first|exact .inr rfl|exact .inr ⟨by simp,rfl⟩|exact .inr ⟨by simp,rfl,rfl⟩
   .have B:=yg l
    simp only[go_sem,s6,x7,q6,q5,o5,ba,w];refine⟨a7,⟨b9,a7⟩,?_⟩;refine ao (n-z t) a7 ⟨k+z t,W,l++[⟨kd,t,v,k⟩],a7,by rw[G0];rw[G0]at P;omega,L,by simp;omega,?_⟩;simp only[go_sem,X];refine .inr ⟨a8,a8,?_⟩;rw[Dy,s7 a7];rfl
end
end Go.Proofs.YtlacbjnmkhndiaaGreatDoor
namespace Go.Src
section
open Go.Asm (Str)
section
inductive PR (A:Type) where
 |ok (a:A) (n:Nat)
 |no (n:Nat)
section
variable(ts:List Tok)
def fR(n:Nat):Nat:=match ts[n]? with|some t=>t.kind|none=>0
def fK(n:Nat):Str:=match ts[n]? with|some t=>if t.kind=3\/t.kind=4 then t.text else []|none=>[]
def takeN(k:Nat)(n:Nat):PR Tok:=match ts[n]? with|some t=>if t.kind=k then .ok t (n+1)else .no n|none=>.no n
def fg:List Str->Nat->PR Unit
 |[],n=>.ok () n
 |s::l,n=>if fK ts n=s then fg l (n+1)else .no n
end
section
variable{ts:List Tok}
end
end
end
end Go.Src
