/- A part of the proof; no conditions. -/
import Derived.Test.YtednjibjomfhfaaGreatDoorPart6
set_option linter.all false
open List renaming length -> z
open Option renaming some -> S, none -> N
open Bool renaming true -> T, false -> F
set_option maxHeartbeats 64000000
set_option maxRecDepth 100000
namespace Go.Proofs.YtednjibjomfhfaaGreatDoor
section
open Go Go.Am Go.Asm
attribute[local congr]ite_cc
section
def Pp:Option Str->Src.R (Nat×Str×Nat)
 |some t=>.ok (4,t,0)
 |none=>.err 3
def pt(c:UInt8)(r:Str):Src.firstT (c::r)=if digit c=T then(if 4294967295<gK ((c::r).takeWhile digit)then .err 2 else .ok (2,(c::r).takeWhile digit,gK ((c::r).takeWhile digit)))
  else if c=39 then uj (c::r)else if letter c=T then uk ((c::r).takeWhile dP)
  else Pp (Src.nD.find? λt=>t.isPrefixOf (c::r)):=by
 unfold Src.firstT uk;by_cases hd:digit c=T
 .simp only[hd,B5]
 simp only[hd,B8];by_cases a:c=39
 .simp only[a,B5]
  match r with
  |[]=>rfl
  |[_]=>rfl
  |x::y::r=>rfl
 .simp only[a,B8]
  rfl
def GI{a:Type}{p:a->Bool}{l:List a}{k:Nat}{x:a}(h:∀y∈l.take k,p y=F)(I:l[k]?=S x)(c:p x=T):l.find? p=S x:=by
 have b:=(l8.1 I).1;rw[<-F9 k l,List.find?_append,List.find?_eq_none.2 (λy d=>by rw[h y d];simp)]
 have:l.drop k=x::l.drop (k+1):=by
  rw[A8 b];congr 1;exact E8 ((y8 b).symm.trans I)
 rw[this,List.find?_cons,c];rfl
def wm{k v:Nat}{t:Str}:rF (.ok (k,t,v))=.tup [.agg [.d (.int .i64 (k:Nat)),.d (.str t),.d (.int .u32 (v:Nat)),.d (.int .i64 ((0:Nat):Int))],iv .i64 0]:=rfl
def wo{e:Nat}:rF (.err e)=.tup [.agg [.d (.int .i64 ((0:Nat):Int)),.d (.str []),.d (.int .u32 ((0:Nat):Int)),.d (.int .i64 ((0:Nat):Int))],iv .i64 (e:Nat)]:=rfl
variable{o:cg}
def BC(c:UInt8)(s:Str)(a:s[0]?=S c)(b:z s<=1000000)(hd:digit c=T){x:Src.R (Nat×Str×Nat)}(I:(if 4294967295<gK (s.takeWhile digit)then .err 2 else .ok (2,s.takeWhile digit,gK (s.takeWhile digit)))=x):
  bP Tryz.prog 4 o 119 [sv s] (·=rF x):=by
 refine hdG Tryz.func119 rfl [.cell 2 159,.tmp 3] λO bo s0 w0 g=>?_;have W:=mO c;rw[hd]at W;have hl:=C1 (OC digit (l:=s)).length_le b;have hN:=DE (s.takeWhile digit) a6 List.all_takeWhile;rw[I]at hN;have L:=uV mO s a6;generalize s.takeWhile digit=u at hN L I;simp only[go_sem,a];refine jU rfl X8 ?_;rintro _ rfl;simp only[go_sem];refine jU rfl (by simp only[go_sem];exact L) ?_;rintro _ rfl;simp only[go_sem];refine jU rfl Xc ?_;rintro _ rfl;cases x with
 |ok y=>
   exact T3
 |err e=>
   exact Uy
def DF(s:Str)(a:s[0]?=S 39):bP Tryz.prog 4 o 119 [sv s] (·=rF (uj s)):=by
 refine hdG Tryz.func119 rfl [.cell 2 159,.tmp 3] λO bo s0 w0 g=>?_;have W:=mO 39;rw[show digit 39=F from rfl]at W;have b:(((39:UInt8).toNat:Nat):Int)=39:=rfl;have hB:=JL s;generalize uj s=x at hB|-;simp only[go_sem,a];refine jU rfl X8 ?_;rintro _ rfl;simp only[go_sem,b];refine jU rfl Xn ?_;rintro _ rfl;cases x with
 |ok y=>
   exact T3
 |err e=>
   exact Uy
def DG(ho:kC o)(c:UInt8)(s:Str)(b:s[0]?=S c)(l:z s<=1000000)(hd:digit c=F)(a:c≠39)(hl:letter c=T):
  bP Tryz.prog 4 o 119 [sv s] (·=rF (uk (s.takeWhile dP))):=by
 refine hdG Tryz.func119 rfl [.cell 2 159,.tmp 3] λO bo s0 w0 g=>?_;have W:=mO c;rw[hd]at W;have hL:=pX c;rw[hl]at hL;have i:¬((c.toNat:Nat):Int)=39:=qn (d:=39) a;have L:=uV xY s a6;have hN:=JM ho (s.takeWhile dP);generalize s.takeWhile dP=u at hN L|-;generalize uk u=x at hN|-;simp only[go_sem,b];refine jU rfl X8 ?_;rintro _ rfl;simp only[go_sem,i];refine jU rfl WQ ?_;rintro _ rfl;simp only[go_sem];refine jU rfl (by simp only[go_sem];exact L) ?_;rintro _ rfl;simp only[go_sem];refine cK rfl Xc ?_;rintro _ rfl;cases x with
 |ok y=>
   exact T3
 |err e=>
   exact Uy
def DH(ho:kC o)(c:UInt8)(s:Str)(U:s[0]?=S c)(hd:digit c=F)(a:c≠39)(hl:letter c=F){x:Option Str}(I:Src.nD.find? (λt=>t.isPrefixOf s)=x):
  bP Tryz.prog 4 o 119 [sv s] (·=rF (Pp x)):=by
 refine hdG Tryz.func119 rfl [.cell 2 159,.tmp 3] λO bo s0 w0 g=>?_;have W:=mO c;rw[hd]at W;have hL:=pX c;rw[hl]at hL;have V:¬((c.toNat:Nat):Int)=39:=qn (d:=39) a;have Y:z Src.nD=24:=rfl;simp only[go_sem,U];refine jU rfl X8 ?_;rintro _ rfl;simp only[go_sem,V];refine jU rfl WQ ?_;rintro _ rfl;simp only[go_sem];refine aq (λn K=>∃k:Nat,n+k=24/\K.f 0=sv s/\K.f 31=iv .i64 k/\K.f 2=.one (.ptr 2 (nxC 160 (g 2)) 0)/\K.gen 2=nxC 160 (g 2)/\K.obj 2=S [.d (.int .i64 0),.d (.str []),.d (.int .u32 0),.d (.int .i64 0)]/\∀t∈Src.nD.take k,t.isPrefixOf s=F) 24 ?_ ?_
 .refine⟨0,rfl,?_⟩
  simp only[go_sem];simp
 rintro n f g' ob ⟨k,hk,m,b,A,B,E,u⟩;simp only at m b A B E;have G:=ab (k:=k) a6;by_cases Q:k<24
 .have H:(k:Int)<24:=a6
  obtain⟨t,J⟩:=getq (l:=Src.nD) (k:=k) a6;have hP:=ui s t
  have q:∀w:World,qC 4 o w->∀(j:Nat)(x:D),([D.str t]:List D)[j]?=S x->w.cell? ⟨2,k*(Tt 9).size+j,N⟩=S (dV x):=λw G j x I=>by
   match j,I with
   |0,I=>cases I;rw[show k*(Tt 9).size+0=k from by show k*1+0=k;omega];exact(ho w G).2 k t J
  simp only[go_sem,m,b,H];refine pL aG (λs Z ds w h=>h.1.2) aR (n:=24) (e:=9) rfl rfl a7 (kd:=.i64) (i:=k) Ym Q (cs:=[.str t]) (λj x I=>by match j,I with|0,I=>cases I;rfl) q ?_;simp only[go_sem,m];refine jU rfl Yz ?_;rintro _ rfl;cases hp:t.isPrefixOf s
  .simp only[go_sem,b,G]
   refine ai (n-1) a6 ⟨k+1,a6,?_⟩;simp only[go_sem,m,A,B,E];rw[B4,J];intro x I;rcases D7.1 I with I|I
   .exact u x I
   .simp at I;rw[I];exact hp
  .rw[GI (p:=λt=>t.isPrefixOf s) u J hp]at I
   subst I;simp only[go_sem,b,H];refine pL aG (λs Z ds w h=>h.1.2) aR (n:=24) (e:=9) rfl rfl a7 (kd:=.i64) (i:=k) Ym Q (cs:=[.str t]) (λj x I=>by match j,I with|0,I=>cases I;rfl) q ?_;simp only[go_sem,A,B,E];exact⟨_,ew (k:=4) (v:=0) (e:=0),rfl⟩
 .obtain rfl:k=24:=a6
  rw[s6 (by rw[Y];decide)]at u;rw[List.find?_eq_none.2 (λy hy=>by rw[u y hy];simp)]at I;subst I;simp only[go_sem,m,b,A,B,E,show ¬((24:Nat):Int)<24 by decide];exact K4
def NJ(ho:kC o)(c:UInt8)(r:Str)(b:z (c::r)<=1000000):bP Tryz.prog 4 o 119 [sv (c::r)] (·=rF (Src.firstT (c::r))):=by
 rw[pt];cases hd:digit c with
 |true=>rw[l7 rfl];exact BC c (c::r) rfl b hd rfl
 |false=>
   rw[j8 a8];by_cases a:c=39
   .rw[l7 a];exact DF (c::r) (by rw[a];rfl)
   .rw[j8 a]
    cases hl:letter c with
    |true=>rw[l7 rfl];exact DG ho c (c::r) rfl b hd a hl
    |false=>rw[j8 a8];exact DH ho c (c::r) rfl hd a hl rfl
end
def jG(l:List Src.Tok):D:=.sl (l.map nB)
def Vm(r:List Src.Tok×Nat×Nat):AV:=.tup [.one (.d (jG r.1)),iv .i64 (r.2.1:Nat),iv .i64 (r.2.2:Nat)]
def wq(l:List Src.Tok):List C:=l.flatMap λt=>(nB t).map .d
def xZ:∀l:List Src.Tok,z (wq l)=z l*4
 |[]=>rfl
 |t::l=>by have a:=xZ l;unfold wq at a|-;rw[A1,j4,a];simp only[nB,j5,j6,j7];omega
def DI(l:List Src.Tok)(t:Src.Tok):wq (l++[t])=wq l++(nB t).map .d:=by unfold wq;rw[J9];simp
def xj(l:List Src.Tok):Src.R (List Src.Tok)×Nat->Src.R (List Src.Tok)×Nat
 |(.ok a,p)=>(.ok (l++a),p)
 |(.err e,p)=>(.err e,p)
def JN(x:Src.R (List Src.Tok)×Nat):xj [] x=x:=by obtain⟨a,b⟩:=x;cases a<;>rfl
def GJ(l:List Src.Tok)(t:Src.Tok)(x:Src.R (List Src.Tok)×Nat):xj (l++[t]) x=xj l (xj [t] x):=by obtain⟨a,b⟩:=x;cases a<;>simp[xj]
def pw{p:UInt8->Bool}:∀s:Str,s.drop (z (s.takeWhile p))=s.dropWhile p
 |[]=>rfl
 |c::s=>by
   by_cases h:p c=T
   .rw[G0,l7 h,List.dropWhile_cons,l7 h,j6,D2,pw s]
   .rw[G0,j8 h,List.dropWhile_cons,j8 h];rfl
def DJ{s t:Str}{k v:Nat}(h:Src.firstT s=.ok (k,t,v)):0<z t/\z t<=z s/\v<4294967296/\k<=4:=by
 have d:(Src.nD.all λt=>decide (0<z t))=T:=a7;cases s with
 |nil=>unfold Src.firstT at h;cases h
 |cons c r=>
   rw[pt]at h;have a:∀p:UInt8->Bool,z ((c::r).takeWhile p)<=z (c::r):=λp=>(OC p).length_le;split at h
   .rename_i hd
    split at h
    .cases h
    .cases h
     refine⟨?_,a _,a6,a7⟩;rw[G0,l7 hd];simp
   .split at h
    .unfold uj at h
     split at h
     .rename_i x y X I
      split at h
      .cases h
       rename_i i;rw[I];refine⟨a8,a8,?_,a7⟩;omega
      .cases h
     .cases h
    .split at h
     .rename_i hl
      unfold uk at h;split at h
      .cases h
      .have e:0<z ((c::r).takeWhile dP):=by
        rw[G0,l7 (by unfold dP;rw[hl];rfl)];simp
       split at h<;>cases h<;>exact⟨e,a _,a7,a7⟩
     .cases b:Src.nD.find? λt=>t.isPrefixOf (c::r)with
      |some j=>
        rw[b]at h;cases h;have f:=Q7 b;have g:=List.find?_some b;refine⟨M4 (x7.1 d _ f),?_,a7,a7⟩;exact(N1.1 g).length_le
      |none=>rw[b]at h;cases h
def DK{s:Str}{e:Nat}(b:s≠[])(h:Src.firstT s=.err e):e=2\/e=3:=by
 cases s with
 |nil=>exact absurd rfl b
 |cons c r=>
   rw[pt]at h;split at h
   .split at h
    .cases h;exact .inl rfl
    .cases h
   .split at h
    .unfold uj at h
     split at h
     .split at h
      .cases h
      .cases h;exact .inr rfl
     .cases h;exact .inr rfl
    .split at h
     .unfold uk at h
      split at h
      .cases h;exact .inl rfl
      .split at h<;>cases h
     .cases a:Src.nD.find? λt=>t.isPrefixOf (c::r)with
      |some d=>rw[a]at h;cases h
      |none=>rw[a]at h;cases h;exact .inr rfl
def Vn{o:cg}(ho:kC o)(s:Str):bP Tryz.prog 4 o 72 [sv s] (·=Vm (Src.qT s)):=by
 refine hdG Tryz.func72 rfl [.tmp 2,.tmp 3,.tmp 4] λO bo s0 w0 g=>?_;unfold Src.qT;by_cases q:20000<z s
 .have bz:(20000:Int)<(z s:Int):=a6
  rw[l7 q];simp only[go_sem,bz];exact Ua
 have bz:¬(20000:Int)<(z s:Int):=a6;rw[j8 q];simp only[go_sem,bz]
 refine aq (λn K=>∃(k:Nat)(m:Nat)(l:List Src.Tok),n+k=z s/\z (s.drop k)<m/\Src.jH (z s+1) 0 s=xj l (Src.jH m k (s.drop k))/\z l<=k/\K.f 0=sv s/\K.f 6=iv .i64 k/\
  ((l=[]/\K.f 5=.one (.d .nsl))\/(l≠[]/\K.f 5=.one (.osl 61 (K.gen 61) 4 0 (z l))/\K.obj 61=S (wq l)))) (z s) ?_ ?_
 .refine⟨0,z s+1,[],a6,a8,by rw[JN];rfl,a8,?_⟩
  simp only[go_sem];exact .inl trivial
 rintro n f g' ob ⟨k,m,l,hk,hm,Q,E,q0,q6,q5⟩;simp only at q0 q6 q5;have an:(0:Int)<=(k:Int):=a6;by_cases af:k<z s
 case neg=>
  have H:¬(k:Int)<(z s:Int):=a6;rw[y2 a6]at Q;obtain⟨W,rfl⟩:∃W,m=W+1:=⟨m-1,a6⟩
  rw[Q];have b':∀k,xj l (Src.jH (W+1) k [])=(.ok l,0):=λk=>by unfold Src.jH xj;simp
  rw[b'];rcases q5 with⟨rfl,q5⟩|⟨bl,q5,o5⟩
  .simp only[go_sem,q0,q6,q5,H]
   exact Ua
  .simp only[go_sem,q0,q6,q5,H]
   exact⟨_,⟨_,⟨_,_,rfl,NG (eG rfl l nB (by simp[upd,o5,wq]) rfl (λt _ x I=>by simp only[nB,y9,A4,E7]at I;rcases I with rfl|rfl|rfl|rfl<;>rfl) (λ_ _=>rfl) rfl),_,_,rfl,kj _,_,_,rfl,kj _,rfl⟩,rfl⟩,rfl⟩
 have H:(k:Int)<(z s:Int):=a6;obtain⟨c,hc⟩:=getq af
 have i:s.drop k=c::s.drop (k+1):=by
  rw[A8 af];congr 1;exact E8 ((y8 af).symm.trans hc)
 obtain⟨W,rfl⟩:∃W,m=W+1:=⟨m-1,a6⟩
 have bf:z (s.drop (k+1))<W:=by rw[i]at hm;simp only[j6]at hm;omega
 have hw:=ab (k:=k) a6
 have ad:∀k r,Src.jH (W+1) k (c::r)=if c=32\/c=9\/c=10 then Src.jH W (k+1) r
   else if c=47/\r.head?=S 47 then Src.jH W (k+z ((c::r).takeWhile (· != 10))) ((c::r).dropWhile (· != 10))
   else match Src.firstT (c::r)with
    |.err e=>(.err e,k)
    |.ok (kd,t,v)=>xj [⟨kd,t,v,k⟩] (Src.jH W (k+z t) ((c::r).drop (z t))):=by
  intro k r
  conv=>lhs;unfold Src.jH
  split
  .rfl
  .split
   .rfl
   .split
    .rename_i h;rw[h]
    .rename_i kd t v h
     rw[h];simp only;rcases Src.jH W (k+z t) ((c::r).drop (z t))with⟨a,b⟩
     cases a<;>rfl
 rw[i,ad]at Q;by_cases eh:c=32\/c=9\/c=10
 .rw[l7 eh]at Q
  have J:(((c.toNat:Nat):Int)=32)\/(¬((c.toNat:Nat):Int)=32/\((c.toNat:Nat):Int)=9)\/(¬((c.toNat:Nat):Int)=32/\¬((c.toNat:Nat):Int)=9/\((c.toNat:Nat):Int)=10):=by
   rcases eh with rfl|rfl|rfl
   .exact .inl rfl
   .exact .inr (.inl ⟨a7,rfl⟩)
   .exact .inr (.inr ⟨a7,a7,rfl⟩)
  rcases J with U|⟨U,Y⟩|⟨U,Y,h3⟩
  case' inl=>simp only[go_sem,q0,q6,H,hc,an,U,hw]
  case' inr.inl=>simp only[go_sem,q0,q6,H,hc,an,U,Y,hw]
  case' inr.inr=>simp only[go_sem,q0,q6,H,hc,an,U,Y,h3,hw]
  all_goals
   refine ai (n-1) a6 ⟨k+1,W,l,a6,bf,Q,a6,?_⟩;simp only[go_sem,q0];exact q5
 rw[j8 eh]at Q;have b1:¬((c.toNat:Nat):Int)=32:=qn (d:=32) λh=>eh (.inl h);have b2:¬((c.toNat:Nat):Int)=9:=qn (d:=9) λh=>eh (.inr (.inl h));have B:¬((c.toNat:Nat):Int)=10:=qn (d:=10) λh=>eh (.inr (.inr h));have cd:List.drop k (List.take (z s) s)=s.drop k:=by rw[F0]
 have dp:z (s.drop k)<=1000000:=by rw[D4];omega
 simp only[go_sem,q0,q6,H,hc,an,b1,b2,B,cd];refine⟨a6,a6,?_⟩;refine jU rfl (by simp only[go_sem];exact ui (s.drop k) [47,47]) ?_;rintro _ rfl;cases hp:([47,47]:Str).isPrefixOf (s.drop k)
 case true=>
  obtain⟨r2,b5⟩:=N1.1 hp
  have j:c=47/\(s.drop (k+1)).head?=S 47:=by
   rw[i]at b5;simp only[u7,x9,PD]at b5;exact⟨b5.1.symm,by rw[<-b5.2];rfl⟩
  rw[l7 j,<-i,<-pw,Q2]at Q;have Z:z ((s.drop k).takeWhile (· != 10))<=z (s.drop k):=(OC _).length_le
  have u:1<=z ((s.drop k).takeWhile (· != 10)):=by
   rw[i,G0,l7 (by rw[j.1];rfl)];simp
  have e7:z (s.drop k)=z s-k:=D4;generalize hT:z ((s.drop k).takeWhile (· != 10))=G at Q Z u;have ch:IntKind.i64.wrap ((k:Int)+(G:Int))=((k+G:Nat):Int):=by rw[wrap_i64]<;>omega
  simp only[go_sem,q0,q6,an,cd];refine⟨a6,a6,?_⟩;refine jU rfl (by simp only[go_sem];exact uV NF (s.drop k) a6) ?_;rintro _ rfl;simp only[go_sem,hT,ch,q6];refine ai (n-G) a6 ⟨k+G,W,l,a6,by rw[D4];rw[D4]at bf;omega,Q,a6,?_⟩;simp only[go_sem,q0];exact q5
 have w:¬(c=47/\(s.drop (k+1)).head?=S 47):=by
  rintro⟨U,Y⟩;rw[i,U]at hp;cases V:s.drop (k+1)with
  |nil=>rw[V]at Y;cases Y
  |cons x y=>
    rw[V]at Y hp;simp only[List.head?_cons,w9]at Y;rw[Y]at hp;simp[List.isPrefixOf]at hp
 rw[j8 w]at Q;have hF:=NJ ho c (s.drop (k+1)) (by rw[<-i];exact dp);rw[<-i]at hF Q;simp only[go_sem,q0,q6,an,cd];refine⟨a6,a6,?_⟩;refine cK rfl Yw ?_;rintro _ rfl;cases hf:Src.firstT (s.drop k)with
 |err e=>
   have he:e=2\/e=3:=DK (by rw[i];simp) hf;have A:¬(e:Int)=0:=a6;rw[hf]at Q;simp only[xj]at Q;rw[Q];unfold rF qg nB;simp only[go_sem,l9,v8,A,q6];exact Ua
 |ok x=>
   obtain⟨kd,t,v⟩:=x;obtain⟨t1,t2,t3,p⟩:=DJ hf;rw[hf]at Q;simp only at Q;rw[Q2,<-GJ]at Q;have e7:z (s.drop k)=z s-k:=D4;have ch:IntKind.i64.wrap ((k:Int)+(z t:Int))=((k+z t:Nat):Int):=by rw[wrap_i64]<;>omega
   unfold rF qg nB;rcases q5 with⟨rfl,q5⟩|⟨bl,q5,o5⟩
   .simp only[go_sem,l9,v8,q6,q5,aZ,ch]
    refine⟨⟨a7,a7⟩,?_⟩;refine ai (n-z t) a6 ⟨k+z t,W,[⟨kd,t,v,k⟩],a6,by rw[D4];rw[D4]at bf;omega,Q,by simp;omega,?_⟩;simp only[go_sem,q0]
    first|exact .inr rfl|exact .inr ⟨by simp,rfl⟩|exact .inr ⟨by simp,rfl,rfl⟩
   .have L:=xZ l
    simp only[go_sem,l9,v8,q6,q5,o5,aZ,ch];refine⟨a6,⟨a7,a6⟩,?_⟩;refine ai (n-z t) a6 ⟨k+z t,W,l++[⟨kd,t,v,k⟩],a6,by rw[D4];rw[D4]at bf;omega,Q,by simp;omega,?_⟩;simp only[go_sem,q0];refine .inr ⟨a8,a8,?_⟩;rw[DI,s6 a6];rfl
end
end Go.Proofs.YtednjibjomfhfaaGreatDoor
namespace Go.Src
section
open Go.Asm (Str)
section
inductive PR (c:Type) where
 |ok (a:c) (n:Nat)
 |no (n:Nat)
def PR.bind{c β:Type}(x:PR c)(f:c->Nat->PR β):PR β:=match x with|.ok a n=>f a n|.no n=>.no n
variable{n:Nat}{c β:Type}{f:c->Nat->PR β}{p:PR c}
@[simp]def PR.bind_ok{a:c}:(PR.ok a n).bind f=f a n:=rfl
@[simp]def PR.bind_no:(PR.no n:PR c).bind f=.no n:=rfl
section
variable(A:List Tok)
def dL(n:Nat):Nat:=match A[n]? with|some t=>t.kind|none=>0
def az(n:Nat):Str:=match A[n]? with|some t=>if t.kind=3\/t.kind=4 then t.text else []|none=>[]
def takeN(k:Nat)(n:Nat):PR Tok:=match A[n]? with|some t=>if t.kind=k then .ok t (n+1)else .no n|none=>.no n
def aS:List Str->Nat->PR Unit
 |[],n=>.ok () n
 |s::l,n=>if az A n=s then aS l (n+1)else .no n
mutual
def dm:Nat->Nat->Nat->PR Ex
 |0,_,n=>.no n
 |k+1,least,n=>(ey k n).bind λleft n=>gX k least left n
def gX:Nat->Nat->Ex->Nat->PR Ex
 |0,_,_,n=>.no n
 |k+1,least,left,n=>
   if (qt (az A n)).2.2<least then .ok left n
   else(dm k ((qt (az A n)).2.2+1) (n+1)).bind λright m=>gX k least (.mk (qt (az A n)).1 (qt (az A n)).2.1 0 [] [left,right]) m
def ey:Nat->Nat->PR Ex
 |0,n=>.no n
 |k+1,n=>
   if dL A n=2 then(takeN A 2 n).bind λt n=>.ok (.mk 1 0 t.num [] []) n
   else if az A n=[103,101,116]then(aS A [cP,bt] (n+1)).bind λ_ n=>.ok (.mk 5 0 0 [] []) n
   else if az A n=cP then(dm k 1 (n+1)).bind λe n=>(aS A [bt] n).bind λ_ n=>.ok e n
   else if az A n=[33]then(ey k (n+1)).bind λe n=>.ok (.mk 7 0 0 [] [e]) n
   else(takeN A 1 n).bind λt n=>
    if az A n=[91]then(dm k 1 (n+1)).bind λe n=>(aS A [[93]] n).bind λ_ n=>.ok (.mk 3 0 0 t.text [e]) n
    else if az A n=cP then(fD k (n+1)).bind λl n=>.ok (.mk 4 0 0 t.text l) n
    else .ok (.mk 2 0 0 t.text []) n
def fD:Nat->Nat->PR (List Ex)
 |0,n=>.no n
 |k+1,n=>
   if az A n=bt then .ok [] (n+1)
   else(dm k 1 n).bind λe n=>gY k [e] n
def gY:Nat->List Ex->Nat->PR (List Ex)
 |0,_,n=>.no n
 |k+1,l,n=>
   if az A n=ck then(dm k 1 (n+1)).bind λe n=>gY k (l++[e]) n
   else(aS A [bt] n).bind λ_ n=>.ok l n
end
def jw(k n:Nat):PR (List Ex):=(aS A [cP] n).bind λ_ n=>(dm A k 1 n).bind λe n=>(aS A [bt] n).bind λ_ n=>.ok [e] n
def iE(k n:Nat):PR Stm:=
 (takeN A 1 n).bind λt n=>
   (if az A n=[61]then(dm A k 1 (n+1)).bind λe n=>.ok (Stm.mk 1 t.text [e] [] []) n
    else if az A n=[91]then(dm A k 1 (n+1)).bind λi n=>(aS A [[93],[61]] n).bind λ_ n=>(dm A k 1 n).bind λe n=>.ok (Stm.mk 2 t.text [i,e] [] []) n
    else if az A n=cP then(fD A k (n+1)).bind λl n=>.ok (Stm.mk 6 t.text l [] []) n
    else .no n).bind λs n=>(aS A [bO] n).bind λ_ n=>.ok s n
mutual
def gy:Nat->Nat->PR Stm
 |0,n=>.no n
 |k+1,n=>
   if az A n=[112,117,116]then(jw A k (n+1)).bind λe n=>(aS A [bO] n).bind λ_ n=>.ok (.mk 3 [] e [] []) n
   else if az A n=[114,101,116,117,114,110]then
    (if az A (n+1)=bO then .ok (.mk 7 [] [] [] []) (n+2)
     else(dm A k 1 (n+1)).bind λe n=>(aS A [bO] n).bind λ_ n=>.ok (.mk 7 [] [e] [] []) n)
   else if az A n=[105,102]then
    (jw A k (n+1)).bind λe n=>(iw k n).bind λa n=>
      if az A n=[101,108,115,101]then(iw k (n+1)).bind λel n=>.ok (.mk 4 [] e a el) n
      else .ok (.mk 4 [] e a []) n
   else if az A n=[119,104,105,108,101]then
    (jw A k (n+1)).bind λe n=>(iw k n).bind λa n=>.ok (.mk 5 [] e a []) n
   else iE A k n
def iw:Nat->Nat->PR (List Stm)
 |0,n=>.no n
 |k+1,n=>(aS A [[123]] n).bind λ_ n=>dH k [] n
def dH:Nat->List Stm->Nat->PR (List Stm)
 |0,_,n=>.no n
 |k+1,l,n=>
   if az A n=[125]then .ok l (n+1)
   else(gy k n).bind λs n=>dH k (l++[s]) n
end
def eg:Nat->List Str->Nat->PR (List Str)
 |0,_,n=>.no n
 |k+1,l,n=>if az A n=ck then(takeN A 1 (n+1)).bind λt n=>eg k (l++[t.text]) n else .ok l n
def eL(k n:Nat):PR (List Str):=(takeN A 1 n).bind λt n=>eg A k [t.text] n
def dI:Nat->List Str->Nat->PR (List Str)
 |0,_,n=>.no n
 |k+1,l,n=>if az A n=[118,97,114]then(eL A k (n+1)).bind λm n=>(aS A [bO] n).bind λ_ n=>dI k (l++m) n else .ok l n
def mn(k n:Nat):PR Fn:=
 (aS A [[102,117,110,99]] n).bind λ_ n=>(takeN A 1 n).bind λt n=>(aS A [cP] n).bind λ_ n=>
   (if dL A n=1 then eL A k n else .ok [] n).bind λa n=>(aS A [bt] n).bind λ_ n=>
     (aS A [[123]] (if az A n=[119,111,114,100]then n+1 else n)).bind λ_ m=>(dI A k [] m).bind λc m=>
       (dH A k [] m).bind λb m=>.ok ⟨t.text,a,c,decide (az A n=[119,111,114,100]),b⟩ m
def kv:Nat->List Str->List (Str×Int)->Nat->PR (List Str×List (Str×Int))
 |0,_,_,n=>.no n
 |k+1,vs,u,n=>
   if az A n=[118,97,114]then(eL A k (n+1)).bind λm n=>(aS A [bO] n).bind λ_ n=>kv k (vs++m) u n
   else if az A n=[97,114,114,97,121]then
    (takeN A 1 (n+1)).bind λt n=>(aS A [[91]] n).bind λ_ n=>(takeN A 2 n).bind λX n=>(aS A [[93]] n).bind λ_ n=>(aS A [bO] n).bind λ_ n=>kv k vs (u++[(t.text,(X.num:Int))]) n
   else .ok (vs,u) n
def lH:Nat->List Fn->Nat->PR (List Fn)
 |0,_,n=>.no n
 |k+1,l,n=>if n<z A then(mn A k n).bind λf n=>lH k (l++[f]) n else .ok l n
def lW(k n:Nat):PR Prog:=
 (kv A k [] [] n).bind λh n=>(mn A k n).bind λf n=>(lH A k [f] n).bind λfs n=>.ok ⟨h.1,h.2,fs⟩ n
end
def PR.Fwd{c:Type}(n:Nat)(p:PR c):Prop:=∀a m,p=.ok a m->n<m
def PR.FwdE{c:Type}(n:Nat)(p:PR c):Prop:=∀a m,p=.ok a m->n<=m
def PR.bind_fwd(h:p.Fwd n)(d:∀a m,(f a m).FwdE m):(p.bind f).Fwd n:=by
 intro b m c;cases p with
 |ok a k=>exact F7 (h a k rfl) (d a k b m c)
 |no k=>cases c
def PR.bind_fwdE(h:p.FwdE n)(d:∀a m,(f a m).FwdE m):(p.bind f).FwdE n:=by
 intro b m c;cases p with
 |ok a k=>exact C1 (h a k rfl) (d a k b m c)
 |no k=>cases c
def PR.Fwd.le{c:Type}{p:PR c}(h:p.Fwd n):p.FwdE n:=λa m e=>P7 (h a m e)
def PR.Fwd.of_succ{c:Type}{p:PR c}(h:p.FwdE (n+1)):p.Fwd n:=λa m e=>h a m e
def PR.fwdE_ok{c:Type}{n m:Nat}{a:c}(h:n<=m):(PR.ok a m).FwdE n:=λb k e=>by cases e;exact h
def PR.fwd_no{c:Type}{n m:Nat}:(PR.no m:PR c).Fwd n:=λ_ _ e=>by cases e
section
variable{A:List Tok}
def il{k n:Nat}:(takeN A k n).Fwd n:=by
 intro a m h;unfold takeN at h;split at h
 .split at h
  .cases h;omega
  .cases h
 .cases h
def da:∀{l:List Str}{n:Nat},(aS A l n).FwdE n
 |[],n=>PR.fwdE_ok (l0 _)
 |s::l,n=>by
   unfold aS;split
   .exact λa m e=>by have:=da (l:=l) (n:=n+1) a m e;omega
   .exact PR.fwd_no.le
mutual
theorem fE:∀(k l n:Nat),(dm A k l n).Fwd n
 |0,_,_=>by unfold dm;exact PR.fwd_no
 |k+1,l,n=>by
   unfold dm;exact PR.bind_fwd (yg k n) λa m=>tr k l a m
theorem tr:∀(k l:Nat)(left:Ex)(n:Nat),(gX A k l left n).FwdE n
 |0,_,_,_=>by unfold gX;exact PR.fwd_no.le
 |k+1,l,left,n=>by
   unfold gX;split
   .exact PR.fwdE_ok (l0 _)
   .exact λa m e=>by have:=PR.bind_fwdE (fE k _ (n+1)).le (λb q=>tr k l _ q) a m e;omega
theorem yg:∀(k n:Nat),(ey A k n).Fwd n
 |0,_=>by unfold ey;exact PR.fwd_no
 |k+1,n=>by
   unfold ey;split
   .exact PR.bind_fwd il λa m=>PR.fwdE_ok (l0 _)
   split
   .exact PR.Fwd.of_succ (PR.bind_fwdE da λa m=>PR.fwdE_ok (l0 _))
   split
   .exact PR.Fwd.of_succ (PR.bind_fwdE (fE k 1 (n+1)).le λa m=>PR.bind_fwdE da λb q=>PR.fwdE_ok (l0 _))
   split
   .exact PR.Fwd.of_succ (PR.bind_fwdE (yg k (n+1)).le λa m=>PR.fwdE_ok (l0 _))
   refine PR.bind_fwd il λa m=>?_;split
   .exact(PR.Fwd.of_succ (PR.bind_fwdE (fE k 1 (m+1)).le λa m=>PR.bind_fwdE da λb q=>PR.fwdE_ok (l0 _))).le
   split
   .exact(PR.Fwd.of_succ (PR.bind_fwdE (yh k (m+1)).le λa m=>PR.fwdE_ok (l0 _))).le
   .exact PR.fwdE_ok (l0 _)
theorem yh:∀(k n:Nat),(fD A k n).Fwd n
 |0,_=>by unfold fD;exact PR.fwd_no
 |k+1,n=>by
   unfold fD;split
   .exact PR.Fwd.of_succ (PR.fwdE_ok (l0 _))
   .exact PR.bind_fwd (fE k 1 n) λa m=>yi k [a] m
theorem yi:∀(k:Nat)(l:List Ex)(n:Nat),(gY A k l n).FwdE n
 |0,_,_=>by unfold gY;exact PR.fwd_no.le
 |k+1,l,n=>by
   unfold gY;split
   .exact(PR.Fwd.of_succ (PR.bind_fwdE (fE k 1 (n+1)).le λa m=>yi k (l++[a]) m)).le
   .exact PR.bind_fwdE da λb q=>PR.fwdE_ok (l0 _)
end
def qV{k n:Nat}:(jw A k n).FwdE n:=PR.bind_fwdE da λ_ m=>PR.bind_fwdE (fE k 1 m).le λ_ m=>PR.bind_fwdE da λ_ _=>PR.fwdE_ok (l0 _)
def DR{k n:Nat}:(iE A k n).Fwd n:=by
 unfold iE;refine PR.bind_fwd il λt m=>PR.bind_fwdE ?_ λs q=>PR.bind_fwdE da λ_ _=>PR.fwdE_ok (l0 _);split
 .exact(PR.Fwd.of_succ (PR.bind_fwdE (fE k 1 (m+1)).le λ_ _=>PR.fwdE_ok (l0 _))).le
 split
 .exact(PR.Fwd.of_succ (PR.bind_fwdE (fE k 1 (m+1)).le λ_ _=>PR.bind_fwdE da λ_ q=>PR.bind_fwdE (fE k 1 q).le λ_ _=>PR.fwdE_ok (l0 _))).le
 split
 .exact(PR.Fwd.of_succ (PR.bind_fwdE (yh k (m+1)).le λ_ _=>PR.fwdE_ok (l0 _))).le
 .exact PR.fwd_no.le
mutual
theorem GX:∀(k n:Nat),(gy A k n).Fwd n
 |0,_=>by unfold gy;exact PR.fwd_no
 |k+1,n=>by
   unfold gy;split
   .exact PR.Fwd.of_succ (PR.bind_fwdE qV λ_ _=>PR.bind_fwdE da λ_ _=>PR.fwdE_ok (l0 _))
   split
   .split
    .exact λa m e=>by cases e;omega
    .exact PR.Fwd.of_succ (PR.bind_fwdE (fE k 1 (n+1)).le λ_ _=>PR.bind_fwdE da λ_ _=>PR.fwdE_ok (l0 _))
   split
   .refine PR.Fwd.of_succ (PR.bind_fwdE qV λ_ m=>PR.bind_fwdE (tt k m) λ_ q=>?_)
    split
    .exact(PR.Fwd.of_succ (PR.bind_fwdE (tt k (q+1)) λ_ _=>PR.fwdE_ok (l0 _))).le
    .exact PR.fwdE_ok (l0 _)
   split
   .exact PR.Fwd.of_succ (PR.bind_fwdE qV λ_ m=>PR.bind_fwdE (tt k m) λ_ _=>PR.fwdE_ok (l0 _))
   .exact DR
theorem tt:∀(k n:Nat),(iw A k n).FwdE n
 |0,_=>by unfold iw;exact PR.fwd_no.le
 |k+1,n=>by
   unfold iw;exact PR.bind_fwdE da λ_ m=>(qW k [] m).le
theorem qW:∀(k:Nat)(l:List Stm)(n:Nat),(dH A k l n).Fwd n
 |0,_,_=>by unfold dH;exact PR.fwd_no
 |k+1,l,n=>by
   unfold dH;split
   .exact PR.Fwd.of_succ (PR.fwdE_ok (l0 _))
   .exact PR.bind_fwd (GX k n) λa m=>(qW k _ m).le
end
def rZ:∀{k:Nat}{l:List Str}{n:Nat},(eg A k l n).FwdE n
 |0,_,_=>by unfold eg;exact PR.fwd_no.le
 |k+1,l,n=>by
   unfold eg;split
   .exact(PR.Fwd.of_succ (PR.bind_fwdE il.le λ_ _=>rZ)).le
   .exact PR.fwdE_ok (l0 _)
def wI{k n:Nat}:(eL A k n).Fwd n:=PR.bind_fwd il λ_ _=>rZ
def ur:∀{k:Nat}{l:List Str}{n:Nat},(dI A k l n).FwdE n
 |0,_,_=>by unfold dI;exact PR.fwd_no.le
 |k+1,l,n=>by
   unfold dI;split
   .exact(PR.Fwd.of_succ (PR.bind_fwdE wI.le λ_ _=>PR.bind_fwdE da λ_ _=>ur)).le
   .exact PR.fwdE_ok (l0 _)
def Vw{k n:Nat}:(mn A k n).Fwd n:=by
 unfold mn;intro a m h;cases hm:aS A [[102,117,110,99]] n with
 |no _=>rw[hm]at h;cases h
 |ok u q=>
   rw[hm]at h;have U:=da (A:=A) (l:=[[102,117,110,99]]) (n:=n) u q hm
   have Y:=PR.bind_fwd (p:=takeN A 1 q) (n:=q) il (λt m=>PR.bind_fwdE (β:=Fn) (f:=λ_ n=>
    (if dL A n=1 then eL A k n else .ok [] n).bind λd n=>(aS A [bt] n).bind λ_ n=>
    (aS A [[123]] (if az A n=[119,111,114,100]then n+1 else n)).bind λ_ m=>(dI A k [] m).bind λc m=>
      (dH A k [] m).bind λb m=>.ok ⟨t.text,d,c,decide (az A n=[119,111,114,100]),b⟩ m) (da (l:=[cP])) λ_ x=>PR.bind_fwdE (by split;exact wI.le;exact PR.fwdE_ok (l0 _)) λd y=>PR.bind_fwdE da λ_ X=>by
      have g:∀v,X<=v->((aS A [[123]] v).bind λ_ m=>(dI A k [] m).bind λc m=>(dH A k [] m).bind λb m=>(PR.ok (Fn.mk t.text d c (decide (az A X=[119,111,114,100])) b) m)).FwdE X:=λv i a m e=>by
       have:=PR.bind_fwdE (p:=aS A [[123]] v) da (λ_ m=>PR.bind_fwdE (ur (k:=k) (l:=[])) λc m=>PR.bind_fwdE (qW k [] m).le λb m=>PR.fwdE_ok (a:=Fn.mk t.text d c (decide (az A X=[119,111,114,100])) b) (l0 m)) a m e;omega
      apply g;split<;>omega) a m h
   omega
end
end
end
end Go.Src
