/- A part of the proof; no conditions. -/
import Derived.Test.YtlacbjnmkhndiaaGreatDoorPart7
set_option linter.unusedSimpArgs false
set_option linter.unusedVariables false
set_option linter.defProp false
open List renaming length -> z
open Option renaming some -> S, none -> N
open Bool renaming true -> T, false -> F
set_option maxHeartbeats 64000000
set_option maxRecDepth 100000
namespace Go.Am
section
attribute[local congr]ite_cc
def nu{P:Prop}(h:P:=by (try simp only[upd]);(repeat rw[j9 (by omega)])):P:=h
def nt{P Q:Prop}(q:Q)(h:P=Q:=by (try simp only[upd]);(repeat rw[j9 (by omega)])):P:=h▸q
def fi{av bo:Obs}{B b:Nat}(hf:∀i,B<=i->av i=N)(h:∀i,b<=i->B<=i/\bo i=av i:=by (intro i hi;refine⟨by omega,?_⟩;(try simp only[upd]);(repeat rw[j9 (by omega)]))):∀i,b<=i->bo i=N:=λi hi=>(h i hi).2.trans (hf i (h i hi).1)
end
end Go.Am
namespace Go.Proofs.YtlacbjnmkhndiaaGreatDoor
section
open Go Go.Am Go.Asm
open Go.Src (PR fR fK takeN fg)
attribute[local congr]ite_cc
section
def rdC(ts:List Src.Tok)(n fin:Nat):List C:=[.d (kR ts),ag (n:Nat),ag (fin:Nat)]
def EI(ts:List Src.Tok)(fin n:Nat):Nat:=match ts[n]? with|some t=>t.place|none=>fin
def yX(k:Nat):List PanicEntry:=[{v:=.iface 174 (.agg #[.int .i64 (k:Nat)]),recovered:=F}]
variable{ts:List Src.Tok}{g:Nat->Nat}{ob:Obs}{B:Nat}{s:St}{n fin:Nat}{y:Option (List C)}
def rN{n:Nat}{t:Src.Tok}(h:ts[n]?=S t):(ts.map tD)[n]?=S [.int .i64 (t.kind:Nat),.str t.text,.int .u32 (t.num:Nat),.int .i64 (t.place:Nat)]:=by rw[w9,h];rfl
def OkR{A:Type}(ts:List Src.Tok)(fin:Nat)(p:PR A)(enc:A->AV)(g:Nat->Nat)(ob:Obs)(r:AV)(g':Nat->Nat)(Y:Obs):Prop:=
 g'=g/\∃a m,p=.ok a m/\r=enc a/\Y=upd ob 125 (S (rdC ts m fin))
def NoR{A:Type}(ts:List Src.Tok)(fin:Nat)(p:PR A)(g:Nat->Nat)(ob:Obs):Pan:=λa g' Y=>
 g'=g/\∃m,p=.no m/\a=yX (EI ts fin m)/\Y=upd ob 125 (S (rdC ts m fin))
def nw{A:Type}(f:FuncId)(xs:List AV)(ts:List Src.Tok)(n fin:Nat)(p:PR A)(enc:A->AV):Prop:=
 ∀(B:Nat)(g:Nat->Nat)(ob:Obs),200<=B->(∀i,B<=i->ob i=N)->ob 125=S (rdC ts n fin)->
  dj Tryz.prog f (aj 125 (g 125) 0::xs) g ob (OkR ts fin p enc g ob) (NoR ts fin p g ob)
structure InF (B:Nat) (g:Nat->Nat) (ob:Obs) (g':Nat->Nat) (Y:Obs):Prop where
 same:∀i,i<B->i≠125->g' i=g i/\Y i=ob i
 rd:g' 125=g 125
def InF.refl:InF B g ob g ob:=⟨λ_ _ _=>⟨rfl,rfl⟩,rfl⟩
def InF.go{g g1 g2:Nat->Nat}{ob av bo:Obs}(h:InF B g ob g1 av)(q:(∀i,i<B->i≠125->g2 i=g1 i/\bo i=av i)/\g2 125=g1 125:=by (refine⟨λi hi h5=>⟨?_,?_⟩,?_⟩<;>((try simp only[upd]);(repeat rw[j9 (by omega)]);first|done|rfl))):InF B g ob g2 bo:=
 ⟨λi hi h5=>⟨(q.1 i hi h5).1.trans (h.same i hi h5).1,(q.1 i hi h5).2.trans (h.same i hi h5).2⟩,q.2.trans h.rd⟩
def InF.put{B j:Nat}{g a:Nat->Nat}{ob av:Obs}(h:InF B g ob a av)(d:B<=j):InF B g ob a (upd av j y):=⟨λi b c=>⟨(h.same i b c).1,by simp only[upd];rw[j9 a7];exact(h.same i b c).2⟩,h.rd⟩
def InF.newG{B j x:Nat}{g a:Nat->Nat}{ob av:Obs}(h:InF B g ob a av)(d:B<=j)(hB:125<B):InF B g ob (upd a j x) av:=⟨λi b c=>⟨by simp only[upd];rw[j9 a7];exact(h.same i b c).1,(h.same i b c).2⟩,by simp only[upd];rw[j9 a7];exact h.rd⟩
def InF.rdr{g b:Nat->Nat}{ob av:Obs}(h:InF B g ob b av):InF B g ob b (upd av 125 y):=⟨λi c a=>⟨(h.same i c a).1,by simp only[upd];rw[j9 a];exact(h.same i c a).2⟩,h.rd⟩
def InF.ends{B n fin:Nat}{g a:Nat->Nat}{ob av:Obs}(h:InF B g ob a av)(ho:av 125=S (rdC ts n fin)):HJ B [125] g ob a av/\jP [125] g a=g/\fN [125] ob av=upd ob 125 (S (rdC ts n fin)):=by
 refine⟨⟨λi b e=>h.same i b (by simpa using e),λi b d Z c E=>?_⟩,HL h.rd,by rw[HM,ho]⟩;obtain rfl:=E3.1 b;rw[ho]at Z;cases Z;simp only[rdC,A0,B3,F2]at E;rcases E with rfl|rfl|rfl<;>trivial
def InF.ret{A:Type}{B n fin:Nat}{p:PR A}{enc:A->AV}{j rs:List AV}{a:A}(h:InF B g ob s.gen s.obj)(ho:s.obj 125=S (rdC ts n fin))(b:p=.ok a n)(hf:eH B s j rs)(V:pack rs=enc a):bB B [125] g ob (OkR ts fin p enc g ob) s j:=by
 obtain⟨U,c,d⟩:=h.ends ho;exact⟨U,rs,hf,c,a,n,b,V,d⟩
def InF.pan{A:Type}{B n fin:Nat}{g a:Nat->Nat}{ob av:Obs}{p:PR A}{b:List PanicEntry}(h:InF B g ob a av)(ho:av 125=S (rdC ts n fin))(c:p=.no n)(Z:b=yX (EI ts fin n)):
  HJ B [125] g ob a av/\NoR ts fin p g ob b (jP [125] g a) (fN [125] ob av):=by
 obtain⟨U,d,e⟩:=h.ends ho;exact⟨U,d,n,c,Z,e⟩
section
variable{O:Bs}{rd:Option Nat}{e:St->Am.Loc->List Deferred->World->Prop}
def iq{A c:Type}(a6:bp O e){o:Oper}{K:St->Prop}{k:Box K}{f:FuncId}{args:Array Operand}{tys:Array TypeId}(ho:o.op=.call ⟨.value (.func f),args,tys⟩){xs:List AV}{p:PR A}{enc:A->AV}
 (V:nw f xs ts n fin p enc)(I:args.toList.map s.ev=aj 125 (s.gen 125) 0::xs)(b:Nat)(hB:200<=b)(bk:∀i,b<=i->s.obj i=N)(l:s.obj 125=S (rdC ts n fin)){B q:Nat}{d:PR c}(bl:InF B g ob s.gen s.obj)
 (u:∀m,p=.no m->d=.no m)(t:∀a m,p=.ok a m->K (St.put ⟨s.f,s.gen,upd s.obj 125 (S (rdC ts m fin))⟩ o.dst (enc a))):bC (spF Tryz.prog rd O e q (HK B [125] g ob (NoR ts fin d g ob))) o s k:=by
 refine cH (R:=OkR ts fin p enc s.gen s.obj) (L:=NoR ts fin p s.gen s.obj) a6 ho (by rw[I];exact V b s.gen s.obj hB bk l) ?_ ?_
 .rintro w v Y ⟨rfl,m,j,Z,rfl⟩
  exact bl.rdr.pan XL (u m j) Z
 .rintro r v Y ⟨rfl,a,m,j,rfl,rfl⟩
  exact t a m j
end
def vY(xs:List D):lW s (.agg (xs.map .d)) (.agg ((xs.map iC).map .d)):=by
 refine⟨xs.map iC,a8,λi c Z=>?_,rfl⟩;rw[w9]at Z|-;cases a:xs[i]? with
 |none=>rw[a]at Z;cases Z
 |some x=>rw[a]at Z;cases Z;exact⟨_,rfl,.d x⟩
def nlo(hB:200<=B)(k:Nat):(125=B+k)=False:=by simp;omega
def nhi(hB:200<=B)(k:Nat):(B+k=125)=False:=by simp;omega
def Je(ho:ob 125=S (rdC ts n fin)):
  gY Tryz.prog 147 [aj 125 (g 125) 0] g ob (λr g' Y=>r=ae (fR ts n:Nat)/\g'=g/\Y=ob):=by
 refine hdF 9000 Tryz.func147 rfl [2] ?_;unfold rdC kR at ho;have bk:(0:Int)<=(n:Int):=a7;simp only[go_sem];refine cp c9 ?_;unfold fR;by_cases d:n<z ts
 .have H:(n:Int)<(z ts:Int):=a7
  obtain⟨t,a⟩:=getq d;have b:=rN a;rw[a];simp only[go_sem,ho,j7,H];refine cp c9 ?_;simp only[go_sem,ho,bk,b];exact⟨_,ai.refl _,rfl,rfl,rfl⟩
 .have H:¬(n:Int)<(z ts:Int):=a7
  rw[F3 a7];simp only[go_sem,ho,j7,H];exact⟨_,ai.refl _,rfl,rfl,rfl⟩
def CT{B n fin:Nat}(hB:200<=B)(hf:∀i,B<=i->ob i=N)(ho:ob 125=S (rdC ts n fin)):
  gY Tryz.prog 146 [aj 125 (g 125) 0] g ob (λr g' Y=>r=sv (fK ts n)/\g'=g/\Y=ob):=by
 refine Cj B aO mixed Tryz.func146 rfl j4 [2] rfl j0 (by simp[Tryz.ntmps146]) hf ?_;have l:=nlo hB;have m:=nhi hB;unfold rdC kR at ho;have bk:(0:Int)<=(n:Int):=a7;simp only[go_sem];refine cp c9 ?_;unfold fK;by_cases o:n<z ts
 case neg=>
  have H:¬(n:Int)<(z ts:Int):=a7;rw[F3 a7];simp only[go_sem,ho,j7,H]
 have H:(n:Int)<(z ts:Int):=a7;obtain⟨t,j⟩:=getq o;have b:=rN j;rw[j];simp only[go_sem,ho,j7,H];refine ie aO mixed [B+3] [([0],[0],[],F),([14],[0],[],F),([15],[0],[],F),([16],[0],[],F),([0],[0],[],F),([18],[0],[],F),([19],[0],[],F),([20],[0],[],F),([17,21],[0],[],F),([22],[0],[],F),([],[],[0],F),([3,23],[],[],T)] 1 c9 rfl a8 ?_;simp only[go_sem]
 iterate 10 (apply aT;· (intro p ga q d J;simp only[go_sem,ho,bk,b,l,m]at J|-;exact J))
 (apply db;· (intro p ga q d J;simp only[go_sem]at J|-;exact J))
 apply di;intro d k;simp only[go_sem];refine k _ ?_;clear k d;have e:(t.kind=3\/t.kind=4)↔((t.kind:Int)=3\/(t.kind:Int)=4):=a7;have f:∀(x:Nat)(y X:Option (List C)),(∀i,i<B->upd g (B+3) x i=g i)/\∀i,i<B->upd (upd ob (B+3) y) (B+3) X i=ob i:=λx y X=>⟨λi u=>by simp only[upd];rw[j9 a7],λi u=>by simp only[upd];rw[j9 a7,j9 a7]⟩
 by_cases a:(t.kind:Int)=3
 .rw[l9 (e.2 (.inl a))]
  simp only[go_sem,a];exact f _ _ _
 by_cases c:(t.kind:Int)=4
 .rw[l9 (e.2 (.inr c))]
  simp only[go_sem,a,c];exact f _ _ _
 .rw[j9 (λh=>(e.1 h).elim a c)]
  simp only[go_sem,a,c];exact f _ _ _
def Zm(ts:List Src.Tok)(n fin:Nat)(s:Str)(g:Nat->Nat)(ob:Obs)(r:AV)(g':Nat->Nat)(Y:Obs):Prop:=
 g'=g/\((fK ts n=s/\r=bv T/\Y=upd ob 125 (S (rdC ts (n+1) fin)))\/(fK ts n≠s/\r=bv F/\Y=ob))
def VZ{B n fin:Nat}(hB:200<=B)(hf:∀i,B<=i->ob i=N)(ho:ob 125=S (rdC ts n fin))(hn:n<=1000000)(s:Str):
  gY Tryz.prog 83 [aj 125 (g 125) 0,sv s] g ob (Zm ts n fin s g ob):=by
 refine hdF B Tryz.func83 rfl [4] ?_;have b:=ah (k:=n) a7;have q:=ho;unfold rdC kR at ho;simp only[go_sem];refine cJ rfl (by simp only[go_sem];exact CT hB hf q) ?_;rintro _ d e ⟨rfl,rfl,rfl⟩;by_cases a:fK ts n=s
 .simp only[go_sem,a,ho,b]
  refine⟨_,ai.refl _,rfl,.inl ⟨a,rfl,?_⟩⟩;simp only[go_sem,rdC,kR]
 .simp only[go_sem,a]
  exact⟨_,ai.refl _,rfl,.inr ⟨a,rfl,rfl⟩⟩
def Jf(ho:ob 125=S (rdC ts n fin)):
  dj Tryz.prog 82 [aj 125 (g 125) 0] g ob (λ_ _ _=>False) (λd g' Y=>d=yX (EI ts fin n)/\g'=g/\Y=ob):=by
 refine hdX 9000 Tryz.func82 rfl [] λO bn s0 w0=>?_;unfold rdC kR at ho;have bk:(0:Int)<=(n:Int):=a7;simp only[go_sem];refine aP c9 ?_;unfold EI;by_cases e:n<z ts
 .have H:(n:Int)<(z ts:Int):=a7
  obtain⟨t,a⟩:=getq e;have b:=rN a;rw[a];simp only[go_sem,ho,j7,H];refine aP c9 ?_;simp only[go_sem,ho,bk,b];refine vz (k:=bx _) aa rfl (aO 174 rfl).desc (by simp only[go_sem];exact⟨rfl,rfl⟩) ?_;simp only[go_sem];refine vA (k:=bx _) (t:=174) (u:=.agg #[.int .i64 (t.place:Nat)]) rfl XD ?_;exact⟨rfl,rfl,rfl⟩
 .have H:¬(n:Int)<(z ts:Int):=a7
  rw[F3 a7];simp only[go_sem,ho,j7,H];refine vz (k:=bx _) aa rfl (aO 174 rfl).desc (by simp only[go_sem];exact⟨rfl,rfl⟩) ?_;simp only[go_sem];refine vA (k:=bx _) (t:=174) (u:=.agg #[.int .i64 (fin:Nat)]) rfl XD ?_;exact⟨rfl,rfl,rfl⟩
end
end
section
open Go Go.Am Go.Asm
open Go.Src (PR fR fK takeN fg Ex)
attribute[local congr]ite_cc
section
variable{ts:List Src.Tok}
def MJ{kd n:Nat}{t:Src.Tok}(a:ts[n]?=S t)(b:t.kind=kd):takeN ts kd n=.ok t (n+1):=by unfold takeN;rw[a];simp[b]
def Jj(ts:List Src.Tok)(n fin kd:Nat)(hn:n<=1000000)(G:0<kd):nw 85 [ae kd] ts n fin (takeN ts kd n) xk:=by
 intro B g ob hB hf ho;refine hdM B [125] Tryz.func85 rfl [.cell 4 179] XH hf λO bn s0 w0=>?_;have w:=ah (k:=n) a7;have bk:(0:Int)<=(n:Int):=a7;have j:=nlo hB;have l:=nhi hB;have X:∀y,upd ob (B+4) y 125=S (rdC ts n fin):=λy=>by simp only[upd];rw[j9 a7];exact ho
 have u:∀x,upd g (B+4) x 125=g 125:=λx=>by simp only[upd];rw[j9 a7]
 simp only[go_sem,j,l];refine dA aa rfl (by simp only[go_sem,j,l];rw[<-u (nxC 180 (g (B+4)))];exact Je (X _)) ?_;rintro _ H I ⟨rfl,rfl,rfl⟩;by_cases a:fR ts n=kd
 case neg=>
  have Q:¬(fR ts n:Int)=(kd:Int):=a7
  have o:takeN ts kd n=.no n:=by
   unfold takeN;unfold fR at a;cases q:ts[n]? with
   |none=>rfl
   |some t=>rw[q]at a;simp only at a;simp[a]
  simp only[go_sem,Q];refine cH (R:=λ_ _ _=>False) aa rfl (by simp only[go_sem,j,l];rw[<-u (nxC 180 (g (B+4)))];exact Jf (X _)) ?_ (λ_ _ _ h=>h.elim);rintro K L Y ⟨rfl,rfl,rfl⟩;exact((InF.refl.newG a7 a7).put a7).pan (X _) o rfl
 have Q:(fR ts n:Int)=(kd:Int):=a7
 obtain⟨t,r⟩:∃t,ts[n]?=S t:=by
  unfold fR at a;cases q:ts[n]? with
  |some t=>exact⟨t,rfl⟩
  |none=>rw[q]at a;simp only at a;omega
 have b:=rN r;have e:t.kind=kd:=by unfold fR at a;rw[r]at a;exact a
 have o:=MJ r e;unfold rdC kR at ho;simp only[go_sem,Q];refine pP (B:=B) aO mixed aa [B+5] [([0],[0],[],F),([12],[0],[],F),([13],[0],[],F),([14],[0],[],F),([0],[0],[],F),([16],[0],[],F),([17],[0],[],F),([18],[0],[],F),([15,19],[0],[],F),([20],[0],[],F),([],[],[0],F),([5,21],[],[],T)] 1 rfl c9 rfl a8 ?_;simp only[go_sem]
 iterate 10 (apply aT;· (intro A ga E s J;simp only[go_sem,ho,bk,b,j,l]at J|-;exact J))
 (apply db;· (intro A ga E s J;simp only[go_sem]at J|-;exact J))
 apply di;intro s v;simp only[go_sem];refine v _ ?_;clear v s;simp only[go_sem,ho,w,j,l];refine⟨_,ai.refl _,?_⟩;simp only[go_sem,j,l];refine InF.ret (rs:=[xk t]) (B:=B) (n:=n+1) (p:=takeN ts kd n) (enc:=xk) ?_ ?_ o ?_ rfl
 .exact(((((InF.refl.newG a7 a7).newG a7 a7).put a7).put a7).put a7).rdr.put a7
 .simp only[go_sem,j,l,rdC,kR]
 .exact⟨_,_,rfl,.agg (xs:=tD t) rfl (λi c Z=>by
   match i,Z with
   |0,Z=>cases Z;exact⟨_,rfl,.d _⟩
   |1,Z=>cases Z;exact⟨_,rfl,.d _⟩
   |2,Z=>cases Z;exact⟨_,rfl,.d _⟩
   | 3,Z=>cases Z;exact⟨_,rfl,.d _⟩),rfl⟩
def kB(l:List Str):List C:=l.map λs=>bF s
def Rj{B n fin j:Nat}{g:Nat->Nat}{ob:Obs}(l:List Str)(hB:200<=B)(hf:∀i,B<=i->ob i=N)(ho:ob 125=S (rdC ts n fin))(hn:n+z l<=1000000)(U:j<B)(y:j≠125)(c:ob j=S (kB l)):
  dj Tryz.prog 86 [aj 125 (g 125) 0,dL j (g j) 1 0 (z l)] g ob (OkR ts fin (fg ts l n) (λ_=>uv) g ob) (NoR ts fin (fg ts l n) g ob):=by
 refine hdM B [125] Tryz.func86 rfl [] XH hf λO bn s0 w0=>?_;have V:=nlo hB;have W:=nhi hB;obtain⟨p,E⟩:∃p,fg ts l n=p:=⟨_,rfl⟩
 rw[E];simp only[go_sem];refine⟨by rw[c];rfl,?_⟩;refine aG (λm K=>∃k:Nat,m+k=z l/\K.f 0=aj 125 (g 125) 0/\K.f 6=dL j (g j) 1 0 (z l)/\K.f 7=ae (z l)/\K.f 8=ae k/\K.gen=g/\K.obj=upd ob 125 (S (rdC ts (n+k) fin))/\fg ts (l.drop k) (n+k)=p) (z l) ?_ ?_
 .refine⟨0,rfl,?_⟩
  simp only[go_sem];refine⟨?_,by simpa using E⟩;funext i;simp only[upd,LN];split
  .rename_i e;subst e;exact ho
  .rfl
 rintro m f Z av ⟨k,hk,q,w,r,u,rfl,rfl,b⟩;simp only at q w r u;have G:=ah (k:=k) a7;have H:=ah (k:=n+k) a7;have X:upd ob 125 (S (rdC ts (n+k) fin)) 125=S (rdC ts (n+k) fin):=by simp[upd]
 have I:∀i,B<=i->upd ob 125 (S (rdC ts (n+k) fin)) i=N:=λi J=>by simp only[upd];rw[j9 a7];exact hf i J
 by_cases x:k<z l
 case neg=>
  have Q:¬(k:Int)<(z l:Int):=a7;obtain rfl:k=z l:=a7;rw[y9 (l8 _)]at b;simp only[go_sem,r,u,Q];refine⟨_,ai.refl _,?_⟩;simp only[go_sem];exact InF.ret (rs:=[]) (a:=()) InF.refl.rdr X b.symm rfl rfl
 have Q:(k:Int)<(z l:Int):=a7;have L:(0:Int)<=(k:Int):=a7;obtain⟨s,A⟩:=getq x;have d:(kB l)[k]?=S (bF s):=by unfold kB;rw[w9,A];rfl
 have t:upd ob 125 (S (rdC ts (n+k) fin)) j=S (kB l):=by simp only[upd];rw[j9 y];exact c
 have o:z (kB l)=z l:=j7 _;have bs:(k:Int).toNat=k:=a7;have hd:l.drop k=s::l.drop (k+1):=by rw[C3 x];rw[v8 x]at A;cases A;rfl
 rw[hd]at b;simp only[go_sem,q,w,r,u,Q,t,L,d,bs];refine dA aa rfl (by simp only[go_sem,q];exact CT hB I X) ?_;rintro _ g2 bo ⟨rfl,rfl,rfl⟩;by_cases v:fK ts (n+k)=s
 case neg=>
  rw[fg,j9 v]at b;simp only[go_sem,v,q];refine cH (R:=λ_ _ _=>False) aa rfl (by simp only[go_sem,q];exact Jf X) ?_ (λ_ _ _ h=>h.elim);rintro ch g' Y ⟨rfl,rfl,rfl⟩;exact InF.refl.rdr.pan X b.symm rfl
 rw[fg,l9 v]at b;simp only[go_sem,v,q,rdC,kR,H,u,G];refine ao (m-1) a7 ⟨k+1,a7,?_⟩;simp only[go_sem,q,w,r];refine⟨?_,b⟩;funext i;simp only[upd];split<;>rfl
end
end
section
open Go Go.Am Go.Asm
open Go.Src (PR fR fK takeN fg Ex)
def Jn{s:St}{k op n:Int}{x:D}(I:iC x=.sl []):ry s [.agg [ag k,ag op,.d (.int .u32 0),bF [],.d x],ae n] (.tup [.agg [ag k,ag op,.d (.int .u32 0),bF [],aq []],ae n]):=by
 have h:=vY (s:=s) [.int .i64 k,.int .i64 op,.int .u32 0,.str [],x];simp only[s6,x7,I]at h;exact⟨_,⟨_,_,rfl,h,_,_,rfl,kM _,rfl⟩,rfl⟩
end
end Go.Proofs.YtlacbjnmkhndiaaGreatDoor
namespace Go.Src
section
open Go.Asm (Str)
section
section
variable{ts:List Tok}
end
end
end
end Go.Src
namespace Go.Proofs.YtlacbjnmkhndiaaGreatDoor
section
open Go Go.Am Go.Asm
open Go.Src (PR fR fK takeN fg Ex Stm)
section
section
variable{O:Bs}{rd:Option Nat}{p:St->Am.Loc->List Deferred->World->Prop}{q:Nat}{t:fT}{o:Oper}{s:St}{K:St->Prop}{k:Box K}{args:Array Operand}{tys:Array TypeId}
def xS(ts:List Src.Tok)(n fin:Nat)(a6:bp O p)(ho:o.op=.call ⟨.value (.func 147),args,tys⟩)(I:args.toList.map s.ev=[aj 125 (s.gen 125) 0])(a:s.obj 125=S (rdC ts n fin))(b:K (s.put o.dst (ae (fR ts n:Nat)))):bC (spF Tryz.prog rd O p q t) o s k:=by
 refine dA a6 ho (by rw[I];exact Je a) ?_;rintro _ c d ⟨rfl,rfl,rfl⟩;exact b
def Gv(ts:List Src.Tok)(n fin:Nat)(a6:bp O p)(ho:o.op=.call ⟨.value (.func 146),args,tys⟩)(I:args.toList.map s.ev=[aj 125 (s.gen 125) 0])(b:Nat)(hB:200<=b)(bk:∀i,b<=i->s.obj i=N)(a:s.obj 125=S (rdC ts n fin))(c:K (s.put o.dst (sv (fK ts n)))):bC (spF Tryz.prog rd O p q t) o s k:=by
 refine dA a6 ho (by rw[I];exact CT hB bk a) ?_;rintro _ d e ⟨rfl,rfl,rfl⟩;exact c
def lI(ts:List Src.Tok)(n fin:Nat)(str:Str)(a6:bp O p)(ho:o.op=.call ⟨.value (.func 83),args,tys⟩)(I:args.toList.map s.ev=[aj 125 (s.gen 125) 0,sv str])(b:Nat)(hB:200<=b)(bk:∀i,b<=i->s.obj i=N)(a:s.obj 125=S (rdC ts n fin))(c:n<=1000000)
 (d:fK ts n=str->K (St.put ⟨s.f,s.gen,upd s.obj 125 (S (rdC ts (n+1) fin))⟩ o.dst (bv T)))(e:fK ts n≠str->K (s.put o.dst (bv F))):bC (spF Tryz.prog rd O p q t) o s k:=by
 refine dA a6 ho (by rw[I];exact VZ hB bk a c str) ?_;rintro _ g j ⟨rfl,⟨h,rfl,rfl⟩|⟨h,rfl,rfl⟩⟩
 .exact d h
 .exact e h
def xT{A:Type}(ts:List Src.Tok)(n fin:Nat)(a6:bp O p)(ho:o.op=.call ⟨.value (.func 86),args,tys⟩)(l:List Str)(j:Nat)(I:args.toList.map s.ev=[aj 125 (s.gen 125) 0,dL j (s.gen j) 1 0 (z l)])(b:Nat)(hB:200<=b)(bk:∀i,b<=i->s.obj i=N)(t:s.obj 125=S (rdC ts n fin))(v:n+z l<=1000000)(w:j<b)(y:j≠125)(c:s.obj j=S (kB l))
 {B:Nat}{g:Nat->Nat}{ob:Obs}{d:PR A}(bl:InF B g ob s.gen s.obj)(u:∀m,fg ts l n=.no m->d=.no m)
 (x:∀m,fg ts l n=.ok () m->K (St.put ⟨s.f,s.gen,upd s.obj 125 (S (rdC ts m fin))⟩ o.dst uv)):bC (spF Tryz.prog rd O p q (HK B [125] g ob (NoR ts fin d g ob))) o s k:=by
 refine cH (R:=OkR ts fin (fg ts l n) (λ_=>uv) s.gen s.obj) (L:=NoR ts fin (fg ts l n) s.gen s.obj) a6 ho (by rw[I];exact Rj l hB bk t v w y c) ?_ ?_
 .rintro G E Y ⟨rfl,m,e,Z,rfl⟩
  exact bl.rdr.pan XL (u m e) Z
 .rintro r E Y ⟨rfl,a,m,e,rfl,rfl⟩
  exact x m e
end
instance:Inhabited Ex:=⟨.mk 0 0 0 [] []⟩
mutual
def exD:Ex->List D
 |.mk kind op num name kids=>[.int .i64 kind,.int .i64 op,.int .u32 num,.str name,.sl (AS kids)]
def AS:List Ex->List (List D)
 |[]=>[]
 |e::l=>exD e::AS l
end
def aV:∀l:List Ex,AS l=l.map exD
 |[]=>by simp[AS]
 |e::l=>by simp[AS,aV l]
def bq(e:Ex):z (exD e)=5:=by cases e;simp[exD]
def exV(e:Ex):AV:=.agg ((exD e).map .d)
def eJ(l:List Ex):AV:=.one (aq (l.map exD))
def exC(l:List Ex):List C:=l.flatMap λa=>(exD a).map .d
def We{B:Nat}{s:St}{a b c d:D}{j:C}{g:D}(h:iz (B<=·) s j g):eH B s [.agg [.d a,.d b,.d c,.d d,j]] [.agg [.d a,.d b,.d c,.d d,.d g]]:=
 ⟨_,_,rfl,.agg (xs:=[a,b,c,d,g]) rfl (λi e f=>by
  match i,f with
  |0,f=>cases f;exact⟨_,rfl,.d _⟩
  |1,f=>cases f;exact⟨_,rfl,.d _⟩
  |2,f=>cases f;exact⟨_,rfl,.d _⟩
  |3,f=>cases f;exact⟨_,rfl,.d _⟩
  | 4,f=>cases f;exact⟨_,rfl,h⟩),rfl⟩
def Nc{B id g n:Nat}{s:St}{l:List Ex}(b:B<=id)(hg:s.gen id=g)(ho:s.obj id=S (exC l))(c:z l=n):iz (B<=·) s (.osl id g 5 0 n) (.sl (AS l)):=by
 rw[aV];exact jc b hg l exD ho rfl (λa _=>bq a) c
end
def Nd{B id g n:Nat}{s:St}{l:List Ex}(a:B<=id)(hg:s.gen id=g)(ho:s.obj id=S (exC l))(b:z l=n):eH B s [dL id g 5 0 n] [eJ l]:=
 ⟨_,_,rfl,.one (by have:=Nc (B:=B) a hg ho b;rwa [aV]at this),rfl⟩
def wb(l:List Str):AV:=.one (aq (l.map λs=>[.str s]))
def Jq{B id g n:Nat}{s:St}{l:List Str}(c:B<=id)(hg:s.gen id=g)(ho:s.obj id=S (kB l))(b:z l=n):eH B s [dL id g 1 0 n] [wb l]:=
 ⟨_,_,rfl,.one (jc c hg l (λs=>[.str s]) ho (by unfold kB;clear ho b;induction l with|nil=>rfl|cons a l d=>simpa using d) (λ_ _=>rfl) b),rfl⟩
mutual
def smD:Stm->List D
 |.mk kind name e a el=>[.int .i64 kind,.str name,.sl (AS e),.sl (Da a),.sl (Da el)]
def Da:List Stm->List (List D)
 |[]=>[]
 |s::l=>smD s::Da l
end
def ez:∀l:List Stm,Da l=l.map smD
 |[]=>by simp[Da]
 |e::l=>by simp[Da,ez l]
def me(e:Stm):z (smD e)=5:=by cases e;simp[smD]
def smV(e:Stm):AV:=.agg ((smD e).map .d)
def fH(l:List Stm):AV:=.one (aq (l.map smD))
def smC(l:List Stm):List C:=l.flatMap λa=>(smD a).map .d
def Nf{B id g n:Nat}{s:St}{l:List Stm}(b:B<=id)(hg:s.gen id=g)(ho:s.obj id=S (smC l))(c:z l=n):eH B s [dL id g 5 0 n] [fH l]:=
 ⟨_,_,rfl,.one (jc b hg l smD ho rfl (λa _=>me a) c),rfl⟩
def Wf{B:Nat}{s:St}{a b:D}{h j k:C}{G f g:D}(l:iz (B<=·) s h G)(m:iz (B<=·) s j f)(n:iz (B<=·) s k g):eH B s [.agg [.d a,.d b,h,j,k]] [.agg [.d a,.d b,.d G,.d f,.d g]]:=
 ⟨_,_,rfl,.agg (xs:=[a,b,G,f,g]) rfl (λi e c=>by
  match i,c with
  |0,c=>cases c;exact⟨_,rfl,.d _⟩
  |1,c=>cases c;exact⟨_,rfl,.d _⟩
  |2,c=>cases c;exact⟨_,rfl,l⟩
  |3,c=>cases c;exact⟨_,rfl,m⟩
  | 4,c=>cases c;exact⟨_,rfl,n⟩),rfl⟩
end
end Go.Proofs.YtlacbjnmkhndiaaGreatDoor
namespace Go.Am
section
def mQ{P:Program}{rd:Option Nat}{O:Bs}{a:St->Loc->List Deferred->World->Prop}{c:Nat}{e:fT}{B:(Exit->St->Prop)->St->Prop}{b:Box B}{Q:Exit->St->Prop}{q:Box Q}{s:St}(d:St)(i:ai s d)(I:Nat->St->Prop)(n:Nat)(k:I n d)
 (V:∀n f g h,I n ⟨f,g,h⟩->B (jD (bx λW=>∃j d,j<n/\(spF P rd O a c e).vs W d/\I j d) q) ⟨f,g,h⟩):oF (spF P rd O a c e) b q s:=
 ⟨I,⟨n,d,i,k⟩,λn s l=>V n s.f s.gen s.obj l⟩
end
end Go.Am
namespace Go.Proofs.YtlacbjnmkhndiaaGreatDoor
section
open Go Go.Am Go.Asm
open Go.Src (PR fR fK takeN fg Ex Stm)
def fnD(f:Src.Fn):List D:=[.str f.name,.sl (f.p.map λs=>[.str s]),.sl (f.l.map λs=>[.str s]),.bool f.word,.sl (f.body.map smD)]
def fnV(f:Src.Fn):AV:=.agg ((fnD f).map .d)
def arD(a:Str×Int):List D:=[.str a.1,.int .i64 a.2]
def fnC(l:List Src.Fn):List C:=l.flatMap λa=>(fnD a).map .d
def jt(p:Src.Prog):List D:=[.sl (p.v.map λs=>[.str s]),.sl (p.a.map arD),.sl (p.f.map fnD)]
def cl(p:Src.Prog):AV:=.agg ((jt p).map .d)
def Wa{P:Nat->Prop}{s:St}{id g n:Nat}{l:List Src.Fn}(a:P id)(hg:s.gen id=g)(ho:s.obj id=S (fnC l))(b:z l=n):iz P s (.osl id g 5 0 n) (.sl (l.map fnD)):=
 jc a hg l fnD ho rfl (λ_ _=>rfl) b
instance:Inhabited Src.Fn:=⟨⟨[],[],[],false,[]⟩⟩
end
end Go.Proofs.YtlacbjnmkhndiaaGreatDoor
namespace Go.Am
section
attribute[local congr]ite_cc
section
section
variable{P:Program}{rd:Option Nat}{O:Bs}{l:St->Loc->List Deferred->World->Prop}{B0:Nat}{Ψ:fT}{B:(Exit->St->Prop)->St->Prop}{b:Box B}{Q:Exit->St->Prop}{q:Box Q}{s:St}
def sA(h:∀Z:St->Prop,B (jD (bx Z) q) s):oF (spF P rd O l B0 Ψ) b q s:=⟨λ_ K=>K=s,⟨0,s,ai.refl s,rfl⟩,λ_ K e=>by subst e;exact h _⟩
def Lj(h:∀Z:St->Prop,(∀W,(∀c:St->Prop,B (jD (bx c) q) W)->Z W)->B (jD (bx Z) q) s):oF (spF P rd O l B0 Ψ) b q s:=
 ⟨λn K=>(n=1/\K=s)\/n=0/\∀c:St->Prop,B (jD (bx c) q) K,⟨1,s,ai.refl s,.inl ⟨rfl,rfl⟩⟩,λn K e=>by
  rcases e with⟨rfl,rfl⟩|⟨rfl,e⟩
  .exact h _ λW a=>⟨0,W,b9,ai.refl W,.inr ⟨rfl,a⟩⟩
  .exact e _⟩
end
end
end
end Go.Am
namespace Go.Proofs.YtlacbjnmkhndiaaGreatDoor
section
open Go Go.Am Go.Asm
open Go.Src (PR fR fK takeN fg Ex Stm)
attribute[local congr]ite_cc
section
def bT:List Src.Tok:=[⟨3,[102,117,110,99],0,0⟩,⟨1,[109,97,105,110],0,5⟩,⟨4,[40],0,9⟩,⟨4,[41],0,10⟩,⟨4,[123],0,12⟩,⟨3,[112,117,116],0,14⟩,⟨4,[40],0,17⟩,⟨2,[54,53],65,18⟩,⟨4,[41],0,20⟩]
def tT(b:Bool):List Src.Tok:=bT++if b then [⟨4,[59],0,21⟩,⟨4,[125],0,23⟩]else [⟨4,[125],0,22⟩]
def e65:Ex:=.mk 1 0 65 [] []
section
variable{O:Bs}{rd:Option Nat}{l:St->Am.Loc->List Deferred->World->Prop}{B0:Nat}{Ψ:fT}{o:Oper}{s:St}{K:St->Prop}{k:Box K}{args:Array Operand}{tys:Array TypeId}
def kj{A:Type}(ts:List Src.Tok)(n fin:Nat)(w:Str)(a:fK ts n=w)(a6:bp O l)(ho:o.op=.call ⟨.value (.func 86),args,tys⟩)(j:Nat)(I:args.toList.map s.ev=[aj 125 (s.gen 125) 0,dL j (s.gen j) 1 0 1])(b:Nat)(hB:200<=b)(bk:∀i,b<=i->s.obj i=N)(p:s.obj 125=S (rdC ts n fin))(u:n<=900000)(r:j<b)(y:j≠125)(c:s.obj j=S (kB [w]))
 {B:Nat}{g:Nat->Nat}{ob:Obs}{d:PR A}(bl:InF B g ob s.gen s.obj)(t:K (St.put ⟨s.f,s.gen,upd s.obj 125 (S (rdC ts (n+1) fin))⟩ o.dst uv)):bC (spF Tryz.prog rd O l B0 (HK B [125] g ob (NoR ts fin d g ob))) o s k:=by
 have e:fg ts [w] n=.ok () (n+1):=by unfold fg;rw[l9 a];rfl
 refine xT ts n fin a6 ho [w] j I b hB bk p XH r y c bl (λm h=>by rw[e]at h;cases h) (λm h=>?_);rw[e]at h;cases h;exact t
end
def SN:aJ Tryz.prog 211 [sv [41]] (·=.tup [.agg [ag 0,ag 0,.d (.int .u32 0),bF [],aq []],ae 0]):=by
 refine hdR Tryz.func211 rfl [.cell 2 42,.tmp 3] λg=>?_;obtain⟨s,a⟩:∃s:Str,s=[41]:=⟨_,rfl⟩
 rw[<-a];have h:∀t:Str,t≠[41]->¬s=t:=λt i e=>i (e.symm.trans a);simp only[go_sem,h [124,124] b9,h [38,38] b9,h [61,61] b9,h [60] b9,h [124] b9,h [94] b9,h [38] b9,h [60,60] b9,h [62,62] b9,h [43] b9,h [45] b9,h [42] b9,h [47] b9,h [37] b9];exact⟨_,Jn rfl,rfl⟩
variable{b:Bool}{fin:Nat}
def SP:nw 210 [] (tT b) 7 fin (.ok e65 8) exV:=by
 intro B g ob hB hf ho;refine hdM B [125] Tryz.func210 rfl [.cell 2 42] XH hf λO bn s0 w0=>?_;have n1:=nlo hB;have n2:=nhi hB;have bl:InF B g ob g ob:=InF.refl;have az:=hf;have j:fR (tT b) 7=2:=rfl;have d:takeN (tT b) 2 7=.ok ⟨2,[54,53],65,18⟩ 8:=rfl;simp only[go_sem,n1,n2];refine xS (tT b) 7 fin aa rfl XE X6 ?_;rw[j];simp only[go_sem];refine iq aa rfl (Jj (tT b) 7 fin 2 a7 b9) XJ (B+57) a7 (fi az) X6 (InF.go bl) (λm h=>by rw[d]at h;cases h) ?_;intro t m e;rw[d]at e;cases e;unfold xk tD;simp only[go_sem,n1,n2];refine⟨_,ai.refl _,?_⟩;simp only[go_sem,n1,n2];exact InF.ret (n:=8) (a:=e65) (InF.go bl) XE rfl (We .nil) (by simp[pack,exV,exD,AS,e65])
def SQ:nw 202 [ae 1] (tT b) 7 fin (.ok e65 8) exV:=by
 intro B g ob hB hf ho;refine hdM B [125] Tryz.func202 rfl [.cell 4 42] XH hf λO bn s0 w0=>?_;have n1:=nlo hB;have n2:=nhi hB;have bl:InF B g ob g ob:=InF.refl;have az:=hf;have j:fK (tT b) 8=[41]:=rfl;simp only[go_sem,n1,n2];refine iq aa rfl SP XJ (B+35) a7 (fi az) X6 (InF.go bl) (λm h=>h) ?_;intro e m l;cases l;simp only[go_sem,n1,n2,exV,exD,e65];refine sA λZ=>?_;simp only[go_sem,n1,n2];refine Gv (tT b) 8 fin aa rfl XE (B+35) a7 (fi az) XE ?_;rw[j];simp only[go_sem];refine FU rfl (by simp only[go_sem];exact SN) ?_;rintro _ rfl;simp only[go_sem,n1,n2];refine⟨_,ai.refl _,?_⟩;simp only[go_sem,n1,n2];exact InF.ret (n:=8) (a:=e65) (InF.go bl) XE rfl (We (.d _)) (by simp[pack,exV,exD,e65])
def OQ:nw 201 [] (tT b) 6 fin (.ok [e65] 9) eJ:=by
 intro B g ob hB hf ho;refine hdM B [125] Tryz.func201 rfl [.tmp 2] XH hf λO bn s0 w0=>?_;have n1:=nlo hB;have n2:=nhi hB;have bl:InF B g ob g ob:=InF.refl;have az:=hf;simp only[go_sem,n1,n2];refine kj (tT b) 6 fin [40] rfl aa rfl (B+5) XJ (B+14) a7 (fi az) X6 b9 a7 a7 YE (InF.go bl) ?_;simp only[go_sem,n1,n2];refine iq aa rfl SQ XJ (B+14) a7 (fi az) XE (InF.go bl) (λm h=>by cases h) ?_;intro e j d;cases d;simp only[go_sem,n1,n2,exV,exD,e65];refine kj (tT b) 8 fin [41] rfl aa rfl (B+10) XJ (B+14) a7 (fi az) XE b9 a7 a7 YE (InF.go bl) ?_;simp only[go_sem,n1,n2];refine⟨_,ai.refl _,?_⟩;simp only[go_sem,n1,n2];exact InF.ret (n:=9) (a:=[e65]) (InF.go bl) XE rfl (Nd a7 XE (by simp only[go_sem,n1,n2];simp[exC,exD,e65]) rfl) rfl
end
section
def oT{A:Type}(b:Bool)(x:A)(n:Nat):PR A:=if b then .ok x n else .no 9
def s65:Stm:=.mk 3 [] [e65] [] []
def f65:Src.Fn:=⟨[109,97,105,110],[],[],F,[s65]⟩
def p65:Src.Prog:=⟨[],[],[f65]⟩
def Lk(b:Bool):fg (tT b) [[59]] 9=oT b () 10:=by cases b<;>rfl
def Fu{A β:Type}{b:Bool}{x:A}{y:β}{n k m:Nat}(h:oT b x n=.no m):oT b y k=.no m:=by
 cases b
 .have h:(PR.no 9:PR A)=.no m:=h
  cases h;rfl
 .cases h
def Cb{A:Type}{b:Bool}{x y:A}{n m:Nat}(h:oT b x n=.ok y m):b=T/\x=y/\n=m:=by
 cases b
 .cases h
 .cases h;exact⟨rfl,rfl,rfl⟩
variable{b:Bool}{fin:Nat}
def SS:nw 188 [] (tT b) 5 fin (oT b s65 10) smV:=by
 intro B g ob hB hf ho;refine hdM B [125] Tryz.func188 rfl [.cell 2 45] XH hf λO bn s0 w0=>?_;have n1:=nlo hB;have n2:=nhi hB;have bl:InF B g ob g ob:=InF.refl;have az:=hf;simp only[go_sem,n1,n2];refine lI (tT b) 5 fin [112,117,116] aa rfl XE (B+55) a7 (fi az) X6 a7 (λ_=>?_) (λh=>absurd rfl h);simp only[go_sem,n1,n2];refine iq aa rfl OQ XJ (B+55) a7 (fi az) XE (InF.go bl) (λm h=>by cases h) ?_;intro l m j;cases j;simp only[go_sem,n1,n2,eJ];refine xT (tT b) 9 fin aa rfl [[59]] (B+13) XJ (B+55) a7 (fi az) XE a8 a7 a7 YE (InF.go bl) (λm h=>by rw[Lk]at h;exact Fu h) ?_;intro k e;rw[Lk]at e;obtain⟨rfl,_,rfl⟩:=Cb e;simp only[go_sem,n1,n2];refine⟨_,ai.refl _,?_⟩;simp only[go_sem,n1,n2];exact InF.ret (n:=10) (a:=s65) (InF.go bl) XE rfl (Wf (.d _) .nil .nil) (by simp[pack,smV,smD,Da,aV,s65])
def OR:nw 148 [] (tT b) 5 fin (oT b [s65] 11) fH:=by
 intro B g ob hB hf ho;refine hdM B [125] Tryz.func148 rfl [.tmp 2] XH hf λO bn s0 w0=>?_;have n1:=nlo hB;have n2:=nhi hB;have bl:InF B g ob g ob:=InF.refl;have az:=hf;simp only[go_sem,n1,n2];refine Lj λZ Y=>?_;simp only[go_sem,n1,n2];refine lI (tT b) 5 fin [125] aa rfl XE (B+13) a7 (fi az) X6 a7 (λh=>absurd (show ([112,117,116]:Str)=[125]from h) b9) (λ_=>?_);simp only[go_sem,n1,n2];refine iq aa rfl SS XJ (B+13) a7 (fi az) X6 (InF.go bl) (λm h=>Fu h) ?_;intro e m d;obtain⟨rfl,rfl,rfl⟩:=Cb d;simp only[go_sem,n1,n2,smV,me,j7,ba];refine⟨⟨b9,b9⟩,?_⟩;refine Y _ λc=>?_;simp only[go_sem,n1,n2];refine lI (tT T) 10 fin [125] aa rfl XE (B+13) a7 (fi az) XE a7 (λ_=>?_) (λh=>absurd rfl h);simp only[go_sem,n1,n2];refine⟨_,ai.refl _,?_⟩;simp only[go_sem,n1,n2];exact InF.ret (n:=11) (a:=[s65]) (InF.go bl) XE rfl (Nf a7 XE (by simp only[go_sem,n1,n2];simp[smC,me,s7]) rfl) rfl
end
section
variable{b:Bool}{fin:Nat}
def WY:nw 87 [] (tT b) 0 fin (oT b f65 11) fnV:=by
 intro B g ob hB hf ho;refine hdM B [125] Tryz.func87 rfl [.cell 2 47] XH hf λO bn s0 w0=>?_;have n1:=nlo hB;have n2:=nhi hB;have bl:InF B g ob g ob:=InF.refl;have az:=hf;have k:takeN (tT b) 1 1=.ok ⟨1,[109,97,105,110],0,5⟩ 2:=rfl;have o:fR (tT b) 3=4:=rfl;simp only[go_sem,n1,n2];refine kj (tT b) 0 fin [102,117,110,99] rfl aa rfl (B+5) XJ (B+44) a7 (fi az) X6 b9 a7 a7 YE (InF.go bl) ?_;simp only[go_sem,n1,n2];refine iq aa rfl (Jj (tT b) 1 fin 1 a7 b9) XJ (B+44) a7 (fi az) XE (InF.go bl) (λm h=>by rw[k]at h;cases h) ?_;intro t r l;rw[k]at l;cases l;unfold xk tD;simp only[go_sem,n1,n2];refine kj (tT b) 2 fin [40] rfl aa rfl (B+12) XJ (B+44) a7 (fi az) XE b9 a7 a7 YE (InF.go bl) ?_;simp only[go_sem,n1,n2];refine xS (tT b) 3 fin aa rfl XE XE ?_;rw[o];simp only[go_sem,n1,n2];refine kj (tT b) 3 fin [41] rfl aa rfl (B+21) XJ (B+44) a7 (fi az) XE b9 a7 a7 YE (InF.go bl) ?_;simp only[go_sem,n1,n2];refine lI (tT b) 4 fin [119,111,114,100] aa rfl XE (B+44) a7 (fi az) XE a7 (λh=>absurd (show ([123]:Str)=[119,111,114,100]from h) b9) (λ_=>?_);simp only[go_sem,n1,n2];refine kj (tT b) 4 fin [123] rfl aa rfl (B+27) XJ (B+44) a7 (fi az) XE b9 a7 a7 YE (InF.go bl) ?_;simp only[go_sem,n1,n2];refine sA λZ=>?_;simp only[go_sem,n1,n2];refine lI (tT b) 5 fin [118,97,114] aa rfl XE (B+44) a7 (fi az) XE a7 (λh=>absurd (show ([112,117,116]:Str)=[118,97,114]from h) b9) (λ_=>?_);simp only[go_sem,n1,n2];refine iq aa rfl OR XJ (B+44) a7 (fi az) XE (InF.go bl) (λm h=>Fu h) ?_;intro c u j;obtain⟨rfl,rfl,rfl⟩:=Cb j;simp only[go_sem,n1,n2,fH];refine⟨_,ai.refl _,?_⟩;simp only[go_sem,n1,n2];refine InF.ret (n:=11) (a:=f65) (rs:=[fnV f65]) (InF.go bl) XE rfl ?_ rfl
 exact⟨_,_,rfl,.agg (xs:=fnD f65) rfl (λi e j=>by
  match i,j with
  |0,j=>cases j;exact⟨_,rfl,.d _⟩
  |1,j=>cases j;exact⟨_,rfl,.nil⟩
  |2,j=>cases j;exact⟨_,rfl,.nil⟩
  |3,j=>cases j;exact⟨_,rfl,.d _⟩
  | 4,j=>cases j;exact⟨_,rfl,.d _⟩),rfl⟩
def WZ:z (tT b)=if b then 11 else 10:=by cases b<;>rfl
def SV:nw 54 [] (tT b) 0 fin (oT b p65 11) cl:=by
 intro B g ob hB hf ho;refine hdM B [125] Tryz.func54 rfl [.cell 2 26] XH hf λO bn s0 w0=>?_;have n1:=nlo hB;have n2:=nhi hB;have bl:InF B g ob g ob:=InF.refl;have az:=hf;simp only[go_sem,n1,n2];refine sA λZ=>?_;simp only[go_sem,n1,n2];refine lI (tT b) 0 fin [118,97,114] aa rfl XE (B+65) a7 (fi az) X6 a7 (λh=>absurd (show ([102,117,110,99]:Str)=[118,97,114]from h) b9) (λ_=>?_);simp only[go_sem,n1,n2];refine lI (tT b) 0 fin [97,114,114,97,121] aa rfl XE (B+65) a7 (fi az) X6 a7 (λh=>absurd (show ([102,117,110,99]:Str)=[97,114,114,97,121]from h) b9) (λ_=>?_);simp only[go_sem,n1,n2];refine FP (b=T) aO mixed aa [B+44,B+45,125] [([3],[0,2],[],F),([40],[0,2],[],F),([0],[],[],F),([42],[],[2],F),([43],[],[0],F),([41,44],[],[1],F),([3],[0,1,2],[],F),([46,45],[],[],T)] 3 rfl c9 rfl XH ?_;simp only[go_sem]
 (apply pU;(case hf=>rfl);(case hg=>first|exact y8|exact⟨_,rfl,by decide,rfl⟩);(case U=>intro o ga r d J;simp only[go_sem,n1,n2]at J|-;exact J))
 (apply pU;(case hf=>rfl);(case hg=>first|exact y8|exact⟨_,rfl,by decide,rfl⟩);(case U=>intro o ga r d J;simp only[go_sem,n1,n2]at J|-;exact J))
 (apply pU;(case hf=>rfl);(case hg=>first|exact y8|exact⟨_,rfl,by decide,rfl⟩);(case U=>intro o ga r d J;simp only[go_sem]at J|-;exact J))
 refine FQ (v:=fnV f65) (y:=S (rdC (tT b) 11 fin)) y8 a8 (λo ga r d J=>?_) ?_
 .simp only[go_sem,n1,n2]at J|-
  refine iq (k:=bx d) aa rfl WY XJ (B+65) a7 (fi az) X6 (InF.go bl) (λm h=>Fu h) ?_;intro x A u;obtain⟨hb,rfl,rfl⟩:=Cb u;simp only[go_sem,n1,n2];exact J hb
 (apply zZ;(case hf=>rfl);(case hg=>first|exact y8|exact⟨_,rfl,by decide,rfl⟩);(case U=>intro o ga r d J;simp only[go_sem,fnV,fnD]at J|-;exact J))
 (apply zZ;(case hf=>rfl);(case hg=>exact y8);(case U=>intro o ga r d J;simp only[go_sem,n1,n2,ba,j7,fnD]at J|-;exact⟨⟨b9,b9⟩,J⟩))
 (apply pU;(case hf=>rfl);(case hg=>first|exact y8|exact⟨_,rfl,by decide,rfl⟩);(case U=>intro o ga r d J;simp only[go_sem,n1,n2]at J|-;exact J))
 refine FR rfl y8 ?_;intro d t;simp only[go_sem,n1,n2];refine t _ ?_;clear t d;rintro rfl;simp only[go_sem,n1,n2];refine sA λZ=>?_;simp only[go_sem];refine aP c9 ?_;simp only[go_sem,n1,n2,rdC,kR,j7,WZ];refine⟨_,ai.refl _,?_⟩;simp only[go_sem,n1,n2];refine InF.ret (n:=11) (a:=p65) (rs:=[cl p65]) (InF.go bl) (by simp only[go_sem,n1,n2,rdC,kR]) rfl ?_ rfl
 exact⟨_,_,rfl,.agg (xs:=jt p65) rfl (λi e j=>by
  match i,j with
  |0,j=>cases j;exact⟨_,rfl,.nil⟩
  |1,j=>cases j;exact⟨_,rfl,.nil⟩
  | 2,j=>cases j;exact⟨_,rfl,Wa (l:=[f65]) a7 XE (by simp only[go_sem,n1,n2];simp[fnC,fnD]) rfl⟩),rfl⟩
end
end
end Go.Proofs.YtlacbjnmkhndiaaGreatDoor
namespace Go.Src
section
open Go.Asm (Str letter eG)
def bg(s:Str):Bool:=decide (s≠[]/\z s<=20/\s.head?.any letter=T/\s.takeWhile eG=s/\s∉jm)
def ay(a:Bool)(s:Str):Bool:=if a then bg s else decide (s=[])
def bS(kind op num:Int)(name:Str)(n:Nat):Bool:=
 if kind=1 then decide (op=0) && ay F name && decide (n=0)
 else if kind=2 then decide (op=0/\num=0) && ay T name && decide (n=0)
 else if kind=3 then decide (op=0/\num=0) && ay T name && decide (n=1)
 else if kind=4 then decide (op=0/\num=0) && ay T name && decide (n<=6)
 else if kind=5 then decide (op=0/\num=0) && ay F name && decide (n=0)
 else if kind=6 then decide ((4<=op/\op<=15)/\num=0) && ay F name && decide (n=2)
 else if kind=7 then decide (op=0/\num=0) && ay F name && decide (n=1)
 else if kind=8\/kind=9 then decide (op=0/\num=0) && ay F name && decide (n=2)
 else F
mutual
def fL(q:Nat):Ex->Bool
 |.mk kind op num name kids=>decide (q<=24)&&(bS kind op num name (z kids)&&bA (q+1) kids)
def bA(q:Nat):List Ex->Bool
 |[]=>T
 |e::l=>fL q e&&bA q l
end
def cN(kind:Int)(name:Str)(n nt ne:Nat):Bool:=
 if kind=1 then ay T name && decide (n=1/\nt=0/\ne=0)
 else if kind=2 then ay T name && decide (n=2/\nt=0/\ne=0)
 else if kind=3 then ay F name && decide (n=1/\nt=0/\ne=0)
 else if kind=4 then ay F name && decide (n=1)
 else if kind=5 then ay F name && decide (n=1/\ne=0)
 else if kind=6 then ay T name && decide (n<=6/\nt=0/\ne=0)
 else if kind=7 then ay F name && decide (n<=1/\nt=0/\ne=0)
 else F
mutual
def fy(q:Nat):Stm->Bool
 |.mk kind name e a el=>decide (q<=24)&&(cN kind name (z e) (z a) (z el)&&bA (q+1) e)&&(br (q+1) a&&br (q+1) el)
def br(q:Nat):List Stm->Bool
 |[]=>T
 |s::l=>fy q s&&br q l
end
def fF(f:Fn):Bool:=bg f.name&&decide (z f.p<=6)&&(f.p.all bg&&f.l.all bg&&br 1 f.body)
def iY(a:Str×Int):Bool:=bg a.1&&decide (1<=a.2)&&decide (a.2<=4096)
def dP(p:Prog):Bool:=decide (1<=z p.f/\z p.f<=64)&&p.v.all bg&&(p.a.all iY&&p.f.all fF)
mutual
def szE:Ex->Nat
 |.mk _ _ _ _ kids=>bw kids+1
def bw:List Ex->Nat
 |[]=>0
 |e::l=>szE e+bw l
end
mutual
def szS:Stm->Nat
 |.mk _ _ e a el=>bw e+aN a+aN el+1
def aN:List Stm->Nat
 |[]=>0
 |s::l=>szS s+aN l
end
def Oz:∀{l:List Ex}{e:Ex},e∈l->szE e<=bw l
 |x::l,e,h=>by
   rw[bw];rcases A0.1 h with rfl|h
   .omega
   .have:=Oz h;omega
def OA:∀{l:List Stm}{e:Stm},e∈l->szS e<=aN l
 |x::l,e,h=>by
   rw[aN];rcases A0.1 h with rfl|h
   .omega
   .have:=OA h;omega
def KQ:∀l:List Ex,z l<=bw l
 |[]=>l8 _
 |e::l=>by have:=KQ l;cases e;simp only[bw,szE,l4];omega
def KR:∀l:List Stm,z l<=aN l
 |[]=>l8 _
 |e::l=>by have:=KR l;cases e;simp only[aN,szS,l4];omega
def BM{q:Nat}:∀l:List Ex,bA q l=l.all (fL q)
 |[]=>by simp[bA]
 |e::l=>by simp[bA,BM l]
def BN{q:Nat}:∀l:List Stm,br q l=l.all (fy q)
 |[]=>by simp[br]
 |e::l=>by simp[br,BN l]
def WN{A:Type}{p:A->Bool}{l:List A}{k:Nat}{x:A}(h:(l.take k).all p=T)(I:l[k]?=S x)(a:p x=T):(l.take (k+1)).all p=T:=by
 rw[D2,I,G6,h];simp[a]
def all_false{A:Type}{p:A->Bool}{l:List A}{k:Nat}{x:A}(I:l[k]?=S x)(a:p x=F):l.all p=F:=by
 rw[List.all_eq_false];exact⟨x,l7 I,by simp[a]⟩
end
end Go.Src
namespace Go.Am
section
section
section
variable{P:Program}{E:Nat->TI}{O:Bs}{rd:Option Nat}{q:Nat}{o:cT}{b:fT}{a:Nat}
end
end
end
end Go.Am
namespace Go.Proofs.YtlacbjnmkhndiaaGreatDoor
section
open Go Go.Am Go.Asm
open Go.Src (bg)
attribute[local congr]ite_cc
section
variable{o:cT}
def Rg(ho:kN o)(s:Str):ck Tryz.prog 1 o 149 [sv s] (·=bv (bg s)):=by
 refine hdG Tryz.func149 rfl [.tmp 2] λO bn s0 w0 g=>?_;obtain⟨X,b⟩:∃X,bg s=X:=⟨_,rfl⟩
 rw[b];unfold bg at b;by_cases B:s=[]
 .obtain rfl:X=F:=by rw[<-b];exact A5 λh=>h.1 B
  simp only[go_sem,x6 B]
 by_cases e:z s<=20
 case neg=>
  obtain rfl:X=F:=by rw[<-b];exact A5 λh=>e h.2.1
  have l:¬(z s:Int)<=20:=a7;simp only[go_sem,B,l]
 have l:(z s:Int)<=20:=a7
 obtain⟨c,Z⟩:∃c,s[0]?=S c:=by
  cases s with
  |nil=>exact absurd rfl B
  |cons c r=>exact⟨c,rfl⟩
 have a:s.head?=S c:=by rw[<-Z,U6]
 simp only[go_sem,B,l,Z];refine jd rfl (by simp only[go_sem];exact qj c) ?_;rintro _ rfl;cases L:letter c
 .obtain rfl:X=F:=by rw[<-b];exact A5 λh=>by have:=h.2.2.1;rw[a]at this;simp[L]at this
  exact gW
 simp only[go_sem];refine jd rfl (by simp only[go_sem];exact uU (λc=>yf c) s a7) ?_;rintro _ rfl;by_cases ar:s.takeWhile eG=s
 case neg=>
  obtain rfl:X=F:=by rw[<-b];exact A5 λh=>ar h.2.2.2.1
  simp only[go_sem,ar]
 simp only[go_sem,ar];refine cU rfl (by simp only[go_sem];exact Bz ho s) ?_;rintro _ rfl;by_cases d:s∈Src.jm
 .obtain rfl:X=F:=by rw[<-b];exact A5 λh=>h.2.2.2.2 d
  simp only[go_sem,d]
 .obtain rfl:X=T:=by rw[<-b];exact C8 ⟨B,e,by rw[a];simp[L],ar,d⟩
  simp only[go_sem,d]
def ny(ho:kN o)(s:Str):ck Tryz.prog 1 o 89 [sv s] (·=bv (bg s)):=by
 refine hdG Tryz.func89 rfl [.tmp 2] λO bn s0 w0 g=>?_;have u:s∈Src.jm->bg s=F:=λh=>A5 λq=>q.2.2.2.2 h;obtain⟨X,t⟩:∃X,bg s=X:=⟨_,rfl⟩
 rw[t];rw[t]at u;by_cases a:s=[118,97,114]
 .obtain rfl:=u (by rw[a];decide)
  simp only[go_sem,x6 a]
 by_cases U:s=[97,114,114,97,121]
 .obtain rfl:=u (by rw[U];decide)
  simp only[go_sem,a,x6 U]
 by_cases b:s=[102,117,110,99]
 .obtain rfl:=u (by rw[b];decide)
  simp only[go_sem,a,U,x6 b]
 by_cases d:s=[119,111,114,100]
 .obtain rfl:=u (by rw[d];decide)
  simp only[go_sem,a,U,b,x6 d]
 by_cases e:s=[105,102]
 .obtain rfl:=u (by rw[e];decide)
  simp only[go_sem,a,U,b,d,x6 e]
 by_cases i:s=[101,108,115,101]
 .obtain rfl:=u (by rw[i];decide)
  simp only[go_sem,a,U,b,d,e,x6 i]
 by_cases j:s=[119,104,105,108,101]
 .obtain rfl:=u (by rw[j];decide)
  simp only[go_sem,a,U,b,d,e,i,x6 j]
 by_cases l:s=[114,101,116,117,114,110]
 .obtain rfl:=u (by rw[l];decide)
  simp only[go_sem,a,U,b,d,e,i,j,x6 l]
 by_cases n:s=[112,117,116]
 .obtain rfl:=u (by rw[n];decide)
  simp only[go_sem,a,U,b,d,e,i,j,l,x6 n]
 by_cases v:s=[103,101,116]
 .obtain rfl:=u (by rw[v];decide)
  simp only[go_sem,a,U,b,d,e,i,j,l,n,x6 v]
 simp only[go_sem,a,U,b,d,e,i,j,l,n,v];refine cU rfl (by simp only[go_sem];exact Rg ho s) ?_;rintro _ rfl;rw[t];exact gW
def cV(ho:kN o)(s:Str)(b:Bool):ck Tryz.prog 1 o 190 [sv s,bv b] (·=bv (Src.ay b s)):=by
 refine hdG Tryz.func190 rfl [.tmp 4] λO bn s0 w0 g=>?_;unfold Src.ay;cases b
 .exact gW
 .simp only[go_sem]
  refine cU rfl (by simp only[go_sem];exact ny ho s) ?_;rintro _ rfl;exact gW
def qR(ho:kN o)(l:List Str)(hl:z l<=1000000000):ck Tryz.prog 1 o 88 [wb l] (·=bv (l.all bg)):=by
 refine hdG Tryz.func88 rfl [.tmp 2] λO bn s0 w0 g=>?_;unfold wb;simp only[go_sem,j7];refine aG (λX K=>∃k:Nat,X+k=z l/\(l.take k).all bg=T/\K.f 5=.one (aq (l.map λs=>[.str s]))/\K.f 6=ae (z l)/\K.f 7=ae k) (z l) ?_ ?_
 .exact V6
 rintro X f t u ⟨k,hk,bs,d,a,b⟩;simp only at d a b;have i:=ah (k:=k) a7;by_cases j:k<z l
 case neg=>
  have Q:¬(k:Int)<(z l:Int):=a7;obtain rfl:k=z l:=a7;rw[s7 (l8 _)]at bs;simp only[go_sem,a,b,Q,bs]
 have Q:(k:Int)<(z l:Int):=a7;have n:(0:Int)<=(k:Int):=a7;obtain⟨s,e⟩:=getq j;simp only[go_sem,d,a,b,Q,n,e];refine cU rfl (by simp only[go_sem];exact ny ho s) ?_;rintro _ rfl;cases hb:bg s
 .simp only[go_sem,Src.all_false e hb]
 .simp only[go_sem,b,i]
  refine ao (X-1) a7 ⟨k+1,a7,Src.WN bs e hb,?_⟩;simp only[go_sem,d,a]
end
end
section
open Go Go.Am Go.Asm
open Go.Src (bg ay bS cN Ex Stm)
attribute[local congr]ite_cc
def CU{o:cT}(ho:kN o)(e:Ex):ck Tryz.prog 1 o 191 [exV e] (·=bv (match e with|.mk kind op num name kids=>bS kind op num name (z kids))):=by
 obtain⟨kind,op,num,name,kids⟩:=e;refine hdG Tryz.func191 rfl [.tmp 2] λO bn s0 w0 g=>?_;simp only;obtain⟨X,n⟩:∃X,bS kind op num name (z kids)=X:=⟨_,rfl⟩
 rw[n];unfold exV;simp only[exD,aV,s6,x7];unfold bS at n;by_cases j:kind=1
 .rw[l9 j]at n
  by_cases i:op=0
  case neg=>
   obtain rfl:X=F:=by rw[<-n];simp[i]
   simp only[go_sem,x6 j,i]
  simp only[go_sem,x6 j,x6 i];refine cU rfl XQ ?_;rintro _ rfl;cases c:ay F name
  .obtain rfl:X=F:=by rw[<-n];simp[c]
   simp only[go_sem,x6 j,x6 i]
  by_cases b:z kids=0
  case neg=>
   obtain rfl:X=F:=by rw[<-n];simp[b]
   have p:(0:Int)<=(z kids:Int):=a7;have d:¬(z kids:Int)<=0:=a7;simp only[go_sem,x6 j,x6 i,j7,p,d]
  have p:(0:Int)<=(z kids:Int):=a7;have d:(z kids:Int)<=0:=a7;obtain rfl:X=T:=by rw[<-n];simp[i,c,b]
  simp only[go_sem,x6 j,x6 i,j7,p,d]
 by_cases l:kind=2
 .rw[j9 j,l9 l]at n
  by_cases i:op=0
  case neg=>
   obtain rfl:X=F:=by rw[<-n];simp[i]
   simp only[go_sem,x6 l,j,i]
  by_cases bk:num=0
  case neg=>
   obtain rfl:X=F:=by rw[<-n];simp[bk]
   simp only[go_sem,x6 l,j,x6 i,bk]
  simp only[go_sem,x6 l,j,x6 i,x6 bk];refine cU rfl Yx ?_;rintro _ rfl;cases c:ay T name
  .obtain rfl:X=F:=by rw[<-n];simp[c]
   simp only[go_sem,x6 l,j,x6 i,x6 bk]
  by_cases b:z kids=0
  case neg=>
   obtain rfl:X=F:=by rw[<-n];simp[b]
   have p:(0:Int)<=(z kids:Int):=a7;have d:¬(z kids:Int)<=0:=a7;simp only[go_sem,x6 l,j,x6 i,x6 bk,j7,p,d]
  have p:(0:Int)<=(z kids:Int):=a7;have d:(z kids:Int)<=0:=a7;obtain rfl:X=T:=by rw[<-n];simp[i,bk,c,b]
  simp only[go_sem,x6 l,j,x6 i,x6 bk,j7,p,d]
 by_cases t:kind=3
 .rw[j9 j,j9 l,l9 t]at n
  by_cases i:op=0
  case neg=>
   obtain rfl:X=F:=by rw[<-n];simp[i]
   simp only[go_sem,x6 t,j,l,i]
  by_cases bk:num=0
  case neg=>
   obtain rfl:X=F:=by rw[<-n];simp[bk]
   simp only[go_sem,x6 t,j,l,x6 i,bk]
  simp only[go_sem,x6 t,j,l,x6 i,x6 bk];refine cU rfl Yx ?_;rintro _ rfl;cases c:ay T name
  .obtain rfl:X=F:=by rw[<-n];simp[c]
   simp only[go_sem,x6 t,j,l,x6 i,x6 bk]
  by_cases b:z kids=1
  case neg=>
   obtain rfl:X=F:=by rw[<-n];simp[b]
   by_cases p:(1:Int)<=(z kids:Int)
   .have d:¬(z kids:Int)<=1:=a7
    simp only[go_sem,x6 t,j,l,x6 i,x6 bk,j7,p,d]
   .simp only[go_sem,x6 t,j,l,x6 i,x6 bk,j7,p]
  have p:(1:Int)<=(z kids:Int):=a7;have d:(z kids:Int)<=1:=a7;obtain rfl:X=T:=by rw[<-n];simp[i,bk,c,b]
  simp only[go_sem,x6 t,j,l,x6 i,x6 bk,j7,p,d]
 by_cases u:kind=4
 .rw[j9 j,j9 l,j9 t,l9 u]at n
  by_cases i:op=0
  case neg=>
   obtain rfl:X=F:=by rw[<-n];simp[i]
   simp only[go_sem,x6 u,j,l,t,i]
  by_cases bk:num=0
  case neg=>
   obtain rfl:X=F:=by rw[<-n];simp[bk]
   simp only[go_sem,x6 u,j,l,t,x6 i,bk]
  simp only[go_sem,x6 u,j,l,t,x6 i,x6 bk];refine cU rfl Yx ?_;rintro _ rfl;cases c:ay T name
  .obtain rfl:X=F:=by rw[<-n];simp[c]
   simp only[go_sem,x6 u,j,l,t,x6 i,x6 bk]
  have p:(0:Int)<=(z kids:Int):=a7;by_cases b:z kids<=6
  case neg=>
   obtain rfl:X=F:=by rw[<-n];simp;omega
   have d:¬(z kids:Int)<=6:=a7;simp only[go_sem,x6 u,j,l,t,x6 i,x6 bk,j7,p,d]
  have d:(z kids:Int)<=6:=a7;obtain rfl:X=T:=by rw[<-n];simp[i,bk,c,b]
  simp only[go_sem,x6 u,j,l,t,x6 i,x6 bk,j7,p,d]
 by_cases v:kind=5
 .rw[j9 j,j9 l,j9 t,j9 u,l9 v]at n
  by_cases i:op=0
  case neg=>
   obtain rfl:X=F:=by rw[<-n];simp[i]
   simp only[go_sem,x6 v,j,l,t,u,i]
  by_cases bk:num=0
  case neg=>
   obtain rfl:X=F:=by rw[<-n];simp[bk]
   simp only[go_sem,x6 v,j,l,t,u,x6 i,bk]
  simp only[go_sem,x6 v,j,l,t,u,x6 i,x6 bk];refine cU rfl XQ ?_;rintro _ rfl;cases c:ay F name
  .obtain rfl:X=F:=by rw[<-n];simp[c]
   simp only[go_sem,x6 v,j,l,t,u,x6 i,x6 bk]
  by_cases b:z kids=0
  case neg=>
   obtain rfl:X=F:=by rw[<-n];simp[b]
   have p:(0:Int)<=(z kids:Int):=a7;have d:¬(z kids:Int)<=0:=a7;simp only[go_sem,x6 v,j,l,t,u,x6 i,x6 bk,j7,p,d]
  have p:(0:Int)<=(z kids:Int):=a7;have d:(z kids:Int)<=0:=a7;obtain rfl:X=T:=by rw[<-n];simp[i,bk,c,b]
  simp only[go_sem,x6 v,j,l,t,u,x6 i,x6 bk,j7,p,d]
 by_cases P:kind=6
 .rw[j9 j,j9 l,j9 t,j9 u,j9 v,l9 P]at n
  by_cases W:op<4
  case pos=>
   have I:¬4<=op:=a7;obtain rfl:X=F:=by rw[<-n];simp[I]
   simp only[go_sem,x6 P,j,l,t,u,v,W]
  by_cases a:15<op
  case pos=>
   have I:¬op<=15:=a7;obtain rfl:X=F:=by rw[<-n];simp[I]
   simp only[go_sem,x6 P,j,l,t,u,v,W,a]
  have m:4<=op:=a7;have dh:op<=15:=a7;by_cases bk:num=0
  case neg=>
   obtain rfl:X=F:=by rw[<-n];simp[bk]
   simp only[go_sem,x6 P,j,l,t,u,v,W,a,bk]
  simp only[go_sem,x6 P,j,l,t,u,v,W,a,x6 bk];refine cU rfl XQ ?_;rintro _ rfl;cases c:ay F name
  .obtain rfl:X=F:=by rw[<-n];simp[c]
   simp only[go_sem,x6 P,j,l,t,u,v,W,a,x6 bk]
  by_cases b:z kids=2
  case neg=>
   obtain rfl:X=F:=by rw[<-n];simp[b]
   by_cases p:(2:Int)<=(z kids:Int)
   .have d:¬(z kids:Int)<=2:=a7
    simp only[go_sem,x6 P,j,l,t,u,v,W,a,x6 bk,j7,p,d]
   .simp only[go_sem,x6 P,j,l,t,u,v,W,a,x6 bk,j7,p]
  have p:(2:Int)<=(z kids:Int):=a7;have d:(z kids:Int)<=2:=a7;obtain rfl:X=T:=by rw[<-n];simp[m,dh,bk,c,b]
  simp only[go_sem,x6 P,j,l,t,u,v,W,a,x6 bk,j7,p,d]
 by_cases Y:kind=7
 .rw[j9 j,j9 l,j9 t,j9 u,j9 v,j9 P,l9 Y]at n
  by_cases i:op=0
  case neg=>
   obtain rfl:X=F:=by rw[<-n];simp[i]
   simp only[go_sem,x6 Y,j,l,t,u,v,P,i]
  by_cases bk:num=0
  case neg=>
   obtain rfl:X=F:=by rw[<-n];simp[bk]
   simp only[go_sem,x6 Y,j,l,t,u,v,P,x6 i,bk]
  simp only[go_sem,x6 Y,j,l,t,u,v,P,x6 i,x6 bk];refine cU rfl XQ ?_;rintro _ rfl;cases c:ay F name
  .obtain rfl:X=F:=by rw[<-n];simp[c]
   simp only[go_sem,x6 Y,j,l,t,u,v,P,x6 i,x6 bk]
  by_cases b:z kids=1
  case neg=>
   obtain rfl:X=F:=by rw[<-n];simp[b]
   by_cases p:(1:Int)<=(z kids:Int)
   .have d:¬(z kids:Int)<=1:=a7
    simp only[go_sem,x6 Y,j,l,t,u,v,P,x6 i,x6 bk,j7,p,d]
   .simp only[go_sem,x6 Y,j,l,t,u,v,P,x6 i,x6 bk,j7,p]
  have p:(1:Int)<=(z kids:Int):=a7;have d:(z kids:Int)<=1:=a7;obtain rfl:X=T:=by rw[<-n];simp[i,bk,c,b]
  simp only[go_sem,x6 Y,j,l,t,u,v,P,x6 i,x6 bk,j7,p,d]
 by_cases w:kind=8
 .rw[j9 j,j9 l,j9 t,j9 u,j9 v,j9 P,j9 Y,l9 (Or.inl w)]at n
  by_cases i:op=0
  case neg=>
   obtain rfl:X=F:=by rw[<-n];simp[i]
   simp only[go_sem,x6 w,j,l,t,u,v,P,Y,i]
  by_cases bk:num=0
  case neg=>
   obtain rfl:X=F:=by rw[<-n];simp[bk]
   simp only[go_sem,x6 w,j,l,t,u,v,P,Y,x6 i,bk]
  simp only[go_sem,x6 w,j,l,t,u,v,P,Y,x6 i,x6 bk];refine cU rfl XQ ?_;rintro _ rfl;cases c:ay F name
  .obtain rfl:X=F:=by rw[<-n];simp[c]
   simp only[go_sem,x6 w,j,l,t,u,v,P,Y,x6 i,x6 bk]
  by_cases b:z kids=2
  case neg=>
   obtain rfl:X=F:=by rw[<-n];simp[b]
   by_cases p:(2:Int)<=(z kids:Int)
   .have d:¬(z kids:Int)<=2:=a7
    simp only[go_sem,x6 w,j,l,t,u,v,P,Y,x6 i,x6 bk,j7,p,d]
   .simp only[go_sem,x6 w,j,l,t,u,v,P,Y,x6 i,x6 bk,j7,p]
  have p:(2:Int)<=(z kids:Int):=a7;have d:(z kids:Int)<=2:=a7;obtain rfl:X=T:=by rw[<-n];simp[i,bk,c,b]
  simp only[go_sem,x6 w,j,l,t,u,v,P,Y,x6 i,x6 bk,j7,p,d]
 by_cases V:kind=9
 .rw[j9 j,j9 l,j9 t,j9 u,j9 v,j9 P,j9 Y,l9 (Or.inr V)]at n
  by_cases i:op=0
  case neg=>
   obtain rfl:X=F:=by rw[<-n];simp[i]
   simp only[go_sem,x6 V,j,l,t,u,v,P,Y,w,i]
  by_cases bk:num=0
  case neg=>
   obtain rfl:X=F:=by rw[<-n];simp[bk]
   simp only[go_sem,x6 V,j,l,t,u,v,P,Y,w,x6 i,bk]
  simp only[go_sem,x6 V,j,l,t,u,v,P,Y,w,x6 i,x6 bk];refine cU rfl XQ ?_;rintro _ rfl;cases c:ay F name
  .obtain rfl:X=F:=by rw[<-n];simp[c]
   simp only[go_sem,x6 V,j,l,t,u,v,P,Y,w,x6 i,x6 bk]
  by_cases b:z kids=2
  case neg=>
   obtain rfl:X=F:=by rw[<-n];simp[b]
   by_cases p:(2:Int)<=(z kids:Int)
   .have d:¬(z kids:Int)<=2:=a7
    simp only[go_sem,x6 V,j,l,t,u,v,P,Y,w,x6 i,x6 bk,j7,p,d]
   .simp only[go_sem,x6 V,j,l,t,u,v,P,Y,w,x6 i,x6 bk,j7,p]
  have p:(2:Int)<=(z kids:Int):=a7;have d:(z kids:Int)<=2:=a7;obtain rfl:X=T:=by rw[<-n];simp[i,bk,c,b]
  simp only[go_sem,x6 V,j,l,t,u,v,P,Y,w,x6 i,x6 bk,j7,p,d]
 obtain rfl:X=F:=by rw[<-n];simp[j,l,t,u,v,P,Y,w,V]
 simp only[go_sem,j,l,t,u,v,P,Y,w,V]
end
section
open Go Go.Am Go.Asm
open Go.Src (bg ay bS cN fL bA szE bw Ex Stm)
attribute[local congr]ite_cc
def yY{o:cT}(ho:kN o):∀(al:Nat)(l:List Ex)(q:Nat),bw l<=al->al<=1000000000->q<=25->ck Tryz.prog 1 o 151 [eJ l,ae q] (·=bv (bA q l)):=by
 intro al
 induction al using Nat.strongRecOn with
 |ind al y=>
 intro l q az L j;refine hdG Tryz.func151 rfl [.tmp 4] λO bn s0 w0 g=>?_;obtain⟨X,i⟩:∃X,bA q l=X:=⟨_,rfl⟩
 rw[i];have bz:=Src.KQ l;have v:=ah (k:=q) a7;unfold eJ;by_cases b:0<z l/\24<q
 .have U:(0:Int)<(z l:Int):=a7
  have B:(24:Int)<(q:Int):=a7
  obtain rfl:X=F:=by
   rw[<-i];cases l with
   |nil=>simp at b
   |cons e l=>obtain⟨kind,op,num,name,d⟩:=e;simp[bA,fL];omega
  simp only[go_sem,j7,U,B]
 by_cases w:l=[]
 .subst w
  obtain rfl:X=T:=by rw[<-i];simp[bA]
  exact wk
 have W:0<z l:=N1.2 w;have Z:(0:Int)<(z l:Int):=a7;have bl:¬(24:Int)<(q:Int):=a7;simp only[go_sem,j7,Z,bl];refine aG (λm K=>∃k:Nat,m+k=z l/\(l.take k).all (fL q)=T/\K.f 1=ae q/\K.f 14=.one (aq (l.map exD))/\K.f 15=ae (z l)/\K.f 16=ae k) (z l) ?_ ?_
 .exact V6
 rintro m f g1 av ⟨k,hk,bs,t,E,n,A⟩;simp only at t E n A;have G:=ah (k:=k) a7;by_cases H:k<z l
 case neg=>
  have Q:¬(k:Int)<(z l:Int):=a7;obtain rfl:k=z l:=a7;rw[s7 (l8 _)]at bs;obtain rfl:X=T:=by rw[<-i,Src.BM];exact bs
  simp only[go_sem,n,A,Q]
 have Q:(k:Int)<(z l:Int):=a7;have I:(0:Int)<=(k:Int):=a7;obtain⟨e,u⟩:=getq H;obtain⟨kind,op,num,name,d⟩:=e;have a:=Src.Oz (l7 u);rw[szE]at a;have x:exD (.mk kind op num name d)=[.int .i64 kind,.int .i64 op,.int .u32 num,.str name,.sl (d.map exD)]:=by simp only[exD,aV]
 have hF:=CU ho (.mk kind op num name d);have J:=y (bw d) a7 d (q+1) (l8 _) a7 a7;unfold exV at hF;unfold eJ at J;rw[x]at hF;simp only[s6,x7]at hF;have c:q<=24:=a7;simp only[go_sem,t,E,n,A,Q,I,u,x];refine cU rfl ZO ?_;rintro _ rfl;cases hf:bS kind op num name (z d)
 .obtain rfl:X=F:=by rw[<-i,Src.BM];exact Src.all_false u (by simp[fL,hf])
  simp only[go_sem,hf]
 simp only[go_sem,t,v];refine cU rfl (by simp only[go_sem,t,v];exact J) ?_;rintro _ rfl;cases V:bA (q+1) d
 .obtain rfl:X=F:=by rw[<-i,Src.BM];exact Src.all_false u (by simp[fL,hf,V])
  exact gW
 .simp only[go_sem,A,G]
  refine ao (m-1) a7 ⟨k+1,a7,Src.WN bs u (by simp[fL,hf,V,c]),?_⟩;simp only[go_sem,t,E,n]
def CV{o:cT}(ho:kN o)(e:Stm):ck Tryz.prog 1 o 150 [smV e] (·=bv (match e with|.mk kind name e u el=>cN kind name (z e) (z u) (z el))):=by
 obtain⟨kind,name,e,u,el⟩:=e;refine hdG Tryz.func150 rfl [.tmp 2] λO bn s0 w0 g=>?_;simp only;obtain⟨X,b⟩:∃X,cN kind name (z e) (z u) (z el)=X:=⟨_,rfl⟩
 rw[b];unfold smV;simp only[smD,aV,ez,s6,x7];unfold cN at b;by_cases a:kind=1
 .rw[l9 a]at b
  simp only[go_sem,x6 a];refine cU rfl Yx ?_;rintro _ rfl;cases c:ay T name
  .obtain rfl:X=F:=by rw[<-b];simp[c]
   simp only[go_sem,x6 a]
  have v:(0:Int)<=(z e:Int):=a7;by_cases p:(z e:Int)<1
  .obtain rfl:X=F:=by rw[<-b,c,x8];exact A5 a7
   simp only[go_sem,x6 a,j7,p]
  by_cases d:(1:Int)<(z e:Int)
  .obtain rfl:X=F:=by rw[<-b,c,x8];exact A5 a7
   simp only[go_sem,x6 a,j7,p,d]
  by_cases G:(z u:Int)=0
  case neg=>
   obtain rfl:X=F:=by rw[<-b,c,x8];exact A5 a7
   simp only[go_sem,x6 a,j7,p,d,G]
  by_cases t:(z el:Int)=0
  case neg=>
   obtain rfl:X=F:=by rw[<-b,c,x8];exact A5 a7
   simp only[go_sem,x6 a,j7,p,d,G,t]
  obtain rfl:X=T:=by rw[<-b,c,x8];exact C8 a7
  simp only[go_sem,x6 a,j7,p,d,G,t]
 by_cases i:kind=2
 .rw[j9 a,l9 i]at b
  simp only[go_sem,x6 i,a];refine cU rfl Yx ?_;rintro _ rfl;cases c:ay T name
  .obtain rfl:X=F:=by rw[<-b];simp[c]
   simp only[go_sem,x6 i,a]
  have v:(0:Int)<=(z e:Int):=a7;by_cases p:(z e:Int)<2
  .obtain rfl:X=F:=by rw[<-b,c,x8];exact A5 a7
   simp only[go_sem,x6 i,a,j7,p]
  by_cases d:(2:Int)<(z e:Int)
  .obtain rfl:X=F:=by rw[<-b,c,x8];exact A5 a7
   simp only[go_sem,x6 i,a,j7,p,d]
  by_cases G:(z u:Int)=0
  case neg=>
   obtain rfl:X=F:=by rw[<-b,c,x8];exact A5 a7
   simp only[go_sem,x6 i,a,j7,p,d,G]
  by_cases t:(z el:Int)=0
  case neg=>
   obtain rfl:X=F:=by rw[<-b,c,x8];exact A5 a7
   simp only[go_sem,x6 i,a,j7,p,d,G,t]
  obtain rfl:X=T:=by rw[<-b,c,x8];exact C8 a7
  simp only[go_sem,x6 i,a,j7,p,d,G,t]
 by_cases j:kind=3
 .rw[j9 a,j9 i,l9 j]at b
  simp only[go_sem,x6 j,a,i];refine cU rfl XQ ?_;rintro _ rfl;cases c:ay F name
  .obtain rfl:X=F:=by rw[<-b];simp[c]
   simp only[go_sem,x6 j,a,i]
  have v:(0:Int)<=(z e:Int):=a7;by_cases p:(z e:Int)<1
  .obtain rfl:X=F:=by rw[<-b,c,x8];exact A5 a7
   simp only[go_sem,x6 j,a,i,j7,p]
  by_cases d:(1:Int)<(z e:Int)
  .obtain rfl:X=F:=by rw[<-b,c,x8];exact A5 a7
   simp only[go_sem,x6 j,a,i,j7,p,d]
  by_cases G:(z u:Int)=0
  case neg=>
   obtain rfl:X=F:=by rw[<-b,c,x8];exact A5 a7
   simp only[go_sem,x6 j,a,i,j7,p,d,G]
  by_cases t:(z el:Int)=0
  case neg=>
   obtain rfl:X=F:=by rw[<-b,c,x8];exact A5 a7
   simp only[go_sem,x6 j,a,i,j7,p,d,G,t]
  obtain rfl:X=T:=by rw[<-b,c,x8];exact C8 a7
  simp only[go_sem,x6 j,a,i,j7,p,d,G,t]
 by_cases l:kind=4
 .rw[j9 a,j9 i,j9 j,l9 l]at b
  simp only[go_sem,x6 l,a,i,j];refine cU rfl XQ ?_;rintro _ rfl;cases c:ay F name
  .obtain rfl:X=F:=by rw[<-b];simp[c]
   simp only[go_sem,x6 l,a,i,j]
  have v:(0:Int)<=(z e:Int):=a7;by_cases p:(z e:Int)<1
  .obtain rfl:X=F:=by rw[<-b,c,x8];exact A5 a7
   simp only[go_sem,x6 l,a,i,j,j7,p]
  by_cases d:(1:Int)<(z e:Int)
  .obtain rfl:X=F:=by rw[<-b,c,x8];exact A5 a7
   simp only[go_sem,x6 l,a,i,j,j7,p,d]
  obtain rfl:X=T:=by rw[<-b,c,x8];exact C8 a7
  simp only[go_sem,x6 l,a,i,j,j7,p,d]
 by_cases n:kind=5
 .rw[j9 a,j9 i,j9 j,j9 l,l9 n]at b
  simp only[go_sem,x6 n,a,i,j,l];refine cU rfl XQ ?_;rintro _ rfl;cases c:ay F name
  .obtain rfl:X=F:=by rw[<-b];simp[c]
   simp only[go_sem,x6 n,a,i,j,l]
  have v:(0:Int)<=(z e:Int):=a7;by_cases p:(z e:Int)<1
  .obtain rfl:X=F:=by rw[<-b,c,x8];exact A5 a7
   simp only[go_sem,x6 n,a,i,j,l,j7,p]
  by_cases d:(1:Int)<(z e:Int)
  .obtain rfl:X=F:=by rw[<-b,c,x8];exact A5 a7
   simp only[go_sem,x6 n,a,i,j,l,j7,p,d]
  by_cases t:(z el:Int)=0
  case neg=>
   obtain rfl:X=F:=by rw[<-b,c,x8];exact A5 a7
   simp only[go_sem,x6 n,a,i,j,l,j7,p,d,t]
  obtain rfl:X=T:=by rw[<-b,c,x8];exact C8 a7
  simp only[go_sem,x6 n,a,i,j,l,j7,p,d,t]
 by_cases P:kind=6
 .rw[j9 a,j9 i,j9 j,j9 l,j9 n,l9 P]at b
  simp only[go_sem,x6 P,a,i,j,l,n];refine cU rfl Yx ?_;rintro _ rfl;cases c:ay T name
  .obtain rfl:X=F:=by rw[<-b];simp[c]
   simp only[go_sem,x6 P,a,i,j,l,n]
  have v:(0:Int)<=(z e:Int):=a7;have p:¬(z e:Int)<0:=a7;by_cases d:(6:Int)<(z e:Int)
  .obtain rfl:X=F:=by rw[<-b,c,x8];exact A5 a7
   simp only[go_sem,x6 P,a,i,j,l,n,j7,p,d]
  by_cases G:(z u:Int)=0
  case neg=>
   obtain rfl:X=F:=by rw[<-b,c,x8];exact A5 a7
   simp only[go_sem,x6 P,a,i,j,l,n,j7,p,d,G]
  by_cases t:(z el:Int)=0
  case neg=>
   obtain rfl:X=F:=by rw[<-b,c,x8];exact A5 a7
   simp only[go_sem,x6 P,a,i,j,l,n,j7,p,d,G,t]
  obtain rfl:X=T:=by rw[<-b,c,x8];exact C8 a7
  simp only[go_sem,x6 P,a,i,j,l,n,j7,p,d,G,t]
 by_cases Y:kind=7
 .rw[j9 a,j9 i,j9 j,j9 l,j9 n,j9 P,l9 Y]at b
  simp only[go_sem,x6 Y,a,i,j,l,n,P];refine cU rfl XQ ?_;rintro _ rfl;cases c:ay F name
  .obtain rfl:X=F:=by rw[<-b];simp[c]
   simp only[go_sem,x6 Y,a,i,j,l,n,P]
  have v:(0:Int)<=(z e:Int):=a7;have p:¬(z e:Int)<0:=a7;by_cases d:(1:Int)<(z e:Int)
  .obtain rfl:X=F:=by rw[<-b,c,x8];exact A5 a7
   simp only[go_sem,x6 Y,a,i,j,l,n,P,j7,p,d]
  by_cases G:(z u:Int)=0
  case neg=>
   obtain rfl:X=F:=by rw[<-b,c,x8];exact A5 a7
   simp only[go_sem,x6 Y,a,i,j,l,n,P,j7,p,d,G]
  by_cases t:(z el:Int)=0
  case neg=>
   obtain rfl:X=F:=by rw[<-b,c,x8];exact A5 a7
   simp only[go_sem,x6 Y,a,i,j,l,n,P,j7,p,d,G,t]
  obtain rfl:X=T:=by rw[<-b,c,x8];exact C8 a7
  simp only[go_sem,x6 Y,a,i,j,l,n,P,j7,p,d,G,t]
 obtain rfl:X=F:=by rw[<-b];simp[a,i,j,l,n,P,Y]
 simp only[go_sem,a,i,j,l,n,P,Y]
end
section
open Go Go.Am Go.Asm
open Go.Src (bg ay bS cN fL bA fy br fF iY dP szE bw szS aN Ex Stm)
attribute[local congr]ite_cc
def yZ{o:cT}(ho:kN o):∀(al:Nat)(l:List Stm)(q:Nat),aN l<=al->al<=1000000000->q<=25->ck Tryz.prog 1 o 90 [fH l,ae q] (·=bv (br q l)):=by
 intro al
 induction al using Nat.strongRecOn with
 |ind al y=>
 intro l q az hN j;refine hdG Tryz.func90 rfl [.tmp 4] λO bn s0 w0 g=>?_;obtain⟨X,i⟩:∃X,br q l=X:=⟨_,rfl⟩
 rw[i];have bz:=Src.KR l;have w:=ah (k:=q) a7;unfold fH;by_cases b:0<z l/\24<q
 .have U:(0:Int)<(z l:Int):=a7
  have L:(24:Int)<(q:Int):=a7
  obtain rfl:X=F:=by
   rw[<-i];cases l with
   |nil=>simp at b
   |cons e l=>
     obtain⟨kind,name,e,t,el⟩:=e;have:¬q<=24:=a7;simp[br,fy,this]
  simp only[go_sem,j7,U,L]
 by_cases B:l=[]
 .subst B
  obtain rfl:X=T:=by rw[<-i];simp[br]
  exact wk
 have fo:0<z l:=N1.2 B;have Z:(0:Int)<(z l:Int):=a7;have bl:¬(24:Int)<(q:Int):=a7;simp only[go_sem,j7,Z,bl];refine aG (λm K=>∃k:Nat,m+k=z l/\(l.take k).all (fy q)=T/\K.f 1=ae q/\K.f 14=.one (aq (l.map smD))/\K.f 15=ae (z l)/\K.f 16=ae k) (z l) ?_ ?_
 .exact V6
 rintro m f g1 av ⟨k,hk,bs,d,E,n,A⟩;simp only at d E n A;have W:=ah (k:=k) a7;by_cases Y:k<z l
 case neg=>
  have Q:¬(k:Int)<(z l:Int):=a7;obtain rfl:k=z l:=a7;rw[s7 (l8 _)]at bs;obtain rfl:X=T:=by rw[<-i,Src.BN];exact bs
  simp only[go_sem,n,A,Q]
 have Q:(k:Int)<(z l:Int):=a7;have bf:(0:Int)<=(k:Int):=a7;obtain⟨e,u⟩:=getq Y;obtain⟨kind,name,v,t,el⟩:=e;have a:=Src.OA (l7 u);rw[szS]at a;have G:smD (.mk kind name v t el)=[.int .i64 kind,.str name,.sl (v.map exD),.sl (t.map smD),.sl (el.map smD)]:=by simp only[smD,aV,ez]
 have hF:=CV ho (.mk kind name v t el);have hX:=yY ho (bw v) v (q+1) (l8 _) a7 a7;have H:=y (aN t) a7 t (q+1) (l8 _) a7 a7;have I:=y (aN el) a7 el (q+1) (l8 _) a7 a7;unfold smV at hF;unfold eJ at hX;unfold fH at H I;rw[G]at hF;simp only[s6,x7]at hF;have c:q<=24:=a7;simp only[go_sem,d,E,n,A,Q,bf,u,G];refine cU rfl ZO ?_;rintro _ rfl;cases hf:cN kind name (z v) (z t) (z el)
 .obtain rfl:X=F:=by rw[<-i,Src.BN];exact Src.all_false u (by simp[fy,hf])
  simp only[go_sem,hf]
 simp only[go_sem,d,w];refine cU rfl (by simp only[go_sem,d,w];exact hX) ?_;rintro _ rfl;cases V:bA (q+1) v
 .obtain rfl:X=F:=by rw[<-i,Src.BN];exact Src.all_false u (by simp[fy,hf,V])
  exact gW
 simp only[go_sem,d,w];refine cU rfl (by simp only[go_sem,d,w];exact H) ?_;rintro _ rfl;cases x:br (q+1) t
 .obtain rfl:X=F:=by rw[<-i,Src.BN];exact Src.all_false u (by simp[fy,hf,V,x])
  exact gW
 simp only[go_sem,d,w];refine cU rfl (by simp only[go_sem,d,w];exact I) ?_;rintro _ rfl;cases J:br (q+1) el
 .obtain rfl:X=F:=by rw[<-i,Src.BN];exact Src.all_false u (by simp[fy,hf,V,x,J])
  exact gW
 .simp only[go_sem,A,W]
  refine ao (m-1) a7 ⟨k+1,a7,Src.WN bs u (by simp[fy,hf,V,x,J,c]),?_⟩;simp only[go_sem,d,E,n]
def szP(p:Src.Prog):Nat:=z p.v+z p.a+z p.f+(p.f.map λf=>z f.p+z f.l+aN f.body).sum
def kq{p:Src.Prog}{f:Src.Fn}(h:f∈p.f):z f.p+z f.l+aN f.body<=szP p:=by
 have:∀l:List Src.Fn,f∈l->z f.p+z f.l+aN f.body<=(l.map λf=>z f.p+z f.l+aN f.body).sum:=by
  intro l
  induction l with
  |nil=>intro h;cases h
  |cons x l a=>
    intro h;rw[s6,D8];rcases A0.1 h with rfl|h
    .omega
    .have:=a h;omega
 have:=this _ h;unfold szP;omega
def EJ{o:cT}(ho:kN o)(p:Src.Prog)(az:szP p<=1000000000):ck Tryz.prog 1 o 55 [cl p] (·=bv (dP p)):=by
 refine hdG Tryz.func55 rfl [.tmp 2] λO bn s0 w0 g=>?_;obtain⟨X,A⟩:∃X,dP p=X:=⟨_,rfl⟩
 rw[A];obtain⟨vs,b,fs⟩:=p;have u:=az;unfold szP at az;simp only at az;unfold dP at A;simp only at A;unfold cl jt;by_cases U:z fs<1
 .have c:(z fs:Int)<1:=a7
  obtain rfl:X=F:=by rw[<-A];simp;omega
  simp only[go_sem,j7,c]
 have c:¬(z fs:Int)<1:=a7;by_cases h2:64<z fs
 .have d:(64:Int)<(z fs:Int):=a7
  obtain rfl:X=F:=by rw[<-A];simp;omega
  simp only[go_sem,j7,c,d]
 have d:¬(64:Int)<(z fs:Int):=a7;have hA:=qR ho vs a7;unfold wb at hA;simp only[go_sem,j7,c,d];refine cU rfl (by simp only[go_sem];exact hA) ?_;rintro _ rfl;cases hv:vs.all bg
 .obtain rfl:X=F:=by rw[<-A];simp[hv]
  exact gW
 simp only[go_sem,j7];refine aG (λm K=>∃k:Nat,m+k=z b/\(b.take k).all iY=T/\K.f 1=aj 1 (K.gen 1) 0/\K.obj 1=S [aq (vs.map λs=>[.str s]),aq (b.map arD),aq (fs.map fnD)]/\K.f 24=.one (aq (b.map arD))/\K.f 25=ae (z b)/\K.f 26=ae k) (z b) ?_ ?_
 .exact V6
 clear g;rintro m f g ob ⟨k,hk,bs,H,o1,V,h,i⟩;simp only at H o1 V h i;have J:=ah (k:=k) a7;by_cases L:k<z b
 .have Q:(k:Int)<(z b:Int):=a7
  have bf:(0:Int)<=(k:Int):=a7;obtain⟨⟨G,sz⟩,B⟩:=getq L;simp only[go_sem,H,o1,V,h,i,Q,bf,B,arD];refine cU rfl (by simp only[go_sem];exact ny ho G) ?_;rintro _ rfl;cases hb:bg G
  .obtain rfl:X=F:=by rw[<-A,Src.all_false (p:=iY) B (by simp[iY,hb])];simp
   exact gW
  by_cases a1:sz<1
  .obtain rfl:X=F:=by rw[<-A,Src.all_false (p:=iY) B (by simp[iY,hb];omega)];simp
   simp only[go_sem,a1]
  by_cases bz:4096<sz
  .obtain rfl:X=F:=by rw[<-A,Src.all_false (p:=iY) B (by simp[iY,hb];omega)];simp
   simp only[go_sem,a1,bz]
  simp only[go_sem,a1,bz,i,J];refine ao (m-1) a7 ⟨k+1,a7,Src.WN bs B (by simp[iY,hb];omega),?_⟩;simp only[go_sem,H,o1,V,h]
 have Q:¬(k:Int)<(z b:Int):=a7;obtain rfl:k=z b:=a7;rw[s7 (l8 _)]at bs;simp only[go_sem,H,o1,h,i,Q,j7];refine aG (λm K=>∃k:Nat,m+k=z fs/\(fs.take k).all fF=T/\K.f 46=.one (aq (fs.map fnD))/\K.f 47=ae (z fs)/\K.f 48=ae k) (z fs) ?_ ?_
 .exact V6
 clear H o1 V h i L Q J hk;rintro m f g ob ⟨k,hk,a,W,Y,l⟩;simp only at W Y l;have J:=ah (k:=k) a7;by_cases L:k<z fs
 case neg=>
  have Q:¬(k:Int)<(z fs:Int):=a7;obtain rfl:k=z fs:=a7;rw[s7 (l8 _)]at a;obtain rfl:X=T:=by rw[<-A,bs,a,hv,C8 (show 1<=z fs/\z fs<=64 by omega)];rfl
  simp only[go_sem,Y,l,Q]
 have Q:(k:Int)<(z fs:Int):=a7;have bf:(0:Int)<=(k:Int):=a7;obtain⟨x,B⟩:=getq L;have P:=kq (p:=⟨vs,b,fs⟩) (l7 B);obtain⟨G,E,ls,w,body⟩:=x;simp only at P;have q:=qR ho E a7;have r:=qR ho ls a7;have hB:=yZ ho (aN body) body 1 (l8 _) a7 a7;unfold wb at q r;unfold fH at hB;have I:∀{y:Bool},fF ⟨G,E,ls,w,body⟩=y->y=F->X=F:=λU h2=>by rw[<-A,Src.all_false (p:=fF) B (by rw[U,h2])];simp
 simp only[go_sem,W,Y,l,Q,bf,B,fnD];refine cU rfl (by simp only[go_sem];exact ny ho G) ?_;rintro _ rfl;cases hb:bg G
 .obtain rfl:=I rfl (by simp[fF,hb])
  exact gW
 by_cases v:6<z E
 .have j:(6:Int)<(z E:Int):=a7
  obtain rfl:=I rfl (by simp[fF,hb];omega);simp only[go_sem,j7,j]
 have j:¬(6:Int)<(z E:Int):=a7;have e:z E<=6:=a7;simp only[go_sem,j7,j];refine cU rfl (by simp only[go_sem];exact q) ?_;rintro _ rfl;cases Z:E.all bg
 .obtain rfl:=I rfl (by simp only[fF,hb,e,Z];simp)
  exact gW
 simp only[go_sem];refine cU rfl (by simp only[go_sem];exact r) ?_;rintro _ rfl;cases n:ls.all bg
 .obtain rfl:=I rfl (by simp only[fF,hb,e,Z,n];simp)
  exact gW
 simp only[go_sem];refine cU rfl YW ?_;rintro _ rfl;cases t:br 1 body
 .obtain rfl:=I rfl (by simp only[fF,hb,e,Z,n,t];simp)
  exact gW
 simp only[go_sem,l,J];refine ao (m-1) a7 ⟨k+1,a7,Src.WN a B (by simp only[fF,hb,e,Z,n,t];simp),?_⟩;simp only[go_sem,W,Y]
end
end Go.Proofs.YtlacbjnmkhndiaaGreatDoor
namespace Go.Src
section
open Go.Asm (Str digit letter eG jC)
section
section
variable{ts:List Tok}
end
end
end
end Go.Src
namespace Go.Proofs.YtlacbjnmkhndiaaGreatDoor
section
open Go Go.Am Go.Asm
open Go.Src (PR Ex Stm)
def jJ(p:Src.Prog):List C:=(jt p).map .d
structure RdG (i:Str) (c:Nat) (g:Nat->Nat) (ob:Obs) (s:St):Prop where
 f0:s.f 0=sv i
 f1:s.f 1=.one (.clo 53 [.ptr c (g c) 0])
 f4:s.f 4=aj 104 (nxC 4 (g 104)) 0
 f5:s.f 5=aj 105 (nxC 33 (g 105)) 0
 gn:s.gen=upd (upd g 104 (nxC 4 (g 104))) 105 (nxC 33 (g 105))
 on:s.obj=upd (upd ob 104 (some [ag 0])) 105 (some [ag 0])
structure RdE (c:Nat) (g:Nat->Nat) (ob:Obs) (s:St):Prop where
 f4:s.f 4=aj 104 (nxC 4 (g 104)) 0
 f5:s.f 5=aj 105 (nxC 33 (g 105)) 0
 g4:s.gen 104=nxC 4 (g 104)
 g5:s.gen 105=nxC 33 (g 105)
 o4:s.obj 104=some [ag 0]
 o5:s.obj 105=some [ag 0]
 gc:s.gen c=g c
 fr:∀i,i<100->i≠c->s.gen i=g i/\s.obj i=ob i
def Rh:Src.Prog:=⟨[],[],[]⟩
def Jg(r:Src.Prog×Nat×Nat):AV:=.tup [cl r.1,ae (r.2.1:Nat),ae (r.2.2:Nat)]
end
section
open Go Go.Am Go.Asm
open Go.Src (PR Ex Stm)
attribute[local congr]ite_cc
section
def xo(b:Bool):Str:=[102,117,110,99,32,109,97,105,110,40,41,32,123,32,112,117,116,40,54,53,41]++if b then [59,32,125]else [32,125]
def Xa(b:Bool):Src.aaf (xo b)=(tT b,0,0):=by cases b<;>decide +kernel
def Xb(b:Bool):z (tT b)=if b then 11 else 10:=by cases b<;>rfl
variable{g:Nat->Nat}
def OS{b:Bool}{fin gr gc:Nat}{ob:Obs}(bk:∀i,200<=i->ob i=N)(ho:ob 125=S (rdC (tT b) 0 fin))(E:∃x y X,ob 5=S [x,y,X])(r:g 125=gr)(a:g 5=gc):
  dj Tryz.prog 53 [aj 125 gr 0,kT (.ptr 5 gc 0)] g ob (λ_ g' Y=>g'=g/\b=T/\Y=upd (upd ob 125 (S (rdC (tT b) 11 fin))) 5 (S (jJ p65))) (NoR (tT b) fin (oT b p65 11) g ob):=by
 obtain⟨x,y,X,E⟩:=E;subst r a;refine hdX 1000 Tryz.func53 rfl [] λO bn s0 w0=>?_;simp only[go_sem];refine FM aa rfl (by simp only[go_sem];exact SV 200 g ob a7 bk ho) ?_;rintro _ g' Y ⟨rfl,p,m,d,rfl,rfl⟩;obtain⟨rfl,rfl,rfl⟩:=Cb d;unfold cl jt;simp only[go_sem,kT,E];exact⟨_,ai.refl _,rfl,rfl⟩
def Qc(b:Bool)(g:Nat->Nat)(ob:Obs)(r:AV)(g':Nat->Nat)(Y:Obs):Prop:=
 (∀i,i<100->i≠5->g' i=g i/\Y i=ob i)/\g' 5=g 5/\if b then r=.tup [ae 0,ae 0]/\Y 5=S (jJ p65)else r=.tup [ae 22,ae 3]
def SW{o:cT}(ho:kN o){b:Bool}{ob:Obs}(bk:∀i,100<=i->ob i=N)(E:∃x y X,ob 5=S [x,y,X]):
  HG Tryz.prog 1 o 52 [sv (xo b),.one (.clo 53 [.ptr 5 (g 5) 0])] g ob (Qc b g ob):=by
 obtain⟨cx,cy,cz,E⟩:=E;refine⟨⟨_,Tryz.func52,j4,j0⟩,λO al β a fa w vs bs Z b2 hv=>?_⟩;refine kU (n:=0) (callsIn_of_wp_defers Tryz.func52 j4 trivial ?_);have V:=oQ (al:=Tryz.f52.ntmps) (by simp[Tryz.ntmps52]) b2 hv;refine sL (B:=100) (ds:=[]) aO mixed mJ j0 j0 V ⟨⟨bs,Z⟩,rfl,Tr.refl⟩ (K:=RdG (xo b) 5 g ob) ?_ ?_
 .simp only[go_sem]
  exact⟨rfl,rfl,rfl,rfl,rfl,rfl⟩
 rintro s1 l a1 b7 w1 k1 b1 c;refine sL (B:=100) aO mixed mJ j0 j0 b1 c (K:=λs=>RdG (xo b) 5 g ob s/\s.f 6=.one (.d (kR (tT b)))/\s.f 8=ae 0) ?_ ?_
 .obtain⟨f,g1,av⟩:=s1
  obtain⟨q0,q1,q4,q5,rfl,rfl⟩:=k1;simp only at q0 q1 q4 q5;simp only[go_sem,q0];refine kc mJ (λs β ds w h=>h.1.2) rfl (by simp only[go_sem,q0];exact WI ho (xo b)) (by simp only[go_sem,q0];rfl) ?_;rintro _ rfl;rw[Xa];unfold WH;simp only[go_sem];refine⟨?_,?_,?_,?_,rfl,rfl⟩<;>(simp only[go_sem,q0,q1,q4,q5])
 rintro s2 ad a2 az w2 ⟨k2,P,k8⟩ Q bz;refine sL (B:=100) aO mixed mJ j0 j0 Q bz (K:=λs=>RdG (xo b) 5 g ob s/\s.f 6=.one (.d (kR (tT b)))) ?_ ?_
 .obtain⟨f,g1,av⟩:=s2
  obtain⟨q0,q1,q4,q5,rfl,rfl⟩:=k2;simp only at q0 q1 q4 q5 P k8;simp only[go_sem,k8,P];refine⟨?_,?_,?_,?_,rfl,rfl⟩<;>(simp only[go_sem,q0,q1,q4,q5])
 rintro s3 r a3 b3 w3 ⟨k3,P⟩ L a6;obtain rfl:b3=[]:=a6.2.1;refine FO (B:=100) (t:=20) (f:=81) (q:=[.ptr 104 (nxC 4 (g 104)) 0,.ptr 105 (nxC 33 (g 105)) 0]) aO mJ rfl rfl rfl (λd h=>by cases h;simp[Tryz.ntmps52]) rfl rfl L a6 (K:=λs=>RdG (xo b) 5 g ob s/\s.f 6=.one (.d (kR (tT b)))) ?_ ?_
 .obtain⟨f,g1,av⟩:=s3
  obtain⟨q0,q1,q4,q5,rfl,rfl⟩:=k3;simp only at q0 q1 q4 q5 P;simp only[go_sem,q4,q5,P];refine⟨?_,?_,?_,?_,rfl,rfl⟩<;>(simp only[go_sem,q0,q1,q4,q5])
 rintro s4 b8 a4 w4 vs ⟨k4,P⟩ b4 bd af;obtain⟨f4,g4,bf⟩:=s4;obtain⟨q0,q1,q4,q5,rfl,rfl⟩:=k4;simp only at q0 q1 q4 q5 P;unfold Qc
 refine FN (B:=100) aO mixed (xA (d:=[⟨.fn (.func 81) vs.toArray,#[]⟩])) (λch s=>(b=F/\ch=yX 22)/\RdE 5 g ob s)
  (λe s=>e=.ret/\(b=T/\s.obj 5=S (jJ p65))/\RdE 5 g ob s) j0 j0 b4 ⟨rfl,Tr.refl⟩ ?_ ?_
 .simp only[go_sem,q0,q1,q4,q5,P]
  refine aY (f:=53) (q:=[.ptr 5 (g 5) 0]) xA rfl (by simp only[go_sem,q1]) (by simp only[go_sem];exact OS (b:=b) (fin:=z (xo b)) (λi hi=>by simp only[upd];(repeat rw[j9 (by omega)]);exact bk i (by omega)) (by simp[upd,rdC]) ⟨cx,cy,cz,by simp[upd,E]⟩ (by simp[upd]) (by simp[upd])) ?_ ?_
  .rintro ch g' Y ⟨rfl,m,hp,rfl,rfl⟩
   obtain rfl:b=F:=by cases b;rfl;cases hp
   have hp:(PR.no 9:PR Src.Prog)=.no m:=hp;cases hp;refine⟨⟨rfl,rfl⟩,?_⟩;exact sc
  .rintro _ g' Y ⟨rfl,rfl,rfl⟩
   unfold rdC kR;simp only[go_sem];refine aP c9 ?_;simp only[go_sem,j7,Xb,q4,q5];exact sc
 rintro e W A a' H G b' b0 ⟨rfl,an⟩;rcases b' with⟨rfl,⟨rfl,b5⟩,z4,z5,e4,e5,o4,o5,gc,hF⟩|⟨ch,rfl,⟨rfl,rfl⟩,z4,z5,e4,e5,o4,o5,gc,hF⟩
 .show LeavesIn _ _ _ _ a'.tmps _ _ _ _
  refine Cw (B:=200) (fnD:=Tryz.f81) aO mixed Tryz.func81 j4 j0 rfl rfl rfl rfl rfl rfl Y2 Y2 j4 j0 j0 (aO 20 rfl).desc b0 (aS.keep an.keep _ af) Y2
   (K:=λg' Y=>g'=W.gen/\Y=W.obj) ?_ ?_
  .intro bn s0 w0
   exact gW
  .rintro _ _ bl w6 ⟨rfl,rfl⟩ p bo
   have hE:mH Tt ⟨W.f,W.gen,W.obj⟩ [.cell 4 3,.cell 5 32] (bx λj=>pack j=.tup [ae 0,ae 0]):=by
    simp only[go_sem,z4,z5,e4,e5,o4,o5];rfl
   obtain⟨v,j,U,h2,h3,_⟩:=fj (fn:=Tryz.f52) aO p j4 hE;refine⟨v,U,v,_,_,_,bl,rfl,⟨λi hi I=>hF i hi I,gc,h2,b5⟩,h3,p.obj,p.inj,?_⟩;have J:=(bd.2.2.trans an).trans bo;exact⟨J.size,J.old,J.keep,J.os⟩
 show LeavesIn _ _ _ _ a'.tmps _ _ _ _
 refine Cu (B:=200) (fnD:=Tryz.f81) aO mixed Tryz.func81 j4 j0 rfl rfl rfl rfl rfl rfl Y2 Y2 j4 j0 j0 (aO 20 rfl).desc (t:=174) (u:=.agg #[.int .i64 (22:Nat)]) b0 (aS.keep an.keep _ af) Y2
  (K:=λg' Y=>g' 104=nxC 4 (g 104)/\g' 105=nxC 33 (g 105)/\Y 104=S [ag 22]/\Y 105=S [ag 3]/\g' 5=g 5/\∀i,i<100->i≠5->g' i=g i/\Y i=ob i) ?_ ?_
 .intro bn s0 w0
  simp only[go_sem];refine yJ (k:=bx _) aa rfl (aO 174 rfl).desc (kd:=.i64) (n:=(22:Nat)) XD ?_;simp only[go_sem,e4,e5,o4,o5,kT,gc];intro i hi I;have U:=(hF i a7 I).1;have h2:=(hF i a7 I).2
  (repeat rw[j9 (by omega)])
  exact⟨U,h2⟩
 .rintro g' Y bl w6 ⟨x4,x5,y4,y5,b6,ar⟩ p bo
  have hE:mH Tt ⟨W.f,g',Y⟩ [.cell 4 3,.cell 5 32] (bx λj=>pack j=.tup [ae 22,ae 3]):=by
   simp only[go_sem,z4,z5,x4,x5,y4,y5];rfl
  obtain⟨v,j,U,h2,h3,_⟩:=fj (fn:=Tryz.f52) aO p j4 hE;refine⟨v,U,v,_,_,_,bl,rfl,⟨ar,b6,h2⟩,h3,p.obj,p.inj,?_⟩;have J:=(bd.2.2.trans an).trans bo;exact⟨J.size,J.old,J.keep,J.os⟩
def rT(b:Bool):Src.Prog×Nat×Nat:=if b then(p65,0,0)else(Rh,22,3)
def SX{o:cT}(ho:kN o)(b:Bool):ck Tryz.prog 1 o 30 [sv (xo b)] (·=Jg (rT b)):=by
 refine hdG Tryz.func30 rfl [.cell 2 26,.tmp 3,.tmp 4] λO bn s0 w0 g=>?_;simp only[go_sem];refine FK aL (λs j ds w h=>h.1) rfl (by simp only[go_sem];exact SW ho (λi l=>by simp only[upd];(repeat rw[j9 (by omega)])) ⟨_,_,_,by simp[upd];exact⟨rfl,rfl,rfl⟩⟩) ?_;rintro r n t ⟨f1,gc,U⟩;have d:=(f1 2 b9 b9).1;have e:=(f1 2 b9 b9).2;simp[upd]at d e gc;cases b
 .obtain rfl:r=_:=U
  simp only[go_sem,d,e];exact⟨_,⟨_,⟨_,_,rfl,vY [.nsl,.nsl,.nsl],_,_,rfl,kM _,_,_,rfl,kM _,rfl⟩,rfl⟩,rfl⟩
 .obtain⟨rfl,c⟩:=U
  unfold jJ jt at c;have a:=EJ ho p65 b9;rw[show Src.dP p65=T by decide +kernel]at a;unfold cl jt at a;simp only[go_sem,d,e,gc,c];refine cU rfl (by simp only[go_sem];exact a) ?_;rintro _ rfl;simp only[go_sem,d,e,gc,c];exact⟨_,⟨_,⟨_,_,rfl,vY (jt p65),_,_,rfl,kM _,_,_,rfl,kM _,rfl⟩,rfl⟩,rfl⟩
end
end
end Go.Proofs.YtlacbjnmkhndiaaGreatDoor
namespace Go.Src
section
open Go.Asm (Str)
section
abbrev Th:=Str×Nat×Nat
def aH:List Th->Str->Option (Nat×Nat)
 |[],_=>N
 |t::l,s=>if t.1=s then S t.2 else aH l s
def jA(l m:List Th)(s:Str):aH (l++m) s=match aH l s with|some x=>S x|none=>aH m s:=by
 induction l with
 |nil=>rfl
 |cons t l a=>simp only[C6,aH];split<;>simp_all
def dF:∀{l:List Th}{s:Str}{x:Nat×Nat},aH l s=S x->(s,x)∈l
 |t::l,s,x,h=>by
   unfold aH at h;split at h
   .rename_i e;cases h;subst e;simp
   .exact O6 _ (dF h)
def bD:List Th->List Th->Bool
 |_,[]=>T
 |seen,t::l=>(aH seen t.1).isNone&&bD (seen++[t]) l
def sk(t:Th):∀(l b:List Th),bD b (l++[t])=(bD b l&&(aH (b++l) t.1).isNone)
 |[],b=>by simp[bD]
 |x::l,b=>by simp only[C6,bD,sk t l];rw[v7,I9,F8]
def thV(vs:List Str):List Th:=vs.mapIdx λi n=>(n,2,i)
def thA(v:List (Str×Int)):List Th:=v.mapIdx λi a=>(a.1,3,i)
def thF(fs:List Fn):List Th:=fs.mapIdx λi f=>(f.name,4,i)
def aI(p:Prog):List Th:=thV p.v++thA p.a++thF p.f
def thL(k:Nat)(o:List Str):List Th:=o.mapIdx λi n=>(n,1,k+i)
def aM(f:Fn):List Th:=thL 0 f.p++thL (z f.p) f.l
def aR(o i:List Th)(s:Str):Option (Nat×Nat):=match aH i s with|some x=>S x|none=>aH o s
def bb(g:Str->Option (Nat×Nat))(i:Nat)(kind:Nat)(name:Str):Bool:=
 match g name with
 |none=>F
 |some (k,n)=>if kind=2 then k == 1 || k == 2 else if kind=3 then k == 3 else k == 4 && decide (n<i)
def eV(g:Str->Option (Nat×Nat))(fs:List Fn)(i:Nat)(kind:Nat)(name:Str)(args:Nat):Bool:=
 match g name with
 |none=>T
 |some (k,n)=>if kind=4/\k=4/\n<i then(match fs[n]? with|some f=>z f.p == args|none=>T)else T
mutual
def okE(u:Nat->Str->Nat->Bool):Ex->Bool
 |.mk kind _ _ name kids=>(if kind=2 then u 2 name 0 else if kind=3 then u 3 name 0 else if kind=4 then u 4 name (z kids)else T) && cL u kids
def cL(u:Nat->Str->Nat->Bool):List Ex->Bool
 |[]=>T
 |e::l=>okE u e&&cL u l
end
mutual
def okS(u:Nat->Str->Nat->Bool):Stm->Bool
 |.mk kind name e a el=>(if kind=1 then u 2 name 0 else if kind=2 then u 3 name 0 else if kind=6 then u 4 name (z e)else T) && cL u e && cW u a && cW u el
def cW(u:Nat->Str->Nat->Bool):List Stm->Bool
 |[]=>T
 |s::l=>okS u s&&cW u l
end
def fA(p:Prog)(i:Nat)(f:Fn):Bool:=bD [] (aM f)&&cW (λk n _=>bb (aR (aI p) (aM f)) i k n) f.body
def tG(p:Prog)(i:Nat)(f:Fn):Bool:=cW (λk n a=>eV (aR (aI p) (aM f)) p.f i k n a) f.body
def bt{A:Type}(c:Nat->A->Bool):Nat->List A->Bool
 |_,[]=>T
 |i,a::l=>c i a&&bt c (i+1) l
def BO{A:Type}(c:Nat->A->Bool)(x:A):∀(l:List A)(i:Nat),bt c i (l++[x])=(bt c i l&&c (i+z l) x)
 |[],i=>by simp[bt]
 |a::l,i=>by simp only[C6,bt,BO c x l,l4,F8];rw[show i+1+z l=i+(z l+1) by omega]
def KS:Str:=[109,97,105,110]
def eZ(p:Prog):Nat:=
 if (bD [] (aI p) && bt (fA p) 0 p.f)=F then 4
 else match p.f.getLast? with
  |none=>0
  |some f=>if bt (tG p) 0 p.f=T/\f.name=KS/\f.p=[]/\f.word=F then 0 else 1
variable{s:Str}{k n:Nat}{fs:List Str}
def KT{fs:List Fn}(h:(s,k,n)∈thF fs):k=4/\n<z fs:=by
 simp only[thF,K9]at h;obtain⟨i,a,e⟩:=h;cases e;exact⟨rfl,a⟩
def WO(h:(s,k,n)∈thV fs):k=2:=by
 simp only[thV,K9]at h;obtain⟨i,a,e⟩:=h;cases e;rfl
def WQ{fs:List (Str×Int)}(h:(s,k,n)∈thA fs):k=3:=by
 simp only[thA,K9]at h;obtain⟨i,a,e⟩:=h;cases e;rfl
def BP{j:Nat}(h:(s,k,n)∈thL j fs):k=1/\n<j+z fs:=by
 simp only[thL,K9]at h;obtain⟨i,a,e⟩:=h;cases e;exact⟨rfl,a7⟩
def TO{p:Prog}{f:Fn}{n:Nat}(h:aR (aI p) (aM f) s=S (4,n)):n<z p.f:=by
 unfold aR at h;split at h
 .rename_i a
  cases h;have:=dF a;unfold aM at this;rcases C1.1 this with h|h
  .exact absurd (BP h).1 b9
  .exact absurd (BP h).1 b9
 .have:=dF h
  unfold aI at this;rcases C1.1 this with h|h
  .rcases C1.1 h with h|h
   .exact absurd (WO h) b9
   .exact absurd (WQ h) b9
  .exact(KT h).2
end
end
end Go.Src
