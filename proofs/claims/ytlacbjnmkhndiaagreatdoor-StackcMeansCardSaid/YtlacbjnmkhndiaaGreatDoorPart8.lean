/- A part of the proof; no conditions. -/
import Derived.Test.YtlacbjnmkhndiaaGreatDoorPart7
set_option linter.unusedSimpArgs false
set_option linter.unusedVariables false
set_option linter.defProp false
open List renaming length -> z
open Option renaming some -> S, none -> N
open Bool renaming true -> T, false -> F
set_option maxHeartbeats 64000000
set_option maxRecDepth 100000
namespace Go.Am
section
attribute[local congr]ite_cc
def nu{P:Prop}(h:P:=by (try simp only[upd]);(repeat rw[j8 (by omega)])):P:=h
def nt{P Q:Prop}(q:Q)(h:P=Q:=by (try simp only[upd]);(repeat rw[j8 (by omega)])):P:=h▸q
def fi{av bo:Obs}{B b:Nat}(hf:∀i,B<=i->av i=N)(h:∀i,b<=i->B<=i/\bo i=av i:=by (intro i hi;refine⟨by omega,?_⟩;(try simp only[upd]);(repeat rw[j8 (by omega)]))):∀i,b<=i->bo i=N:=λi hi=>(h i hi).2.trans (hf i (h i hi).1)
end
end Go.Am
namespace Go.Proofs.YtlacbjnmkhndiaaGreatDoor
section
open Go Go.Am Go.Asm
open Go.Src (PR fc eV takeN eE)
attribute[local congr]ite_cc
section
def rdC(ts:List Src.Tok)(n fin:Nat):List C:=[.d (jW ts),.d (.int .i64 (n:Nat)),.d (.int .i64 (fin:Nat))]
def CC(ts:List Src.Tok)(fin n:Nat):Nat:=match ts[n]? with|some t=>t.place|none=>fin
def xn(k:Nat):List PanicEntry:=[{v:=.iface 174 (.agg #[.int .i64 (k:Nat)]),recovered:=F}]
variable{ts:List Src.Tok}{g:Nat->Nat}{ob:Obs}{B:Nat}{s:St}{n fin:Nat}{y:Option (List C)}
def qB{n:Nat}{t:Src.Tok}(h:ts[n]?=S t):(ts.map rV)[n]?=S [.int .i64 (t.kind:Nat),.str t.text,.int .u32 (t.num:Nat),.int .i64 (t.place:Nat)]:=by rw[x8,h];rfl
def OkR{A:Type}(ts:List Src.Tok)(fin:Nat)(p:PR A)(enc:A->AV)(g:Nat->Nat)(ob:Obs)(r:AV)(g':Nat->Nat)(Y:Obs):Prop:=
 g'=g/\∃a m,p=.ok a m/\r=enc a/\Y=upd ob 125 (S (rdC ts m fin))
def NoR{A:Type}(ts:List Src.Tok)(fin:Nat)(p:PR A)(g:Nat->Nat)(ob:Obs):Pan:=λa g' Y=>
 g'=g/\∃m,p=.no m/\a=xn (CC ts fin m)/\Y=upd ob 125 (S (rdC ts m fin))
def mn{A:Type}(f:FuncId)(xs:List AV)(ts:List Src.Tok)(n fin:Nat)(p:PR A)(enc:A->AV):Prop:=
 ∀(B:Nat)(g:Nat->Nat)(ob:Obs),200<=B->(∀i,B<=i->ob i=N)->ob 125=S (rdC ts n fin)->
  cM Tryz.prog f (.one (.ptr 125 (g 125) 0)::xs) g ob (OkR ts fin p enc g ob) (NoR ts fin p g ob)
structure InF (B:Nat) (g:Nat->Nat) (ob:Obs) (g':Nat->Nat) (Y:Obs):Prop where
 same:∀i,i<B->i≠125->g' i=g i/\Y i=ob i
 rd:g' 125=g 125
def InF.refl:InF B g ob g ob:=⟨λ_ _ _=>⟨rfl,rfl⟩,rfl⟩
def InF.go{g g1 g2:Nat->Nat}{ob av bo:Obs}(h:InF B g ob g1 av)(q:(∀i,i<B->i≠125->g2 i=g1 i/\bo i=av i)/\g2 125=g1 125:=by (refine⟨λi hi h5=>⟨?_,?_⟩,?_⟩<;>((try simp only[upd]);(repeat rw[j8 (by omega)]);first|done|rfl))):InF B g ob g2 bo:=
 ⟨λi hi h5=>⟨(q.1 i hi h5).1.trans (h.same i hi h5).1,(q.1 i hi h5).2.trans (h.same i hi h5).2⟩,q.2.trans h.rd⟩
def InF.put{B j:Nat}{g a:Nat->Nat}{ob av:Obs}(h:InF B g ob a av)(d:B<=j):InF B g ob a (upd av j y):=⟨λi b c=>⟨(h.same i b c).1,by simp only[upd];rw[j8 a7];exact(h.same i b c).2⟩,h.rd⟩
def InF.newG{B j x:Nat}{g a:Nat->Nat}{ob av:Obs}(h:InF B g ob a av)(d:B<=j)(hB:125<B):InF B g ob (upd a j x) av:=⟨λi b c=>⟨by simp only[upd];rw[j8 a7];exact(h.same i b c).1,(h.same i b c).2⟩,by simp only[upd];rw[j8 a7];exact h.rd⟩
def InF.rdr{g b:Nat->Nat}{ob av:Obs}(h:InF B g ob b av):InF B g ob b (upd av 125 y):=⟨λi c a=>⟨(h.same i c a).1,by simp only[upd];rw[j8 a];exact(h.same i c a).2⟩,h.rd⟩
def InF.ends{B n fin:Nat}{g a:Nat->Nat}{ob av:Obs}(h:InF B g ob a av)(ho:av 125=S (rdC ts n fin)):Fo B [125] g ob a av/\je [125] g a=g/\eY [125] ob av=upd ob 125 (S (rdC ts n fin)):=by
 refine⟨⟨λi b e=>h.same i b (by simpa using e),λi b d Z c E=>?_⟩,Fq h.rd,by rw[Fs,ho]⟩;obtain rfl:=E0.1 b;rw[ho]at Z;cases Z;simp only[rdC,A3,A9,E6]at E;rcases E with rfl|rfl|rfl<;>trivial
def InF.ret{A:Type}{B n fin:Nat}{p:PR A}{enc:A->AV}{j rs:List AV}{a:A}(h:InF B g ob s.gen s.obj)(ho:s.obj 125=S (rdC ts n fin))(b:p=.ok a n)(hf:dY B s j rs)(V:pack rs=enc a):bi B [125] g ob (OkR ts fin p enc g ob) s j:=by
 obtain⟨U,c,d⟩:=h.ends ho;exact⟨U,rs,hf,c,a,n,b,V,d⟩
def InF.pan{A:Type}{B n fin:Nat}{g a:Nat->Nat}{ob av:Obs}{p:PR A}{b:List PanicEntry}(h:InF B g ob a av)(ho:av 125=S (rdC ts n fin))(c:p=.no n)(Z:b=xn (CC ts fin n)):
  Fo B [125] g ob a av/\NoR ts fin p g ob b (je [125] g a) (eY [125] ob av):=by
 obtain⟨U,d,e⟩:=h.ends ho;exact⟨U,d,n,c,Z,e⟩
section
variable{O:Bs}{rd:Option Nat}{e:St->Am.Loc->List Deferred->World->Prop}
def fQ{A c:Type}(a6:aY O e){o:Oper}{K:St->Prop}{k:Box K}{f:FuncId}{args:Array Operand}{tys:Array TypeId}(ho:o.op=.call ⟨.value (.func f),args,tys⟩){xs:List AV}{p:PR A}{enc:A->AV}
 (V:mn f xs ts n fin p enc)(I:args.toList.map s.ev=.one (.ptr 125 (s.gen 125) 0)::xs)(b:Nat)(hB:200<=b)(bk:∀i,b<=i->s.obj i=N)(bl:s.obj 125=S (rdC ts n fin)){B l:Nat}{d:PR c}(q:InF B g ob s.gen s.obj)
 (u:∀m,p=.no m->d=.no m)(t:∀a m,p=.ok a m->K (St.put ⟨s.f,s.gen,upd s.obj 125 (S (rdC ts m fin))⟩ o.dst (enc a))):bm (spF Tryz.prog rd O e l (Fp B [125] g ob (NoR ts fin d g ob))) o s k:=by
 refine cj (R:=OkR ts fin p enc s.gen s.obj) (L:=NoR ts fin p s.gen s.obj) a6 ho (by rw[I];exact V b s.gen s.obj hB bk bl) ?_ ?_
 .rintro w v Y ⟨rfl,m,j,Z,rfl⟩
  exact q.rdr.pan VF (u m j) Z
 .rintro r v Y ⟨rfl,a,m,j,rfl,rfl⟩
  exact t a m j
end
def ux(xs:List D):kR s (.agg (xs.map .d)) (.agg ((xs.map ge).map .d)):=by
 refine⟨xs.map ge,a8,λi c Z=>?_,rfl⟩;rw[x8]at Z|-;cases a:xs[i]? with
 |none=>rw[a]at Z;cases Z
 |some x=>rw[a]at Z;cases Z;exact⟨_,rfl,.d x⟩
def nlo(hB:200<=B)(k:Nat):(125=B+k)=False:=by simp;omega
def nhi(hB:200<=B)(k:Nat):(B+k=125)=False:=by simp;omega
def GK(ho:ob 125=S (rdC ts n fin)):
  fX Tryz.prog 147 [.one (.ptr 125 (g 125) 0)] g ob (λr g' Y=>r=iv .i64 (fc ts n:Nat)/\g'=g/\Y=ob):=by
 refine hdF 9000 Tryz.func147 rfl [2] ?_;unfold rdC jW at ho;have bk:(0:Int)<=(n:Int):=a7;simp only[go_sem];refine bO c8 ?_;unfold fc;by_cases d:n<z ts
 .have G:(n:Int)<(z ts:Int):=a7
  obtain⟨t,b⟩:=getq d;have a:=qB b;rw[b];simp only[go_sem,ho,j6,G];refine bO c8 ?_;simp only[go_sem,ho,bk,a];exact⟨_,ae.refl _,rfl,rfl,rfl⟩
 .have G:¬(n:Int)<(z ts:Int):=a7
  rw[E5 a7];simp only[go_sem,ho,j6,G];exact⟨_,ae.refl _,rfl,rfl,rfl⟩
def AX{B n fin:Nat}(hB:200<=B)(hf:∀i,B<=i->ob i=N)(ho:ob 125=S (rdC ts n fin)):
  fX Tryz.prog 146 [.one (.ptr 125 (g 125) 0)] g ob (λr g' Y=>r=sv (eV ts n)/\g'=g/\Y=ob):=by
 refine Ap B aA mixed Tryz.func146 rfl j0 [2] rfl c9 (by simp[Tryz.ntmps146]) hf ?_;have l:=nlo hB;have m:=nhi hB;unfold rdC jW at ho;have bk:(0:Int)<=(n:Int):=a7;simp only[go_sem];refine bO c8 ?_;unfold eV;by_cases o:n<z ts
 case neg=>
  have G:¬(n:Int)<(z ts:Int):=a7;rw[E5 a7];simp only[go_sem,ho,j6,G]
 have G:(n:Int)<(z ts:Int):=a7;obtain⟨t,j⟩:=getq o;have a:=qB j;rw[j];simp only[go_sem,ho,j6,G];refine fL aA mixed [B+3] [([0],[0],[],F),([14],[0],[],F),([15],[0],[],F),([16],[0],[],F),([0],[0],[],F),([18],[0],[],F),([19],[0],[],F),([20],[0],[],F),([17,21],[0],[],F),([22],[0],[],F),([],[],[0],F),([3,23],[],[],T)] 1 c8 rfl a8 ?_;simp only[go_sem]
 iterate 10 (apply aI;· (intro p ga q d J;simp only[go_sem,ho,bk,a,l,m]at J|-;exact J))
 (apply cJ;· (intro p ga q d J;simp only[go_sem]at J|-;exact J))
 apply cL;intro d k;simp only[go_sem];refine k _ ?_;clear k d;have e:(t.kind=3\/t.kind=4)↔((t.kind:Int)=3\/(t.kind:Int)=4):=a7;have f:∀(x:Nat)(y X:Option (List C)),(∀i,i<B->upd g (B+3) x i=g i)/\∀i,i<B->upd (upd ob (B+3) y) (B+3) X i=ob i:=λx y X=>⟨λi u=>by simp only[upd];rw[j8 a7],λi u=>by simp only[upd];rw[j8 a7,j8 a7]⟩
 by_cases b:(t.kind:Int)=3
 .rw[l8 (e.2 (.inl b))]
  simp only[go_sem,b];exact f _ _ _
 by_cases c:(t.kind:Int)=4
 .rw[l8 (e.2 (.inr c))]
  simp only[go_sem,b,c];exact f _ _ _
 .rw[j8 (λh=>(e.1 h).elim b c)]
  simp only[go_sem,b,c];exact f _ _ _
def Wm(ts:List Src.Tok)(n fin:Nat)(s:Str)(g:Nat->Nat)(ob:Obs)(r:AV)(g':Nat->Nat)(Y:Obs):Prop:=
 g'=g/\((eV ts n=s/\r=bv T/\Y=upd ob 125 (S (rdC ts (n+1) fin)))\/(eV ts n≠s/\r=bv F/\Y=ob))
def Ta{B n fin:Nat}(hB:200<=B)(hf:∀i,B<=i->ob i=N)(ho:ob 125=S (rdC ts n fin))(hn:n<=1000000)(s:Str):
  fX Tryz.prog 83 [.one (.ptr 125 (g 125) 0),sv s] g ob (Wm ts n fin s g ob):=by
 refine hdF B Tryz.func83 rfl [4] ?_;have b:=ac (k:=n) a7;have q:=ho;unfold rdC jW at ho;simp only[go_sem];refine ck rfl (by simp only[go_sem];exact AX hB hf q) ?_;rintro _ d e ⟨rfl,rfl,rfl⟩;by_cases a:eV ts n=s
 .simp only[go_sem,a,ho,b]
  refine⟨_,ae.refl _,rfl,.inl ⟨a,rfl,?_⟩⟩;simp only[go_sem,rdC,jW]
 .simp only[go_sem,a]
  exact⟨_,ae.refl _,rfl,.inr ⟨a,rfl,rfl⟩⟩
def GM(ho:ob 125=S (rdC ts n fin)):
  cM Tryz.prog 82 [.one (.ptr 125 (g 125) 0)] g ob (λ_ _ _=>False) (λd g' Y=>d=xn (CC ts fin n)/\g'=g/\Y=ob):=by
 refine hdX 9000 Tryz.func82 rfl [] λO bn s0 w0=>?_;unfold rdC jW at ho;have bk:(0:Int)<=(n:Int):=a7;simp only[go_sem];refine aF c8 ?_;unfold CC;by_cases e:n<z ts
 .have G:(n:Int)<(z ts:Int):=a7
  obtain⟨t,b⟩:=getq e;have a:=qB b;rw[b];simp only[go_sem,ho,j6,G];refine aF c8 ?_;simp only[go_sem,ho,bk,a];refine tU (k:=bx _) aa rfl (aA 174 rfl).desc (by simp only[go_sem];exact⟨rfl,rfl⟩) ?_;simp only[go_sem];refine tV (k:=bx _) (t:=174) (u:=.agg #[.int .i64 (t.place:Nat)]) rfl Vy ?_;exact⟨rfl,rfl,rfl⟩
 .have G:¬(n:Int)<(z ts:Int):=a7
  rw[E5 a7];simp only[go_sem,ho,j6,G];refine tU (k:=bx _) aa rfl (aA 174 rfl).desc (by simp only[go_sem];exact⟨rfl,rfl⟩) ?_;simp only[go_sem];refine tV (k:=bx _) (t:=174) (u:=.agg #[.int .i64 (fin:Nat)]) rfl Vy ?_;exact⟨rfl,rfl,rfl⟩
end
end
section
open Go Go.Am Go.Asm
open Go.Src (PR fc eV takeN eE Ex)
attribute[local congr]ite_cc
section
variable{ts:List Src.Tok}
def Kg{kd n:Nat}{t:Src.Tok}(a:ts[n]?=S t)(b:t.kind=kd):takeN ts kd n=.ok t (n+1):=by unfold takeN;rw[a];simp[b]
def GQ(ts:List Src.Tok)(n fin kd:Nat)(hn:n<=1000000)(G:0<kd):mn 85 [iv .i64 kd] ts n fin (takeN ts kd n) vz:=by
 intro B g ob hB hf ho;refine hdM B [125] Tryz.func85 rfl [.cell 4 179] VC hf λO bn s0 w0=>?_;have w:=ac (k:=n) a7;have bk:(0:Int)<=(n:Int):=a7;have j:=nlo hB;have l:=nhi hB;have X:∀y,upd ob (B+4) y 125=S (rdC ts n fin):=λy=>by simp only[upd];rw[j8 a7];exact ho
 have u:∀x,upd g (B+4) x 125=g 125:=λx=>by simp only[upd];rw[j8 a7]
 simp only[go_sem,j,l];refine dj aa rfl (by simp only[go_sem,j,l];rw[<-u (nxC 180 (g (B+4)))];exact GK (X _)) ?_;rintro _ H I ⟨rfl,rfl,rfl⟩;by_cases b:fc ts n=kd
 case neg=>
  have Q:¬(fc ts n:Int)=(kd:Int):=a7
  have o:takeN ts kd n=.no n:=by
   unfold takeN;unfold fc at b;cases q:ts[n]? with
   |none=>rfl
   |some t=>rw[q]at b;simp only at b;simp[b]
  simp only[go_sem,Q];refine cj (R:=λ_ _ _=>False) aa rfl (by simp only[go_sem,j,l];rw[<-u (nxC 180 (g (B+4)))];exact GM (X _)) ?_ (λ_ _ _ h=>h.elim);rintro K L Y ⟨rfl,rfl,rfl⟩;exact((InF.refl.newG a7 a7).put a7).pan (X _) o rfl
 have Q:(fc ts n:Int)=(kd:Int):=a7
 obtain⟨t,r⟩:∃t,ts[n]?=S t:=by
  unfold fc at b;cases q:ts[n]? with
  |some t=>exact⟨t,rfl⟩
  |none=>rw[q]at b;simp only at b;omega
 have a:=qB r;have e:t.kind=kd:=by unfold fc at b;rw[r]at b;exact b
 have o:=Kg r e;unfold rdC jW at ho;simp only[go_sem,Q];refine oq (B:=B) aA mixed aa [B+5] [([0],[0],[],F),([12],[0],[],F),([13],[0],[],F),([14],[0],[],F),([0],[0],[],F),([16],[0],[],F),([17],[0],[],F),([18],[0],[],F),([15,19],[0],[],F),([20],[0],[],F),([],[],[0],F),([5,21],[],[],T)] 1 rfl c8 rfl a8 ?_;simp only[go_sem]
 iterate 10 (apply aI;· (intro A ga E s J;simp only[go_sem,ho,bk,a,j,l]at J|-;exact J))
 (apply cJ;· (intro A ga E s J;simp only[go_sem]at J|-;exact J))
 apply cL;intro s v;simp only[go_sem];refine v _ ?_;clear v s;simp only[go_sem,ho,w,j,l];refine⟨_,ae.refl _,?_⟩;simp only[go_sem,j,l];refine InF.ret (rs:=[vz t]) (B:=B) (n:=n+1) (p:=takeN ts kd n) (enc:=vz) ?_ ?_ o ?_ rfl
 .exact(((((InF.refl.newG a7 a7).newG a7 a7).put a7).put a7).put a7).rdr.put a7
 .simp only[go_sem,j,l,rdC,jW]
 .exact⟨_,_,rfl,.agg (xs:=rV t) rfl (λi c Z=>by
   match i,Z with
   |0,Z=>cases Z;exact⟨_,rfl,.d _⟩
   |1,Z=>cases Z;exact⟨_,rfl,.d _⟩
   |2,Z=>cases Z;exact⟨_,rfl,.d _⟩
   | 3,Z=>cases Z;exact⟨_,rfl,.d _⟩),rfl⟩
def jH(l:List Str):List C:=l.map λs=>.d (.str s)
def Oz{B n fin j:Nat}{g:Nat->Nat}{ob:Obs}(l:List Str)(hB:200<=B)(hf:∀i,B<=i->ob i=N)(ho:ob 125=S (rdC ts n fin))(hn:n+z l<=1000000)(W:j<B)(y:j≠125)(c:ob j=S (jH l)):
  cM Tryz.prog 86 [.one (.ptr 125 (g 125) 0),.one (.osl j (g j) 1 0 (z l))] g ob (OkR ts fin (eE ts l n) (λ_=>uv) g ob) (NoR ts fin (eE ts l n) g ob):=by
 refine hdM B [125] Tryz.func86 rfl [] VC hf λO bn s0 w0=>?_;have Z:=nlo hB;have n2:=nhi hB;obtain⟨p,G⟩:∃p,eE ts l n=p:=⟨_,rfl⟩
 rw[G];simp only[go_sem];refine⟨by rw[c];rfl,?_⟩;refine aw (λm K=>∃k:Nat,m+k=z l/\K.f 0=.one (.ptr 125 (g 125) 0)/\K.f 6=.one (.osl j (g j) 1 0 (z l))/\K.f 7=iv .i64 (z l)/\K.f 8=iv .i64 k/\K.gen=g/\K.obj=upd ob 125 (S (rdC ts (n+k) fin))/\eE ts (l.drop k) (n+k)=p) (z l) ?_ ?_
 .refine⟨0,rfl,?_⟩
  simp only[go_sem];refine⟨?_,by simpa using G⟩;funext i;simp only[upd,J6];split
  .rename_i e;subst e;exact ho
  .rfl
 rintro m f g1 av ⟨k,hk,t,x,u,v,rfl,rfl,b⟩;simp only at t x u v;have H:=ac (k:=k) a7;have I:=ac (k:=n+k) a7;have X:upd ob 125 (S (rdC ts (n+k) fin)) 125=S (rdC ts (n+k) fin):=by simp[upd]
 have J:∀i,B<=i->upd ob 125 (S (rdC ts (n+k) fin)) i=N:=λi L=>by simp only[upd];rw[j8 a7];exact hf i L
 by_cases A:k<z l
 case neg=>
  have Q:¬(k:Int)<(z l:Int):=a7;obtain rfl:k=z l:=a7;rw[y9 (l7 _)]at b;simp only[go_sem,u,v,Q];refine⟨_,ae.refl _,?_⟩;simp only[go_sem];exact InF.ret (rs:=[]) (a:=()) InF.refl.rdr X b.symm rfl rfl
 have Q:(k:Int)<(z l:Int):=a7;have U:(0:Int)<=(k:Int):=a7;obtain⟨s,E⟩:=getq A;have q:(jH l)[k]?=S (.d (.str s)):=by unfold jH;rw[x8,E];rfl
 have o:upd ob 125 (S (rdC ts (n+k) fin)) j=S (jH l):=by simp only[upd];rw[j8 y];exact c
 have r:z (jH l)=z l:=j6 _;have V:(k:Int).toNat=k:=a7;have hd:l.drop k=s::l.drop (k+1):=by rw[C1 A];rw[v8 A]at E;cases E;rfl
 rw[hd]at b;simp only[go_sem,t,x,u,v,Q,o,U,q,V];refine dj aa rfl (by simp only[go_sem,t];exact AX hB J X) ?_;rintro _ g2 bo ⟨rfl,rfl,rfl⟩;by_cases w:eV ts (n+k)=s
 case neg=>
  rw[eE,j8 w]at b;simp only[go_sem,w,t];refine cj (R:=λ_ _ _=>False) aa rfl (by simp only[go_sem,t];exact GM X) ?_ (λ_ _ _ h=>h.elim);rintro ch g' Y ⟨rfl,rfl,rfl⟩;exact InF.refl.rdr.pan X b.symm rfl
 rw[eE,l8 w]at b;simp only[go_sem,w,t,rdC,jW,I,v,H];refine ah (m-1) a7 ⟨k+1,a7,?_⟩;simp only[go_sem,t,x,u];refine⟨?_,b⟩;funext i;simp only[upd];split<;>rfl
end
end
section
open Go Go.Am Go.Asm
open Go.Src (PR fc eV takeN eE Ex)
def GV{s:St}{k op n:Int}{x:D}(I:ge x=.sl []):ql s [.agg [.d (.int .i64 k),.d (.int .i64 op),.d (.int .u32 0),.d (.str []),.d x],iv .i64 n] (.tup [.agg [.d (.int .i64 k),.d (.int .i64 op),.d (.int .u32 0),.d (.str []),.d (.sl [])],iv .i64 n]):=by
 have h:=ux (s:=s) [.int .i64 k,.int .i64 op,.int .u32 0,.str [],x];simp only[l9,w9,I]at h;exact⟨_,⟨_,_,rfl,h,_,_,rfl,ke _,rfl⟩,rfl⟩
end
end Go.Proofs.YtlacbjnmkhndiaaGreatDoor
namespace Go.Src
section
open Go.Asm (Str)
section
section
variable{ts:List Tok}
end
end
end
end Go.Src
namespace Go.Proofs.YtlacbjnmkhndiaaGreatDoor
section
open Go Go.Am Go.Asm
open Go.Src (PR fc eV takeN eE Ex Stm)
section
section
variable{O:Bs}{rd:Option Nat}{p:St->Am.Loc->List Deferred->World->Prop}{q:Nat}{t:ff}{o:Oper}{s:St}{K:St->Prop}{k:Box K}{args:Array Operand}{tys:Array TypeId}
def wj(ts:List Src.Tok)(n fin:Nat)(a6:aY O p)(ho:o.op=.call ⟨.value (.func 147),args,tys⟩)(I:args.toList.map s.ev=[.one (.ptr 125 (s.gen 125) 0)])(bl:s.obj 125=S (rdC ts n fin))(a:K (s.put o.dst (iv .i64 (fc ts n:Nat)))):bm (spF Tryz.prog rd O p q t) o s k:=by
 refine dj a6 ho (by rw[I];exact GK bl) ?_;rintro _ b c ⟨rfl,rfl,rfl⟩;exact a
def Eh(ts:List Src.Tok)(n fin:Nat)(a6:aY O p)(ho:o.op=.call ⟨.value (.func 146),args,tys⟩)(I:args.toList.map s.ev=[.one (.ptr 125 (s.gen 125) 0)])(b:Nat)(hB:200<=b)(bk:∀i,b<=i->s.obj i=N)(bl:s.obj 125=S (rdC ts n fin))(a:K (s.put o.dst (sv (eV ts n)))):bm (spF Tryz.prog rd O p q t) o s k:=by
 refine dj a6 ho (by rw[I];exact AX hB bk bl) ?_;rintro _ c d ⟨rfl,rfl,rfl⟩;exact a
def kI(ts:List Src.Tok)(n fin:Nat)(str:Str)(a6:aY O p)(ho:o.op=.call ⟨.value (.func 83),args,tys⟩)(I:args.toList.map s.ev=[.one (.ptr 125 (s.gen 125) 0),sv str])(b:Nat)(hB:200<=b)(bk:∀i,b<=i->s.obj i=N)(bl:s.obj 125=S (rdC ts n fin))(a:n<=1000000)
 (c:eV ts n=str->K (St.put ⟨s.f,s.gen,upd s.obj 125 (S (rdC ts (n+1) fin))⟩ o.dst (bv T)))(d:eV ts n≠str->K (s.put o.dst (bv F))):bm (spF Tryz.prog rd O p q t) o s k:=by
 refine dj a6 ho (by rw[I];exact Ta hB bk bl a str) ?_;rintro _ e g ⟨rfl,⟨h,rfl,rfl⟩|⟨h,rfl,rfl⟩⟩
 .exact c h
 .exact d h
def wm{A:Type}(ts:List Src.Tok)(n fin:Nat)(a6:aY O p)(ho:o.op=.call ⟨.value (.func 86),args,tys⟩)(l:List Str)(j:Nat)(I:args.toList.map s.ev=[.one (.ptr 125 (s.gen 125) 0),.one (.osl j (s.gen j) 1 0 (z l))])(b:Nat)(hB:200<=b)(bk:∀i,b<=i->s.obj i=N)(bl:s.obj 125=S (rdC ts n fin))(t:n+z l<=1000000)(v:j<b)(y:j≠125)(c:s.obj j=S (jH l))
 {B:Nat}{g:Nat->Nat}{ob:Obs}{d:PR A}(w:InF B g ob s.gen s.obj)(u:∀m,eE ts l n=.no m->d=.no m)
 (x:∀m,eE ts l n=.ok () m->K (St.put ⟨s.f,s.gen,upd s.obj 125 (S (rdC ts m fin))⟩ o.dst uv)):bm (spF Tryz.prog rd O p q (Fp B [125] g ob (NoR ts fin d g ob))) o s k:=by
 refine cj (R:=OkR ts fin (eE ts l n) (λ_=>uv) s.gen s.obj) (L:=NoR ts fin (eE ts l n) s.gen s.obj) a6 ho (by rw[I];exact Oz l hB bk bl t v y c) ?_ ?_
 .rintro G E Y ⟨rfl,m,e,Z,rfl⟩
  exact w.rdr.pan VF (u m e) Z
 .rintro r E Y ⟨rfl,a,m,e,rfl,rfl⟩
  exact x m e
end
instance:Inhabited Ex:=⟨.mk 0 0 0 [] []⟩
mutual
def exD:Ex->List D
 |.mk kind op num name kids=>[.int .i64 kind,.int .i64 op,.int .u32 num,.str name,.sl (zf kids)]
def zf:List Ex->List (List D)
 |[]=>[]
 |e::l=>exD e::zf l
end
def aK:∀l:List Ex,zf l=l.map exD
 |[]=>by simp[zf]
 |e::l=>by simp[zf,aK l]
def aZ(e:Ex):z (exD e)=5:=by cases e;simp[exD]
def exV(e:Ex):AV:=.agg ((exD e).map .d)
def eb(l:List Ex):AV:=.one (.d (.sl (l.map exD)))
def exC(l:List Ex):List C:=l.flatMap λa=>(exD a).map .d
def Tf{B:Nat}{s:St}{a b c d:D}{j:C}{g:D}(h:jb (B<=·) s j g):dY B s [.agg [.d a,.d b,.d c,.d d,j]] [.agg [.d a,.d b,.d c,.d d,.d g]]:=
 ⟨_,_,rfl,.agg (xs:=[a,b,c,d,g]) rfl (λi e f=>by
  match i,f with
  |0,f=>cases f;exact⟨_,rfl,.d _⟩
  |1,f=>cases f;exact⟨_,rfl,.d _⟩
  |2,f=>cases f;exact⟨_,rfl,.d _⟩
  |3,f=>cases f;exact⟨_,rfl,.d _⟩
  | 4,f=>cases f;exact⟨_,rfl,h⟩),rfl⟩
def KB{B id g n:Nat}{s:St}{l:List Ex}(b:B<=id)(hg:s.gen id=g)(ho:s.obj id=S (exC l))(c:z l=n):jb (B<=·) s (.osl id g 5 0 n) (.sl (zf l)):=by
 rw[aK];exact js b hg l exD ho rfl (λa _=>aZ a) c
end
def KC{B id g n:Nat}{s:St}{l:List Ex}(a:B<=id)(hg:s.gen id=g)(ho:s.obj id=S (exC l))(b:z l=n):dY B s [.one (.osl id g 5 0 n)] [eb l]:=
 ⟨_,_,rfl,.one (by have:=KB (B:=B) a hg ho b;rwa [aK]at this),rfl⟩
def uz(l:List Str):AV:=.one (.d (.sl (l.map λs=>[.str s])))
def GZ{B id g n:Nat}{s:St}{l:List Str}(c:B<=id)(hg:s.gen id=g)(ho:s.obj id=S (jH l))(b:z l=n):dY B s [.one (.osl id g 1 0 n)] [uz l]:=
 ⟨_,_,rfl,.one (js c hg l (λs=>[.str s]) ho (by unfold jH;clear ho b;induction l with|nil=>rfl|cons a l d=>simpa using d) (λ_ _=>rfl) b),rfl⟩
mutual
def smD:Stm->List D
 |.mk kind name e a el=>[.int .i64 kind,.str name,.sl (zf e),.sl (Bf a),.sl (Bf el)]
def Bf:List Stm->List (List D)
 |[]=>[]
 |s::l=>smD s::Bf l
end
def dQ:∀l:List Stm,Bf l=l.map smD
 |[]=>by simp[Bf]
 |e::l=>by simp[Bf,dQ l]
def kX(e:Stm):z (smD e)=5:=by cases e;simp[smD]
def smV(e:Stm):AV:=.agg ((smD e).map .d)
def eS(l:List Stm):AV:=.one (.d (.sl (l.map smD)))
def smC(l:List Stm):List C:=l.flatMap λa=>(smD a).map .d
def KD{B id g n:Nat}{s:St}{l:List Stm}(b:B<=id)(hg:s.gen id=g)(ho:s.obj id=S (smC l))(c:z l=n):dY B s [.one (.osl id g 5 0 n)] [eS l]:=
 ⟨_,_,rfl,.one (js b hg l smD ho rfl (λa _=>kX a) c),rfl⟩
def Tg{B:Nat}{s:St}{a b:D}{j k l:C}{f g h:D}(m:jb (B<=·) s j f)(n:jb (B<=·) s k g)(o:jb (B<=·) s l h):dY B s [.agg [.d a,.d b,j,k,l]] [.agg [.d a,.d b,.d f,.d g,.d h]]:=
 ⟨_,_,rfl,.agg (xs:=[a,b,f,g,h]) rfl (λi e c=>by
  match i,c with
  |0,c=>cases c;exact⟨_,rfl,.d _⟩
  |1,c=>cases c;exact⟨_,rfl,.d _⟩
  |2,c=>cases c;exact⟨_,rfl,m⟩
  |3,c=>cases c;exact⟨_,rfl,n⟩
  | 4,c=>cases c;exact⟨_,rfl,o⟩),rfl⟩
end
end Go.Proofs.YtlacbjnmkhndiaaGreatDoor
namespace Go.Am
section
def lK{P:Program}{rd:Option Nat}{O:Bs}{a:St->Loc->List Deferred->World->Prop}{c:Nat}{e:ff}{B:(Exit->St->Prop)->St->Prop}{b:Box B}{Q:Exit->St->Prop}{q:Box Q}{s:St}(d:St)(i:ae s d)(I:Nat->St->Prop)(n:Nat)(k:I n d)
 (V:∀n f g h,I n ⟨f,g,h⟩->B (iQ (bx λW=>∃j d,j<n/\(spF P rd O a c e).vs W d/\I j d) q) ⟨f,g,h⟩):ng (spF P rd O a c e) b q s:=
 ⟨I,⟨n,d,i,k⟩,λn s l=>V n s.f s.gen s.obj l⟩
end
end Go.Am
namespace Go.Proofs.YtlacbjnmkhndiaaGreatDoor
section
open Go Go.Am Go.Asm
open Go.Src (PR fc eV takeN eE Ex Stm)
def fnD(f:Src.Fn):List D:=[.str f.name,.sl (f.params.map λs=>[.str s]),.sl (f.locals.map λs=>[.str s]),.bool f.word,.sl (f.body.map smD)]
def fnV(f:Src.Fn):AV:=.agg ((fnD f).map .d)
def arD(a:Str×Int):List D:=[.str a.1,.int .i64 a.2]
def fnC(l:List Src.Fn):List C:=l.flatMap λa=>(fnD a).map .d
def iH(p:Src.Prog):List D:=[.sl (p.vars.map λs=>[.str s]),.sl (p.arrays.map arD),.sl (p.funcs.map fnD)]
def bS(p:Src.Prog):AV:=.agg ((iH p).map .d)
def Tb{P:Nat->Prop}{s:St}{id g n:Nat}{l:List Src.Fn}(a:P id)(hg:s.gen id=g)(ho:s.obj id=S (fnC l))(b:z l=n):jb P s (.osl id g 5 0 n) (.sl (l.map fnD)):=
 js a hg l fnD ho rfl (λ_ _=>rfl) b
instance:Inhabited Src.Fn:=⟨⟨[],[],[],false,[]⟩⟩
end
end Go.Proofs.YtlacbjnmkhndiaaGreatDoor
namespace Go.Am
section
attribute[local congr]ite_cc
section
section
variable{P:Program}{rd:Option Nat}{O:Bs}{l:St->Loc->List Deferred->World->Prop}{B0:Nat}{Ψ:ff}{B:(Exit->St->Prop)->St->Prop}{b:Box B}{Q:Exit->St->Prop}{q:Box Q}{s:St}
def qX(h:∀Z:St->Prop,B (iQ (bx Z) q) s):ng (spF P rd O l B0 Ψ) b q s:=⟨λ_ K=>K=s,⟨0,s,ae.refl s,rfl⟩,λ_ K e=>by subst e;exact h _⟩
def IQ(h:∀Z:St->Prop,(∀W,(∀c:St->Prop,B (iQ (bx c) q) W)->Z W)->B (iQ (bx Z) q) s):ng (spF P rd O l B0 Ψ) b q s:=
 ⟨λn K=>(n=1/\K=s)\/n=0/\∀c:St->Prop,B (iQ (bx c) q) K,⟨1,s,ae.refl s,.inl ⟨rfl,rfl⟩⟩,λn K e=>by
  rcases e with⟨rfl,rfl⟩|⟨rfl,e⟩
  .exact h _ λW a=>⟨0,W,b9,ae.refl W,.inr ⟨rfl,a⟩⟩
  .exact e _⟩
end
end
end
end Go.Am
namespace Go.Proofs.YtlacbjnmkhndiaaGreatDoor
section
open Go Go.Am Go.Asm
open Go.Src (PR fc eV takeN eE Ex Stm)
attribute[local congr]ite_cc
section
def bT:List Src.Tok:=[⟨3,[102,117,110,99],0,0⟩,⟨1,[109,97,105,110],0,5⟩,⟨4,[40],0,9⟩,⟨4,[41],0,10⟩,⟨4,[123],0,12⟩,⟨3,[112,117,116],0,14⟩,⟨4,[40],0,17⟩,⟨2,[54,53],65,18⟩,⟨4,[41],0,20⟩]
def tT(b:Bool):List Src.Tok:=bT++if b then [⟨4,[59],0,21⟩,⟨4,[125],0,23⟩]else [⟨4,[125],0,22⟩]
def e65:Ex:=.mk 1 0 65 [] []
section
variable{O:Bs}{rd:Option Nat}{l:St->Am.Loc->List Deferred->World->Prop}{B0:Nat}{Ψ:ff}{o:Oper}{s:St}{K:St->Prop}{k:Box K}{args:Array Operand}{tys:Array TypeId}
def jy{A:Type}(ts:List Src.Tok)(n fin:Nat)(w:Str)(a:eV ts n=w)(a6:aY O l)(ho:o.op=.call ⟨.value (.func 86),args,tys⟩)(j:Nat)(I:args.toList.map s.ev=[.one (.ptr 125 (s.gen 125) 0),.one (.osl j (s.gen j) 1 0 1)])(b:Nat)(hB:200<=b)(bk:∀i,b<=i->s.obj i=N)(bl:s.obj 125=S (rdC ts n fin))(u:n<=900000)(p:j<b)(y:j≠125)(c:s.obj j=S (jH [w]))
 {B:Nat}{g:Nat->Nat}{ob:Obs}{d:PR A}(r:InF B g ob s.gen s.obj)(t:K (St.put ⟨s.f,s.gen,upd s.obj 125 (S (rdC ts (n+1) fin))⟩ o.dst uv)):bm (spF Tryz.prog rd O l B0 (Fp B [125] g ob (NoR ts fin d g ob))) o s k:=by
 have e:eE ts [w] n=.ok () (n+1):=by unfold eE;rw[l8 a];rfl
 refine wm ts n fin a6 ho [w] j I b hB bk bl VC p y c r (λm h=>by rw[e]at h;cases h) (λm h=>?_);rw[e]at h;cases h;exact t
end
def PO:ax Tryz.prog 211 [sv [41]] (·=.tup [.agg [.d (.int .i64 0),.d (.int .i64 0),.d (.int .u32 0),.d (.str []),.d (.sl [])],iv .i64 0]):=by
 refine hdR Tryz.func211 rfl [.cell 2 42,.tmp 3] λg=>?_;obtain⟨s,a⟩:∃s:Str,s=[41]:=⟨_,rfl⟩
 rw[<-a];have h:∀t:Str,t≠[41]->¬s=t:=λt i e=>i (e.symm.trans a);simp only[go_sem,h [124,124] b9,h [38,38] b9,h [61,61] b9,h [60] b9,h [124] b9,h [94] b9,h [38] b9,h [60,60] b9,h [62,62] b9,h [43] b9,h [45] b9,h [42] b9,h [47] b9,h [37] b9];exact⟨_,GV rfl,rfl⟩
variable{b:Bool}{fin:Nat}
def PP:mn 210 [] (tT b) 7 fin (.ok e65 8) exV:=by
 intro B g ob hB hf ho;refine hdM B [125] Tryz.func210 rfl [.cell 2 42] VC hf λO bn s0 w0=>?_;have n1:=nlo hB;have n2:=nhi hB;have d:InF B g ob g ob:=InF.refl;have az:=hf;have l:fc (tT b) 7=2:=rfl;have e:takeN (tT b) 2 7=.ok ⟨2,[54,53],65,18⟩ 8:=rfl;simp only[go_sem,n1,n2];refine wj (tT b) 7 fin aa rfl Vz VO ?_;rw[l];simp only[go_sem];refine fQ aa rfl (GQ (tT b) 7 fin 2 a7 b9) VE (B+57) a7 (fi az) VO (InF.go d) (λm h=>by rw[e]at h;cases h) ?_;intro t m j;rw[e]at j;cases j;unfold vz rV;simp only[go_sem,n1,n2];refine⟨_,ae.refl _,?_⟩;simp only[go_sem,n1,n2];exact InF.ret (n:=8) (a:=e65) (InF.go d) Vz rfl (Tf .nil) (by simp[pack,exV,exD,zf,e65])
def PQ:mn 202 [iv .i64 1] (tT b) 7 fin (.ok e65 8) exV:=by
 intro B g ob hB hf ho;refine hdM B [125] Tryz.func202 rfl [.cell 4 42] VC hf λO bn s0 w0=>?_;have n1:=nlo hB;have n2:=nhi hB;have j:InF B g ob g ob:=InF.refl;have az:=hf;have l:eV (tT b) 8=[41]:=rfl;simp only[go_sem,n1,n2];refine fQ aa rfl PP VE (B+35) a7 (fi az) VO (InF.go j) (λm h=>h) ?_;intro e m t;cases t;simp only[go_sem,n1,n2,exV,exD,e65];refine qX λZ=>?_;simp only[go_sem,n1,n2];refine Eh (tT b) 8 fin aa rfl Vz (B+35) a7 (fi az) Vz ?_;rw[l];simp only[go_sem];refine DH rfl (by simp only[go_sem];exact PO) ?_;rintro _ rfl;simp only[go_sem,n1,n2];refine⟨_,ae.refl _,?_⟩;simp only[go_sem,n1,n2];exact InF.ret (n:=8) (a:=e65) (InF.go j) Vz rfl (Tf (.d _)) (by simp[pack,exV,exD,e65])
def Mb:mn 201 [] (tT b) 6 fin (.ok [e65] 9) eb:=by
 intro B g ob hB hf ho;refine hdM B [125] Tryz.func201 rfl [.tmp 2] VC hf λO bn s0 w0=>?_;have n1:=nlo hB;have n2:=nhi hB;have d:InF B g ob g ob:=InF.refl;have az:=hf;simp only[go_sem,n1,n2];refine jy (tT b) 6 fin [40] rfl aa rfl (B+5) VE (B+14) a7 (fi az) VO b9 a7 a7 V5 (InF.go d) ?_;simp only[go_sem,n1,n2];refine fQ aa rfl PQ VE (B+14) a7 (fi az) Vz (InF.go d) (λm h=>by cases h) ?_;intro e l j;cases j;simp only[go_sem,n1,n2,exV,exD,e65];refine jy (tT b) 8 fin [41] rfl aa rfl (B+10) VE (B+14) a7 (fi az) Vz b9 a7 a7 V5 (InF.go d) ?_;simp only[go_sem,n1,n2];refine⟨_,ae.refl _,?_⟩;simp only[go_sem,n1,n2];exact InF.ret (n:=9) (a:=[e65]) (InF.go d) Vz rfl (KC a7 Vz (by simp only[go_sem,n1,n2];simp[exC,exD,e65]) rfl) rfl
end
section
def oT{A:Type}(b:Bool)(x:A)(n:Nat):PR A:=if b then .ok x n else .no 9
def s65:Stm:=.mk 3 [] [e65] [] []
def f65:Src.Fn:=⟨[109,97,105,110],[],[],F,[s65]⟩
def p65:Src.Prog:=⟨[],[],[f65]⟩
def IR(b:Bool):eE (tT b) [[59]] 9=oT b () 10:=by cases b<;>rfl
def Di{A β:Type}{b:Bool}{x:A}{y:β}{n k m:Nat}(h:oT b x n=.no m):oT b y k=.no m:=by
 cases b
 .have h:(PR.no 9:PR A)=.no m:=h
  cases h;rfl
 .cases h
def Ag{A:Type}{b:Bool}{x y:A}{n m:Nat}(h:oT b x n=.ok y m):b=T/\x=y/\n=m:=by
 cases b
 .cases h
 .cases h;exact⟨rfl,rfl,rfl⟩
variable{b:Bool}{fin:Nat}
def PS:mn 188 [] (tT b) 5 fin (oT b s65 10) smV:=by
 intro B g ob hB hf ho;refine hdM B [125] Tryz.func188 rfl [.cell 2 45] VC hf λO bn s0 w0=>?_;have n1:=nlo hB;have n2:=nhi hB;have e:InF B g ob g ob:=InF.refl;have az:=hf;simp only[go_sem,n1,n2];refine kI (tT b) 5 fin [112,117,116] aa rfl Vz (B+55) a7 (fi az) VO a7 (λ_=>?_) (λh=>absurd rfl h);simp only[go_sem,n1,n2];refine fQ aa rfl Mb VE (B+55) a7 (fi az) Vz (InF.go e) (λm h=>by cases h) ?_;intro l m k;cases k;simp only[go_sem,n1,n2,eb];refine wm (tT b) 9 fin aa rfl [[59]] (B+13) VE (B+55) a7 (fi az) Vz a8 a7 a7 V5 (InF.go e) (λm h=>by rw[IR]at h;exact Di h) ?_;intro o j;rw[IR]at j;obtain⟨rfl,_,rfl⟩:=Ag j;simp only[go_sem,n1,n2];refine⟨_,ae.refl _,?_⟩;simp only[go_sem,n1,n2];exact InF.ret (n:=10) (a:=s65) (InF.go e) Vz rfl (Tg (.d _) .nil .nil) (by simp[pack,smV,smD,Bf,aK,s65])
def Mc:mn 148 [] (tT b) 5 fin (oT b [s65] 11) eS:=by
 intro B g ob hB hf ho;refine hdM B [125] Tryz.func148 rfl [.tmp 2] VC hf λO bn s0 w0=>?_;have n1:=nlo hB;have n2:=nhi hB;have d:InF B g ob g ob:=InF.refl;have az:=hf;simp only[go_sem,n1,n2];refine IQ λZ j=>?_;simp only[go_sem,n1,n2];refine kI (tT b) 5 fin [125] aa rfl Vz (B+13) a7 (fi az) VO a7 (λh=>absurd (show ([112,117,116]:Str)=[125]from h) b9) (λ_=>?_);simp only[go_sem,n1,n2];refine fQ aa rfl PS VE (B+13) a7 (fi az) VO (InF.go d) (λm h=>Di h) ?_;intro e m k;obtain⟨rfl,rfl,rfl⟩:=Ag k;simp only[go_sem,n1,n2,smV,kX,j6,aW];refine⟨⟨b9,b9⟩,?_⟩;refine j _ λc=>?_;simp only[go_sem,n1,n2];refine kI (tT T) 10 fin [125] aa rfl Vz (B+13) a7 (fi az) Vz a7 (λ_=>?_) (λh=>absurd rfl h);simp only[go_sem,n1,n2];refine⟨_,ae.refl _,?_⟩;simp only[go_sem,n1,n2];exact InF.ret (n:=11) (a:=[s65]) (InF.go d) Vz rfl (KD a7 Vz (by simp only[go_sem,n1,n2];simp[smC,kX,s6]) rfl) rfl
end
section
variable{b:Bool}{fin:Nat}
def Ub:mn 87 [] (tT b) 0 fin (oT b f65 11) fnV:=by
 intro B g ob hB hf ho;refine hdM B [125] Tryz.func87 rfl [.cell 2 47] VC hf λO bn s0 w0=>?_;have n1:=nlo hB;have n2:=nhi hB;have k:InF B g ob g ob:=InF.refl;have az:=hf;have l:takeN (tT b) 1 1=.ok ⟨1,[109,97,105,110],0,5⟩ 2:=rfl;have r:fc (tT b) 3=4:=rfl;simp only[go_sem,n1,n2];refine jy (tT b) 0 fin [102,117,110,99] rfl aa rfl (B+5) VE (B+44) a7 (fi az) VO b9 a7 a7 V5 (InF.go k) ?_;simp only[go_sem,n1,n2];refine fQ aa rfl (GQ (tT b) 1 fin 1 a7 b9) VE (B+44) a7 (fi az) Vz (InF.go k) (λm h=>by rw[l]at h;cases h) ?_;intro t u o;rw[l]at o;cases o;unfold vz rV;simp only[go_sem,n1,n2];refine jy (tT b) 2 fin [40] rfl aa rfl (B+12) VE (B+44) a7 (fi az) Vz b9 a7 a7 V5 (InF.go k) ?_;simp only[go_sem,n1,n2];refine wj (tT b) 3 fin aa rfl Vz Vz ?_;rw[r];simp only[go_sem,n1,n2];refine jy (tT b) 3 fin [41] rfl aa rfl (B+21) VE (B+44) a7 (fi az) Vz b9 a7 a7 V5 (InF.go k) ?_;simp only[go_sem,n1,n2];refine kI (tT b) 4 fin [119,111,114,100] aa rfl Vz (B+44) a7 (fi az) Vz a7 (λh=>absurd (show ([123]:Str)=[119,111,114,100]from h) b9) (λ_=>?_);simp only[go_sem,n1,n2];refine jy (tT b) 4 fin [123] rfl aa rfl (B+27) VE (B+44) a7 (fi az) Vz b9 a7 a7 V5 (InF.go k) ?_;simp only[go_sem,n1,n2];refine qX λZ=>?_;simp only[go_sem,n1,n2];refine kI (tT b) 5 fin [118,97,114] aa rfl Vz (B+44) a7 (fi az) Vz a7 (λh=>absurd (show ([112,117,116]:Str)=[118,97,114]from h) b9) (λ_=>?_);simp only[go_sem,n1,n2];refine fQ aa rfl Mc VE (B+44) a7 (fi az) Vz (InF.go k) (λm h=>Di h) ?_;intro c v j;obtain⟨rfl,rfl,rfl⟩:=Ag j;simp only[go_sem,n1,n2,eS];refine⟨_,ae.refl _,?_⟩;simp only[go_sem,n1,n2];refine InF.ret (n:=11) (a:=f65) (rs:=[fnV f65]) (InF.go k) Vz rfl ?_ rfl
 exact⟨_,_,rfl,.agg (xs:=fnD f65) rfl (λi e j=>by
  match i,j with
  |0,j=>cases j;exact⟨_,rfl,.d _⟩
  |1,j=>cases j;exact⟨_,rfl,.nil⟩
  |2,j=>cases j;exact⟨_,rfl,.nil⟩
  |3,j=>cases j;exact⟨_,rfl,.d _⟩
  | 4,j=>cases j;exact⟨_,rfl,.d _⟩),rfl⟩
def Uc:z (tT b)=if b then 11 else 10:=by cases b<;>rfl
def PT:mn 54 [] (tT b) 0 fin (oT b p65 11) bS:=by
 intro B g ob hB hf ho;refine hdM B [125] Tryz.func54 rfl [.cell 2 26] VC hf λO bn s0 w0=>?_;have n1:=nlo hB;have n2:=nhi hB;have t:InF B g ob g ob:=InF.refl;have az:=hf;simp only[go_sem,n1,n2];refine qX λZ=>?_;simp only[go_sem,n1,n2];refine kI (tT b) 0 fin [118,97,114] aa rfl Vz (B+65) a7 (fi az) VO a7 (λh=>absurd (show ([102,117,110,99]:Str)=[118,97,114]from h) b9) (λ_=>?_);simp only[go_sem,n1,n2];refine kI (tT b) 0 fin [97,114,114,97,121] aa rfl Vz (B+65) a7 (fi az) VO a7 (λh=>absurd (show ([102,117,110,99]:Str)=[97,114,114,97,121]from h) b9) (λ_=>?_);simp only[go_sem,n1,n2];refine DD (b=T) aA mixed aa [B+44,B+45,125] [([3],[0,2],[],F),([40],[0,2],[],F),([0],[],[],F),([42],[],[2],F),([43],[],[0],F),([41,44],[],[1],F),([3],[0,1,2],[],F),([46,45],[],[],T)] 3 rfl c8 rfl VC ?_;simp only[go_sem]
 (apply oz;(case hf=>rfl);(case hg=>first|exact x9|exact⟨_,rfl,by decide,rfl⟩);(case U=>intro o ga r d J;simp only[go_sem,n1,n2]at J|-;exact J))
 (apply oz;(case hf=>rfl);(case hg=>first|exact x9|exact⟨_,rfl,by decide,rfl⟩);(case U=>intro o ga r d J;simp only[go_sem,n1,n2]at J|-;exact J))
 (apply oz;(case hf=>rfl);(case hg=>first|exact x9|exact⟨_,rfl,by decide,rfl⟩);(case U=>intro o ga r d J;simp only[go_sem]at J|-;exact J))
 refine DE (v:=fnV f65) (y:=S (rdC (tT b) 11 fin)) x9 a8 (λo ga r d J=>?_) ?_
 .simp only[go_sem,n1,n2]at J|-
  refine fQ (k:=bx d) aa rfl Ub VE (B+65) a7 (fi az) VO (InF.go t) (λm h=>Di h) ?_;intro A E x;obtain⟨hb,rfl,rfl⟩:=Ag x;simp only[go_sem,n1,n2];exact J hb
 (apply yp;(case hf=>rfl);(case hg=>first|exact x9|exact⟨_,rfl,by decide,rfl⟩);(case U=>intro o ga r d J;simp only[go_sem,fnV,fnD]at J|-;exact J))
 (apply yp;(case hf=>rfl);(case hg=>exact x9);(case U=>intro o ga r d J;simp only[go_sem,n1,n2,aW,j6,fnD]at J|-;exact⟨⟨b9,b9⟩,J⟩))
 (apply oz;(case hf=>rfl);(case hg=>first|exact x9|exact⟨_,rfl,by decide,rfl⟩);(case U=>intro o ga r d J;simp only[go_sem,n1,n2]at J|-;exact J))
 refine DF rfl x9 ?_;intro d u;simp only[go_sem,n1,n2];refine u _ ?_;clear u d;rintro rfl;simp only[go_sem,n1,n2];refine qX λZ=>?_;simp only[go_sem];refine aF c8 ?_;simp only[go_sem,n1,n2,rdC,jW,j6,Uc];refine⟨_,ae.refl _,?_⟩;simp only[go_sem,n1,n2];refine InF.ret (n:=11) (a:=p65) (rs:=[bS p65]) (InF.go t) (by simp only[go_sem,n1,n2,rdC,jW]) rfl ?_ rfl
 exact⟨_,_,rfl,.agg (xs:=iH p65) rfl (λi e j=>by
  match i,j with
  |0,j=>cases j;exact⟨_,rfl,.nil⟩
  |1,j=>cases j;exact⟨_,rfl,.nil⟩
  | 2,j=>cases j;exact⟨_,rfl,Tb (l:=[f65]) a7 Vz (by simp only[go_sem,n1,n2];simp[fnC,fnD]) rfl⟩),rfl⟩
end
end
end Go.Proofs.YtlacbjnmkhndiaaGreatDoor
namespace Go.Src
section
open Go.Asm (Str letter ew)
def aT(s:Str):Bool:=decide (s≠[]/\z s<=20/\s.head?.any letter=T/\s.takeWhile ew=s/\s∉iC)
def am(a:Bool)(s:Str):Bool:=if a then aT s else decide (s=[])
def bD(kind op num:Int)(name:Str)(n:Nat):Bool:=
 if kind=1 then decide (op=0) && am F name && decide (n=0)
 else if kind=2 then decide (op=0/\num=0) && am T name && decide (n=0)
 else if kind=3 then decide (op=0/\num=0) && am T name && decide (n=1)
 else if kind=4 then decide (op=0/\num=0) && am T name && decide (n<=6)
 else if kind=5 then decide (op=0/\num=0) && am F name && decide (n=0)
 else if kind=6 then decide ((4<=op/\op<=15)/\num=0) && am F name && decide (n=2)
 else if kind=7 then decide (op=0/\num=0) && am F name && decide (n=1)
 else if kind=8\/kind=9 then decide (op=0/\num=0) && am F name && decide (n=2)
 else F
mutual
def eW(q:Nat):Ex->Bool
 |.mk kind op num name kids=>decide (q<=24)&&(bD kind op num name (z kids)&&bg (q+1) kids)
def bg(q:Nat):List Ex->Bool
 |[]=>T
 |e::l=>eW q e&&bg q l
end
def cp(kind:Int)(name:Str)(n nt ne:Nat):Bool:=
 if kind=1 then am T name && decide (n=1/\nt=0/\ne=0)
 else if kind=2 then am T name && decide (n=2/\nt=0/\ne=0)
 else if kind=3 then am F name && decide (n=1/\nt=0/\ne=0)
 else if kind=4 then am F name && decide (n=1)
 else if kind=5 then am F name && decide (n=1/\ne=0)
 else if kind=6 then am T name && decide (n<=6/\nt=0/\ne=0)
 else if kind=7 then am F name && decide (n<=1/\nt=0/\ne=0)
 else F
mutual
def eL(q:Nat):Stm->Bool
 |.mk kind name e a el=>decide (q<=24)&&(cp kind name (z e) (z a) (z el)&&bg (q+1) e)&&(ba (q+1) a&&ba (q+1) el)
def ba(q:Nat):List Stm->Bool
 |[]=>T
 |s::l=>eL q s&&ba q l
end
def fp(f:Fn):Bool:=aT f.name&&decide (z f.params<=6)&&(f.params.all aT&&f.locals.all aT&&ba 1 f.body)
def ij(a:Str×Int):Bool:=aT a.1&&decide (1<=a.2)&&decide (a.2<=4096)
def dX(p:Prog):Bool:=decide (1<=z p.funcs/\z p.funcs<=64)&&p.vars.all aT&&(p.arrays.all ij&&p.funcs.all fp)
mutual
def szE:Ex->Nat
 |.mk _ _ _ _ kids=>bc kids+1
def bc:List Ex->Nat
 |[]=>0
 |e::l=>szE e+bc l
end
mutual
def szS:Stm->Nat
 |.mk _ _ e a el=>bc e+aD a+aD el+1
def aD:List Stm->Nat
 |[]=>0
 |s::l=>szS s+aD l
end
def LU:∀{l:List Ex}{e:Ex},e∈l->szE e<=bc l
 |x::l,e,h=>by
   rw[bc];rcases A3.1 h with rfl|h
   .omega
   .have:=LU h;omega
def LV:∀{l:List Stm}{e:Stm},e∈l->szS e<=aD l
 |x::l,e,h=>by
   rw[aD];rcases A3.1 h with rfl|h
   .omega
   .have:=LV h;omega
def IF:∀l:List Ex,z l<=bc l
 |[]=>l7 _
 |e::l=>by have:=IF l;cases e;simp only[bc,szE,j9];omega
def IG:∀l:List Stm,z l<=aD l
 |[]=>l7 _
 |e::l=>by have:=IG l;cases e;simp only[aD,szS,j9];omega
def zY{q:Nat}:∀l:List Ex,bg q l=l.all (eW q)
 |[]=>by simp[bg]
 |e::l=>by simp[bg,zY l]
def zZ{q:Nat}:∀l:List Stm,ba q l=l.all (eL q)
 |[]=>by simp[ba]
 |e::l=>by simp[ba,zZ l]
def TR{A:Type}{p:A->Bool}{l:List A}{k:Nat}{x:A}(h:(l.take k).all p=T)(I:l[k]?=S x)(a:p x=T):(l.take (k+1)).all p=T:=by
 rw[D0,I,H5,h];simp[a]
def all_false{A:Type}{p:A->Bool}{l:List A}{k:Nat}{x:A}(I:l[k]?=S x)(a:p x=F):l.all p=F:=by
 rw[List.all_eq_false];exact⟨x,l6 I,by simp[a]⟩
end
end Go.Src
namespace Go.Am
section
section
section
variable{P:Program}{E:Nat->TI}{O:Bs}{rd:Option Nat}{q:Nat}{o:cF}{b:ff}{a:Nat}
end
end
end
end Go.Am
namespace Go.Proofs.YtlacbjnmkhndiaaGreatDoor
section
open Go Go.Am Go.Asm
open Go.Src (aT)
attribute[local congr]ite_cc
section
variable{o:cF}
def Ow(ho:jS o)(s:Str):bP Tryz.prog 1 o 149 [sv s] (·=bv (aT s)):=by
 refine hdG Tryz.func149 rfl [.tmp 2] λO bn s0 w0 g=>?_;obtain⟨X,a⟩:∃X,aT s=X:=⟨_,rfl⟩
 rw[a];unfold aT at a;by_cases A:s=[]
 .obtain rfl:X=F:=by rw[<-a];exact A4 λh=>h.1 A
  simp only[go_sem,w8 A]
 by_cases e:z s<=20
 case neg=>
  obtain rfl:X=F:=by rw[<-a];exact A4 λh=>e h.2.1
  have l:¬(z s:Int)<=20:=a7;simp only[go_sem,A,l]
 have l:(z s:Int)<=20:=a7
 obtain⟨c,Z⟩:∃c,s[0]?=S c:=by
  cases s with
  |nil=>exact absurd rfl A
  |cons c r=>exact⟨c,rfl⟩
 have b:s.head?=S c:=by rw[<-Z,Si]
 simp only[go_sem,A,l,Z];refine ip rfl (by simp only[go_sem];exact oY c) ?_;rintro _ rfl;cases H:letter c
 .obtain rfl:X=F:=by rw[<-a];exact A4 λh=>by have:=h.2.2.1;rw[b]at this;simp[H]at this
  exact hx
 simp only[go_sem];refine ip rfl (by simp only[go_sem];exact tg (λc=>wz c) s a7) ?_;rintro _ rfl;by_cases ar:s.takeWhile ew=s
 case neg=>
  obtain rfl:X=F:=by rw[<-a];exact A4 λh=>ar h.2.2.2.1
  simp only[go_sem,ar]
 simp only[go_sem,ar];refine cG rfl (by simp only[go_sem];exact zL ho s) ?_;rintro _ rfl;by_cases d:s∈Src.iC
 .obtain rfl:X=F:=by rw[<-a];exact A4 λh=>h.2.2.2.2 d
  simp only[go_sem,d]
 .obtain rfl:X=T:=by rw[<-a];exact C9 ⟨A,e,by rw[b];simp[H],ar,d⟩
  simp only[go_sem,d]
def mq(ho:jS o)(s:Str):bP Tryz.prog 1 o 89 [sv s] (·=bv (aT s)):=by
 refine hdG Tryz.func89 rfl [.tmp 2] λO bn s0 w0 g=>?_;have u:s∈Src.iC->aT s=F:=λh=>A4 λq=>q.2.2.2.2 h;obtain⟨X,t⟩:∃X,aT s=X:=⟨_,rfl⟩
 rw[t];rw[t]at u;by_cases a:s=[118,97,114]
 .obtain rfl:=u (by rw[a];decide)
  simp only[go_sem,w8 a]
 by_cases U:s=[97,114,114,97,121]
 .obtain rfl:=u (by rw[U];decide)
  simp only[go_sem,a,w8 U]
 by_cases b:s=[102,117,110,99]
 .obtain rfl:=u (by rw[b];decide)
  simp only[go_sem,a,U,w8 b]
 by_cases d:s=[119,111,114,100]
 .obtain rfl:=u (by rw[d];decide)
  simp only[go_sem,a,U,b,w8 d]
 by_cases e:s=[105,102]
 .obtain rfl:=u (by rw[e];decide)
  simp only[go_sem,a,U,b,d,w8 e]
 by_cases i:s=[101,108,115,101]
 .obtain rfl:=u (by rw[i];decide)
  simp only[go_sem,a,U,b,d,e,w8 i]
 by_cases j:s=[119,104,105,108,101]
 .obtain rfl:=u (by rw[j];decide)
  simp only[go_sem,a,U,b,d,e,i,w8 j]
 by_cases l:s=[114,101,116,117,114,110]
 .obtain rfl:=u (by rw[l];decide)
  simp only[go_sem,a,U,b,d,e,i,j,w8 l]
 by_cases n:s=[112,117,116]
 .obtain rfl:=u (by rw[n];decide)
  simp only[go_sem,a,U,b,d,e,i,j,l,w8 n]
 by_cases v:s=[103,101,116]
 .obtain rfl:=u (by rw[v];decide)
  simp only[go_sem,a,U,b,d,e,i,j,l,n,w8 v]
 simp only[go_sem,a,U,b,d,e,i,j,l,n,v];refine cG rfl (by simp only[go_sem];exact Ow ho s) ?_;rintro _ rfl;rw[t];exact hx
def cB(ho:jS o)(s:Str)(b:Bool):bP Tryz.prog 1 o 190 [sv s,bv b] (·=bv (Src.am b s)):=by
 refine hdG Tryz.func190 rfl [.tmp 4] λO bn s0 w0 g=>?_;unfold Src.am;cases b
 .exact hx
 .simp only[go_sem]
  refine cG rfl (by simp only[go_sem];exact mq ho s) ?_;rintro _ rfl;exact hx
def pK(ho:jS o)(l:List Str)(hl:z l<=1000000000):bP Tryz.prog 1 o 88 [uz l] (·=bv (l.all aT)):=by
 refine hdG Tryz.func88 rfl [.tmp 2] λO bn s0 w0 g=>?_;unfold uz;simp only[go_sem,j6];refine aw (λX K=>∃k:Nat,X+k=z l/\(l.take k).all aT=T/\K.f 5=.one (.d (.sl (l.map λs=>[.str s])))/\K.f 6=iv .i64 (z l)/\K.f 7=iv .i64 k) (z l) ?_ ?_
 .exact UE
 rintro X f u v ⟨k,hk,bs,e,a,b⟩;simp only at e a b;have j:=ac (k:=k) a7;by_cases n:k<z l
 case neg=>
  have Q:¬(k:Int)<(z l:Int):=a7;obtain rfl:k=z l:=a7;rw[s6 (l7 _)]at bs;simp only[go_sem,a,b,Q,bs]
 have Q:(k:Int)<(z l:Int):=a7;have t:(0:Int)<=(k:Int):=a7;obtain⟨s,i⟩:=getq n;simp only[go_sem,e,a,b,Q,t,i];refine cG rfl (by simp only[go_sem];exact mq ho s) ?_;rintro _ rfl;cases hb:aT s
 .simp only[go_sem,Src.all_false i hb]
 .simp only[go_sem,b,j]
  refine ah (X-1) a7 ⟨k+1,a7,Src.TR bs i hb,?_⟩;simp only[go_sem,e,a]
end
end
section
open Go Go.Am Go.Asm
open Go.Src (aT am bD cp Ex Stm)
attribute[local congr]ite_cc
def AY{o:cF}(ho:jS o)(e:Ex):bP Tryz.prog 1 o 191 [exV e] (·=bv (match e with|.mk kind op num name kids=>bD kind op num name (z kids))):=by
 obtain⟨kind,op,num,name,kids⟩:=e;refine hdG Tryz.func191 rfl [.tmp 2] λO bn s0 w0 g=>?_;simp only;obtain⟨X,t⟩:∃X,bD kind op num name (z kids)=X:=⟨_,rfl⟩
 rw[t];unfold exV;simp only[exD,aK,l9,w9];unfold bD at t;by_cases j:kind=1
 .rw[l8 j]at t
  by_cases i:op=0
  case neg=>
   obtain rfl:X=F:=by rw[<-t];simp[i]
   simp only[go_sem,w8 j,i]
  simp only[go_sem,w8 j,w8 i];refine cG rfl VK ?_;rintro _ rfl;cases c:am F name
  .obtain rfl:X=F:=by rw[<-t];simp[c]
   simp only[go_sem,w8 j,w8 i]
  by_cases b:z kids=0
  case neg=>
   obtain rfl:X=F:=by rw[<-t];simp[b]
   have m:(0:Int)<=(z kids:Int):=a7;have d:¬(z kids:Int)<=0:=a7;simp only[go_sem,w8 j,w8 i,j6,m,d]
  have m:(0:Int)<=(z kids:Int):=a7;have d:(z kids:Int)<=0:=a7;obtain rfl:X=T:=by rw[<-t];simp[i,c,b]
  simp only[go_sem,w8 j,w8 i,j6,m,d]
 by_cases n:kind=2
 .rw[j8 j,l8 n]at t
  by_cases i:op=0
  case neg=>
   obtain rfl:X=F:=by rw[<-t];simp[i]
   simp only[go_sem,w8 n,j,i]
  by_cases bk:num=0
  case neg=>
   obtain rfl:X=F:=by rw[<-t];simp[bk]
   simp only[go_sem,w8 n,j,w8 i,bk]
  simp only[go_sem,w8 n,j,w8 i,w8 bk];refine cG rfl VY ?_;rintro _ rfl;cases c:am T name
  .obtain rfl:X=F:=by rw[<-t];simp[c]
   simp only[go_sem,w8 n,j,w8 i,w8 bk]
  by_cases b:z kids=0
  case neg=>
   obtain rfl:X=F:=by rw[<-t];simp[b]
   have m:(0:Int)<=(z kids:Int):=a7;have d:¬(z kids:Int)<=0:=a7;simp only[go_sem,w8 n,j,w8 i,w8 bk,j6,m,d]
  have m:(0:Int)<=(z kids:Int):=a7;have d:(z kids:Int)<=0:=a7;obtain rfl:X=T:=by rw[<-t];simp[i,bk,c,b]
  simp only[go_sem,w8 n,j,w8 i,w8 bk,j6,m,d]
 by_cases u:kind=3
 .rw[j8 j,j8 n,l8 u]at t
  by_cases i:op=0
  case neg=>
   obtain rfl:X=F:=by rw[<-t];simp[i]
   simp only[go_sem,w8 u,j,n,i]
  by_cases bk:num=0
  case neg=>
   obtain rfl:X=F:=by rw[<-t];simp[bk]
   simp only[go_sem,w8 u,j,n,w8 i,bk]
  simp only[go_sem,w8 u,j,n,w8 i,w8 bk];refine cG rfl VY ?_;rintro _ rfl;cases c:am T name
  .obtain rfl:X=F:=by rw[<-t];simp[c]
   simp only[go_sem,w8 u,j,n,w8 i,w8 bk]
  by_cases b:z kids=1
  case neg=>
   obtain rfl:X=F:=by rw[<-t];simp[b]
   by_cases m:(1:Int)<=(z kids:Int)
   .have d:¬(z kids:Int)<=1:=a7
    simp only[go_sem,w8 u,j,n,w8 i,w8 bk,j6,m,d]
   .simp only[go_sem,w8 u,j,n,w8 i,w8 bk,j6,m]
  have m:(1:Int)<=(z kids:Int):=a7;have d:(z kids:Int)<=1:=a7;obtain rfl:X=T:=by rw[<-t];simp[i,bk,c,b]
  simp only[go_sem,w8 u,j,n,w8 i,w8 bk,j6,m,d]
 by_cases v:kind=4
 .rw[j8 j,j8 n,j8 u,l8 v]at t
  by_cases i:op=0
  case neg=>
   obtain rfl:X=F:=by rw[<-t];simp[i]
   simp only[go_sem,w8 v,j,n,u,i]
  by_cases bk:num=0
  case neg=>
   obtain rfl:X=F:=by rw[<-t];simp[bk]
   simp only[go_sem,w8 v,j,n,u,w8 i,bk]
  simp only[go_sem,w8 v,j,n,u,w8 i,w8 bk];refine cG rfl VY ?_;rintro _ rfl;cases c:am T name
  .obtain rfl:X=F:=by rw[<-t];simp[c]
   simp only[go_sem,w8 v,j,n,u,w8 i,w8 bk]
  have m:(0:Int)<=(z kids:Int):=a7;by_cases b:z kids<=6
  case neg=>
   obtain rfl:X=F:=by rw[<-t];simp;omega
   have d:¬(z kids:Int)<=6:=a7;simp only[go_sem,w8 v,j,n,u,w8 i,w8 bk,j6,m,d]
  have d:(z kids:Int)<=6:=a7;obtain rfl:X=T:=by rw[<-t];simp[i,bk,c,b]
  simp only[go_sem,w8 v,j,n,u,w8 i,w8 bk,j6,m,d]
 by_cases w:kind=5
 .rw[j8 j,j8 n,j8 u,j8 v,l8 w]at t
  by_cases i:op=0
  case neg=>
   obtain rfl:X=F:=by rw[<-t];simp[i]
   simp only[go_sem,w8 w,j,n,u,v,i]
  by_cases bk:num=0
  case neg=>
   obtain rfl:X=F:=by rw[<-t];simp[bk]
   simp only[go_sem,w8 w,j,n,u,v,w8 i,bk]
  simp only[go_sem,w8 w,j,n,u,v,w8 i,w8 bk];refine cG rfl VK ?_;rintro _ rfl;cases c:am F name
  .obtain rfl:X=F:=by rw[<-t];simp[c]
   simp only[go_sem,w8 w,j,n,u,v,w8 i,w8 bk]
  by_cases b:z kids=0
  case neg=>
   obtain rfl:X=F:=by rw[<-t];simp[b]
   have m:(0:Int)<=(z kids:Int):=a7;have d:¬(z kids:Int)<=0:=a7;simp only[go_sem,w8 w,j,n,u,v,w8 i,w8 bk,j6,m,d]
  have m:(0:Int)<=(z kids:Int):=a7;have d:(z kids:Int)<=0:=a7;obtain rfl:X=T:=by rw[<-t];simp[i,bk,c,b]
  simp only[go_sem,w8 w,j,n,u,v,w8 i,w8 bk,j6,m,d]
 by_cases P:kind=6
 .rw[j8 j,j8 n,j8 u,j8 v,j8 w,l8 P]at t
  by_cases A:op<4
  case pos=>
   have I:¬4<=op:=a7;obtain rfl:X=F:=by rw[<-t];simp[I]
   simp only[go_sem,w8 P,j,n,u,v,w,A]
  by_cases a:15<op
  case pos=>
   have I:¬op<=15:=a7;obtain rfl:X=F:=by rw[<-t];simp[I]
   simp only[go_sem,w8 P,j,n,u,v,w,A,a]
  have q:4<=op:=a7;have B:op<=15:=a7;by_cases bk:num=0
  case neg=>
   obtain rfl:X=F:=by rw[<-t];simp[bk]
   simp only[go_sem,w8 P,j,n,u,v,w,A,a,bk]
  simp only[go_sem,w8 P,j,n,u,v,w,A,a,w8 bk];refine cG rfl VK ?_;rintro _ rfl;cases c:am F name
  .obtain rfl:X=F:=by rw[<-t];simp[c]
   simp only[go_sem,w8 P,j,n,u,v,w,A,a,w8 bk]
  by_cases b:z kids=2
  case neg=>
   obtain rfl:X=F:=by rw[<-t];simp[b]
   by_cases m:(2:Int)<=(z kids:Int)
   .have d:¬(z kids:Int)<=2:=a7
    simp only[go_sem,w8 P,j,n,u,v,w,A,a,w8 bk,j6,m,d]
   .simp only[go_sem,w8 P,j,n,u,v,w,A,a,w8 bk,j6,m]
  have m:(2:Int)<=(z kids:Int):=a7;have d:(z kids:Int)<=2:=a7;obtain rfl:X=T:=by rw[<-t];simp[q,B,bk,c,b]
  simp only[go_sem,w8 P,j,n,u,v,w,A,a,w8 bk,j6,m,d]
 by_cases x:kind=7
 .rw[j8 j,j8 n,j8 u,j8 v,j8 w,j8 P,l8 x]at t
  by_cases i:op=0
  case neg=>
   obtain rfl:X=F:=by rw[<-t];simp[i]
   simp only[go_sem,w8 x,j,n,u,v,w,P,i]
  by_cases bk:num=0
  case neg=>
   obtain rfl:X=F:=by rw[<-t];simp[bk]
   simp only[go_sem,w8 x,j,n,u,v,w,P,w8 i,bk]
  simp only[go_sem,w8 x,j,n,u,v,w,P,w8 i,w8 bk];refine cG rfl VK ?_;rintro _ rfl;cases c:am F name
  .obtain rfl:X=F:=by rw[<-t];simp[c]
   simp only[go_sem,w8 x,j,n,u,v,w,P,w8 i,w8 bk]
  by_cases b:z kids=1
  case neg=>
   obtain rfl:X=F:=by rw[<-t];simp[b]
   by_cases m:(1:Int)<=(z kids:Int)
   .have d:¬(z kids:Int)<=1:=a7
    simp only[go_sem,w8 x,j,n,u,v,w,P,w8 i,w8 bk,j6,m,d]
   .simp only[go_sem,w8 x,j,n,u,v,w,P,w8 i,w8 bk,j6,m]
  have m:(1:Int)<=(z kids:Int):=a7;have d:(z kids:Int)<=1:=a7;obtain rfl:X=T:=by rw[<-t];simp[i,bk,c,b]
  simp only[go_sem,w8 x,j,n,u,v,w,P,w8 i,w8 bk,j6,m,d]
 by_cases y:kind=8
 .rw[j8 j,j8 n,j8 u,j8 v,j8 w,j8 P,j8 x,l8 (Or.inl y)]at t
  by_cases i:op=0
  case neg=>
   obtain rfl:X=F:=by rw[<-t];simp[i]
   simp only[go_sem,w8 y,j,n,u,v,w,P,x,i]
  by_cases bk:num=0
  case neg=>
   obtain rfl:X=F:=by rw[<-t];simp[bk]
   simp only[go_sem,w8 y,j,n,u,v,w,P,x,w8 i,bk]
  simp only[go_sem,w8 y,j,n,u,v,w,P,x,w8 i,w8 bk];refine cG rfl VK ?_;rintro _ rfl;cases c:am F name
  .obtain rfl:X=F:=by rw[<-t];simp[c]
   simp only[go_sem,w8 y,j,n,u,v,w,P,x,w8 i,w8 bk]
  by_cases b:z kids=2
  case neg=>
   obtain rfl:X=F:=by rw[<-t];simp[b]
   by_cases m:(2:Int)<=(z kids:Int)
   .have d:¬(z kids:Int)<=2:=a7
    simp only[go_sem,w8 y,j,n,u,v,w,P,x,w8 i,w8 bk,j6,m,d]
   .simp only[go_sem,w8 y,j,n,u,v,w,P,x,w8 i,w8 bk,j6,m]
  have m:(2:Int)<=(z kids:Int):=a7;have d:(z kids:Int)<=2:=a7;obtain rfl:X=T:=by rw[<-t];simp[i,bk,c,b]
  simp only[go_sem,w8 y,j,n,u,v,w,P,x,w8 i,w8 bk,j6,m,d]
 by_cases l:kind=9
 .rw[j8 j,j8 n,j8 u,j8 v,j8 w,j8 P,j8 x,l8 (Or.inr l)]at t
  by_cases i:op=0
  case neg=>
   obtain rfl:X=F:=by rw[<-t];simp[i]
   simp only[go_sem,w8 l,j,n,u,v,w,P,x,y,i]
  by_cases bk:num=0
  case neg=>
   obtain rfl:X=F:=by rw[<-t];simp[bk]
   simp only[go_sem,w8 l,j,n,u,v,w,P,x,y,w8 i,bk]
  simp only[go_sem,w8 l,j,n,u,v,w,P,x,y,w8 i,w8 bk];refine cG rfl VK ?_;rintro _ rfl;cases c:am F name
  .obtain rfl:X=F:=by rw[<-t];simp[c]
   simp only[go_sem,w8 l,j,n,u,v,w,P,x,y,w8 i,w8 bk]
  by_cases b:z kids=2
  case neg=>
   obtain rfl:X=F:=by rw[<-t];simp[b]
   by_cases m:(2:Int)<=(z kids:Int)
   .have d:¬(z kids:Int)<=2:=a7
    simp only[go_sem,w8 l,j,n,u,v,w,P,x,y,w8 i,w8 bk,j6,m,d]
   .simp only[go_sem,w8 l,j,n,u,v,w,P,x,y,w8 i,w8 bk,j6,m]
  have m:(2:Int)<=(z kids:Int):=a7;have d:(z kids:Int)<=2:=a7;obtain rfl:X=T:=by rw[<-t];simp[i,bk,c,b]
  simp only[go_sem,w8 l,j,n,u,v,w,P,x,y,w8 i,w8 bk,j6,m,d]
 obtain rfl:X=F:=by rw[<-t];simp[j,n,u,v,w,P,x,y,l]
 simp only[go_sem,j,n,u,v,w,P,x,y,l]
end
section
open Go Go.Am Go.Asm
open Go.Src (aT am bD cp eW bg szE bc Ex Stm)
attribute[local congr]ite_cc
def xo{o:cF}(ho:jS o):∀(al:Nat)(l:List Ex)(q:Nat),bc l<=al->al<=1000000000->q<=25->bP Tryz.prog 1 o 151 [eb l,iv .i64 q] (·=bv (bg q l)):=by
 intro al
 induction al using Nat.strongRecOn with
 |ind al B=>
 intro l q az Y j;refine hdG Tryz.func151 rfl [.tmp 4] λO bn s0 w0 g=>?_;obtain⟨X,t⟩:∃X,bg q l=X:=⟨_,rfl⟩
 rw[t];have bl:=Src.IF l;have w:=ac (k:=q) a7;unfold eb;by_cases b:0<z l/\24<q
 .have U:(0:Int)<(z l:Int):=a7
  have G:(24:Int)<(q:Int):=a7
  obtain rfl:X=F:=by
   rw[<-t];cases l with
   |nil=>simp at b
   |cons e l=>obtain⟨kind,op,num,name,i⟩:=e;simp[bg,eW];omega
  simp only[go_sem,j6,U,G]
 by_cases x:l=[]
 .subst x
  obtain rfl:X=T:=by rw[<-t];simp[bg]
  exact vr
 have fw:0<z l:=N2.2 x;have Z:(0:Int)<(z l:Int):=a7;have H:¬(24:Int)<(q:Int):=a7;simp only[go_sem,j6,Z,H];refine aw (λm K=>∃k:Nat,m+k=z l/\(l.take k).all (eW q)=T/\K.f 1=iv .i64 q/\K.f 14=.one (.d (.sl (l.map exD)))/\K.f 15=iv .i64 (z l)/\K.f 16=iv .i64 k) (z l) ?_ ?_
 .exact UE
 rintro m f g1 av ⟨k,hk,bs,u,E,n,A⟩;simp only at u E n A;have I:=ac (k:=k) a7;by_cases L:k<z l
 case neg=>
  have Q:¬(k:Int)<(z l:Int):=a7;obtain rfl:k=z l:=a7;rw[s6 (l7 _)]at bs;obtain rfl:X=T:=by rw[<-t,Src.zY];exact bs
  simp only[go_sem,n,A,Q]
 have Q:(k:Int)<(z l:Int):=a7;have W:(0:Int)<=(k:Int):=a7;obtain⟨e,v⟩:=getq L;obtain⟨kind,op,num,name,i⟩:=e;have a:=Src.LU (l6 v);rw[szE]at a;have y:exD (.mk kind op num name i)=[.int .i64 kind,.int .i64 op,.int .u32 num,.str name,.sl (i.map exD)]:=by simp only[exD,aK]
 have hF:=AY ho (.mk kind op num name i);have J:=B (bc i) a7 i (q+1) (l7 _) a7 a7;unfold exV at hF;unfold eb at J;rw[y]at hF;simp only[l9,w9]at hF;have c:q<=24:=a7;simp only[go_sem,u,E,n,A,Q,W,v,y];refine cG rfl Xn ?_;rintro _ rfl;cases hf:bD kind op num name (z i)
 .obtain rfl:X=F:=by rw[<-t,Src.zY];exact Src.all_false v (by simp[eW,hf])
  simp only[go_sem,hf]
 simp only[go_sem,u,w];refine cG rfl (by simp only[go_sem,u,w];exact J) ?_;rintro _ rfl;cases V:bg (q+1) i
 .obtain rfl:X=F:=by rw[<-t,Src.zY];exact Src.all_false v (by simp[eW,hf,V])
  exact hx
 .simp only[go_sem,A,I]
  refine ah (m-1) a7 ⟨k+1,a7,Src.TR bs v (by simp[eW,hf,V,c]),?_⟩;simp only[go_sem,u,E,n]
def AZ{o:cF}(ho:jS o)(e:Stm):bP Tryz.prog 1 o 150 [smV e] (·=bv (match e with|.mk kind name e v el=>cp kind name (z e) (z v) (z el))):=by
 obtain⟨kind,name,e,v,el⟩:=e;refine hdG Tryz.func150 rfl [.tmp 2] λO bn s0 w0 g=>?_;simp only;obtain⟨X,b⟩:∃X,cp kind name (z e) (z v) (z el)=X:=⟨_,rfl⟩
 rw[b];unfold smV;simp only[smD,aK,dQ,l9,w9];unfold cp at b;by_cases a:kind=1
 .rw[l8 a]at b
  simp only[go_sem,w8 a];refine cG rfl VY ?_;rintro _ rfl;cases c:am T name
  .obtain rfl:X=F:=by rw[<-b];simp[c]
   simp only[go_sem,w8 a]
  have w:(0:Int)<=(z e:Int):=a7;by_cases m:(z e:Int)<1
  .obtain rfl:X=F:=by rw[<-b,c,x6];exact A4 a7
   simp only[go_sem,w8 a,j6,m]
  by_cases d:(1:Int)<(z e:Int)
  .obtain rfl:X=F:=by rw[<-b,c,x6];exact A4 a7
   simp only[go_sem,w8 a,j6,m,d]
  by_cases G:(z v:Int)=0
  case neg=>
   obtain rfl:X=F:=by rw[<-b,c,x6];exact A4 a7
   simp only[go_sem,w8 a,j6,m,d,G]
  by_cases t:(z el:Int)=0
  case neg=>
   obtain rfl:X=F:=by rw[<-b,c,x6];exact A4 a7
   simp only[go_sem,w8 a,j6,m,d,G,t]
  obtain rfl:X=T:=by rw[<-b,c,x6];exact C9 a7
  simp only[go_sem,w8 a,j6,m,d,G,t]
 by_cases i:kind=2
 .rw[j8 a,l8 i]at b
  simp only[go_sem,w8 i,a];refine cG rfl VY ?_;rintro _ rfl;cases c:am T name
  .obtain rfl:X=F:=by rw[<-b];simp[c]
   simp only[go_sem,w8 i,a]
  have w:(0:Int)<=(z e:Int):=a7;by_cases m:(z e:Int)<2
  .obtain rfl:X=F:=by rw[<-b,c,x6];exact A4 a7
   simp only[go_sem,w8 i,a,j6,m]
  by_cases d:(2:Int)<(z e:Int)
  .obtain rfl:X=F:=by rw[<-b,c,x6];exact A4 a7
   simp only[go_sem,w8 i,a,j6,m,d]
  by_cases G:(z v:Int)=0
  case neg=>
   obtain rfl:X=F:=by rw[<-b,c,x6];exact A4 a7
   simp only[go_sem,w8 i,a,j6,m,d,G]
  by_cases t:(z el:Int)=0
  case neg=>
   obtain rfl:X=F:=by rw[<-b,c,x6];exact A4 a7
   simp only[go_sem,w8 i,a,j6,m,d,G,t]
  obtain rfl:X=T:=by rw[<-b,c,x6];exact C9 a7
  simp only[go_sem,w8 i,a,j6,m,d,G,t]
 by_cases j:kind=3
 .rw[j8 a,j8 i,l8 j]at b
  simp only[go_sem,w8 j,a,i];refine cG rfl VK ?_;rintro _ rfl;cases c:am F name
  .obtain rfl:X=F:=by rw[<-b];simp[c]
   simp only[go_sem,w8 j,a,i]
  have w:(0:Int)<=(z e:Int):=a7;by_cases m:(z e:Int)<1
  .obtain rfl:X=F:=by rw[<-b,c,x6];exact A4 a7
   simp only[go_sem,w8 j,a,i,j6,m]
  by_cases d:(1:Int)<(z e:Int)
  .obtain rfl:X=F:=by rw[<-b,c,x6];exact A4 a7
   simp only[go_sem,w8 j,a,i,j6,m,d]
  by_cases G:(z v:Int)=0
  case neg=>
   obtain rfl:X=F:=by rw[<-b,c,x6];exact A4 a7
   simp only[go_sem,w8 j,a,i,j6,m,d,G]
  by_cases t:(z el:Int)=0
  case neg=>
   obtain rfl:X=F:=by rw[<-b,c,x6];exact A4 a7
   simp only[go_sem,w8 j,a,i,j6,m,d,G,t]
  obtain rfl:X=T:=by rw[<-b,c,x6];exact C9 a7
  simp only[go_sem,w8 j,a,i,j6,m,d,G,t]
 by_cases l:kind=4
 .rw[j8 a,j8 i,j8 j,l8 l]at b
  simp only[go_sem,w8 l,a,i,j];refine cG rfl VK ?_;rintro _ rfl;cases c:am F name
  .obtain rfl:X=F:=by rw[<-b];simp[c]
   simp only[go_sem,w8 l,a,i,j]
  have w:(0:Int)<=(z e:Int):=a7;by_cases m:(z e:Int)<1
  .obtain rfl:X=F:=by rw[<-b,c,x6];exact A4 a7
   simp only[go_sem,w8 l,a,i,j,j6,m]
  by_cases d:(1:Int)<(z e:Int)
  .obtain rfl:X=F:=by rw[<-b,c,x6];exact A4 a7
   simp only[go_sem,w8 l,a,i,j,j6,m,d]
  obtain rfl:X=T:=by rw[<-b,c,x6];exact C9 a7
  simp only[go_sem,w8 l,a,i,j,j6,m,d]
 by_cases n:kind=5
 .rw[j8 a,j8 i,j8 j,j8 l,l8 n]at b
  simp only[go_sem,w8 n,a,i,j,l];refine cG rfl VK ?_;rintro _ rfl;cases c:am F name
  .obtain rfl:X=F:=by rw[<-b];simp[c]
   simp only[go_sem,w8 n,a,i,j,l]
  have w:(0:Int)<=(z e:Int):=a7;by_cases m:(z e:Int)<1
  .obtain rfl:X=F:=by rw[<-b,c,x6];exact A4 a7
   simp only[go_sem,w8 n,a,i,j,l,j6,m]
  by_cases d:(1:Int)<(z e:Int)
  .obtain rfl:X=F:=by rw[<-b,c,x6];exact A4 a7
   simp only[go_sem,w8 n,a,i,j,l,j6,m,d]
  by_cases t:(z el:Int)=0
  case neg=>
   obtain rfl:X=F:=by rw[<-b,c,x6];exact A4 a7
   simp only[go_sem,w8 n,a,i,j,l,j6,m,d,t]
  obtain rfl:X=T:=by rw[<-b,c,x6];exact C9 a7
  simp only[go_sem,w8 n,a,i,j,l,j6,m,d,t]
 by_cases P:kind=6
 .rw[j8 a,j8 i,j8 j,j8 l,j8 n,l8 P]at b
  simp only[go_sem,w8 P,a,i,j,l,n];refine cG rfl VY ?_;rintro _ rfl;cases c:am T name
  .obtain rfl:X=F:=by rw[<-b];simp[c]
   simp only[go_sem,w8 P,a,i,j,l,n]
  have w:(0:Int)<=(z e:Int):=a7;have m:¬(z e:Int)<0:=a7;by_cases d:(6:Int)<(z e:Int)
  .obtain rfl:X=F:=by rw[<-b,c,x6];exact A4 a7
   simp only[go_sem,w8 P,a,i,j,l,n,j6,m,d]
  by_cases G:(z v:Int)=0
  case neg=>
   obtain rfl:X=F:=by rw[<-b,c,x6];exact A4 a7
   simp only[go_sem,w8 P,a,i,j,l,n,j6,m,d,G]
  by_cases t:(z el:Int)=0
  case neg=>
   obtain rfl:X=F:=by rw[<-b,c,x6];exact A4 a7
   simp only[go_sem,w8 P,a,i,j,l,n,j6,m,d,G,t]
  obtain rfl:X=T:=by rw[<-b,c,x6];exact C9 a7
  simp only[go_sem,w8 P,a,i,j,l,n,j6,m,d,G,t]
 by_cases u:kind=7
 .rw[j8 a,j8 i,j8 j,j8 l,j8 n,j8 P,l8 u]at b
  simp only[go_sem,w8 u,a,i,j,l,n,P];refine cG rfl VK ?_;rintro _ rfl;cases c:am F name
  .obtain rfl:X=F:=by rw[<-b];simp[c]
   simp only[go_sem,w8 u,a,i,j,l,n,P]
  have w:(0:Int)<=(z e:Int):=a7;have m:¬(z e:Int)<0:=a7;by_cases d:(1:Int)<(z e:Int)
  .obtain rfl:X=F:=by rw[<-b,c,x6];exact A4 a7
   simp only[go_sem,w8 u,a,i,j,l,n,P,j6,m,d]
  by_cases G:(z v:Int)=0
  case neg=>
   obtain rfl:X=F:=by rw[<-b,c,x6];exact A4 a7
   simp only[go_sem,w8 u,a,i,j,l,n,P,j6,m,d,G]
  by_cases t:(z el:Int)=0
  case neg=>
   obtain rfl:X=F:=by rw[<-b,c,x6];exact A4 a7
   simp only[go_sem,w8 u,a,i,j,l,n,P,j6,m,d,G,t]
  obtain rfl:X=T:=by rw[<-b,c,x6];exact C9 a7
  simp only[go_sem,w8 u,a,i,j,l,n,P,j6,m,d,G,t]
 obtain rfl:X=F:=by rw[<-b];simp[a,i,j,l,n,P,u]
 simp only[go_sem,a,i,j,l,n,P,u]
end
section
open Go Go.Am Go.Asm
open Go.Src (aT am bD cp eW bg eL ba fp ij dX szE bc szS aD Ex Stm)
attribute[local congr]ite_cc
def xp{o:cF}(ho:jS o):∀(al:Nat)(l:List Stm)(q:Nat),aD l<=al->al<=1000000000->q<=25->bP Tryz.prog 1 o 90 [eS l,iv .i64 q] (·=bv (ba q l)):=by
 intro al
 induction al using Nat.strongRecOn with
 |ind al B=>
 intro l q az hN j;refine hdG Tryz.func90 rfl [.tmp 4] λO bn s0 w0 g=>?_;obtain⟨X,t⟩:∃X,ba q l=X:=⟨_,rfl⟩
 rw[t];have bl:=Src.IG l;have x:=ac (k:=q) a7;unfold eS;by_cases b:0<z l/\24<q
 .have U:(0:Int)<(z l:Int):=a7
  have W:(24:Int)<(q:Int):=a7
  obtain rfl:X=F:=by
   rw[<-t];cases l with
   |nil=>simp at b
   |cons e l=>
     obtain⟨kind,name,e,u,el⟩:=e;have:¬q<=24:=a7;simp[ba,eL,this]
  simp only[go_sem,j6,U,W]
 by_cases G:l=[]
 .subst G
  obtain rfl:X=T:=by rw[<-t];simp[ba]
  exact vr
 have fw:0<z l:=N2.2 G;have Z:(0:Int)<(z l:Int):=a7;have Y:¬(24:Int)<(q:Int):=a7;simp only[go_sem,j6,Z,Y];refine aw (λm K=>∃k:Nat,m+k=z l/\(l.take k).all (eL q)=T/\K.f 1=iv .i64 q/\K.f 14=.one (.d (.sl (l.map smD)))/\K.f 15=iv .i64 (z l)/\K.f 16=iv .i64 k) (z l) ?_ ?_
 .exact UE
 rintro m f g1 av ⟨k,hk,bs,i,E,n,A⟩;simp only at i E n A;have hw:=ac (k:=k) a7;by_cases af:k<z l
 case neg=>
  have Q:¬(k:Int)<(z l:Int):=a7;obtain rfl:k=z l:=a7;rw[s6 (l7 _)]at bs;obtain rfl:X=T:=by rw[<-t,Src.zZ];exact bs
  simp only[go_sem,n,A,Q]
 have Q:(k:Int)<(z l:Int):=a7;have bf:(0:Int)<=(k:Int):=a7;obtain⟨e,v⟩:=getq af;obtain⟨kind,name,w,u,el⟩:=e;have a:=Src.LV (l6 v);rw[szS]at a;have H:smD (.mk kind name w u el)=[.int .i64 kind,.str name,.sl (w.map exD),.sl (u.map smD),.sl (el.map smD)]:=by simp only[smD,aK,dQ]
 have hF:=AZ ho (.mk kind name w u el);have hX:=xo ho (bc w) w (q+1) (l7 _) a7 a7;have I:=B (aD u) a7 u (q+1) (l7 _) a7 a7;have J:=B (aD el) a7 el (q+1) (l7 _) a7 a7;unfold smV at hF;unfold eb at hX;unfold eS at I J;rw[H]at hF;simp only[l9,w9]at hF;have c:q<=24:=a7;simp only[go_sem,i,E,n,A,Q,bf,v,H];refine cG rfl Xn ?_;rintro _ rfl;cases hf:cp kind name (z w) (z u) (z el)
 .obtain rfl:X=F:=by rw[<-t,Src.zZ];exact Src.all_false v (by simp[eL,hf])
  simp only[go_sem,hf]
 simp only[go_sem,i,x];refine cG rfl (by simp only[go_sem,i,x];exact hX) ?_;rintro _ rfl;cases V:bg (q+1) w
 .obtain rfl:X=F:=by rw[<-t,Src.zZ];exact Src.all_false v (by simp[eL,hf,V])
  exact hx
 simp only[go_sem,i,x];refine cG rfl (by simp only[go_sem,i,x];exact I) ?_;rintro _ rfl;cases y:ba (q+1) u
 .obtain rfl:X=F:=by rw[<-t,Src.zZ];exact Src.all_false v (by simp[eL,hf,V,y])
  exact hx
 simp only[go_sem,i,x];refine cG rfl (by simp only[go_sem,i,x];exact J) ?_;rintro _ rfl;cases L:ba (q+1) el
 .obtain rfl:X=F:=by rw[<-t,Src.zZ];exact Src.all_false v (by simp[eL,hf,V,y,L])
  exact hx
 .simp only[go_sem,A,hw]
  refine ah (m-1) a7 ⟨k+1,a7,Src.TR bs v (by simp[eL,hf,V,y,L,c]),?_⟩;simp only[go_sem,i,E,n]
def szP(p:Src.Prog):Nat:=z p.vars+z p.arrays+z p.funcs+(p.funcs.map λf=>z f.params+z f.locals+aD f.body).sum
def kf{p:Src.Prog}{f:Src.Fn}(h:f∈p.funcs):z f.params+z f.locals+aD f.body<=szP p:=by
 have:∀l:List Src.Fn,f∈l->z f.params+z f.locals+aD f.body<=(l.map λf=>z f.params+z f.locals+aD f.body).sum:=by
  intro l
  induction l with
  |nil=>intro h;cases h
  |cons x l a=>
    intro h;rw[l9,D9];rcases A3.1 h with rfl|h
    .omega
    .have:=a h;omega
 have:=this _ h;unfold szP;omega
def CD{o:cF}(ho:jS o)(p:Src.Prog)(az:szP p<=1000000000):bP Tryz.prog 1 o 55 [bS p] (·=bv (dX p)):=by
 refine hdG Tryz.func55 rfl [.tmp 2] λO bn s0 w0 g=>?_;obtain⟨X,E⟩:∃X,dX p=X:=⟨_,rfl⟩
 rw[E];obtain⟨vs,b,fs⟩:=p;have u:=az;unfold szP at az;simp only at az;unfold dX at E;simp only at E;unfold bS iH;by_cases U:z fs<1
 .have c:(z fs:Int)<1:=a7
  obtain rfl:X=F:=by rw[<-E];simp;omega
  simp only[go_sem,j6,c]
 have c:¬(z fs:Int)<1:=a7;by_cases h2:64<z fs
 .have e:(64:Int)<(z fs:Int):=a7
  obtain rfl:X=F:=by rw[<-E];simp;omega
  simp only[go_sem,j6,c,e]
 have e:¬(64:Int)<(z fs:Int):=a7;have hA:=pK ho vs a7;unfold uz at hA;simp only[go_sem,j6,c,e];refine cG rfl (by simp only[go_sem];exact hA) ?_;rintro _ rfl;cases hv:vs.all aT
 .obtain rfl:X=F:=by rw[<-E];simp[hv]
  exact hx
 simp only[go_sem,j6];refine aw (λm K=>∃k:Nat,m+k=z b/\(b.take k).all ij=T/\K.f 1=.one (.ptr 1 (K.gen 1) 0)/\K.obj 1=S [.d (.sl (vs.map λs=>[.str s])),.d (.sl (b.map arD)),.d (.sl (fs.map fnD))]/\K.f 24=.one (.d (.sl (b.map arD)))/\K.f 25=iv .i64 (z b)/\K.f 26=iv .i64 k) (z b) ?_ ?_
 .exact UE
 clear g;rintro m f g ob ⟨k,hk,bs,J,o1,Z,i,j⟩;simp only at J o1 Z i j;have W:=ac (k:=k) a7;by_cases af:k<z b
 .have Q:(k:Int)<(z b:Int):=a7
  have bf:(0:Int)<=(k:Int):=a7;obtain⟨⟨I,sz⟩,G⟩:=getq af;simp only[go_sem,J,o1,Z,i,j,Q,bf,G,arD];refine cG rfl (by simp only[go_sem];exact mq ho I) ?_;rintro _ rfl;cases hb:aT I
  .obtain rfl:X=F:=by rw[<-E,Src.all_false (p:=ij) G (by simp[ij,hb])];simp
   exact hx
  by_cases a1:sz<1
  .obtain rfl:X=F:=by rw[<-E,Src.all_false (p:=ij) G (by simp[ij,hb];omega)];simp
   simp only[go_sem,a1]
  by_cases bl:4096<sz
  .obtain rfl:X=F:=by rw[<-E,Src.all_false (p:=ij) G (by simp[ij,hb];omega)];simp
   simp only[go_sem,a1,bl]
  simp only[go_sem,a1,bl,j,W];refine ah (m-1) a7 ⟨k+1,a7,Src.TR bs G (by simp[ij,hb];omega),?_⟩;simp only[go_sem,J,o1,Z,i]
 have Q:¬(k:Int)<(z b:Int):=a7;obtain rfl:k=z b:=a7;rw[s6 (l7 _)]at bs;simp only[go_sem,J,o1,i,j,Q,j6];refine aw (λm K=>∃k:Nat,m+k=z fs/\(fs.take k).all fp=T/\K.f 46=.one (.d (.sl (fs.map fnD)))/\K.f 47=iv .i64 (z fs)/\K.f 48=iv .i64 k) (z fs) ?_ ?_
 .exact UE
 clear J o1 Z i j af Q W hk;rintro m f g ob ⟨k,hk,a,Y,ad,n⟩;simp only at Y ad n;have W:=ac (k:=k) a7;by_cases af:k<z fs
 case neg=>
  have Q:¬(k:Int)<(z fs:Int):=a7;obtain rfl:k=z fs:=a7;rw[s6 (l7 _)]at a;obtain rfl:X=T:=by rw[<-E,bs,a,hv,C9 (show 1<=z fs/\z fs<=64 by omega)];rfl
  simp only[go_sem,ad,n,Q]
 have Q:(k:Int)<(z fs:Int):=a7;have bf:(0:Int)<=(k:Int):=a7;obtain⟨x,G⟩:=getq af;have B:=kf (p:=⟨vs,b,fs⟩) (l6 G);obtain⟨I,H,V,w,body⟩:=x;simp only at B;have r:=pK ho H a7;have t:=pK ho V a7;have hB:=xp ho (aD body) body 1 (l7 _) a7 a7;unfold uz at r t;unfold eS at hB;have L:∀{y:Bool},fp ⟨I,H,V,w,body⟩=y->y=F->X=F:=λU h2=>by rw[<-E,Src.all_false (p:=fp) G (by rw[U,h2])];simp
 simp only[go_sem,Y,ad,n,Q,bf,G,fnD];refine cG rfl (by simp only[go_sem];exact mq ho I) ?_;rintro _ rfl;cases hb:aT I
 .obtain rfl:=L rfl (by simp[fp,hb])
  exact hx
 by_cases A:6<z H
 .have l:(6:Int)<(z H:Int):=a7
  obtain rfl:=L rfl (by simp[fp,hb];omega);simp only[go_sem,j6,l]
 have l:¬(6:Int)<(z H:Int):=a7;have h:z H<=6:=a7;simp only[go_sem,j6,l];refine cG rfl (by simp only[go_sem];exact r) ?_;rintro _ rfl;cases b7:H.all aT
 .obtain rfl:=L rfl (by simp only[fp,hb,h,b7];simp)
  exact hx
 simp only[go_sem];refine cG rfl (by simp only[go_sem];exact t) ?_;rintro _ rfl;cases q:V.all aT
 .obtain rfl:=L rfl (by simp only[fp,hb,h,b7,q];simp)
  exact hx
 simp only[go_sem];refine cG rfl WH ?_;rintro _ rfl;cases v:ba 1 body
 .obtain rfl:=L rfl (by simp only[fp,hb,h,b7,q,v];simp)
  exact hx
 simp only[go_sem,n,W];refine ah (m-1) a7 ⟨k+1,a7,Src.TR a G (by simp only[fp,hb,h,b7,q,v];simp),?_⟩;simp only[go_sem,Y,ad]
end
end Go.Proofs.YtlacbjnmkhndiaaGreatDoor
namespace Go.Src
section
open Go.Asm (Str digit letter ew iO)
section
section
variable{ts:List Tok}
end
end
end
end Go.Src
namespace Go.Proofs.YtlacbjnmkhndiaaGreatDoor
section
open Go Go.Am Go.Asm
open Go.Src (PR Ex Stm)
def iW(p:Src.Prog):List C:=(iH p).map .d
structure RdG (i:Str) (c:Nat) (g:Nat->Nat) (ob:Obs) (s:St):Prop where
 f0:s.f 0=sv i
 f1:s.f 1=.one (.clo 53 [.ptr c (g c) 0])
 f4:s.f 4=.one (.ptr 104 (nxC 4 (g 104)) 0)
 f5:s.f 5=.one (.ptr 105 (nxC 33 (g 105)) 0)
 gn:s.gen=upd (upd g 104 (nxC 4 (g 104))) 105 (nxC 33 (g 105))
 on:s.obj=upd (upd ob 104 (some [.d (.int .i64 0)])) 105 (some [.d (.int .i64 0)])
structure RdE (c:Nat) (g:Nat->Nat) (ob:Obs) (s:St):Prop where
 f4:s.f 4=.one (.ptr 104 (nxC 4 (g 104)) 0)
 f5:s.f 5=.one (.ptr 105 (nxC 33 (g 105)) 0)
 g4:s.gen 104=nxC 4 (g 104)
 g5:s.gen 105=nxC 33 (g 105)
 o4:s.obj 104=some [.d (.int .i64 0)]
 o5:s.obj 105=some [.d (.int .i64 0)]
 gc:s.gen c=g c
 fr:∀i,i<100->i≠c->s.gen i=g i/\s.obj i=ob i
def Ox:Src.Prog:=⟨[],[],[]⟩
def GN(r:Src.Prog×Nat×Nat):AV:=.tup [bS r.1,iv .i64 (r.2.1:Nat),iv .i64 (r.2.2:Nat)]
end
section
open Go Go.Am Go.Asm
open Go.Src (PR Ex Stm)
attribute[local congr]ite_cc
section
def vD(b:Bool):Str:=[102,117,110,99,32,109,97,105,110,40,41,32,123,32,112,117,116,40,54,53,41]++if b then [59,32,125]else [32,125]
def Ud(b:Bool):Src.Xk (vD b)=(tT b,0,0):=by cases b<;>decide +kernel
def Ue(b:Bool):z (tT b)=if b then 11 else 10:=by cases b<;>rfl
variable{g:Nat->Nat}
def Md{b:Bool}{fin gr gc:Nat}{ob:Obs}(bk:∀i,200<=i->ob i=N)(ho:ob 125=S (rdC (tT b) 0 fin))(I:∃x y X,ob 5=S [x,y,X])(r:g 125=gr)(a:g 5=gc):
  cM Tryz.prog 53 [.one (.ptr 125 gr 0),jY (.ptr 5 gc 0)] g ob (λ_ g' Y=>g'=g/\b=T/\Y=upd (upd ob 125 (S (rdC (tT b) 11 fin))) 5 (S (iW p65))) (NoR (tT b) fin (oT b p65 11) g ob):=by
 obtain⟨x,y,X,I⟩:=I;subst r a;refine hdX 1000 Tryz.func53 rfl [] λO bn s0 w0=>?_;simp only[go_sem];refine DA aa rfl (by simp only[go_sem];exact PT 200 g ob a7 bk ho) ?_;rintro _ g' Y ⟨rfl,p,m,d,rfl,rfl⟩;obtain⟨rfl,rfl,rfl⟩:=Ag d;unfold bS iH;simp only[go_sem,jY,I];exact⟨_,ae.refl _,rfl,rfl⟩
def Nq(b:Bool)(g:Nat->Nat)(ob:Obs)(r:AV)(g':Nat->Nat)(Y:Obs):Prop:=
 (∀i,i<100->i≠5->g' i=g i/\Y i=ob i)/\g' 5=g 5/\if b then r=.tup [iv .i64 0,iv .i64 0]/\Y 5=S (iW p65)else r=.tup [iv .i64 22,iv .i64 3]
def PU{o:cF}(ho:jS o){b:Bool}{ob:Obs}(bk:∀i,100<=i->ob i=N)(I:∃x y X,ob 5=S [x,y,X]):
  Fk Tryz.prog 1 o 52 [sv (vD b),.one (.clo 53 [.ptr 5 (g 5) 0])] g ob (Nq b g ob):=by
 obtain⟨cx,cy,cz,I⟩:=I;refine⟨⟨_,Tryz.func52,j0,c9⟩,λO al β a fa w vs b2 Z bz hv=>?_⟩;refine jZ (n:=0) (callsIn_of_wp_defers Tryz.func52 j0 trivial ?_);have V:=np (al:=Tryz.f52.ntmps) (by simp[Tryz.ntmps52]) bz hv;refine ro (B:=100) (ds:=[]) aA mixed lE c9 c9 V ⟨⟨b2,Z⟩,rfl,Tr.refl⟩ (K:=RdG (vD b) 5 g ob) ?_ ?_
 .simp only[go_sem]
  exact⟨rfl,rfl,rfl,rfl,rfl,rfl⟩
 rintro s1 l a1 b' w1 k1 b1 c;refine ro (B:=100) aA mixed lE c9 c9 b1 c (K:=λs=>RdG (vD b) 5 g ob s/\s.f 6=.one (.d (jW (tT b)))/\s.f 8=iv .i64 0) ?_ ?_
 .obtain⟨f,g1,av⟩:=s1
  obtain⟨q0,q1,q4,q5,rfl,rfl⟩:=k1;simp only at q0 q1 q4 q5;simp only[go_sem,q0];refine mf lE (λs β ds w h=>h.1.2) rfl (by simp only[go_sem,q0];exact TM ho (vD b)) (by simp only[go_sem,q0];rfl) ?_;rintro _ rfl;rw[Ud];unfold TK;simp only[go_sem];refine⟨?_,?_,?_,?_,rfl,rfl⟩<;>(simp only[go_sem,q0,q1,q4,q5])
 rintro s2 ad a2 az w2 ⟨k2,P,k8⟩ Q b3;refine ro (B:=100) aA mixed lE c9 c9 Q b3 (K:=λs=>RdG (vD b) 5 g ob s/\s.f 6=.one (.d (jW (tT b)))) ?_ ?_
 .obtain⟨f,g1,av⟩:=s2
  obtain⟨q0,q1,q4,q5,rfl,rfl⟩:=k2;simp only at q0 q1 q4 q5 P k8;simp only[go_sem,k8,P];refine⟨?_,?_,?_,?_,rfl,rfl⟩<;>(simp only[go_sem,q0,q1,q4,q5])
 rintro s3 r E b5 w3 ⟨k3,P⟩ L bd;obtain rfl:b5=[]:=bd.2.1;refine DC (B:=100) (t:=20) (f:=81) (q:=[.ptr 104 (nxC 4 (g 104)) 0,.ptr 105 (nxC 33 (g 105)) 0]) aA lE rfl rfl rfl (λd h=>by cases h;simp[Tryz.ntmps52]) rfl rfl L bd (K:=λs=>RdG (vD b) 5 g ob s/\s.f 6=.one (.d (jW (tT b)))) ?_ ?_
 .obtain⟨f,g1,av⟩:=s3
  obtain⟨q0,q1,q4,q5,rfl,rfl⟩:=k3;simp only at q0 q1 q4 q5 P;simp only[go_sem,q4,q5,P];refine⟨?_,?_,?_,?_,rfl,rfl⟩<;>(simp only[go_sem,q0,q1,q4,q5])
 rintro s4 ca a4 w4 vs ⟨k4,P⟩ b6 bo an;obtain⟨f4,g4,bf⟩:=s4;obtain⟨q0,q1,q4,q5,rfl,rfl⟩:=k4;simp only at q0 q1 q4 q5 P;unfold Nq
 refine DB (B:=100) aA mixed (vO (d:=[⟨.fn (.func 81) vs.toArray,#[]⟩])) (λch s=>(b=F/\ch=xn 22)/\RdE 5 g ob s)
  (λe s=>e=.ret/\(b=T/\s.obj 5=S (iW p65))/\RdE 5 g ob s) c9 c9 b6 ⟨rfl,Tr.refl⟩ ?_ ?_
 .simp only[go_sem,q0,q1,q4,q5,P]
  refine aN (f:=53) (q:=[.ptr 5 (g 5) 0]) vO rfl (by simp only[go_sem,q1]) (by simp only[go_sem];exact Md (b:=b) (fin:=z (vD b)) (λi hi=>by simp only[upd];(repeat rw[j8 (by omega)]);exact bk i (by omega)) (by simp[upd,rdC]) ⟨cx,cy,cz,by simp[upd,I]⟩ (by simp[upd]) (by simp[upd])) ?_ ?_
  .rintro ch g' Y ⟨rfl,m,hp,rfl,rfl⟩
   obtain rfl:b=F:=by cases b;rfl;cases hp
   have hp:(PR.no 9:PR Src.Prog)=.no m:=hp;cases hp;refine⟨⟨rfl,rfl⟩,?_⟩;exact s8
  .rintro _ g' Y ⟨rfl,rfl,rfl⟩
   unfold rdC jW;simp only[go_sem];refine aF c8 ?_;simp only[go_sem,j6,Ue,q4,q5];exact s8
 rintro e W A a' H G bl b4 ⟨rfl,a6⟩;rcases bl with⟨rfl,⟨rfl,b7⟩,z4,z5,e4,e5,o4,o5,gc,hF⟩|⟨ch,rfl,⟨rfl,rfl⟩,z4,z5,e4,e5,o4,o5,gc,hF⟩
 .show LeavesIn _ _ _ _ a'.tmps _ _ _ _
  refine AD (B:=200) (fnD:=Tryz.f81) aA mixed Tryz.func81 j0 c9 rfl rfl rfl rfl rfl rfl WN WN j0 c9 c9 (aA 20 rfl).desc b4 (aH.keep a6.keep _ an) WN
   (K:=λg' Y=>g'=W.gen/\Y=W.obj) ?_ ?_
  .intro bn s0 w0
   exact hx
  .rintro _ _ bs w6 ⟨rfl,rfl⟩ p b0
   have hE:lC Tt ⟨W.f,W.gen,W.obj⟩ [.cell 4 3,.cell 5 32] (bx λj=>pack j=.tup [iv .i64 0,iv .i64 0]):=by
    simp only[go_sem,z4,z5,e4,e5,o4,o5];rfl
   obtain⟨v,j,U,h2,h3,_⟩:=eG (fn:=Tryz.f52) aA p j0 hE;refine⟨v,U,v,_,_,_,bs,rfl,⟨λi hi af=>hF i hi af,gc,h2,b7⟩,h3,p.obj,p.inj,?_⟩;have J:=(bo.2.2.trans a6).trans b0;exact⟨J.size,J.old,J.keep,J.os⟩
 show LeavesIn _ _ _ _ a'.tmps _ _ _ _
 refine AB (B:=200) (fnD:=Tryz.f81) aA mixed Tryz.func81 j0 c9 rfl rfl rfl rfl rfl rfl WN WN j0 c9 c9 (aA 20 rfl).desc (t:=174) (u:=.agg #[.int .i64 (22:Nat)]) b4 (aH.keep a6.keep _ an) WN
  (K:=λg' Y=>g' 104=nxC 4 (g 104)/\g' 105=nxC 33 (g 105)/\Y 104=S [.d (.int .i64 22)]/\Y 105=S [.d (.int .i64 3)]/\g' 5=g 5/\∀i,i<100->i≠5->g' i=g i/\Y i=ob i) ?_ ?_
 .intro bn s0 w0
  simp only[go_sem];refine wY (k:=bx _) aa rfl (aA 174 rfl).desc (kd:=.i64) (n:=(22:Nat)) Vy ?_;simp only[go_sem,e4,e5,o4,o5,jY,gc];intro i hi af;have U:=(hF i a7 af).1;have h2:=(hF i a7 af).2
  (repeat rw[j8 (by omega)])
  exact⟨U,h2⟩
 .rintro g' Y bs w6 ⟨x4,x5,y4,y5,b8,ar⟩ p b0
  have hE:lC Tt ⟨W.f,g',Y⟩ [.cell 4 3,.cell 5 32] (bx λj=>pack j=.tup [iv .i64 22,iv .i64 3]):=by
   simp only[go_sem,z4,z5,x4,x5,y4,y5];rfl
  obtain⟨v,j,U,h2,h3,_⟩:=eG (fn:=Tryz.f52) aA p j0 hE;refine⟨v,U,v,_,_,_,bs,rfl,⟨ar,b8,h2⟩,h3,p.obj,p.inj,?_⟩;have J:=(bo.2.2.trans a6).trans b0;exact⟨J.size,J.old,J.keep,J.os⟩
def rT(b:Bool):Src.Prog×Nat×Nat:=if b then(p65,0,0)else(Ox,22,3)
def PV{o:cF}(ho:jS o)(b:Bool):bP Tryz.prog 1 o 30 [sv (vD b)] (·=GN (rT b)):=by
 refine hdG Tryz.func30 rfl [.cell 2 26,.tmp 3,.tmp 4] λO bn s0 w0 g=>?_;simp only[go_sem];refine Dy aE (λs j ds w h=>h.1) rfl (by simp only[go_sem];exact PU ho (λi l=>by simp only[upd];(repeat rw[j8 (by omega)])) ⟨_,_,_,by simp[upd];exact⟨rfl,rfl,rfl⟩⟩) ?_;rintro r n t ⟨f1,gc,U⟩;have d:=(f1 2 b9 b9).1;have e:=(f1 2 b9 b9).2;simp[upd]at d e gc;cases b
 .obtain rfl:r=_:=U
  simp only[go_sem,d,e];exact⟨_,⟨_,⟨_,_,rfl,ux [.nsl,.nsl,.nsl],_,_,rfl,ke _,_,_,rfl,ke _,rfl⟩,rfl⟩,rfl⟩
 .obtain⟨rfl,c⟩:=U
  unfold iW iH at c;have a:=CD ho p65 b9;rw[show Src.dX p65=T by decide +kernel]at a;unfold bS iH at a;simp only[go_sem,d,e,gc,c];refine cG rfl (by simp only[go_sem];exact a) ?_;rintro _ rfl;simp only[go_sem,d,e,gc,c];exact⟨_,⟨_,⟨_,_,rfl,ux (iH p65),_,_,rfl,ke _,_,_,rfl,ke _,rfl⟩,rfl⟩,rfl⟩
end
end
end Go.Proofs.YtlacbjnmkhndiaaGreatDoor
namespace Go.Src
section
open Go.Asm (Str)
section
abbrev Th:=Str×Nat×Nat
def aG:List Th->Str->Option (Nat×Nat)
 |[],_=>N
 |t::l,s=>if t.1=s then S t.2 else aG l s
def lf(l m:List Th)(s:Str):aG (l++m) s=match aG l s with|some x=>S x|none=>aG m s:=by
 induction l with
 |nil=>rfl
 |cons t l a=>simp only[C3,aG];split<;>simp_all
def dw:∀{l:List Th}{s:Str}{x:Nat×Nat},aG l s=S x->(s,x)∈l
 |t::l,s,x,h=>by
   unfold aG at h;split at h
   .rename_i e;cases h;subst e;simp
   .exact P4 _ (dw h)
def bR:List Th->List Th->Bool
 |_,[]=>T
 |seen,t::l=>(aG seen t.1).isNone&&bR (seen++[t]) l
def qW(t:Th):∀(l a:List Th),bR a (l++[t])=(bR a l&&(aG (a++l) t.1).isNone)
 |[],a=>by simp[bR]
 |x::l,a=>by simp only[C3,bR,qW t l];rw[u7,I5,F3]
def thV(vs:List Str):List Th:=vs.mapIdx λi n=>(n,2,i)
def thA(o:List (Str×Int)):List Th:=o.mapIdx λi a=>(a.1,3,i)
def thF(fs:List Fn):List Th:=fs.mapIdx λi f=>(f.name,4,i)
def aO(p:Prog):List Th:=thV p.vars++thA p.arrays++thF p.funcs
def thL(k:Nat)(m:List Str):List Th:=m.mapIdx λi n=>(n,1,k+i)
def aV(f:Fn):List Th:=thL 0 f.params++thL (z f.params) f.locals
def aQ(o i:List Th)(s:Str):Option (Nat×Nat):=match aG i s with|some x=>S x|none=>aG o s
def bj(g:Str->Option (Nat×Nat))(i:Nat)(kind:Nat)(name:Str):Bool:=
 match g name with
 |none=>F
 |some (k,n)=>if kind=2 then k == 1 || k == 2 else if kind=3 then k == 3 else k == 4 && decide (n<i)
def eP(g:Str->Option (Nat×Nat))(fs:List Fn)(i:Nat)(kind:Nat)(name:Str)(args:Nat):Bool:=
 match g name with
 |none=>T
 |some (k,n)=>if kind=4/\k=4/\n<i then(match fs[n]? with|some f=>z f.params == args|none=>T)else T
mutual
def okE(u:Nat->Str->Nat->Bool):Ex->Bool
 |.mk kind _ _ name kids=>(if kind=2 then u 2 name 0 else if kind=3 then u 3 name 0 else if kind=4 then u 4 name (z kids)else T) && df u kids
def df(u:Nat->Str->Nat->Bool):List Ex->Bool
 |[]=>T
 |e::l=>okE u e&&df u l
end
mutual
def okS(u:Nat->Str->Nat->Bool):Stm->Bool
 |.mk kind name e a el=>(if kind=1 then u 2 name 0 else if kind=2 then u 3 name 0 else if kind=6 then u 4 name (z e)else T) && df u e && dy u a && dy u el
def dy(u:Nat->Str->Nat->Bool):List Stm->Bool
 |[]=>T
 |s::l=>okS u s&&dy u l
end
def jw(p:Prog)(i:Nat)(f:Fn):Bool:=bR [] (aV f)&&dy (λk n _=>bj (aQ (aO p) (aV f)) i k n) f.body
def xN(p:Prog)(i:Nat)(f:Fn):Bool:=dy (λk n a=>eP (aQ (aO p) (aV f)) p.funcs i k n a) f.body
def bp{A:Type}(c:Nat->A->Bool):Nat->List A->Bool
 |_,[]=>T
 |i,a::l=>c i a&&bp c (i+1) l
def Aa{A:Type}(c:Nat->A->Bool)(x:A):∀(l:List A)(i:Nat),bp c i (l++[x])=(bp c i l&&c (i+z l) x)
 |[],i=>by simp[bp]
 |a::l,i=>by simp only[C3,bp,Aa c x l,j9,F3];rw[show i+1+z l=i+(z l+1) by omega]
def Np:Str:=[109,97,105,110]
def iZ(p:Prog):Nat:=
 if (bR [] (aO p) && bp (jw p) 0 p.funcs)=F then 4
 else match p.funcs.getLast? with
  |none=>0
  |some f=>if bp (xN p) 0 p.funcs=T/\f.name=Np/\f.params=[]/\f.word=F then 0 else 1
variable{s:Str}{k n:Nat}{fs:List Str}
def IH{fs:List Fn}(h:(s,k,n)∈thF fs):k=4/\n<z fs:=by
 simp only[thF,J1]at h;obtain⟨i,a,e⟩:=h;cases e;exact⟨rfl,a⟩
def TT(h:(s,k,n)∈thV fs):k=2:=by
 simp only[thV,J1]at h;obtain⟨i,a,e⟩:=h;cases e;rfl
def TU{fs:List (Str×Int)}(h:(s,k,n)∈thA fs):k=3:=by
 simp only[thA,J1]at h;obtain⟨i,a,e⟩:=h;cases e;rfl
def De{j:Nat}(h:(s,k,n)∈thL j fs):k=1/\n<j+z fs:=by
 simp only[thL,J1]at h;obtain⟨i,a,e⟩:=h;cases e;exact⟨rfl,a7⟩
def QF{p:Prog}{f:Fn}{n:Nat}(h:aQ (aO p) (aV f) s=S (4,n)):n<z p.funcs:=by
 unfold aQ at h;split at h
 .rename_i a
  cases h;have:=dw a;unfold aV at this;rcases C4.1 this with h|h
  .exact absurd (De h).1 b9
  .exact absurd (De h).1 b9
 .have:=dw h
  unfold aO at this;rcases C4.1 this with h|h
  .rcases C4.1 h with h|h
   .exact absurd (TT h) b9
   .exact absurd (TU h) b9
  .exact(IH h).2
end
end
end Go.Src
