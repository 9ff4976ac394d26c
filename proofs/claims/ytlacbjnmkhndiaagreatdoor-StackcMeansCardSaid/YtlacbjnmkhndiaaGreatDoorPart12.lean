/- A part of the proof; no conditions. -/
import Derived.Test.YtlacbjnmkhndiaaGreatDoorPart11
set_option linter.unusedSimpArgs false
set_option linter.unusedVariables false
set_option linter.defProp false
open List renaming length -> z
open Option renaming some -> S, none -> N
open Bool renaming true -> T, false -> F
set_option maxHeartbeats 64000000
set_option maxRecDepth 100000
namespace Go.Am
section
attribute [local congr] Go.Am.ite_cc
def nu{P:Prop}(h:P:=by (try simp only[upd]);(repeat rw[j8 (by omega)])):P:=h
def nt{P Q:Prop}(q:Q)(h:P=Q:=by (try simp only[upd]);(repeat rw[j8 (by omega)])):P:=h▸q
def fi{av bo:Obs}{B b:Nat}(hf:∀i,B<=i->av i=N)(h:∀i,b<=i->B<=i/\bo i=av i:=by (intro i hi;refine⟨by omega,?_⟩;(try simp only[upd]);(repeat rw[j8 (by omega)]))):∀i,b<=i->bo i=N:=λi hi=>(h i hi).2.trans (hf i (h i hi).1)
end
end Go.Am
namespace Go.Proofs.YtlacbjnmkhndiaaGreatDoor
section
attribute [local congr] Go.Am.ite_cc
open Go Go.Am Go.Asm
open Go.Src (PR fc eV takeN eE)
section
def rdC(ts:List Src.Tok)(n fin:Nat):List C:=[.d (jW ts),.d (.int .i64 (n:Nat)),.d (.int .i64 (fin:Nat))]
def CC(ts:List Src.Tok)(fin n:Nat):Nat:=match ts[n]? with|some t=>t.place|none=>fin
def xn(k:Nat):List PanicEntry:=[{v:=.iface 174 (.agg #[.int .i64 (k:Nat)]),recovered:=F}]
variable{ts:List Src.Tok}{g:Nat->Nat}{ob:Obs}{B:Nat}{s:St}{n fin:Nat}{y:Option (List C)}
def qB{n:Nat}{t:Src.Tok}(h:ts[n]?=S t):(ts.map rV)[n]?=S [.int .i64 (t.kind:Nat),.str t.text,.int .u32 (t.num:Nat),.int .i64 (t.place:Nat)]:=by rw[x8,h];rfl
def OkR{A:Type}(ts:List Src.Tok)(fin:Nat)(p:PR A)(enc:A->AV)(g:Nat->Nat)(ob:Obs)(r:AV)(g':Nat->Nat)(Y:Obs):Prop:=
 g'=g/\∃a m,p=.ok a m/\r=enc a/\Y=upd ob 125 (S (rdC ts m fin))
def NoR{A:Type}(ts:List Src.Tok)(fin:Nat)(p:PR A)(g:Nat->Nat)(ob:Obs):Pan:=λa g' Y=>
 g'=g/\∃m,p=.no m/\a=xn (CC ts fin m)/\Y=upd ob 125 (S (rdC ts m fin))
def mn{A:Type}(f:FuncId)(xs:List AV)(ts:List Src.Tok)(n fin:Nat)(p:PR A)(enc:A->AV):Prop:=
 ∀(B:Nat)(g:Nat->Nat)(ob:Obs),200<=B->(∀i,B<=i->ob i=N)->ob 125=S (rdC ts n fin)->
  cM Tryz.prog f (.one (.ptr 125 (g 125) 0)::xs) g ob (OkR ts fin p enc g ob) (NoR ts fin p g ob)
structure InF (B:Nat) (g:Nat->Nat) (ob:Obs) (g':Nat->Nat) (Y:Obs):Prop where
 same:∀i,i<B->i≠125->g' i=g i/\Y i=ob i
 rd:g' 125=g 125
def InF.refl:InF B g ob g ob:=⟨λ_ _ _=>⟨rfl,rfl⟩,rfl⟩
def InF.go{g g1 g2:Nat->Nat}{ob av bo:Obs}(h:InF B g ob g1 av)(q:(∀i,i<B->i≠125->g2 i=g1 i/\bo i=av i)/\g2 125=g1 125:=by (refine⟨λi hi h5=>⟨?_,?_⟩,?_⟩<;>((try simp only[upd]);(repeat rw[j8 (by omega)]);first|done|rfl))):InF B g ob g2 bo:=
 ⟨λi hi h5=>⟨(q.1 i hi h5).1.trans (h.same i hi h5).1,(q.1 i hi h5).2.trans (h.same i hi h5).2⟩,q.2.trans h.rd⟩
def InF.put{B j:Nat}{g a:Nat->Nat}{ob av:Obs}(h:InF B g ob a av)(d:B<=j):InF B g ob a (upd av j y):=⟨λi b c=>⟨(h.same i b c).1,by simp only[upd];rw[j8 a7];exact(h.same i b c).2⟩,h.rd⟩
def InF.newG{B j x:Nat}{g a:Nat->Nat}{ob av:Obs}(h:InF B g ob a av)(d:B<=j)(hB:125<B):InF B g ob (upd a j x) av:=⟨λi b c=>⟨by simp only[upd];rw[j8 a7];exact(h.same i b c).1,(h.same i b c).2⟩,by simp only[upd];rw[j8 a7];exact h.rd⟩
def InF.rdr{g b:Nat->Nat}{ob av:Obs}(h:InF B g ob b av):InF B g ob b (upd av 125 y):=⟨λi c a=>⟨(h.same i c a).1,by simp only[upd];rw[j8 a];exact(h.same i c a).2⟩,h.rd⟩
def InF.ends{B n fin:Nat}{g a:Nat->Nat}{ob av:Obs}(h:InF B g ob a av)(ho:av 125=S (rdC ts n fin)):Fo B [125] g ob a av/\je [125] g a=g/\eY [125] ob av=upd ob 125 (S (rdC ts n fin)):=by
 refine⟨⟨λi b e=>h.same i b (by simpa using e),λi b d Z c E=>?_⟩,Fq h.rd,by rw[Fs,ho]⟩;obtain rfl:=E0.1 b;rw[ho]at Z;cases Z;simp only[rdC,A3,A9,E6]at E;rcases E with rfl|rfl|rfl<;>trivial
def InF.ret{A:Type}{B n fin:Nat}{p:PR A}{enc:A->AV}{j rs:List AV}{a:A}(h:InF B g ob s.gen s.obj)(ho:s.obj 125=S (rdC ts n fin))(b:p=.ok a n)(hf:dY B s j rs)(V:pack rs=enc a):bi B [125] g ob (OkR ts fin p enc g ob) s j:=by
 obtain⟨U,c,d⟩:=h.ends ho;exact⟨U,rs,hf,c,a,n,b,V,d⟩
def InF.pan{A:Type}{B n fin:Nat}{g a:Nat->Nat}{ob av:Obs}{p:PR A}{b:List PanicEntry}(h:InF B g ob a av)(ho:av 125=S (rdC ts n fin))(c:p=.no n)(Z:b=xn (CC ts fin n)):
  Fo B [125] g ob a av/\NoR ts fin p g ob b (je [125] g a) (eY [125] ob av):=by
 obtain⟨U,d,e⟩:=h.ends ho;exact⟨U,d,n,c,Z,e⟩
section
variable{O:Bs}{rd:Option Nat}{e:St->Am.Loc->List Deferred->World->Prop}
def fQ{A c:Type}(a6:aY O e){o:Oper}{K:St->Prop}{k:Box K}{f:FuncId}{args:Array Operand}{tys:Array TypeId}(ho:o.op=.call ⟨.value (.func f),args,tys⟩){xs:List AV}{p:PR A}{enc:A->AV}
 (V:mn f xs ts n fin p enc)(I:args.toList.map s.ev=.one (.ptr 125 (s.gen 125) 0)::xs)(b:Nat)(hB:200<=b)(bk:∀i,b<=i->s.obj i=N)(bl:s.obj 125=S (rdC ts n fin)){B l:Nat}{d:PR c}(q:InF B g ob s.gen s.obj)
 (u:∀m,p=.no m->d=.no m)(t:∀a m,p=.ok a m->K (St.put ⟨s.f,s.gen,upd s.obj 125 (S (rdC ts m fin))⟩ o.dst (enc a))):bm (spF Tryz.prog rd O e l (Fp B [125] g ob (NoR ts fin d g ob))) o s k:=by
 refine cj (R:=OkR ts fin p enc s.gen s.obj) (L:=NoR ts fin p s.gen s.obj) a6 ho (by rw[I];exact V b s.gen s.obj hB bk bl) ?_ ?_
 .rintro w v Y ⟨rfl,m,j,Z,rfl⟩
  exact q.rdr.pan VF (u m j) Z
 .rintro r v Y ⟨rfl,a,m,j,rfl,rfl⟩
  exact t a m j
end
def ux(xs:List D):kR s (.agg (xs.map .d)) (.agg ((xs.map ge).map .d)):=by
 refine⟨xs.map ge,a8,λi c Z=>?_,rfl⟩;rw[x8]at Z|-;cases a:xs[i]? with
 |none=>rw[a]at Z;cases Z
 |some x=>rw[a]at Z;cases Z;exact⟨_,rfl,.d x⟩
def nlo(hB:200<=B)(k:Nat):(125=B+k)=False:=by simp;omega
def nhi(hB:200<=B)(k:Nat):(B+k=125)=False:=by simp;omega
def GK(ho:ob 125=S (rdC ts n fin)):
  fX Tryz.prog 147 [.one (.ptr 125 (g 125) 0)] g ob (λr g' Y=>r=iv .i64 (fc ts n:Nat)/\g'=g/\Y=ob):=by
 refine hdF 9000 Tryz.func147 rfl [2] ?_;unfold rdC jW at ho;have bk:(0:Int)<=(n:Int):=a7;simp only[go_sem];refine bO c8 ?_;unfold fc;by_cases d:n<z ts
 .have G:(n:Int)<(z ts:Int):=a7
  obtain⟨t,b⟩:=getq d;have a:=qB b;rw[b];simp only[go_sem,ho,j6,G];refine bO c8 ?_;simp only[go_sem,ho,bk,a];exact⟨_,ae.refl _,rfl,rfl,rfl⟩
 .have G:¬(n:Int)<(z ts:Int):=a7
  rw[E5 a7];simp only[go_sem,ho,j6,G];exact⟨_,ae.refl _,rfl,rfl,rfl⟩
def AX{B n fin:Nat}(hB:200<=B)(hf:∀i,B<=i->ob i=N)(ho:ob 125=S (rdC ts n fin)):
  fX Tryz.prog 146 [.one (.ptr 125 (g 125) 0)] g ob (λr g' Y=>r=sv (eV ts n)/\g'=g/\Y=ob):=by
 refine Ap B aA mixed Tryz.func146 rfl j0 [2] rfl c9 (by simp[Tryz.ntmps146]) hf ?_;have l:=nlo hB;have m:=nhi hB;unfold rdC jW at ho;have bk:(0:Int)<=(n:Int):=a7;simp only[go_sem];refine bO c8 ?_;unfold eV;by_cases o:n<z ts
 case neg=>
  have G:¬(n:Int)<(z ts:Int):=a7;rw[E5 a7];simp only[go_sem,ho,j6,G]
 have G:(n:Int)<(z ts:Int):=a7;obtain⟨t,j⟩:=getq o;have a:=qB j;rw[j];simp only[go_sem,ho,j6,G];refine fL aA mixed [B+3] [([0],[0],[],F),([14],[0],[],F),([15],[0],[],F),([16],[0],[],F),([0],[0],[],F),([18],[0],[],F),([19],[0],[],F),([20],[0],[],F),([17,21],[0],[],F),([22],[0],[],F),([],[],[0],F),([3,23],[],[],T)] 1 c8 rfl a8 ?_;simp only[go_sem]
 iterate 10 (apply aI;· (intro p ga q d J;simp only[go_sem,ho,bk,a,l,m]at J|-;exact J))
 (apply cJ;· (intro p ga q d J;simp only[go_sem]at J|-;exact J))
 apply cL;intro d k;simp only[go_sem];refine k _ ?_;clear k d;have e:(t.kind=3\/t.kind=4)↔((t.kind:Int)=3\/(t.kind:Int)=4):=a7;have f:∀(x:Nat)(y X:Option (List C)),(∀i,i<B->upd g (B+3) x i=g i)/\∀i,i<B->upd (upd ob (B+3) y) (B+3) X i=ob i:=λx y X=>⟨λi u=>by simp only[upd];rw[j8 a7],λi u=>by simp only[upd];rw[j8 a7,j8 a7]⟩
 by_cases b:(t.kind:Int)=3
 .rw[l8 (e.2 (.inl b))]
  simp only[go_sem,b];exact f _ _ _
 by_cases c:(t.kind:Int)=4
 .rw[l8 (e.2 (.inr c))]
  simp only[go_sem,b,c];exact f _ _ _
 .rw[j8 (λh=>(e.1 h).elim b c)]
  simp only[go_sem,b,c];exact f _ _ _
def Wm(ts:List Src.Tok)(n fin:Nat)(s:Str)(g:Nat->Nat)(ob:Obs)(r:AV)(g':Nat->Nat)(Y:Obs):Prop:=
 g'=g/\((eV ts n=s/\r=bv T/\Y=upd ob 125 (S (rdC ts (n+1) fin)))\/(eV ts n≠s/\r=bv F/\Y=ob))
def Ta{B n fin:Nat}(hB:200<=B)(hf:∀i,B<=i->ob i=N)(ho:ob 125=S (rdC ts n fin))(hn:n<=1000000)(s:Str):
  fX Tryz.prog 83 [.one (.ptr 125 (g 125) 0),sv s] g ob (Wm ts n fin s g ob):=by
 refine hdF B Tryz.func83 rfl [4] ?_;have b:=ac (k:=n) a7;have q:=ho;unfold rdC jW at ho;simp only[go_sem];refine ck rfl (by simp only[go_sem];exact AX hB hf q) ?_;rintro _ d e ⟨rfl,rfl,rfl⟩;by_cases a:eV ts n=s
 .simp only[go_sem,a,ho,b]
  refine⟨_,ae.refl _,rfl,.inl ⟨a,rfl,?_⟩⟩;simp only[go_sem,rdC,jW]
 .simp only[go_sem,a]
  exact⟨_,ae.refl _,rfl,.inr ⟨a,rfl,rfl⟩⟩
def GM(ho:ob 125=S (rdC ts n fin)):
  cM Tryz.prog 82 [.one (.ptr 125 (g 125) 0)] g ob (λ_ _ _=>False) (λd g' Y=>d=xn (CC ts fin n)/\g'=g/\Y=ob):=by
 refine hdX 9000 Tryz.func82 rfl [] λO bn s0 w0=>?_;unfold rdC jW at ho;have bk:(0:Int)<=(n:Int):=a7;simp only[go_sem];refine aF c8 ?_;unfold CC;by_cases e:n<z ts
 .have G:(n:Int)<(z ts:Int):=a7
  obtain⟨t,b⟩:=getq e;have a:=qB b;rw[b];simp only[go_sem,ho,j6,G];refine aF c8 ?_;simp only[go_sem,ho,bk,a];refine tU (k:=bx _) aa rfl (aA 174 rfl).desc (by simp only[go_sem];exact⟨rfl,rfl⟩) ?_;simp only[go_sem];refine tV (k:=bx _) (t:=174) (u:=.agg #[.int .i64 (t.place:Nat)]) rfl Vy ?_;exact⟨rfl,rfl,rfl⟩
 .have G:¬(n:Int)<(z ts:Int):=a7
  rw[E5 a7];simp only[go_sem,ho,j6,G];refine tU (k:=bx _) aa rfl (aA 174 rfl).desc (by simp only[go_sem];exact⟨rfl,rfl⟩) ?_;simp only[go_sem];refine tV (k:=bx _) (t:=174) (u:=.agg #[.int .i64 (fin:Nat)]) rfl Vy ?_;exact⟨rfl,rfl,rfl⟩
end
end
section
attribute [local congr] Go.Am.ite_cc
open Go Go.Am Go.Asm
open Go.Src (PR fc eV takeN eE Ex)
section
variable{ts:List Src.Tok}
def Kg{kd n:Nat}{t:Src.Tok}(a:ts[n]?=S t)(b:t.kind=kd):takeN ts kd n=.ok t (n+1):=by unfold takeN;rw[a];simp[b]
def GQ(ts:List Src.Tok)(n fin kd:Nat)(hn:n<=1000000)(G:0<kd):mn 85 [iv .i64 kd] ts n fin (takeN ts kd n) vz:=by
 intro B g ob hB hf ho;refine hdM B [125] Tryz.func85 rfl [.cell 4 179] VC hf λO bn s0 w0=>?_;have w:=ac (k:=n) a7;have bk:(0:Int)<=(n:Int):=a7;have j:=nlo hB;have l:=nhi hB;have X:∀y,upd ob (B+4) y 125=S (rdC ts n fin):=λy=>by simp only[upd];rw[j8 a7];exact ho
 have u:∀x,upd g (B+4) x 125=g 125:=λx=>by simp only[upd];rw[j8 a7]
 simp only[go_sem,j,l];refine dj aa rfl (by simp only[go_sem,j,l];rw[<-u (nxC 180 (g (B+4)))];exact GK (X _)) ?_;rintro _ H I ⟨rfl,rfl,rfl⟩;by_cases b:fc ts n=kd
 case neg=>
  have Q:¬(fc ts n:Int)=(kd:Int):=a7
  have o:takeN ts kd n=.no n:=by
   unfold takeN;unfold fc at b;cases q:ts[n]? with
   |none=>rfl
   |some t=>rw[q]at b;simp only at b;simp[b]
  simp only[go_sem,Q];refine cj (R:=λ_ _ _=>False) aa rfl (by simp only[go_sem,j,l];rw[<-u (nxC 180 (g (B+4)))];exact GM (X _)) ?_ (λ_ _ _ h=>h.elim);rintro K L Y ⟨rfl,rfl,rfl⟩;exact((InF.refl.newG a7 a7).put a7).pan (X _) o rfl
 have Q:(fc ts n:Int)=(kd:Int):=a7
 obtain⟨t,r⟩:∃t,ts[n]?=S t:=by
  unfold fc at b;cases q:ts[n]? with
  |some t=>exact⟨t,rfl⟩
  |none=>rw[q]at b;simp only at b;omega
 have a:=qB r;have e:t.kind=kd:=by unfold fc at b;rw[r]at b;exact b
 have o:=Kg r e;unfold rdC jW at ho;simp only[go_sem,Q];refine oq (B:=B) aA mixed aa [B+5] [([0],[0],[],F),([12],[0],[],F),([13],[0],[],F),([14],[0],[],F),([0],[0],[],F),([16],[0],[],F),([17],[0],[],F),([18],[0],[],F),([15,19],[0],[],F),([20],[0],[],F),([],[],[0],F),([5,21],[],[],T)] 1 rfl c8 rfl a8 ?_;simp only[go_sem]
 iterate 10 (apply aI;· (intro A ga E s J;simp only[go_sem,ho,bk,a,j,l]at J|-;exact J))
 (apply cJ;· (intro A ga E s J;simp only[go_sem]at J|-;exact J))
 apply cL;intro s v;simp only[go_sem];refine v _ ?_;clear v s;simp only[go_sem,ho,w,j,l];refine⟨_,ae.refl _,?_⟩;simp only[go_sem,j,l];refine InF.ret (rs:=[vz t]) (B:=B) (n:=n+1) (p:=takeN ts kd n) (enc:=vz) ?_ ?_ o ?_ rfl
 .exact(((((InF.refl.newG a7 a7).newG a7 a7).put a7).put a7).put a7).rdr.put a7
 .simp only[go_sem,j,l,rdC,jW]
 .exact⟨_,_,rfl,.agg (xs:=rV t) rfl (λi c Z=>by
   match i,Z with
   |0,Z=>cases Z;exact⟨_,rfl,.d _⟩
   |1,Z=>cases Z;exact⟨_,rfl,.d _⟩
   |2,Z=>cases Z;exact⟨_,rfl,.d _⟩
   | 3,Z=>cases Z;exact⟨_,rfl,.d _⟩),rfl⟩
def jH(l:List Str):List C:=l.map λs=>.d (.str s)
def Oz{B n fin j:Nat}{g:Nat->Nat}{ob:Obs}(l:List Str)(hB:200<=B)(hf:∀i,B<=i->ob i=N)(ho:ob 125=S (rdC ts n fin))(hn:n+z l<=1000000)(W:j<B)(y:j≠125)(c:ob j=S (jH l)):
  cM Tryz.prog 86 [.one (.ptr 125 (g 125) 0),.one (.osl j (g j) 1 0 (z l))] g ob (OkR ts fin (eE ts l n) (λ_=>uv) g ob) (NoR ts fin (eE ts l n) g ob):=by
 refine hdM B [125] Tryz.func86 rfl [] VC hf λO bn s0 w0=>?_;have Z:=nlo hB;have n2:=nhi hB;obtain⟨p,G⟩:∃p,eE ts l n=p:=⟨_,rfl⟩
 rw[G];simp only[go_sem];refine⟨by rw[c];rfl,?_⟩;refine aw (λm K=>∃k:Nat,m+k=z l/\K.f 0=.one (.ptr 125 (g 125) 0)/\K.f 6=.one (.osl j (g j) 1 0 (z l))/\K.f 7=iv .i64 (z l)/\K.f 8=iv .i64 k/\K.gen=g/\K.obj=upd ob 125 (S (rdC ts (n+k) fin))/\eE ts (l.drop k) (n+k)=p) (z l) ?_ ?_
 .refine⟨0,rfl,?_⟩
  simp only[go_sem];refine⟨?_,by simpa using G⟩;funext i;simp only[upd,J6];split
  .rename_i e;subst e;exact ho
  .rfl
 rintro m f g1 av ⟨k,hk,t,x,u,v,rfl,rfl,b⟩;simp only at t x u v;have H:=ac (k:=k) a7;have I:=ac (k:=n+k) a7;have X:upd ob 125 (S (rdC ts (n+k) fin)) 125=S (rdC ts (n+k) fin):=by simp[upd]
 have J:∀i,B<=i->upd ob 125 (S (rdC ts (n+k) fin)) i=N:=λi L=>by simp only[upd];rw[j8 a7];exact hf i L
 by_cases A:k<z l
 case neg=>
  have Q:¬(k:Int)<(z l:Int):=a7;obtain rfl:k=z l:=a7;rw[y9 (l7 _)]at b;simp only[go_sem,u,v,Q];refine⟨_,ae.refl _,?_⟩;simp only[go_sem];exact InF.ret (rs:=[]) (a:=()) InF.refl.rdr X b.symm rfl rfl
 have Q:(k:Int)<(z l:Int):=a7;have U:(0:Int)<=(k:Int):=a7;obtain⟨s,E⟩:=getq A;have q:(jH l)[k]?=S (.d (.str s)):=by unfold jH;rw[x8,E];rfl
 have o:upd ob 125 (S (rdC ts (n+k) fin)) j=S (jH l):=by simp only[upd];rw[j8 y];exact c
 have r:z (jH l)=z l:=j6 _;have V:(k:Int).toNat=k:=a7;have hd:l.drop k=s::l.drop (k+1):=by rw[C1 A];rw[v8 A]at E;cases E;rfl
 rw[hd]at b;simp only[go_sem,t,x,u,v,Q,o,U,q,V];refine dj aa rfl (by simp only[go_sem,t];exact AX hB J X) ?_;rintro _ g2 bo ⟨rfl,rfl,rfl⟩;by_cases w:eV ts (n+k)=s
 case neg=>
  rw[eE,j8 w]at b;simp only[go_sem,w,t];refine cj (R:=λ_ _ _=>False) aa rfl (by simp only[go_sem,t];exact GM X) ?_ (λ_ _ _ h=>h.elim);rintro ch g' Y ⟨rfl,rfl,rfl⟩;exact InF.refl.rdr.pan X b.symm rfl
 rw[eE,l8 w]at b;simp only[go_sem,w,t,rdC,jW,I,v,H];refine ah (m-1) a7 ⟨k+1,a7,?_⟩;simp only[go_sem,t,x,u];refine⟨?_,b⟩;funext i;simp only[upd];split<;>rfl
end
end
section
open Go Go.Am Go.Asm
open Go.Src (PR fc eV takeN eE Ex)
def GV{s:St}{k op n:Int}{x:D}(I:ge x=.sl []):ql s [.agg [.d (.int .i64 k),.d (.int .i64 op),.d (.int .u32 0),.d (.str []),.d x],iv .i64 n] (.tup [.agg [.d (.int .i64 k),.d (.int .i64 op),.d (.int .u32 0),.d (.str []),.d (.sl [])],iv .i64 n]):=by
 have h:=ux (s:=s) [.int .i64 k,.int .i64 op,.int .u32 0,.str [],x];simp only[l9,w9,I]at h;exact⟨_,⟨_,_,rfl,h,_,_,rfl,ke _,rfl⟩,rfl⟩
end
end Go.Proofs.YtlacbjnmkhndiaaGreatDoor
namespace Go.Src
section
open Go.Asm (Str)
section
section
variable{ts:List Tok}
end
end
end
end Go.Src
namespace Go.Proofs.YtlacbjnmkhndiaaGreatDoor
section
open Go Go.Am Go.Asm
open Go.Src (PR fc eV takeN eE Ex Stm)
section
section
variable{O:Bs}{rd:Option Nat}{p:St->Am.Loc->List Deferred->World->Prop}{q:Nat}{t:ff}{o:Oper}{s:St}{K:St->Prop}{k:Box K}{args:Array Operand}{tys:Array TypeId}
def wj(ts:List Src.Tok)(n fin:Nat)(a6:aY O p)(ho:o.op=.call ⟨.value (.func 147),args,tys⟩)(I:args.toList.map s.ev=[.one (.ptr 125 (s.gen 125) 0)])(bl:s.obj 125=S (rdC ts n fin))(a:K (s.put o.dst (iv .i64 (fc ts n:Nat)))):bm (spF Tryz.prog rd O p q t) o s k:=by
 refine dj a6 ho (by rw[I];exact GK bl) ?_;rintro _ b c ⟨rfl,rfl,rfl⟩;exact a
def Eh(ts:List Src.Tok)(n fin:Nat)(a6:aY O p)(ho:o.op=.call ⟨.value (.func 146),args,tys⟩)(I:args.toList.map s.ev=[.one (.ptr 125 (s.gen 125) 0)])(b:Nat)(hB:200<=b)(bk:∀i,b<=i->s.obj i=N)(bl:s.obj 125=S (rdC ts n fin))(a:K (s.put o.dst (sv (eV ts n)))):bm (spF Tryz.prog rd O p q t) o s k:=by
 refine dj a6 ho (by rw[I];exact AX hB bk bl) ?_;rintro _ c d ⟨rfl,rfl,rfl⟩;exact a
def kI(ts:List Src.Tok)(n fin:Nat)(str:Str)(a6:aY O p)(ho:o.op=.call ⟨.value (.func 83),args,tys⟩)(I:args.toList.map s.ev=[.one (.ptr 125 (s.gen 125) 0),sv str])(b:Nat)(hB:200<=b)(bk:∀i,b<=i->s.obj i=N)(bl:s.obj 125=S (rdC ts n fin))(a:n<=1000000)
 (c:eV ts n=str->K (St.put ⟨s.f,s.gen,upd s.obj 125 (S (rdC ts (n+1) fin))⟩ o.dst (bv T)))(d:eV ts n≠str->K (s.put o.dst (bv F))):bm (spF Tryz.prog rd O p q t) o s k:=by
 refine dj a6 ho (by rw[I];exact Ta hB bk bl a str) ?_;rintro _ e g ⟨rfl,⟨h,rfl,rfl⟩|⟨h,rfl,rfl⟩⟩
 .exact c h
 .exact d h
def wm{A:Type}(ts:List Src.Tok)(n fin:Nat)(a6:aY O p)(ho:o.op=.call ⟨.value (.func 86),args,tys⟩)(l:List Str)(j:Nat)(I:args.toList.map s.ev=[.one (.ptr 125 (s.gen 125) 0),.one (.osl j (s.gen j) 1 0 (z l))])(b:Nat)(hB:200<=b)(bk:∀i,b<=i->s.obj i=N)(bl:s.obj 125=S (rdC ts n fin))(t:n+z l<=1000000)(v:j<b)(y:j≠125)(c:s.obj j=S (jH l))
 {B:Nat}{g:Nat->Nat}{ob:Obs}{d:PR A}(w:InF B g ob s.gen s.obj)(u:∀m,eE ts l n=.no m->d=.no m)
 (x:∀m,eE ts l n=.ok () m->K (St.put ⟨s.f,s.gen,upd s.obj 125 (S (rdC ts m fin))⟩ o.dst uv)):bm (spF Tryz.prog rd O p q (Fp B [125] g ob (NoR ts fin d g ob))) o s k:=by
 refine cj (R:=OkR ts fin (eE ts l n) (λ_=>uv) s.gen s.obj) (L:=NoR ts fin (eE ts l n) s.gen s.obj) a6 ho (by rw[I];exact Oz l hB bk bl t v y c) ?_ ?_
 .rintro G E Y ⟨rfl,m,e,Z,rfl⟩
  exact w.rdr.pan VF (u m e) Z
 .rintro r E Y ⟨rfl,a,m,e,rfl,rfl⟩
  exact x m e
end
instance:Inhabited Ex:=⟨.mk 0 0 0 [] []⟩
mutual
def exD:Ex->List D
 |.mk kind op num name kids=>[.int .i64 kind,.int .i64 op,.int .u32 num,.str name,.sl (zf kids)]
def zf:List Ex->List (List D)
 |[]=>[]
 |e::l=>exD e::zf l
end
def aK:∀l:List Ex,zf l=l.map exD
 |[]=>by simp[zf]
 |e::l=>by simp[zf,aK l]
def aZ(e:Ex):z (exD e)=5:=by cases e;simp[exD]
def exV(e:Ex):AV:=.agg ((exD e).map .d)
def eb(l:List Ex):AV:=.one (.d (.sl (l.map exD)))
def exC(l:List Ex):List C:=l.flatMap λa=>(exD a).map .d
def Tf{B:Nat}{s:St}{a b c d:D}{j:C}{g:D}(h:jb (B<=·) s j g):dY B s [.agg [.d a,.d b,.d c,.d d,j]] [.agg [.d a,.d b,.d c,.d d,.d g]]:=
 ⟨_,_,rfl,.agg (xs:=[a,b,c,d,g]) rfl (λi e f=>by
  match i,f with
  |0,f=>cases f;exact⟨_,rfl,.d _⟩
  |1,f=>cases f;exact⟨_,rfl,.d _⟩
  |2,f=>cases f;exact⟨_,rfl,.d _⟩
  |3,f=>cases f;exact⟨_,rfl,.d _⟩
  | 4,f=>cases f;exact⟨_,rfl,h⟩),rfl⟩
def KB{B id g n:Nat}{s:St}{l:List Ex}(b:B<=id)(hg:s.gen id=g)(ho:s.obj id=S (exC l))(c:z l=n):jb (B<=·) s (.osl id g 5 0 n) (.sl (zf l)):=by
 rw[aK];exact js b hg l exD ho rfl (λa _=>aZ a) c
end
def KC{B id g n:Nat}{s:St}{l:List Ex}(a:B<=id)(hg:s.gen id=g)(ho:s.obj id=S (exC l))(b:z l=n):dY B s [.one (.osl id g 5 0 n)] [eb l]:=
 ⟨_,_,rfl,.one (by have:=KB (B:=B) a hg ho b;rwa [aK]at this),rfl⟩
def uz(l:List Str):AV:=.one (.d (.sl (l.map λs=>[.str s])))
def GZ{B id g n:Nat}{s:St}{l:List Str}(c:B<=id)(hg:s.gen id=g)(ho:s.obj id=S (jH l))(b:z l=n):dY B s [.one (.osl id g 1 0 n)] [uz l]:=
 ⟨_,_,rfl,.one (js c hg l (λs=>[.str s]) ho (by unfold jH;clear ho b;induction l with|nil=>rfl|cons a l d=>simpa using d) (λ_ _=>rfl) b),rfl⟩
mutual
def smD:Stm->List D
 |.mk kind name e a el=>[.int .i64 kind,.str name,.sl (zf e),.sl (Bf a),.sl (Bf el)]
def Bf:List Stm->List (List D)
 |[]=>[]
 |s::l=>smD s::Bf l
end
def dQ:∀l:List Stm,Bf l=l.map smD
 |[]=>by simp[Bf]
 |e::l=>by simp[Bf,dQ l]
def kX(e:Stm):z (smD e)=5:=by cases e;simp[smD]
def smV(e:Stm):AV:=.agg ((smD e).map .d)
def eS(l:List Stm):AV:=.one (.d (.sl (l.map smD)))
def smC(l:List Stm):List C:=l.flatMap λa=>(smD a).map .d
def KD{B id g n:Nat}{s:St}{l:List Stm}(b:B<=id)(hg:s.gen id=g)(ho:s.obj id=S (smC l))(c:z l=n):dY B s [.one (.osl id g 5 0 n)] [eS l]:=
 ⟨_,_,rfl,.one (js b hg l smD ho rfl (λa _=>kX a) c),rfl⟩
def Tg{B:Nat}{s:St}{a b:D}{j k l:C}{f g h:D}(m:jb (B<=·) s j f)(n:jb (B<=·) s k g)(o:jb (B<=·) s l h):dY B s [.agg [.d a,.d b,j,k,l]] [.agg [.d a,.d b,.d f,.d g,.d h]]:=
 ⟨_,_,rfl,.agg (xs:=[a,b,f,g,h]) rfl (λi e c=>by
  match i,c with
  |0,c=>cases c;exact⟨_,rfl,.d _⟩
  |1,c=>cases c;exact⟨_,rfl,.d _⟩
  |2,c=>cases c;exact⟨_,rfl,m⟩
  |3,c=>cases c;exact⟨_,rfl,n⟩
  | 4,c=>cases c;exact⟨_,rfl,o⟩),rfl⟩
end
end Go.Proofs.YtlacbjnmkhndiaaGreatDoor
namespace Go.Am
section
def lK{P:Program}{rd:Option Nat}{O:Bs}{a:St->Loc->List Deferred->World->Prop}{c:Nat}{e:ff}{B:(Exit->St->Prop)->St->Prop}{b:Box B}{Q:Exit->St->Prop}{q:Box Q}{s:St}(d:St)(i:ae s d)(I:Nat->St->Prop)(n:Nat)(k:I n d)
 (V:∀n f g h,I n ⟨f,g,h⟩->B (iQ (bx λW=>∃j d,j<n/\(spF P rd O a c e).vs W d/\I j d) q) ⟨f,g,h⟩):ng (spF P rd O a c e) b q s:=
 ⟨I,⟨n,d,i,k⟩,λn s l=>V n s.f s.gen s.obj l⟩
end
end Go.Am
namespace Go.Proofs.YtlacbjnmkhndiaaGreatDoor
section
open Go Go.Am Go.Asm
open Go.Src (PR fc eV takeN eE Ex Stm)
def fnD(f:Src.Fn):List D:=[.str f.name,.sl (f.params.map λs=>[.str s]),.sl (f.locals.map λs=>[.str s]),.bool f.word,.sl (f.body.map smD)]
def fnV(f:Src.Fn):AV:=.agg ((fnD f).map .d)
def arD(a:Str×Int):List D:=[.str a.1,.int .i64 a.2]
def fnC(l:List Src.Fn):List C:=l.flatMap λa=>(fnD a).map .d
def iH(p:Src.Prog):List D:=[.sl (p.vars.map λs=>[.str s]),.sl (p.arrays.map arD),.sl (p.funcs.map fnD)]
def bS(p:Src.Prog):AV:=.agg ((iH p).map .d)
def Tb{P:Nat->Prop}{s:St}{id g n:Nat}{l:List Src.Fn}(a:P id)(hg:s.gen id=g)(ho:s.obj id=S (fnC l))(b:z l=n):jb P s (.osl id g 5 0 n) (.sl (l.map fnD)):=
 js a hg l fnD ho rfl (λ_ _=>rfl) b
instance:Inhabited Src.Fn:=⟨⟨[],[],[],false,[]⟩⟩
end
end Go.Proofs.YtlacbjnmkhndiaaGreatDoor
