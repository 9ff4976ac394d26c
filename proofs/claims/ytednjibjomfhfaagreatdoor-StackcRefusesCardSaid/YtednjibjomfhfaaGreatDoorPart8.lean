/- A part of the proof; no conditions. -/
import Derived.Test.YtednjibjomfhfaaGreatDoorPart7
set_option linter.all false
open List renaming length -> z
open Option renaming some -> S, none -> N
open Bool renaming true -> T, false -> F
set_option maxHeartbeats 64000000
set_option maxRecDepth 100000
namespace Go.Am
section
attribute[local congr]ite_cc
def nu{P:Prop}(h:P:=by (try simp only[upd]);(repeat rw[j8 (by omega)])):P:=h
def nt{P Q:Prop}(q:Q)(h:P=Q:=by (try simp only[upd]);(repeat rw[j8 (by omega)])):P:=h▸q
def fi{ad b3:Obs}{B a:Nat}(hf:∀i,B<=i->ad i=N)(h:∀i,a<=i->B<=i/\b3 i=ad i:=by (intro i hi;refine⟨by omega,?_⟩;(try simp only[upd]);(repeat rw[j8 (by omega)]))):∀i,a<=i->b3 i=N:=λi hi=>(h i hi).2.trans (hf i (h i hi).1)
end
end Go.Am
namespace Go.Proofs.YtednjibjomfhfaaGreatDoor
section
open Go Go.Am Go.Asm
open Go.Src (PR dL az takeN aS)
attribute[local congr]ite_cc
section
def rdC(A:List Src.Tok)(n fin:Nat):List C:=[.d (jG A),.d (.int .i64 (n:Nat)),.d (.int .i64 (fin:Nat))]
def lS(A:List Src.Tok)(fin n:Nat):Nat:=match A[n]? with|some t=>t.place|none=>fin
def vT(k:Nat):List PanicEntry:=[{v:=.iface 154 (.agg #[.int .i64 (k:Nat)]),recovered:=F}]
variable{A:List Src.Tok}{g:Nat->Nat}{ob:Obs}{B:Nat}{s:St}{n fin:Nat}{y:Option (List C)}
def rI{n:Nat}{t:Src.Tok}(h:A[n]?=S t):(A.map nB)[n]?=S [.int .i64 (t.kind:Nat),.str t.text,.int .u32 (t.num:Nat),.int .i64 (t.place:Nat)]:=by rw[y7,h];rfl
def OkR{b:Type}(A:List Src.Tok)(fin:Nat)(p:PR b)(enc:b->AV)(g:Nat->Nat)(ob:Obs)(r:AV)(g':Nat->Nat)(Z:Obs):Prop:=
 g'=g/\∃a m,p=.ok a m/\r=enc a/\Z=upd ob 125 (S (rdC A m fin))
def NoR{a:Type}(A:List Src.Tok)(fin:Nat)(p:PR a)(g:Nat->Nat)(ob:Obs):Pan:=λb g' Z=>
 g'=g/\∃m,p=.no m/\b=vT (lS A fin m)/\Z=upd ob 125 (S (rdC A m fin))
def fR{a:Type}(f:FuncId)(xs:List AV)(A:List Src.Tok)(n fin:Nat)(p:PR a)(enc:a->AV):Prop:=
 ∀(B:Nat)(g:Nat->Nat)(ob:Obs),200<=B->(∀i,B<=i->ob i=N)->ob 125=S (rdC A n fin)->
  fv Tryz.prog f (.one (.ptr 125 (g 125) 0)::xs) g ob (OkR A fin p enc g ob) (NoR A fin p g ob)
structure InF (B:Nat) (g:Nat->Nat) (ob:Obs) (g':Nat->Nat) (Z:Obs):Prop where
 same:∀i,i<B->i≠125->g' i=g i/\Z i=ob i
 rd:g' 125=g 125
def InF.refl:InF B g ob g ob:=⟨λ_ _ _=>⟨rfl,rfl⟩,rfl⟩
def InF.go{g g1 g2:Nat->Nat}{ob ad b3:Obs}(h:InF B g ob g1 ad)(q:(∀i,i<B->i≠125->g2 i=g1 i/\b3 i=ad i)/\g2 125=g1 125:=by (refine⟨λi hi h5=>⟨?_,?_⟩,?_⟩<;>((try simp only[upd]);(repeat rw[j8 (by omega)]);first|done|rfl))):InF B g ob g2 b3:=
 ⟨λi hi h5=>⟨(q.1 i hi h5).1.trans (h.same i hi h5).1,(q.1 i hi h5).2.trans (h.same i hi h5).2⟩,q.2.trans h.rd⟩
def InF.put{B j:Nat}{g a:Nat->Nat}{ob ad:Obs}(h:InF B g ob a ad)(d:B<=j):InF B g ob a (upd ad j y):=⟨λi b c=>⟨(h.same i b c).1,by simp only[upd];rw[j8 a6];exact(h.same i b c).2⟩,h.rd⟩
def InF.newG{B j x:Nat}{g a:Nat->Nat}{ob ad:Obs}(h:InF B g ob a ad)(d:B<=j)(hB:125<B):InF B g ob (upd a j x) ad:=⟨λi b c=>⟨by simp only[upd];rw[j8 a6];exact(h.same i b c).1,(h.same i b c).2⟩,by simp only[upd];rw[j8 a6];exact h.rd⟩
def InF.rdr{g b:Nat->Nat}{ob ad:Obs}(h:InF B g ob b ad):InF B g ob b (upd ad 125 y):=⟨λi c a=>⟨(h.same i c a).1,by simp only[upd];rw[j8 a];exact(h.same i c a).2⟩,h.rd⟩
def InF.ends{B n fin:Nat}{g a:Nat->Nat}{ob ad:Obs}(h:InF B g ob a ad)(ho:ad 125=S (rdC A n fin)):HI B [125] g ob a ad/\jT [125] g a=g/\fM [125] ob ad=upd ob 125 (S (rdC A n fin)):=by
 refine⟨⟨λi b f=>h.same i b (by simpa using f),λi b d e c o=>?_⟩,HK h.rd,by rw[HL,ho]⟩;obtain rfl:=C6.1 b;rw[ho]at e;cases e;simp only[rdC,y9,A4,E7]at o;rcases o with rfl|rfl|rfl<;>trivial
def InF.ret{b:Type}{B n fin:Nat}{p:PR b}{enc:b->AV}{Q rs:List AV}{a:b}(h:InF B g ob s.gen s.obj)(ho:s.obj 125=S (rdC A n fin))(c:p=.ok a n)(hf:fT B s Q rs)(V:pack rs=enc a):bD B [125] g ob (OkR A fin p enc g ob) s Q:=by
 obtain⟨U,Y,d⟩:=h.ends ho;exact⟨U,rs,hf,Y,a,n,c,V,d⟩
def InF.pan{c:Type}{B n fin:Nat}{g a:Nat->Nat}{ob ad:Obs}{p:PR c}{b:List PanicEntry}(h:InF B g ob a ad)(ho:ad 125=S (rdC A n fin))(d:p=.no n)(e:b=vT (lS A fin n)):
  HI B [125] g ob a ad/\NoR A fin p g ob b (jT [125] g a) (fM [125] ob ad):=by
 obtain⟨U,Y,f⟩:=h.ends ho;exact⟨U,Y,n,d,e,f⟩
section
variable{O:Bs}{rd:Option Nat}{l:St->Am.Loc->List Deferred->World->Prop}
def aI{j e:Type}(q:br O l){o:Oper}{K:St->Prop}{k:Box K}{f:FuncId}{args:Array Operand}{tys:Array TypeId}(ho:o.op=.call ⟨.value (.func f),args,tys⟩){xs:List AV}{p:PR j}{enc:j->AV}
 (V:fR f xs A n fin p enc)(I:args.toList.map s.ev=.one (.ptr 125 (s.gen 125) 0)::xs)(c:Nat)(hB:200<=c)(b:∀i,c<=i->s.obj i=N)(t:s.obj 125=S (rdC A n fin)){B v:Nat}{d:PR e}(E:InF B g ob s.gen s.obj)
 (u:∀m,p=.no m->d=.no m)(w:∀a m,p=.ok a m->K (St.put ⟨s.f,s.gen,upd s.obj 125 (S (rdC A m fin))⟩ o.dst (enc a))):bu (spF Tryz.prog rd O l v (HJ B [125] g ob (NoR A fin d g ob))) o s k:=by
 refine bX (R:=OkR A fin p enc s.gen s.obj) (cd:=NoR A fin p s.gen s.obj) q ho (by rw[I];exact V c s.gen s.obj hB b t) ?_ ?_
 .exact Wf
 .rintro r g' Z ⟨rfl,a,m,hp,rfl,rfl⟩
  exact w a m hp
end
def rJ(xs:List D):mf s (.agg (xs.map .d)) (.agg ((xs.map ir).map .d)):=by
 refine⟨xs.map ir,a8,λi c a=>?_,rfl⟩;rw[y7]at a|-;cases b:xs[i]? with
 |none=>rw[b]at a;cases a
 |some x=>rw[b]at a;cases a;exact⟨_,rfl,.d x⟩
def nlo(hB:200<=B)(k:Nat):(125=B+k)=False:=by simp;omega
def nhi(hB:200<=B)(k:Nat):(B+k=125)=False:=by simp;omega
def ID(ho:ob 125=S (rdC A n fin)):
  jl Tryz.prog 121 [.one (.ptr 125 (g 125) 0)] g ob (λr g' Z=>r=iv .i64 (dL A n:Nat)/\g'=g/\Z=ob):=by
 refine hdF 9000 Tryz.func121 rfl [2] ?_;unfold rdC jG at ho;have bk:(0:Int)<=(n:Int):=a6;simp only[go_sem];refine cA b9 ?_;unfold dL;by_cases d:n<z A
 .have H:(n:Int)<(z A:Int):=a6
  obtain⟨t,b⟩:=getq d;have a:=rI b;rw[b];simp only[go_sem,ho,j5,H];refine cA b9 ?_;simp only[go_sem,ho,bk,a];exact⟨_,ae.refl _,rfl,rfl,rfl⟩
 .have H:¬(n:Int)<(z A:Int):=a6
  rw[E0 a6];simp only[go_sem,ho,j5,H];exact⟨_,ae.refl _,rfl,rfl,rfl⟩
def De{B n fin:Nat}(hB:200<=B)(hf:∀i,B<=i->ob i=N)(ho:ob 125=S (rdC A n fin)):
  jl Tryz.prog 120 [.one (.ptr 125 (g 125) 0)] g ob (λr g' Z=>r=sv (az A n)/\g'=g/\Z=ob):=by
 refine CD B aR mixed Tryz.func120 rfl c9 [2] rfl c8 (by simp[Tryz.ntmps120]) hf ?_;have Q:=nlo hB;have l:=nhi hB;unfold rdC jG at ho;have bk:(0:Int)<=(n:Int):=a6;simp only[go_sem];refine cA b9 ?_;unfold az;by_cases m:n<z A
 case neg=>
  have H:¬(n:Int)<(z A:Int):=a6;rw[E0 a6];simp only[go_sem,ho,j5,H]
 have H:(n:Int)<(z A:Int):=a6;obtain⟨t,j⟩:=getq m;have a:=rI j;rw[j];simp only[go_sem,ho,j5,H];refine fV aR mixed [B+3] [([0],[0],[],F),([14],[0],[],F),([15],[0],[],F),([16],[0],[],F),([0],[0],[],F),([18],[0],[],F),([19],[0],[],F),([20],[0],[],F),([17,21],[0],[],F),([22],[0],[],F),([],[],[0],F),([3,23],[],[],T)] 1 b9 rfl a8 ?_;simp only[go_sem]
 iterate 10 (apply aM;· (intro o p q d J;simp only[go_sem,ho,bk,a,Q,l]at J|-;exact J))
 (apply cX;· (intro o p q d J;simp only[go_sem]at J|-;exact J))
 apply db;intro d k;simp only[go_sem];refine k _ ?_;clear k d;have e:(t.kind=3\/t.kind=4)↔((t.kind:Int)=3\/(t.kind:Int)=4):=a6;have f:∀(x:Nat)(y X:Option (List C)),(∀i,i<B->upd g (B+3) x i=g i)/\∀i,i<B->upd (upd ob (B+3) y) (B+3) X i=ob i:=λx y X=>⟨λi u=>by simp only[upd];rw[j8 a6],λi u=>by simp only[upd];rw[j8 a6,j8 a6]⟩
 by_cases b:(t.kind:Int)=3
 .rw[l7 (e.2 (.inl b))]
  simp only[go_sem,b];exact f _ _ _
 by_cases c:(t.kind:Int)=4
 .rw[l7 (e.2 (.inr c))]
  simp only[go_sem,b,c];exact f _ _ _
 .rw[j8 (λh=>(e.1 h).elim b c)]
  simp only[go_sem,b,c];exact f _ _ _
def XA(A:List Src.Tok)(n fin:Nat)(s:Str)(g:Nat->Nat)(ob:Obs)(r:AV)(g':Nat->Nat)(Z:Obs):Prop:=
 g'=g/\((az A n=s/\r=bv T/\Z=upd ob 125 (S (rdC A (n+1) fin)))\/(az A n≠s/\r=bv F/\Z=ob))
def UO{B n fin:Nat}(hB:200<=B)(hf:∀i,B<=i->ob i=N)(ho:ob 125=S (rdC A n fin))(hn:n<=1000000)(s:Str):
  jl Tryz.prog 75 [.one (.ptr 125 (g 125) 0),sv s] g ob (XA A n fin s g ob):=by
 refine hdF B Tryz.func75 rfl [4] ?_;have b:=ab (k:=n) a6;have d:=ho;unfold rdC jG at ho;simp only[go_sem];refine ct rfl (by simp only[go_sem];exact De hB hf d) ?_;rintro _ e j ⟨rfl,rfl,rfl⟩;by_cases a:az A n=s
 .simp only[go_sem,a,ho,b]
  refine⟨_,ae.refl _,rfl,.inl ⟨a,rfl,?_⟩⟩;simp only[go_sem,rdC,jG]
 .simp only[go_sem,a]
  exact⟨_,ae.refl _,rfl,.inr ⟨a,rfl,rfl⟩⟩
def yU(ho:ob 125=S (rdC A n fin)):
  fv Tryz.prog 74 [.one (.ptr 125 (g 125) 0)] g ob (λ_ _ _=>False) (λd g' Z=>d=vT (lS A fin n)/\g'=g/\Z=ob):=by
 refine hdX 9000 Tryz.func74 rfl [] λO bo s0 w0=>?_;unfold rdC jG at ho;have bk:(0:Int)<=(n:Int):=a6;simp only[go_sem];refine bh b9 ?_;unfold lS;by_cases e:n<z A
 .have H:(n:Int)<(z A:Int):=a6
  obtain⟨t,b⟩:=getq e;have a:=rI b;rw[b];simp only[go_sem,ho,j5,H];refine bh b9 ?_;simp only[go_sem,ho,bk,a];refine vC (k:=bx _) aa rfl (aR 154 rfl).desc (by simp only[go_sem];exact⟨rfl,rfl⟩) ?_;simp only[go_sem];refine vD (k:=bx _) (t:=154) (u:=.agg #[.int .i64 (t.place:Nat)]) rfl Wh ?_;exact⟨rfl,rfl,rfl⟩
 .have H:¬(n:Int)<(z A:Int):=a6
  rw[E0 a6];simp only[go_sem,ho,j5,H];refine vC (k:=bx _) aa rfl (aR 154 rfl).desc (by simp only[go_sem];exact⟨rfl,rfl⟩) ?_;simp only[go_sem];refine vD (k:=bx _) (t:=154) (u:=.agg #[.int .i64 (fin:Nat)]) rfl Wh ?_;exact⟨rfl,rfl,rfl⟩
end
end
section
open Go Go.Am Go.Asm
open Go.Src (PR dL az takeN aS Ex)
attribute[local congr]ite_cc
section
variable{A:List Src.Tok}
def Mm{kd n:Nat}{t:Src.Tok}(a:A[n]?=S t)(b:t.kind=kd):takeN A kd n=.ok t (n+1):=by unfold takeN;rw[a];simp[b]
def oZ(A:List Src.Tok)(n fin kd:Nat)(hn:n<=1000000)(K:0<kd):fR 77 [iv .i64 kd] A n fin (takeN A kd n) qg:=by
 intro B g ob hB hf ho;refine hdM B [125] Tryz.func77 rfl [.cell 4 159] Wk hf λO bo s0 w0=>?_;have w:=ab (k:=n) a6;have bk:(0:Int)<=(n:Int):=a6;have Q:=nlo hB;have o:=nhi hB;have L:∀y,upd ob (B+4) y 125=S (rdC A n fin):=λy=>by simp only[upd];rw[j8 a6];exact ho
 have m:∀x,upd g (B+4) x 125=g 125:=λx=>by simp only[upd];rw[j8 a6]
 simp only[go_sem,Q,o];refine jc aa rfl (by simp only[go_sem,Q,o];rw[<-m (nxC 160 (g (B+4)))];exact ID (L _)) ?_;rintro _ U V ⟨rfl,rfl,rfl⟩;by_cases b:dL A n=kd
 case neg=>
  have H:¬(dL A n:Int)=(kd:Int):=a6
  have q:takeN A kd n=.no n:=by
   unfold takeN;unfold dL at b;cases r:A[n]? with
   |none=>rfl
   |some t=>rw[r]at b;simp only at b;simp[b]
  simp only[go_sem,H];refine bX (R:=λ_ _ _=>False) aa rfl (by simp only[go_sem,Q,o];rw[<-m (nxC 160 (g (B+4)))];exact yU (L _)) ?_ (λ_ _ _ h=>h.elim);rintro W Y Z ⟨rfl,rfl,rfl⟩;exact((InF.refl.newG a6 a6).put a6).pan (L _) q rfl
 have H:(dL A n:Int)=(kd:Int):=a6
 obtain⟨t,s⟩:∃t,A[n]?=S t:=by
  unfold dL at b;cases r:A[n]? with
  |some t=>exact⟨t,rfl⟩
  |none=>rw[r]at b;simp only at b;omega
 have a:=rI s;have e:t.kind=kd:=by unfold dL at b;rw[s]at b;exact b
 have q:=Mm s e;unfold rdC jG at ho;simp only[go_sem,H];refine pJ (B:=B) aR mixed aa [B+5] [([0],[0],[],F),([12],[0],[],F),([13],[0],[],F),([14],[0],[],F),([0],[0],[],F),([16],[0],[],F),([17],[0],[],F),([18],[0],[],F),([15,19],[0],[],F),([20],[0],[],F),([],[],[0],F),([5,21],[],[],T)] 1 rfl b9 rfl a8 ?_;simp only[go_sem]
 iterate 10 (apply aM;· (intro E G I u J;simp only[go_sem,ho,bk,a,Q,o]at J|-;exact J))
 (apply cX;· (intro E G I u J;simp only[go_sem]at J|-;exact J))
 apply db;intro u v;simp only[go_sem];refine v _ ?_;clear v u;simp only[go_sem,ho,w,Q,o];refine⟨_,ae.refl _,?_⟩;simp only[go_sem,Q,o];refine InF.ret (rs:=[qg t]) (B:=B) (n:=n+1) (p:=takeN A kd n) (enc:=qg) ?_ ?_ q ?_ rfl
 .exact(((((InF.refl.newG a6 a6).newG a6 a6).put a6).put a6).put a6).rdr.put a6
 .simp only[go_sem,Q,o,rdC,jG]
 .exact⟨_,_,rfl,.agg (xs:=nB t) rfl (λi c l=>by
   match i,l with
   |0,l=>cases l;exact⟨_,rfl,.d _⟩
   |1,l=>cases l;exact⟨_,rfl,.d _⟩
   |2,l=>cases l;exact⟨_,rfl,.d _⟩
   | 3,l=>cases l;exact⟨_,rfl,.d _⟩),rfl⟩
def cF(l:List Str):List C:=l.map λs=>.d (.str s)
def Qw{B n fin j:Nat}{g:Nat->Nat}{ob:Obs}(l:List Str)(hB:200<=B)(hf:∀i,B<=i->ob i=N)(ho:ob 125=S (rdC A n fin))(hn:n+z l<=1000000)(hj:j<B)(v:j≠125)(q:ob j=S (cF l)):
  fv Tryz.prog 78 [.one (.ptr 125 (g 125) 0),.one (.osl j (g j) 1 0 (z l))] g ob (OkR A fin (aS A l n) (λ_=>uv) g ob) (NoR A fin (aS A l n) g ob):=by
 refine hdM B [125] Tryz.func78 rfl [] Wk hf λO bo s0 w0=>?_;have Q:=nlo hB;have n2:=nhi hB;obtain⟨p,I⟩:∃p,aS A l n=p:=⟨_,rfl⟩
 rw[I];simp only[go_sem];refine⟨by rw[q];rfl,?_⟩;refine aq (λm K=>∃k:Nat,m+k=z l/\K.f 0=.one (.ptr 125 (g 125) 0)/\K.f 6=.one (.osl j (g j) 1 0 (z l))/\K.f 7=iv .i64 (z l)/\K.f 8=iv .i64 k/\K.gen=g/\K.obj=upd ob 125 (S (rdC A (n+k) fin))/\aS A (l.drop k) (n+k)=p) (z l) ?_ ?_
 .refine⟨0,rfl,?_⟩
  simp only[go_sem];refine⟨?_,by simpa using I⟩;funext i;simp only[upd,I3];split
  .rename_i e;subst e;exact ho
  .rfl
 rintro m f g1 ad ⟨k,hk,u,y,w,c,rfl,rfl,o⟩;simp only at u y w c;have J:=ab (k:=k) a6;have U:=ab (k:=n+k) a6;have L:upd ob 125 (S (rdC A (n+k) fin)) 125=S (rdC A (n+k) fin):=by simp[upd]
 have V:∀i,B<=i->upd ob 125 (S (rdC A (n+k) fin)) i=N:=λi W=>by simp only[upd];rw[j8 a6];exact hf i W
 by_cases E:k<z l
 case neg=>
  have H:¬(k:Int)<(z l:Int):=a6;obtain rfl:k=z l:=a6;rw[y2 (l0 _)]at o;simp only[go_sem,w,c,H];refine⟨_,ae.refl _,?_⟩;simp only[go_sem];exact InF.ret (rs:=[]) (a:=()) InF.refl.rdr L o.symm rfl rfl
 have H:(k:Int)<(z l:Int):=a6;have an:(0:Int)<=(k:Int):=a6;obtain⟨s,G⟩:=getq E;have r:(cF l)[k]?=S (.d (.str s)):=by unfold cF;rw[y7,G];rfl
 have t:upd ob 125 (S (rdC A (n+k) fin)) j=S (cF l):=by simp only[upd];rw[j8 v];exact q
 have b:z (cF l)=z l:=j5 _;have Y:(k:Int).toNat=k:=a6;have hd:l.drop k=s::l.drop (k+1):=by rw[A8 E];rw[y8 E]at G;cases G;rfl
 rw[hd]at o;simp only[go_sem,u,y,w,c,H,t,an,r,Y];refine jc aa rfl (by simp only[go_sem,u];exact De hB V L) ?_;rintro _ g2 b3 ⟨rfl,rfl,rfl⟩;by_cases x:az A (n+k)=s
 case neg=>
  rw[aS,j8 x]at o;simp only[go_sem,x,u];refine bX (R:=λ_ _ _=>False) aa rfl (by simp only[go_sem,u];exact yU L) ?_ (λ_ _ _ h=>h.elim);rintro ch g' Z ⟨rfl,rfl,rfl⟩;exact InF.refl.rdr.pan L o.symm rfl
 rw[aS,l7 x]at o;simp only[go_sem,x,u,rdC,jG,U,c,J];refine ai (m-1) a6 ⟨k+1,a6,?_⟩;simp only[go_sem,u,y,w];refine⟨?_,o⟩;funext i;simp only[upd];split<;>rfl
def iS(op:Int):aF Tryz.prog 231 [iv .i64 op] (·=.agg [.d (.int .i64 6),.d (.int .i64 op),.d (.int .u32 0),.d (.str []),.d (.sl [])]):=by
 refine hdR Tryz.func231 rfl [.cell 2 187] λg=>?_;simp only[go_sem];refine⟨_,rJ [.int .i64 6,.int .i64 op,.int .u32 0,.str [],.nsl],rfl⟩
end
def ER(s:Str):AV:=.tup [.agg [.d (.int .i64 (Src.qt s).1),.d (.int .i64 (Src.qt s).2.1),.d (.int .u32 0),.d (.str []),.d (.sl [])],iv .i64 ((Src.qt s).2.2:Nat)]
def eW{s:Str}{k op:Int}{n:Nat}(h:Src.qt s=(k,op,n)):ER s=.tup [.agg [.d (.int .i64 k),.d (.int .i64 op),.d (.int .u32 0),.d (.str []),.d (.sl [])],iv .i64 (n:Nat)]:=by unfold ER;rw[h]
def eX{s:St}{k op n:Int}{x:D}(I:ir x=.sl []):rq s [.agg [.d (.int .i64 k),.d (.int .i64 op),.d (.int .u32 0),.d (.str []),.d x],iv .i64 n] (.tup [.agg [.d (.int .i64 k),.d (.int .i64 op),.d (.int .u32 0),.d (.str []),.d (.sl [])],iv .i64 n]):=by
 have h:=rJ (s:=s) [.int .i64 k,.int .i64 op,.int .u32 0,.str [],x];simp only[l9,v8,I]at h;exact⟨_,⟨_,_,rfl,h,_,_,rfl,kj _,rfl⟩,rfl⟩
def Qy(s:Str):aF Tryz.prog 229 [sv s] (·=ER s):=by
 refine hdR Tryz.func229 rfl [.cell 2 187,.tmp 3] λg=>?_;by_cases b:s=[124,124]
 .have a:Src.qt s=(9,0,1):=by subst b;rfl
  rw[eW a];simp only[go_sem,s9 b];exact⟨_,eX rfl,rfl⟩
 by_cases U:s=[38,38]
 .have a:Src.qt s=(8,0,2):=by subst U;rfl
  rw[eW a];simp only[go_sem,b,s9 U];exact⟨_,eX rfl,rfl⟩
 by_cases Y:s=[61,61]
 .have a:Src.qt s=(6,15,3):=by subst Y;rfl
  rw[eW a];simp only[go_sem,b,U,s9 Y];exact gG
 by_cases d:s=[60]
 .have a:Src.qt s=(6,14,4):=by subst d;rfl
  rw[eW a];simp only[go_sem,b,U,Y,s9 d];exact gG
 by_cases e:s=[124]
 .have a:Src.qt s=(6,10,5):=by subst e;rfl
  rw[eW a];simp only[go_sem,b,U,Y,d,s9 e];exact gG
 by_cases i:s=[94]
 .have a:Src.qt s=(6,11,5):=by subst i;rfl
  rw[eW a];simp only[go_sem,b,U,Y,d,e,s9 i];exact gG
 by_cases j:s=[38]
 .have a:Src.qt s=(6,9,6):=by subst j;rfl
  rw[eW a];simp only[go_sem,b,U,Y,d,e,i,s9 j];exact gG
 by_cases k:s=[60,60]
 .have a:Src.qt s=(6,12,7):=by subst k;rfl
  rw[eW a];simp only[go_sem,b,U,Y,d,e,i,j,s9 k];exact gG
 by_cases l:s=[62,62]
 .have a:Src.qt s=(6,13,7):=by subst l;rfl
  rw[eW a];simp only[go_sem,b,U,Y,d,e,i,j,k,s9 l];exact gG
 by_cases c:s=[43]
 .have a:Src.qt s=(6,4,8):=by subst c;rfl
  rw[eW a];simp only[go_sem,b,U,Y,d,e,i,j,k,l,s9 c];exact gG
 by_cases o:s=[45]
 .have a:Src.qt s=(6,5,8):=by subst o;rfl
  rw[eW a];simp only[go_sem,b,U,Y,d,e,i,j,k,l,c,s9 o];exact gG
 by_cases W:s=[42]
 .have a:Src.qt s=(6,6,9):=by subst W;rfl
  rw[eW a];simp only[go_sem,b,U,Y,d,e,i,j,k,l,c,o,s9 W];exact gG
 by_cases q:s=[47]
 .have a:Src.qt s=(6,7,9):=by subst q;rfl
  rw[eW a];simp only[go_sem,b,U,Y,d,e,i,j,k,l,c,o,W,s9 q];exact gG
 by_cases H:s=[37]
 .have a:Src.qt s=(6,8,9):=by subst H;rfl
  rw[eW a];simp only[go_sem,b,U,Y,d,e,i,j,k,l,c,o,W,q,s9 H];exact gG
 have a:Src.qt s=(0,0,0):=by unfold Src.qt;simp only[b,U,Y,d,e,i,j,k,l,c,o,W,q,H,B8]
 rw[eW a];simp only[go_sem,b,U,Y,d,e,i,j,k,l,c,o,W,q,H];exact⟨_,eX rfl,rfl⟩
end
end Go.Proofs.YtednjibjomfhfaaGreatDoor
namespace Go.Src
section
open Go.Asm (Str)
section
def PR.In{c:Type}(L n:Nat)(p:PR c):Prop:=∀a m,p=.ok a m->m<=max n L
def PR.bind_in{c β:Type}{L n:Nat}{p:PR c}{f:c->Nat->PR β}(h:p.In L n)(e:∀a m,(f a m).In L m):(p.bind f).In L n:=by
 intro b m d;cases p with
 |ok a k=>
   have U:=h a k rfl;have Y:=e a k b m d;omega
 |no k=>cases d
variable{k n:Nat}{c:Type}
def PR.in_ok{L n m:Nat}{a:c}(h:m<=max n L):(PR.ok a m).In L n:=λb k e=>by cases e;exact h
def PR.in_no{L n m:Nat}:(PR.no m:PR c).In L n:=λ_ _ e=>by cases e
def PR.In.up{L n:Nat}{p:PR c}(h:p.In L (n+1))(b:n<L):p.In L n:=λa m e=>by have:=h a m e;omega
def PR.in_here{L n:Nat}{a:c}:(PR.ok a n).In L n:=PR.in_ok a6
section
variable{A:List Tok}
def dJ{n:Nat}{s:Str}(h:az A n=s)(a:s≠[]):n<z A:=by
 unfold az at h;split at h
 .rename_i t b
  exact(l8.1 b).1
 .exact absurd h.symm a
def kx:(takeN A k n).In (z A) n:=by
 intro a m h;unfold takeN at h;split at h
 .rename_i t b
  have:=(l8.1 b).1;split at h
  .cases h;omega
  .cases h
 .cases h
def df:∀{l:List Str}{n:Nat},(∀s∈l,s≠[])->(aS A l n).In (z A) n
 |[],n,_=>PR.in_here
 |s::l,n,h=>by
   unfold aS;split
   .rename_i a
    exact(df (λx I=>h x Xs)).up (dJ a (h s a8))
   .exact PR.in_no
mutual
theorem iM:∀(k l n:Nat),(dm A k l n).In (z A) n
 |0,_,_=>by unfold dm;exact PR.in_no
 |k+1,l,n=>by
   unfold dm;exact PR.bind_in (BP k n) λa m=>BO k l a m
theorem BO:∀(k l:Nat)(left:Ex)(n:Nat),(gX A k l left n).In (z A) n
 |0,_,_,_=>by unfold gX;exact PR.in_no
 |k+1,l,left,n=>by
   unfold gX;split
   .exact PR.in_here
   .rename_i h
    by_cases f:n<z A
    .exact(PR.bind_in (iM k _ (n+1)) λb q=>BO k l _ q).up f
    .intro a m e
     have U:=PR.bind_fwdE (fE (A:=A) k ((qt (az A n)).2.2+1) (n+1)).le (λb q=>tr k l _ q) a m e;exfalso
     have g:∀(k l n:Nat),z A<=n->∃q,dm A k l n=.no q:=by
      intro k l n hl;cases k with
      |zero=>exact⟨n,by unfold dm;rfl⟩
      |succ k=>
        have:∃q,ey A k n=.no q:=by
         cases k with
         |zero=>exact⟨n,by unfold ey;rfl⟩
         |succ k=>
           have c:A[n]?=N:=E0 hl;refine⟨n,?_⟩;unfold ey;have U:dL A n=0:=by unfold dL;rw[c]
           have Y:az A n=[]:=by unfold az;rw[c]
           have i:takeN A 1 n=.no n:=by unfold takeN;rw[c]
           rw[U,Y,i];simp[cP]
        obtain⟨q,d⟩:=this;exact⟨q,by unfold dm;rw[d];rfl⟩
     obtain⟨q,d⟩:=g k ((qt (az A n)).2.2+1) (n+1) a6;rw[d]at e;cases e
theorem BP:∀(k n:Nat),(ey A k n).In (z A) n
 |0,_=>by unfold ey;exact PR.in_no
 |k+1,n=>by
   unfold ey;split
   .exact PR.bind_in kx λa m=>PR.in_here
   split
   .rename_i h
    exact(PR.bind_in (df (by simp[cP,bt])) λa m=>PR.in_here).up (dJ h a8)
   split
   .rename_i h
    exact(PR.bind_in (iM k 1 (n+1)) λa m=>PR.bind_in (df (by simp[bt])) λb q=>PR.in_here).up (dJ h (by simp[cP]))
   split
   .rename_i h
    exact(PR.bind_in (BP k (n+1)) λa m=>PR.in_here).up (dJ h a8)
   refine PR.bind_in kx λa m=>?_;split
   .rename_i h
    exact(PR.bind_in (iM k 1 (m+1)) λa m=>PR.bind_in (df a8) λb q=>PR.in_here).up (dJ h a8)
   split
   .rename_i h
    exact(PR.bind_in (BQ k (m+1)) λa m=>PR.in_here).up (dJ h (by simp[cP]))
   .exact PR.in_here
theorem BQ:∀(k n:Nat),(fD A k n).In (z A) n
 |0,_=>by unfold fD;exact PR.in_no
 |k+1,n=>by
   unfold fD;split
   .rename_i h
    exact PR.in_here.up (dJ h (by simp[bt]))
   .exact PR.bind_in (iM k 1 n) λa m=>BR k [a] m
theorem BR:∀(k:Nat)(l:List Ex)(n:Nat),(gY A k l n).In (z A) n
 |0,_,_=>by unfold gY;exact PR.in_no
 |k+1,l,n=>by
   unfold gY;split
   .rename_i h
    exact(PR.bind_in (iM k 1 (n+1)) λa m=>BR k (l++[a]) m).up (dJ h (by simp[ck]))
   .exact PR.bind_in (df (by simp[bt])) λb q=>PR.in_here
end
def tu:(jw A k n).In (z A) n:=PR.bind_in (df (by simp[cP])) λ_ m=>PR.bind_in (iM k 1 m) λ_ m=>PR.bind_in (df (by simp[bt])) λ_ _=>PR.in_here
def GY:(iE A k n).In (z A) n:=by
 unfold iE;refine PR.bind_in kx λt m=>PR.bind_in ?_ λs q=>PR.bind_in (df Yn) λ_ _=>PR.in_here;split
 .rename_i h
  exact(PR.bind_in (iM k 1 (m+1)) λ_ _=>PR.in_here).up (dJ h a8)
 split
 .rename_i h
  exact(PR.bind_in (iM k 1 (m+1)) λ_ _=>PR.bind_in (df a8) λ_ q=>PR.bind_in (iM k 1 q) λ_ _=>PR.in_here).up (dJ h a8)
 split
 .rename_i h
  exact(PR.bind_in (BQ k (m+1)) λ_ _=>PR.in_here).up (dJ h (by simp[cP]))
 .exact PR.in_no
mutual
theorem Kq:∀(k n:Nat),(gy A k n).In (z A) n
 |0,_=>by unfold gy;exact PR.in_no
 |k+1,n=>by
   unfold gy;split
   .rename_i h
    exact(PR.bind_in tu λ_ _=>PR.bind_in (df Yn) λ_ _=>PR.in_here).up (dJ h a8)
   split
   .rename_i h
    split
    .rename_i Y
     have:=dJ Y Yn;exact PR.in_ok a6
    .exact(PR.bind_in (iM k 1 (n+1)) λ_ _=>PR.bind_in (df Yn) λ_ _=>PR.in_here).up (dJ h a8)
   split
   .rename_i h
    refine(PR.bind_in tu λ_ m=>PR.bind_in (wJ k m) λ_ q=>?_).up (dJ h a8);split
    .rename_i Y
     exact(PR.bind_in (wJ k (q+1)) λ_ _=>PR.in_here).up (dJ Y a8)
    .exact PR.in_here
   split
   .rename_i h
    exact(PR.bind_in tu λ_ m=>PR.bind_in (wJ k m) λ_ _=>PR.in_here).up (dJ h a8)
   .exact GY
theorem wJ:∀(k n:Nat),(iw A k n).In (z A) n
 |0,_=>by unfold iw;exact PR.in_no
 |k+1,n=>by
   unfold iw;exact PR.bind_in (df a8) λ_ m=>tv k [] m
theorem tv:∀(k:Nat)(l:List Stm)(n:Nat),(dH A k l n).In (z A) n
 |0,_,_=>by unfold dH;exact PR.in_no
 |k+1,l,n=>by
   unfold dH;split
   .rename_i h
    exact PR.in_here.up (dJ h a8)
   .exact PR.bind_in (Kq k n) λa m=>tv k _ m
end
def uu:∀{k:Nat}{l:List Str}{n:Nat},(eg A k l n).In (z A) n
 |0,_,_=>by unfold eg;exact PR.in_no
 |k+1,l,n=>by
   unfold eg;split
   .rename_i h
    exact(PR.bind_in kx λ_ _=>uu).up (dJ h (by simp[ck]))
   .exact PR.in_here
def tw:(eL A k n).In (z A) n:=PR.bind_in kx λ_ _=>uu
def sd:∀{k:Nat}{l:List Str}{n:Nat}{a:List Str}{m:Nat},eg A k l n=.ok a m->z a+n<=z l+m
 |0,_,_,_,_,h=>by unfold eg at h;cases h
 |k+1,l,n,a,m,h=>by
   unfold eg at h;split at h
   .cases b:takeN A 1 (n+1)with
    |no q=>rw[b]at h;cases h
    |ok t q=>
      rw[b,PR.bind_ok]at h;have U:=il (A:=A) t q b;have Y:=sd h;rw[j4,B7]at Y;omega
   .cases h;omega
def DS{l:List Str}{m:Nat}(h:eL A k n=.ok l m):z l+n<=m:=by
 unfold eL at h;cases a:takeN A 1 n with
 |no q=>rw[a]at h;cases h
 |ok t q=>
   rw[a,PR.bind_ok]at h;have U:=il (A:=A) t q a;have Y:=sd h;rw[B7]at Y;omega
def wK:∀{k:Nat}{l:List Str}{n:Nat},(dI A k l n).In (z A) n
 |0,_,_=>by unfold dI;exact PR.in_no
 |k+1,l,n=>by
   unfold dI;split
   .rename_i h
    exact(PR.bind_in tw λ_ _=>PR.bind_in (df Yn) λ_ _=>wK).up (dJ h a8)
   .exact PR.in_here
def Fs:(mn A k n).In (z A) n:=by
 unfold mn;refine PR.bind_in (df a8) λ_ m=>PR.bind_in kx λt m=>PR.bind_in (df (by simp[cP])) λ_ m=>PR.bind_in ?_ λe m=>PR.bind_in (df (by simp[bt])) λ_ m=>?_
 .split
  .exact tw
  .exact PR.in_here
 .have c:∀v,((aS A [[123]] v).bind λ_ a=>(dI A k [] a).bind λd a=>(dH A k [] a).bind λb a=>(PR.ok (Fn.mk t.text e d (decide (az A m=[119,111,114,100])) b) a)).In (z A) v:=λv=>
   PR.bind_in (df a8) λ_ a=>PR.bind_in wK λd a=>PR.bind_in (tv k [] a) λb a=>PR.in_here
  split
  .rename_i h
   exact(c (m+1)).up (dJ h a8)
  .exact c m
def wL:∀{k:Nat}{l:List Str}{u:List (Str×Int)}{n:Nat},(kv A k l u n).In (z A) n
 |0,_,_,_=>by unfold kv;exact PR.in_no
 |k+1,l,u,n=>by
   unfold kv;split
   .rename_i h
    exact(PR.bind_in tw λ_ _=>PR.bind_in (df Yn) λ_ _=>wL).up (dJ h a8)
   split
   .rename_i h
    exact(PR.bind_in kx λ_ _=>PR.bind_in (df a8) λ_ _=>PR.bind_in kx λ_ _=>PR.bind_in (df a8) λ_ _=>PR.bind_in (df Yn) λ_ _=>wL).up (dJ h a8)
   .exact PR.in_here
end
end
end
end Go.Src
