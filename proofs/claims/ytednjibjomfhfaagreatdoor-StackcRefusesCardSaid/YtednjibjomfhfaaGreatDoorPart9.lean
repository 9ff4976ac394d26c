/- A part of the proof; no conditions. -/
import Derived.Test.YtednjibjomfhfaaGreatDoorPart8
set_option linter.all false
open List renaming length -> z
open Option renaming some -> S, none -> N
open Bool renaming true -> T, false -> F
set_option maxHeartbeats 64000000
set_option maxRecDepth 100000
namespace Go.Proofs.YtednjibjomfhfaaGreatDoor
section
open Go Go.Am Go.Asm
open Go.Src (PR dL az takeN aS Ex Stm dm gX ey fD gY)
section
variable{w:Type}{B:Nat}{g:Nat->Nat}
section
variable{O:Bs}{rd:Option Nat}{t:St->Am.Loc->List Deferred->World->Prop}{H:Nat}{J:fW}{o:Oper}{s:St}{K:St->Prop}{k:Box K}{args:Array Operand}{tys:Array TypeId}
def xN(A:List Src.Tok)(n fin:Nat)(a:br O t)(ho:o.op=.call ⟨.value (.func 121),args,tys⟩)(I:args.toList.map s.ev=[.one (.ptr 125 (s.gen 125) 0)])(b:s.obj 125=S (rdC A n fin))(c:K (s.put o.dst (iv .i64 (dL A n:Nat)))):bu (spF Tryz.prog rd O t H J) o s k:=by
 refine jc a ho (by rw[I];exact ID b) ?_;rintro _ d e ⟨rfl,rfl,rfl⟩;exact c
def Gq(A:List Src.Tok)(n fin:Nat)(a:br O t)(ho:o.op=.call ⟨.value (.func 120),args,tys⟩)(I:args.toList.map s.ev=[.one (.ptr 125 (s.gen 125) 0)])(c:Nat)(hB:200<=c)(b:∀i,c<=i->s.obj i=N)(d:s.obj 125=S (rdC A n fin))(e:K (s.put o.dst (sv (az A n)))):bu (spF Tryz.prog rd O t H J) o s k:=by
 refine jc a ho (by rw[I];exact De hB b d) ?_;rintro _ f h ⟨rfl,rfl,rfl⟩;exact e
def cN(A:List Src.Tok)(n fin:Nat)(str:Str)(a:br O t)(ho:o.op=.call ⟨.value (.func 75),args,tys⟩)(I:args.toList.map s.ev=[.one (.ptr 125 (s.gen 125) 0),sv str])(c:Nat)(hB:200<=c)(b:∀i,c<=i->s.obj i=N)(d:s.obj 125=S (rdC A n fin))(e:n<=1000000)
 (j:az A n=str->K (St.put ⟨s.f,s.gen,upd s.obj 125 (S (rdC A (n+1) fin))⟩ o.dst (bv T)))(l:az A n≠str->K (s.put o.dst (bv F))):bu (spF Tryz.prog rd O t H J) o s k:=by
 refine jc a ho (by rw[I];exact UO hB b d e str) ?_;rintro _ m p ⟨rfl,⟨h,rfl,rfl⟩|⟨h,rfl,rfl⟩⟩
 .exact j h
 .exact l h
def cq(A:List Src.Tok)(n fin:Nat)(e:br O t)(ho:o.op=.call ⟨.value (.func 78),args,tys⟩)(l:List Str)(j:Nat)(I:args.toList.map s.ev=[.one (.ptr 125 (s.gen 125) 0),.one (.osl j (s.gen j) 1 0 (z l))])(c:Nat)(hB:200<=c)(b:∀i,c<=i->s.obj i=N)(p:s.obj 125=S (rdC A n fin))(x:n+z l<=1000000)(y:j<c)(v:j≠125)(q:s.obj j=S (cF l))
{ob:Obs}{d:PR w}(E:InF B g ob s.gen s.obj)(u:∀m,aS A l n=.no m->d=.no m)
 (G:∀m,aS A l n=.ok () m->K (St.put ⟨s.f,s.gen,upd s.obj 125 (S (rdC A m fin))⟩ o.dst uv)):bu (spF Tryz.prog rd O t H (HJ B [125] g ob (NoR A fin d g ob))) o s k:=by
 refine bX (R:=OkR A fin (aS A l n) (λ_=>uv) s.gen s.obj) (cd:=NoR A fin (aS A l n) s.gen s.obj) e ho (by rw[I];exact Qw l hB b p x y v q) ?_ ?_
 .exact Wf
 .rintro r g' Z ⟨rfl,a,m,hp,rfl,rfl⟩
  exact G m hp
def Gr(A:List Src.Tok)(n fin:Nat)(e:br O t)(ho:o.op=.call ⟨.value (.func 74),args,tys⟩)(I:args.toList.map s.ev=[.one (.ptr 125 (s.gen 125) 0)])(a:s.obj 125=S (rdC A n fin))
{ob:Obs}{d:PR w}(E:InF B g ob s.gen s.obj)(u:d=.no n):bu (spF Tryz.prog rd O t H (HJ B [125] g ob (NoR A fin d g ob))) o s k:=by
 refine bX (R:=λ_ _ _=>False) (cd:=λb c Z=>b=vT (lS A fin n)/\c=s.gen/\Z=s.obj) e ho (by rw[I];exact yU a) ?_ (λ_ _ _ h=>h.elim);rintro b c Z ⟨rfl,rfl,rfl⟩;exact E.pan a u rfl
end
instance:Inhabited Ex:=⟨.mk 0 0 0 [] []⟩
def look[Inhabited w](p:PR w):∃a m,(∃W m',p=.ok W m')->p=.ok a m:=by
 cases p with
 |ok a m=>exact⟨a,m,λ_=>rfl⟩
 |no m=>exact⟨default,0,λ⟨_,_,h⟩=>by cases h⟩
def Pk(p:PR w){G:w->Prop}(a0:w)(b:G a0)(U:∀a m,p=.ok a m->G a):∃a m,G a/\((∃W m',p=.ok W m')->p=.ok a m):=by
 cases p with
 |ok a m=>exact⟨a,m,U a m rfl,λ_=>rfl⟩
 |no m=>exact⟨a0,0,b,λ⟨_,_,h⟩=>by cases h⟩
def MG(s:Str):(Src.qt s).2.2<=9:=by
 have h:∀(c:Prop)[Decidable c](x y:Int×Int×Nat),x.2.2<=9->y.2.2<=9->(if c then x else y).2.2<=9:=λc _ x y I a=>by split<;>assumption
 unfold Src.qt
 repeat (refine h _ _ _ (by decide) ?_)
 decide
def IP:(Src.qt []).2.2=0:=a7
mutual
def exD:Ex->List D
 |.mk kind op num name kids=>[.int .i64 kind,.int .i64 op,.int .u32 num,.str name,.sl (uG kids)]
def uG:List Ex->List (List D)
 |[]=>[]
 |e::l=>exD e::uG l
end
def aA:∀l:List Ex,uG l=l.map exD
 |[]=>by simp[uG]
 |e::l=>by simp[uG,aA l]
def dD(e:Ex):z (exD e)=5:=by cases e;simp[exD]
def exV(e:Ex):AV:=.agg ((exD e).map .d)
def dE(l:List Ex):AV:=.one (.d (.sl (l.map exD)))
def exC(l:List Ex):List C:=l.flatMap λa=>(exD a).map .d
def MH(l:List Ex):z (exC l)=z l*5:=by
 induction l with
 |nil=>rfl
 |cons a l b=>simp only[exC,A1,j4,j5,dD,j6]at b|-;omega
def pQ(e:Ex):exC [e]=(exD e).map .d:=by simp[exC]
def MJ(l m:List Ex):exC (l++m)=exC l++exC m:=by simp[exC]
def AT{s:St}{a b c d:D}{c5:C}{j:D}(h:iB (B<=·) s c5 j):fT B s [.agg [.d a,.d b,.d c,.d d,c5]] [.agg [.d a,.d b,.d c,.d d,.d j]]:=
 ⟨_,_,rfl,.agg (xs:=[a,b,c,d,j]) rfl (λi e f=>by
  match i,f with
  |0,f=>cases f;exact⟨_,rfl,.d _⟩
  |1,f=>cases f;exact⟨_,rfl,.d _⟩
  |2,f=>cases f;exact⟨_,rfl,.d _⟩
  |3,f=>cases f;exact⟨_,rfl,.d _⟩
  | 4,f=>cases f;exact⟨_,rfl,h⟩),rfl⟩
def pR{B id g n:Nat}{s:St}{l:List Ex}(b:B<=id)(hg:s.gen id=g)(ho:s.obj id=S (exC l))(c:z l=n):iB (B<=·) s (.osl id g 5 0 n) (.sl (uG l)):=by
 rw[aA];exact fN b hg l exD ho rfl (λa _=>dD a) c
end
end
section
open Go Go.Am Go.Asm
open Go.Src (PR dL az takeN aS Ex Stm dm gX ey fD gY)
attribute[local congr]ite_cc
structure ExK (A:List Src.Tok) (fin k:Nat):Prop where
 expr:∀(l n:Nat),1<=l->l<=100->n<=A.length->4*(A.length-n)+3<=k->fR 217 [iv .i64 l] A n fin (dm A k l n) exV
 atom:∀(n:Nat),n<=A.length->4*(A.length-n)+2<=k->fR 228 [] A n fin (ey A k n) exV
 args:∀(n:Nat),n<=A.length->4*(A.length-n)+4<=k->fR 230 [] A n fin (fD A k n) dE
def QA{A:List Src.Tok}{fin k n:Nat}(hl:z A<=100000)(G:ExK A fin k)(c4:n<=z A)(U:4*(z A-n)+2<=k+1):fR 228 [] A n fin (ey A (k+1) n) exV:=by
 intro B g ob hB hf ho;refine hdM B [125] Tryz.func228 rfl [.cell 2 187] Wk hf λO bo s0 w0=>?_;have Q:=nlo hB;have n2:=nhi hB;have E:InF B g ob g ob:=InF.refl;have bc:=hf;obtain⟨p,o⟩:∃p,ey A (k+1) n=p:=⟨_,rfl⟩
 rw[o];rw[ey]at o;simp only[go_sem,Q,n2];refine xN A n fin aa rfl Wg Ws ?_;by_cases Y:dL A n=2
 .rw[l7 Y]at o
  have b:(dL A n:Int)=2:=a6;simp only[go_sem,b];refine aI aa rfl (oZ A n fin 2 a6 a7) Wi (B+57) a6 (fi bc) Ws (InF.go E) (λm h=>by rw[<-o,h];rfl) ?_;intro t m x;rw[x,PR.bind_ok]at o;unfold qg nB;simp only[go_sem,Q,n2];refine⟨_,ae.refl _,?_⟩;simp only[go_sem,Q,n2];exact InF.ret (n:=m) (a:=.mk 1 0 t.num [] []) (InF.go E) Wg o.symm (AT .nil) (by simp[pack,exV,exD,uG])
 rw[j8 Y]at o;have b:¬(dL A n:Int)=2:=a6;simp only[go_sem,b];refine cN A n fin [103,101,116] aa rfl Wg (B+57) a6 (fi bc) Ws a6 (λh=>?_) (λh=>?_)
 .rw[l7 h]at o
  have H:=Src.dJ h a8;simp only[go_sem,Q,n2];refine cq A (n+1) fin aa rfl [[40],[41]] (B+17) Wi (B+57) a6 (fi bc) Wg Wk a6 a6 Wp (InF.go E) (λm h=>by rw[<-o,show Src.cP=[40]from rfl,show Src.bt=[41]from rfl,h];rfl) ?_;intro m y;rw[show Src.cP=[40]from rfl,show Src.bt=[41]from rfl,y,PR.bind_ok]at o;simp only[go_sem,Q,n2];refine⟨_,ae.refl _,?_⟩;simp only[go_sem,Q,n2];exact InF.ret (n:=m) (a:=.mk 5 0 0 [] []) (InF.go E) Wg o.symm (AT .nil) (by simp[pack,exV,exD,uG])
 rw[j8 h]at o;simp only[go_sem,Q,n2];refine cN A n fin [40] aa rfl Wg (B+57) a6 (fi bc) Ws a6 (λh=>?_) (λh=>?_)
 .rw[l7 (show az A n=Src.cP from h)]at o
  have H:=Src.dJ h a8;simp only[go_sem,Q,n2];refine aI aa rfl (G.expr 1 (n+1) a6 a6 a6 a6) Wi (B+57) a6 (fi bc) Wg (InF.go E) (λm h=>by rw[<-o,h];rfl) ?_;intro e m r;rw[r,PR.bind_ok]at o;have I:=Src.iM k 1 (n+1) e m r;obtain⟨u,w,en,J,q⟩:=e;simp only[go_sem,Q,n2,exV,exD];refine cq A m fin aa rfl [[41]] (B+26) Wi (B+57) a6 (fi bc) Wg Wk a6 a6 Wp (InF.go E) (λm h=>by rw[<-o,show Src.bt=[41]from rfl,h];rfl) ?_;intro v y;rw[show Src.bt=[41]from rfl,y,PR.bind_ok]at o;simp only[go_sem,Q,n2];refine⟨_,ae.refl _,?_⟩;simp only[go_sem,Q,n2];exact InF.ret (n:=v) (a:=.mk u w en J q) (InF.go E) Wg o.symm (AT (.d _)) Yt
 rw[j8 (show ¬az A n=Src.cP from h)]at o;simp only[go_sem,Q,n2];refine cN A n fin [33] aa rfl Wg (B+57) a6 (fi bc) Ws a6 (λh=>?_) (λh=>?_)
 .rw[l7 h]at o
  have H:=Src.dJ h a8;simp only[go_sem,Q,n2];refine aI aa rfl (G.atom (n+1) a6 a6) Wi (B+57) a6 (fi bc) Wg (InF.go E) (λm h=>by rw[<-o,h];rfl) ?_;intro e m r;rw[r,PR.bind_ok]at o;simp only[go_sem,Q,n2,exV,dD,j5];refine⟨_,ae.refl _,?_⟩;simp only[go_sem,Q,n2];exact InF.ret (n:=m) (a:=.mk 7 0 0 [] [e]) (InF.go E) Wg o.symm (AT (pR (l:=[e]) a6 Wg X6 rfl)) Yt
 rw[j8 h]at o;simp only[go_sem,Q,n2];refine aI aa rfl (oZ A n fin 1 a6 a7) Wi (B+57) a6 (fi bc) Ws (InF.go E) (λm h=>by rw[<-o,h];rfl) ?_;intro t m x;rw[x,PR.bind_ok]at o;have V:=Src.kx t m x;have Z:=Src.il t m x;unfold qg nB;simp only[go_sem,Q,n2];refine cN A m fin [91] aa rfl Wg (B+57) a6 (fi bc) Wg a6 (λh=>?_) (λh=>?_)
 .rw[l7 h]at o
  have H:=Src.dJ h a8;simp only[go_sem,Q,n2];refine aI aa rfl (G.expr 1 (m+1) a6 a6 a6 a6) Wi (B+57) a6 (fi bc) Wg (InF.go E) (λm h=>by rw[<-o,h];rfl) ?_;intro e v r;rw[r,PR.bind_ok]at o;have I:=Src.iM k 1 (m+1) e v r;simp only[go_sem,Q,n2,exV,dD,j5];refine cq A v fin aa rfl [[93]] (B+48) Wi (B+57) a6 (fi bc) Wg Wk a6 a6 Wp (InF.go E) (λm h=>by rw[<-o,h];rfl) ?_;intro K y;rw[y,PR.bind_ok]at o;simp only[go_sem,Q,n2];refine⟨_,ae.refl _,?_⟩;simp only[go_sem,Q,n2];exact InF.ret (n:=K) (a:=.mk 3 0 0 t.text [e]) (InF.go E) Wg o.symm (AT (pR (l:=[e]) a6 Wg X6 rfl)) Yt
 rw[j8 h]at o;simp only[go_sem,Q,n2];refine cN A m fin [40] aa rfl Wg (B+57) a6 (fi bc) Wg a6 (λh=>?_) (λh=>?_)
 .rw[l7 (show az A m=Src.cP from h)]at o
  have H:=Src.dJ h a8;simp only[go_sem,Q,n2];refine aI aa rfl (G.args (m+1) a6 a6) Wi (B+57) a6 (fi bc) Wg (InF.go E) (λm h=>by rw[<-o,h];rfl) ?_;intro l v r;rw[r,PR.bind_ok]at o;simp only[go_sem,Q,n2,dE];refine⟨_,ae.refl _,?_⟩;simp only[go_sem,Q,n2];exact InF.ret (n:=v) (a:=.mk 4 0 0 t.text l) (InF.go E) Wg o.symm (AT (.d _)) (by simp[pack,exV,exD,aA])
 rw[j8 (show ¬az A m=Src.cP from h)]at o;simp only[go_sem,Q,n2];refine⟨_,ae.refl _,?_⟩;simp only[go_sem,Q,n2];exact InF.ret (n:=m) (a:=.mk 2 0 0 t.text []) (InF.go E) Wg o.symm (AT .nil) (by simp[pack,exV,exD,uG])
def EV{B id g n:Nat}{s:St}{l:List Ex}(a:B<=id)(hg:s.gen id=g)(ho:s.obj id=S (exC l))(b:z l=n):fT B s [.one (.osl id g 5 0 n)] [dE l]:=
 ⟨_,_,rfl,.one (by have:=pR (B:=B) a hg ho b;rwa [aA]at this),rfl⟩
def QB{A:List Src.Tok}{fin k n:Nat}(hl:z A<=100000)(r:∀j,j<=k->ExK A fin j)(c4:n<=z A)(y:4*(z A-n)+4<=k+1):fR 230 [] A n fin (fD A (k+1) n) dE:=by
 intro B g ob hB hf ho;refine hdM B [125] Tryz.func230 rfl [.tmp 2] Wk hf λO bo s0 w0=>?_;have Q:=nlo hB;have n2:=nhi hB;have E:InF B g ob g ob:=InF.refl;have bc:=hf;obtain⟨p,b⟩:∃p,fD A (k+1) n=p:=⟨_,rfl⟩
 rw[b];rw[fD]at b;simp only[go_sem,Q,n2];refine cN A n fin [41] aa rfl Wg (B+20) a6 (fi bc) Ws a6 (λh=>?_) (λh=>?_)
 .rw[l7 (show az A n=Src.bt from h)]at b
  simp only[go_sem,Q,n2];refine⟨_,ae.refl _,?_⟩;simp only[go_sem,Q,n2];exact InF.ret (n:=n+1) (a:=[]) (rs:=[.one (.d (.sl []))]) (InF.go E) Wg b.symm ⟨_,_,rfl,.one .nil,rfl⟩ rfl
 rw[j8 (show ¬az A n=Src.bt from h)]at b;simp only[go_sem,Q,n2];refine aI aa rfl ((r k (l0 _)).expr 1 n a6 a6 a6 a6) Wi (B+20) a6 (fi bc) Ws (InF.go E) (λm h=>by rw[<-b,h];rfl) ?_;intro e m l;rw[l,PR.bind_ok]at b;have u:=Src.iM k 1 n e m l;have Z:=Src.fE k 1 n e m l;simp only[go_sem,Q,n2,exV,dD,j5];refine aq (λX K=>∃(j H:Nat)(q:List Ex),X+H=z A/\z q<=H/\4*(z A-H)+2<=j/\j<=k/\K.f 0=.one (.ptr 125 (g 125) 0)/\K.f 3=.one (.osl (B+8) (K.gen (B+8)) 5 0 (z q))/\K.obj (B+8)=S (exC q)/\K.obj 125=S (rdC A H fin)/\InF B g ob K.gen K.obj/\(∀i,B+20<=i->K.obj i=N)/\gY A j q H=p) (z A-m) ?_ ?_
 .refine⟨k,m,[e],a6,by simp;omega,a6,l0 _,?_⟩
  simp only[go_sem,Q,n2,pQ];exact⟨(InF.go E),(fi bc),b⟩
 clear bc E b l;rintro X f g1 ad ⟨j,H,q,G,J,U,t,q0,o,P,I,E,bc,b⟩;simp only at q0 o P I E bc;obtain⟨j,rfl⟩:∃i,j=i+1:=⟨j-1,a6⟩
 rw[gY]at b;have hg:=E.rd;simp only[go_sem,q0];refine cN A H fin [44] aa rfl WZ (B+20) a6 (fi bc) WI a6 (λh=>?_) (λh=>?_)
 .rw[l7 (show az A H=Src.ck from h)]at b
  have V:=Src.dJ h a8;simp only[go_sem,Q,n2,q0,o];refine aI aa rfl ((r j a6).expr 1 (H+1) a6 a6 a6 a6) WD (B+20) a6 (fi bc) Wg (InF.go E) (λm h=>by rw[<-b,h];rfl) ?_;intro e m l;rw[l,PR.bind_ok]at b;have u:=Src.iM j 1 (H+1) e m l;have Z:=Src.fE j 1 (H+1) e m l;have v:=MH q;simp only[go_sem,Q,n2,exV,dD,j5,q0,o,P,v,aZ];refine⟨a6,⟨a7,a6⟩,?_⟩;refine ai (z A-m) a6 ⟨j,m,q++[e],a6,by rw[j4];simp;omega,a6,a6,?_⟩;simp only[go_sem,Q,n2,q0,o,j4];refine⟨?_,(InF.go E),(fi bc),b⟩;rw[s6 a6,MJ,pQ,s6 (by simp[dD])]
 .rw[j8 (show ¬az A H=Src.ck from h)]at b
  simp only[go_sem,Q,n2,q0,o];refine cq A H fin aa rfl [[41]] (B+17) WD (B+20) a6 (fi bc) WI Wk a6 a6 Wp (InF.go E) (λm h=>by rw[<-b,show Src.bt=[41]from rfl,h];rfl) ?_;intro m x;rw[show Src.bt=[41]from rfl,x,PR.bind_ok]at b;simp only[go_sem,Q,n2,q0,o];refine⟨_,ae.refl _,?_⟩;simp only[go_sem,Q,n2,o];exact InF.ret (n:=m) (a:=q) (InF.go E) Wg b.symm (EV a6 Wg (by simp only[go_sem,Q,n2,P]) rfl) rfl
section
variable{A:List Src.Tok}
def QC{fin k l n:Nat}(hl:z A<=100000)(ih:∀j,j<=k->ExK A fin j)(a1:1<=l)(V:l<=100)(c4:n<=z A)(hk:4*(z A-n)+3<=k+1):fR 217 [iv .i64 l] A n fin (dm A (k+1) l n) exV:=by
 intro B g ob hB hf ho;refine hdM B [125] Tryz.func217 rfl [.cell 4 187] Wk hf λO bo s0 w0=>?_;have Q:=nlo hB;have n2:=nhi hB;have E:InF B g ob g ob:=InF.refl;have bc:=hf;obtain⟨p,hp⟩:∃p,dm A (k+1) l n=p:=⟨_,rfl⟩
 rw[hp];rw[dm]at hp;simp only[go_sem,Q,n2];refine aI aa rfl ((ih k (l0 _)).atom n a6 a6) Wi (B+35) a6 (fi bc) Ws (InF.go E) (λm h=>by rw[<-hp,h];rfl) ?_;intro e m he;rw[he,PR.bind_ok]at hp;have av:=Src.BP k n e m he;have Z:=Src.yg k n e m he;obtain⟨u,w,en,es,q⟩:=e;simp only[go_sem,Q,n2,exV,exD]
 refine aq (λX K=>∃(j H:Nat)(left:Ex),X+H=z A/\4*(z A-H)+2<=j/\j<=k/\K.f 0=.one (.ptr 125 (g 125) 0)/\K.f 1=iv .i64 l/\K.f 4=.one (.ptr (B+4) (K.gen (B+4)) 0)/\K.f 5=.one (.ptr (B+5) (K.gen (B+5)) 0)/\
  (∃a b c d e,K.obj (B+4)=S [a,b,c,d,e])/\K.obj (B+5)=S ((exD left).map .d)/\K.obj 125=S (rdC A H fin)/\InF B g ob K.gen K.obj/\(∀i,B+35<=i->K.obj i=N)/\gX A j l left H=p) (z A-m) ?_ ?_
 .refine⟨k,m,.mk u w en es q,a6,a6,l0 _,?_⟩
  simp only[go_sem,Q,n2,exD];exact⟨⟨_,_,_,_,_,rfl,rfl,rfl,rfl,rfl⟩,(InF.go E),(fi bc),hp⟩
 clear bc E hp he;rintro X f g1 ad ⟨j,H,left,hz,hj,t,q0,q1,q4,q5,⟨a,b,c,d,e,o4⟩,o5,I,E,bc,hp⟩;simp only at q0 q1 q4 q5 o4 o5 I E bc;obtain⟨j,rfl⟩:∃i,j=i+1:=⟨j-1,a6⟩
 rw[gX]at hp;have hg:=E.rd;obtain⟨x,lo,ln,ls,s⟩:=left;simp only[exD,l9,v8]at o5;have cd:=MG (az A H);simp only[go_sem,q0];refine Gq A H fin aa rfl WZ (B+35) a6 (fi bc) WI ?_;simp only[go_sem,q0];refine Wz rfl (by simp only[go_sem,q0];exact Qy _) ?_;rintro _ rfl;unfold ER;by_cases af:(Src.qt (az A H)).2.2<l
 .rw[l7 af]at hp
  have bd:((Src.qt (az A H)).2.2:Int)<(l:Int):=a6;simp only[go_sem,q0,q1,q4,q5,bd,o4,o5];refine⟨_,ae.refl _,?_⟩;simp only[go_sem,q4,Q,n2];exact InF.ret (n:=H) (a:=.mk x lo ln ls s) (InF.go E) WI hp.symm (AT (.d _)) Yt
 rw[j8 af]at hp;have bd:¬((Src.qt (az A H)).2.2:Int)<(l:Int):=a6
 have G:H<z A:=by
  refine Src.dJ rfl λh=>?_;rw[h,IP]at af;omega
 have hw:=ab (k:=H) a6;have bs:=ab (k:=(Src.qt (az A H)).2.2) a6;unfold rdC jG at I;simp only[go_sem,q0,q1,q4,q5,bd,o4,o5,hg,I,hw,Q,n2];obtain⟨right,m',L⟩:=look (dm A j ((Src.qt (az A H)).2.2+1) (H+1));refine kU (∃a m,dm A j ((Src.qt (az A H)).2.2+1) (H+1)=.ok a m) aR mixed aa [B+32,125] [([5],[1],[],F),([0],[],[],F),([7],[],[],F),([29],[],[],F),([28,30],[],[1],F),([27,31],[],[0],F),([6],[0,1],[],F),([33,32],[],[],T)] 2 rfl b9 rfl Wk ?_;simp only[go_sem]
 (apply bY;(case hf=>rfl);(case hg=>first|exact w8|exact⟨_,rfl,by decide,rfl⟩);(case U=>intro fa ga oa K' J;simp only[go_sem,q5,o5,Q,n2]at J|-;exact J))
 iterate 2 (apply bY;(case hf=>rfl);(case hg=>first|exact w8|exact⟨_,rfl,by decide,rfl⟩);(case U=>intro fa ga oa K' J;simp only[go_sem,q0]at J|-;exact J))
 (apply bY;(case hf=>rfl);(case hg=>first|exact w8|exact⟨_,rfl,by decide,rfl⟩);(case U=>intro fa ga oa K' J;simp only[go_sem,bs]at J|-;exact J))
 refine kV (v:=exV right) (y:=S (rdC A m' fin)) w8 a8 (λfa ga oa K' J=>?_) ?_
 .simp only[go_sem,q0]at J|-
  refine aI (k:=bx K') aa rfl ((ih j a6).expr ((Src.qt (az A H)).2.2+1) (H+1) a6 a6 a6 a6) WN (B+35) a6 (fi bc) (by simp only[go_sem,Q,n2,rdC,jG]) (InF.go E) (λm h=>by rw[<-hp,h];rfl) ?_;intro a2 m2 Y;have e:=L ⟨_,_,Y⟩;rw[Y]at e;cases e;simp only[go_sem];exact J ⟨_,_,Y⟩
 (apply kg;(case hf=>rfl);(case hg=>first|exact w8|exact⟨_,rfl,by decide,rfl⟩);(case U=>intro fa ga oa K' J;simp only[go_sem,exV,dD,j5]at J|-;exact J))
 (apply bY;(case hf=>rfl);(case hg=>first|exact w8|exact⟨_,rfl,by decide,rfl⟩);(case U=>intro fa ga oa K' J;simp only[go_sem,Q,n2]at J|-;exact J))
 refine kW rfl w8 ?_;intro K' b0;simp only[go_sem,Q,n2];refine b0 _ ?_;clear b0 K';intro W;have e:=L W;rw[e,PR.bind_ok]at hp;have av:=Src.iM j ((Src.qt (az A H)).2.2+1) (H+1) right m' e;have Z:=Src.fE j ((Src.qt (az A H)).2.2+1) (H+1) right m' e;simp only[go_sem,Q,n2,q5,o5,q0,q1,q4];refine⟨z A-m',_,a6,Hq (id:=B+32) (o:=B+5) (cells:=[.d (.int .i64 (Src.qt (az A H)).1),.d (.int .i64 (Src.qt (az A H)).2.1),.d (.int .u32 0),.d (.str []),.osl (B+32) (nxC (aZ Tt 98+1) (g1 (B+32))) 5 0 2]) (cs:=[.d (.int .i64 (Src.qt (az A H)).1),.d (.int .i64 (Src.qt (az A H)).2.1),.d (.int .u32 0),.d (.str []),.d (.sl [exD (.mk x lo ln ls s),exD right])]) Wg rfl ?_,?_⟩
 .intro i c c' hc r
  match i,hc,r with
  |0,hc,r=>cases hc;cases r;exact .inl rfl
  |1,hc,r=>cases hc;cases r;exact .inl rfl
  |2,hc,r=>cases hc;cases r;exact .inl rfl
  |3,hc,r=>cases hc;cases r;exact .inl rfl
  |4,hc,r=>
    cases hc;cases r;refine .inr ⟨_,fN (P:=(·=B+32)) rfl ?_ [.mk x lo ln ls s,right] exD (cells:=exC [.mk x lo ln ls s,right]) ?_ rfl (λa _=>dD a) rfl,rfl⟩
    .simp only[go_sem,Q,n2]
    .simp only[go_sem,Q,n2]
     simp[exC,exD]
 refine⟨j,m',.mk (Src.qt (az A H)).1 (Src.qt (az A H)).2.1 0 [] [.mk x lo ln ls s,right],a6,a6,a6,?_⟩;simp only[St.drop1];simp only[go_sem,Q,n2,q0,q1,q4,exD,uG];exact⟨q5,⟨_,_,_,_,_,o4⟩,(InF.go E),(fi bc),hp⟩
def Gs(fin:Nat)(hl:z A<=100000)(k:Nat):ExK A fin k:=by
 induction k using Nat.strongRecOn with
 |ind k a=>
   cases k with
   |zero=>exact⟨λ_ _ _ _ _ h=>absurd h a6,λ_ _ h=>absurd h a6,λ_ _ h=>absurd h a6⟩
   |succ k=>
     exact⟨λl n U Y b c=>QC hl (λj d=>a j a6) U Y b c,λn U Y=>QA hl (a k a6) U Y,λn U Y=>QB hl (λj d=>a j a6) U Y⟩
end
end
section
open Go Go.Am Go.Asm
open Go.Src (PR dL az takeN aS Ex Stm dm gX ey fD gY jw iE eL eg)
attribute[local congr]ite_cc
section
def lA(l:List Str):AV:=.one (.d (.sl (l.map λs=>[.str s])))
def sS(l:List Str):z (cF l)=z l:=j5 _
def IQ{B id g n:Nat}{s:St}{l:List Str}(b:B<=id)(hg:s.gen id=g)(ho:s.obj id=S (cF l))(hn:z l=n):fT B s [.one (.osl id g 1 0 n)] [lA l]:=
 ⟨_,_,rfl,.one (fN b hg l (λs=>[.str s]) ho Yb (λ_ _=>rfl) hn),rfl⟩
variable{A:List Src.Tok}{fin k n:Nat}
def zb(hl:z A<=100000)(c4:n<=z A)(u:z A-n+1<=k):fR 76 [] A n fin (eL A k n) lA:=by
 intro B g ob hB hf ho;refine hdM B [125] Tryz.func76 rfl [.tmp 2] Wk hf λO bo s0 w0=>?_;have Q:=nlo hB;have n2:=nhi hB;have E:InF B g ob g ob:=InF.refl;have bc:=hf;obtain⟨p,b⟩:∃p,eL A k n=p:=⟨_,rfl⟩
 rw[b];rw[eL]at b;simp only[go_sem,Q,n2];refine aI aa rfl (oZ A n fin 1 a6 a7) Wi (B+17) a6 (fi bc) Ws (InF.go E) (λm h=>by rw[<-b,h];rfl) ?_;intro t m d;rw[d,PR.bind_ok]at b;have o:=Src.kx t m d;have Z:=Src.il t m d;unfold qg nB;simp only[go_sem,Q,n2];refine aq (λX K=>∃(j H:Nat)(q:List Str),X+H=z A/\z q<=H/\z A-H+1<=j/\K.f 0=.one (.ptr 125 (g 125) 0)/\K.f 3=.one (.osl (B+7) (K.gen (B+7)) 1 0 (z q))/\K.obj (B+7)=S (cF q)/\K.obj 125=S (rdC A H fin)/\InF B g ob K.gen K.obj/\(∀i,B+17<=i->K.obj i=N)/\eg A j q H=p) (z A-m) ?_ ?_
 .refine⟨k,m,[t.text],a6,by simp;omega,a6,?_⟩
  simp only[go_sem,Q,n2,cF];exact⟨(InF.go E),(fi bc),b⟩
 clear bc E b;rintro X f g1 ad ⟨j,H,q,v,x,y,q0,e,l,I,E,bc,b⟩;simp only at q0 e l I E bc;obtain⟨j,rfl⟩:∃i,j=i+1:=⟨j-1,a6⟩
 rw[eg]at b;have hg:=E.rd;simp only[go_sem,q0];refine cN A H fin [44] aa rfl WZ (B+17) a6 (fi bc) WI a6 (λh=>?_) (λh=>?_)
 .rw[l7 (show az A H=Src.ck from h)]at b
  have G:=Src.dJ h a8;simp only[go_sem,Q,n2,q0,e];refine aI aa rfl (oZ A (H+1) fin 1 a6 a7) WD (B+17) a6 (fi bc) Wg (InF.go E) (λm h=>by rw[<-b,h];rfl) ?_;intro t m d;rw[d,PR.bind_ok]at b;have o:=Src.kx t m d;have Z:=Src.il t m d;have r:=sS q;unfold qg nB;simp only[go_sem,Q,n2,q0,e,l,r,aZ];refine⟨a6,⟨a7,a6⟩,?_⟩;refine ai (z A-m) a6 ⟨j,m,q++[t.text],a6,by rw[j4];simp;omega,a6,?_⟩;simp only[go_sem,Q,n2,q0,e,j4];refine⟨?_,(InF.go E),(fi bc),b⟩;rw[s6 a6];simp[cF]
 .rw[j8 (show ¬az A H=Src.ck from h)]at b
  simp only[go_sem,Q,n2,q0,e];refine⟨_,ae.refl _,?_⟩;simp only[go_sem,Q,n2,e];exact InF.ret (n:=H) (a:=q) (InF.go E) WI b.symm (IQ a6 Wg (by simp only[go_sem,Q,n2,l]) rfl) rfl
def zc(hl:z A<=100000)(c4:n<=z A)(v:4*(z A-n)+3<=k):fR 216 [] A n fin (jw A k n) dE:=by
 intro B g ob hB hf ho;refine hdM B [125] Tryz.func216 rfl [.tmp 2] Wk hf λO bo s0 w0=>?_;have Q:=nlo hB;have n2:=nhi hB;have E:InF B g ob g ob:=InF.refl;have bc:=hf;obtain⟨p,b⟩:∃p,jw A k n=p:=⟨_,rfl⟩
 rw[b];rw[jw]at b;simp only[go_sem,Q,n2];refine cq A n fin aa rfl [[40]] (B+5) Wi (B+14) a6 (fi bc) Ws Wk a6 a6 Wp (InF.go E) (λm h=>by rw[<-b,show Src.cP=[40]from rfl,h];rfl) ?_;intro m d;rw[show Src.cP=[40]from rfl,d,PR.bind_ok]at b;have x:=Src.df (A:=A) a8 () m d;have Z:=Src.da () m d;simp only[go_sem,Q,n2];refine aI aa rfl ((Gs fin hl k).expr 1 m a6 a6 a6 a6) Wi (B+14) a6 (fi bc) Wg (InF.go E) (λm h=>by rw[<-b,h];rfl) ?_;intro e l o;rw[o,PR.bind_ok]at b;have P:=Src.iM k 1 m e l o;obtain⟨u,w,en,r,q⟩:=e;simp only[go_sem,Q,n2,exV,exD];refine cq A l fin aa rfl [[41]] (B+10) Wi (B+14) a6 (fi bc) Wg Wk a6 a6 Wp (InF.go E) (λm h=>by rw[<-b,show Src.bt=[41]from rfl,h];rfl) ?_;intro t d;rw[show Src.bt=[41]from rfl,d,PR.bind_ok]at b;simp only[go_sem,Q,n2];refine⟨_,ae.refl _,?_⟩;simp only[go_sem,Q,n2];exact InF.ret (n:=t) (a:=[.mk u w en r q]) (InF.go E) Wg b.symm (EV a6 Wg (by simp only[go_sem,Q,n2];simp[exC,exD]) rfl) rfl
end
end
section
open Go Go.Am Go.Asm
open Go.Src (PR dL az takeN aS Ex Stm dm gX ey fD gY jw iE eL gy iw dH)
attribute[local congr]ite_cc
mutual
def smD:Stm->List D
 |.mk kind name e a el=>[.int .i64 kind,.str name,.sl (uG e),.sl (uH a),.sl (uH el)]
def uH:List Stm->List (List D)
 |[]=>[]
 |s::l=>smD s::uH l
end
def cT:∀l:List Stm,uH l=l.map smD
 |[]=>by simp[uH]
 |e::l=>by simp[uH,cT l]
def lU(e:Stm):z (smD e)=5:=by cases e;simp[smD]
def smV(e:Stm):AV:=.agg ((smD e).map .d)
def ed(l:List Stm):AV:=.one (.d (.sl (l.map smD)))
def smC(l:List Stm):List C:=l.flatMap λa=>(smD a).map .d
def MK(l:List Stm):z (smC l)=z l*5:=by
 induction l with
 |nil=>rfl
 |cons a l b=>simp only[smC,A1,j4,j5,lU,j6]at b|-;omega
def ML(e:Stm):smC [e]=(smD e).map .d:=by simp[smC]
def MM(l m:List Stm):smC (l++m)=smC l++smC m:=by simp[smC]
def MN{B id g n:Nat}{s:St}{l:List Stm}(b:B<=id)(hg:s.gen id=g)(ho:s.obj id=S (smC l))(c:z l=n):fT B s [.one (.osl id g 5 0 n)] [ed l]:=
 ⟨_,_,rfl,.one (fN b hg l smD ho rfl (λa _=>lU a) c),rfl⟩
def qs{B:Nat}{s:St}{a b:D}{c3 c4 c5:C}{P f g:D}(h:iB (B<=·) s c3 P)(j:iB (B<=·) s c4 f)(k:iB (B<=·) s c5 g):fT B s [.agg [.d a,.d b,c3,c4,c5]] [.agg [.d a,.d b,.d P,.d f,.d g]]:=
 ⟨_,_,rfl,.agg (xs:=[a,b,P,f,g]) rfl (λi e c=>by
  match i,c with
  |0,c=>cases c;exact⟨_,rfl,.d _⟩
  |1,c=>cases c;exact⟨_,rfl,.d _⟩
  |2,c=>cases c;exact⟨_,rfl,h⟩
  |3,c=>cases c;exact⟨_,rfl,j⟩
  | 4,c=>cases c;exact⟨_,rfl,k⟩),rfl⟩
def MO{A:List Src.Tok}{fin k n:Nat}(hl:z A<=100000)(c4:n<=z A)(hk:4*(z A-n)+3<=k):fR 219 [] A n fin (iE A k n) smV:=by
 intro B g ob hB hf ho;refine hdM B [125] Tryz.func219 rfl [.cell 2 100] Wk hf λO bo s0 w0=>?_;have Q:=nlo hB;have n2:=nhi hB;have E:InF B g ob g ob:=InF.refl;have bc:=hf;obtain⟨p,o⟩:∃p,iE A k n=p:=⟨_,rfl⟩
 rw[o];rw[iE]at o;simp only[go_sem,Q,n2];refine aI aa rfl (oZ A n fin 1 a6 a7) Wi (B+44) a6 (fi bc) Ws (InF.go E) (λm h=>by rw[<-o,h];rfl) ?_;intro t m ht;rw[ht,PR.bind_ok]at o;have av:=Src.kx t m ht;have Z:=Src.il t m ht;unfold qg nB;simp only[go_sem,Q,n2];refine cN A m fin [61] aa rfl Wg (B+44) a6 (fi bc) Wg a6 (λh=>?_) (λh=>?_)
 .rw[l7 h]at o
  have af:=Src.dJ h a8;simp only[go_sem,Q,n2];refine aI aa rfl ((Gs fin hl k).expr 1 (m+1) a6 a6 a6 a6) Wi (B+44) a6 (fi bc) Wg (InF.go E) (λm h=>by rw[<-o,h];rfl) ?_;intro e x G;rw[G,PR.bind_ok,PR.bind_ok]at o;have P:=Src.iM k 1 (m+1) e x G;simp only[go_sem,Q,n2,exV,dD,j5];refine cq A x fin aa rfl [[59]] (B+41) Wi (B+44) a6 (fi bc) Wg Wk a6 a6 Wp (InF.go E) (λm h=>by rw[<-o,show Src.bO=[59]from rfl,h];rfl) ?_;intro r H;rw[show Src.bO=[59]from rfl,H,PR.bind_ok]at o;simp only[go_sem,Q,n2];refine⟨_,ae.refl _,?_⟩;simp only[go_sem,Q,n2];exact InF.ret (n:=r) (a:=.mk 1 t.text [e] [] []) (InF.go E) Wg o.symm (qs (pR (l:=[e]) a6 Wg X6 rfl) .nil .nil) (by simp[pack,smV,smD,uH])
 rw[j8 h]at o;simp only[go_sem,Q,n2];refine cN A m fin [91] aa rfl Wg (B+44) a6 (fi bc) Wg a6 (λh=>?_) (λh=>?_)
 .rw[l7 h]at o
  have af:=Src.dJ h a8;simp only[go_sem,Q,n2];refine aI aa rfl ((Gs fin hl k).expr 1 (m+1) a6 a6 a6 a6) Wi (B+44) a6 (fi bc) Wg (InF.go E) (λm h=>by rw[<-o,h];rfl) ?_;intro e x G;rw[G,PR.bind_ok]at o;have P:=Src.iM k 1 (m+1) e x G;have b:=Src.fE k 1 (m+1) e x G;obtain⟨u,w,en,es,q⟩:=e;simp only[go_sem,Q,n2,exV,exD];refine cq A x fin aa rfl [[93],[61]] (B+25) Wi (B+44) a6 (fi bc) Wg Wk a6 a6 Wp (InF.go E) (λm h=>by rw[<-o,h];rfl) ?_;intro r H;rw[H,PR.bind_ok]at o;have bs:=Src.df (A:=A) a8 () r H;have e0:=Src.da () r H;simp only[go_sem,Q,n2];obtain⟨right,m',L⟩:=look (dm A k 1 r);refine kU (∃a m,dm A k 1 r=.ok a m) aR mixed aa [B+31,125] [([4],[1],[],F),([0],[],[],F),([29],[],[1],F),([28,30],[],[0],F),([3],[0,1],[],F),([32,31],[],[],T)] 2 rfl b9 rfl Wk ?_;simp only[go_sem]
  (apply bY;(case hf=>rfl);(case hg=>first|exact w8|exact⟨_,rfl,by decide,rfl⟩);(case U=>intro K ga oa I J;simp only[go_sem,Q,n2]at J|-;exact J))
  (apply bY;(case hf=>rfl);(case hg=>first|exact w8|exact⟨_,rfl,by decide,rfl⟩);(case U=>intro K ga oa I J;simp only[go_sem]at J|-;exact J))
  refine kV (v:=exV right) (y:=S (rdC A m' fin)) w8 a8 (λK ga oa I J=>?_) ?_
  .simp only[go_sem,Q,n2]at J|-
   refine aI (k:=bx I) aa rfl ((Gs fin hl k).expr 1 r a6 a6 a6 a6) Wi (B+44) a6 (fi bc) Wg (InF.go E) (λm h=>by rw[<-o,h];rfl) ?_;exact mF
  (apply kg;(case hf=>rfl);(case hg=>first|exact w8|exact⟨_,rfl,by decide,rfl⟩);(case U=>intro K ga oa I J;simp only[go_sem,exV,dD,j5,Q,n2]at J|-;exact J))
  (apply bY;(case hf=>rfl);(case hg=>first|exact w8|exact⟨_,rfl,by decide,rfl⟩);(case U=>intro K ga oa I J;simp only[go_sem,Q,n2]at J|-;exact J))
  refine kW rfl w8 ?_;intro I b0;simp only[go_sem,Q,n2];refine b0 _ ?_;clear b0 I;intro W;have e:=L W;rw[e,PR.bind_ok,PR.bind_ok]at o;have b6:=Src.iM k 1 r right m' e;simp only[go_sem,Q,n2];refine cq A m' fin aa rfl [[59]] (B+41) Wi (B+44) a6 (fi bc) Wg Wk a6 a6 Wp (InF.go E) (λm h=>by rw[<-o,show Src.bO=[59]from rfl,h];rfl) ?_;intro V H;rw[show Src.bO=[59]from rfl,H,PR.bind_ok]at o;simp only[go_sem,Q,n2];refine⟨_,ae.refl _,?_⟩;simp only[go_sem,Q,n2];exact InF.ret (n:=V) (a:=.mk 2 t.text [.mk u w en es q,right] [] []) (InF.go E) Wg o.symm (qs (pR (l:=[.mk u w en es q,right]) a6 Wg (by simp only[go_sem,Q,n2];simp[exC,exD]) rfl) .nil .nil) (by simp[pack,smV,smD,uH])
 rw[j8 h]at o;simp only[go_sem,Q,n2];refine cN A m fin [40] aa rfl Wg (B+44) a6 (fi bc) Wg a6 (λh=>?_) (λh=>?_)
 .rw[l7 (show az A m=Src.cP from h)]at o
  have af:=Src.dJ h a8;simp only[go_sem,Q,n2];refine aI aa rfl ((Gs fin hl k).args (m+1) a6 a6) Wi (B+44) a6 (fi bc) Wg (InF.go E) (λm h=>by rw[<-o,h];rfl) ?_;intro l x G;rw[G,PR.bind_ok,PR.bind_ok]at o;have P:=Src.BQ k (m+1) l x G;simp only[go_sem,Q,n2,dE];refine cq A x fin aa rfl [[59]] (B+41) Wi (B+44) a6 (fi bc) Wg Wk a6 a6 Wp (InF.go E) (λm h=>by rw[<-o,show Src.bO=[59]from rfl,h];rfl) ?_;intro r H;rw[show Src.bO=[59]from rfl,H,PR.bind_ok]at o;simp only[go_sem,Q,n2];refine⟨_,ae.refl _,?_⟩;simp only[go_sem,Q,n2];exact InF.ret (n:=r) (a:=.mk 6 t.text l [] []) (InF.go E) Wg o.symm (qs (.d _) .nil .nil) (by simp[pack,smV,smD,uH,aA])
 rw[j8 (show ¬az A m=Src.cP from h)]at o;simp only[go_sem,Q,n2];exact Gr A m fin aa rfl Wg Wg (InF.go E) o.symm
section
structure SmK (A:List Src.Tok) (fin k:Nat):Prop where
 stmt:∀(n:Nat),n<=A.length->4*(A.length-n)+4<=k->fR 190 [] A n fin (gy A k n) smV
 body:∀(n:Nat),n<=A.length->4*(A.length-n)+6<=k->fR 218 [] A n fin (iw A k n) ed
 stmts:∀(n:Nat),n<=A.length->4*(A.length-n)+5<=k->fR 122 [] A n fin (dH A k [] n) ed
variable{A:List Src.Tok}{fin k n:Nat}
def Qo(hl:z A<=100000)(y:SmK A fin k)(c4:n<=z A)(W:4*(z A-n)+4<=k+1):fR 190 [] A n fin (gy A (k+1) n) smV:=by
 intro B g ob hB hf ho;refine hdM B [125] Tryz.func190 rfl [.cell 2 100] Wk hf λO bo s0 w0=>?_;have Q:=nlo hB;have n2:=nhi hB;have E:InF B g ob g ob:=InF.refl;have bc:=hf;obtain⟨p,o⟩:∃p,gy A (k+1) n=p:=⟨_,rfl⟩
 rw[o];rw[gy]at o;simp only[go_sem,Q,n2];refine cN A n fin [112,117,116] aa rfl Wg (B+55) a6 (fi bc) Ws a6 (λh=>?_) (λh=>?_)
 .rw[l7 h]at o
  have x:=Src.dJ h a8;simp only[go_sem,Q,n2];refine aI aa rfl (zc hl (k:=k) (n:=n+1) a6 a6) Wi (B+55) a6 (fi bc) Wg (InF.go E) (λm h=>by rw[<-o,h];rfl) ?_;intro l m r;rw[r,PR.bind_ok]at o;have P:=Src.tu l m r;simp only[go_sem,Q,n2,dE];refine cq A m fin aa rfl [[59]] (B+13) Wi (B+55) a6 (fi bc) Wg Wk a6 a6 Wp (InF.go E) (λm h=>by rw[<-o,show Src.bO=[59]from rfl,h];rfl) ?_;intro G H;rw[show Src.bO=[59]from rfl,H,PR.bind_ok]at o;simp only[go_sem,Q,n2];refine⟨_,ae.refl _,?_⟩;simp only[go_sem,Q,n2];exact InF.ret (n:=G) (a:=.mk 3 [] l [] []) (InF.go E) Wg o.symm (qs (.d _) .nil .nil) (by simp[pack,smV,smD,uH,aA])
 rw[j8 h]at o;simp only[go_sem,Q,n2];refine cN A n fin [114,101,116,117,114,110] aa rfl Wg (B+55) a6 (fi bc) Ws a6 (λh=>?_) (λh=>?_)
 .rw[l7 h]at o
  have x:=Src.dJ h a8;simp only[go_sem,Q,n2];refine cN A (n+1) fin [59] aa rfl Wg (B+55) a6 (fi bc) Wg a6 (λh=>?_) (λh=>?_)
  .rw[l7 (show az A (n+1)=Src.bO from h)]at o
   simp only[go_sem,Q,n2];refine⟨_,ae.refl _,?_⟩;simp only[go_sem,Q,n2];exact InF.ret (n:=n+2) (a:=.mk 7 [] [] [] []) (InF.go E) Wg o.symm (qs .nil .nil .nil) (by simp[pack,smV,smD,uH,uG])
  rw[j8 (show ¬az A (n+1)=Src.bO from h)]at o;simp only[go_sem,Q,n2];refine aI aa rfl ((Gs fin hl k).expr 1 (n+1) a6 a6 a6 a6) Wi (B+55) a6 (fi bc) Wg (InF.go E) (λm h=>by rw[<-o,h];rfl) ?_;intro e t r;rw[r,PR.bind_ok]at o;have P:=Src.iM k 1 (n+1) e t r;simp only[go_sem,Q,n2,exV,dD,j5];refine cq A t fin aa rfl [[59]] (B+28) Wi (B+55) a6 (fi bc) Wg Wk a6 a6 Wp (InF.go E) (λm h=>by rw[<-o,show Src.bO=[59]from rfl,h];rfl) ?_;intro G H;rw[show Src.bO=[59]from rfl,H,PR.bind_ok]at o;simp only[go_sem,Q,n2];refine⟨_,ae.refl _,?_⟩;simp only[go_sem,Q,n2];exact InF.ret (n:=G) (a:=.mk 7 [] [e] [] []) (InF.go E) Wg o.symm (qs (pR (l:=[e]) a6 Wg X6 rfl) .nil .nil) (by simp[pack,smV,smD,uH])
 rw[j8 h]at o;simp only[go_sem,Q,n2];refine cN A n fin [105,102] aa rfl Wg (B+55) a6 (fi bc) Ws a6 (λh=>?_) (λh=>?_)
 .rw[l7 h]at o
  have x:=Src.dJ h a8;simp only[go_sem,Q,n2];refine aI aa rfl (zc hl (k:=k) (n:=n+1) a6 a6) Wi (B+55) a6 (fi bc) Wg (InF.go E) (λm h=>by rw[<-o,h];rfl) ?_;intro l m r;rw[r,PR.bind_ok]at o;have P:=Src.tu l m r;have b:=Src.qV l m r;simp only[go_sem,Q,n2,dE];refine aI aa rfl (y.body m a6 a6) Wi (B+55) a6 (fi bc) Wg (InF.go E) (λm h=>by rw[<-o,h];rfl) ?_;intro v t r;rw[r,PR.bind_ok]at o;have Y:=Src.wJ k m v t r;have c:=Src.tt k m v t r;simp only[go_sem,Q,n2,ed];refine cN A t fin [101,108,115,101] aa rfl Wg (B+55) a6 (fi bc) Wg a6 (λh=>?_) (λh=>?_)
  .rw[l7 h]at o
   have x:=Src.dJ h a8;simp only[go_sem,Q,n2];refine aI aa rfl (y.body (t+1) a6 a6) Wi (B+55) a6 (fi bc) Wg (InF.go E) (λm h=>by rw[<-o,h];rfl) ?_;intro el I r;rw[r,PR.bind_ok]at o;simp only[go_sem,Q,n2,ed];refine⟨_,ae.refl _,?_⟩;simp only[go_sem,Q,n2];exact InF.ret (n:=I) (a:=.mk 4 [] l v el) (InF.go E) Wg o.symm (qs (.d _) (.d _) (.d _)) YF
  rw[j8 h]at o;simp only[go_sem,Q,n2];refine⟨_,ae.refl _,?_⟩;simp only[go_sem,Q,n2];exact InF.ret (n:=t) (a:=.mk 4 [] l v []) (InF.go E) Wg o.symm (qs (.d _) (.d _) .nil) YF
 rw[j8 h]at o;simp only[go_sem,Q,n2];refine cN A n fin [119,104,105,108,101] aa rfl Wg (B+55) a6 (fi bc) Ws a6 (λh=>?_) (λh=>?_)
 .rw[l7 h]at o
  have x:=Src.dJ h a8;simp only[go_sem,Q,n2];refine aI aa rfl (zc hl (k:=k) (n:=n+1) a6 a6) Wi (B+55) a6 (fi bc) Wg (InF.go E) (λm h=>by rw[<-o,h];rfl) ?_;intro l m r;rw[r,PR.bind_ok]at o;have P:=Src.tu l m r;have b:=Src.qV l m r;simp only[go_sem,Q,n2,dE];refine aI aa rfl (y.body m a6 a6) Wi (B+55) a6 (fi bc) Wg (InF.go E) (λm h=>by rw[<-o,h];rfl) ?_;intro v t r;rw[r,PR.bind_ok]at o;simp only[go_sem,Q,n2,ed];refine⟨_,ae.refl _,?_⟩;simp only[go_sem,Q,n2];exact InF.ret (n:=t) (a:=.mk 5 [] l v []) (InF.go E) Wg o.symm (qs (.d _) (.d _) .nil) YF
 rw[j8 h]at o;simp only[go_sem,Q,n2];refine aI aa rfl (MO hl (k:=k) (n:=n) a6 a6) Wi (B+55) a6 (fi bc) Ws (InF.go E) (λm h=>by rw[<-o,h]) ?_;intro e t r;rw[r]at o;obtain⟨u,J,K,U,V⟩:=e;simp only[go_sem,Q,n2,smV,smD];refine⟨_,ae.refl _,?_⟩;simp only[go_sem,Q,n2];exact InF.ret (n:=t) (a:=.mk u J K U V) (InF.go E) Wg o.symm (qs (.d _) (.d _) (.d _)) (by simp[pack,smV,smD])
def Qp(hl:z A<=100000)(o:SmK A fin k)(c4:n<=z A)(u:4*(z A-n)+6<=k+1):fR 218 [] A n fin (iw A (k+1) n) ed:=by
 intro B g ob hB hf ho;refine hdM B [125] Tryz.func218 rfl [.tmp 2] Wk hf λO bo s0 w0=>?_;have Q:=nlo hB;have n2:=nhi hB;have E:InF B g ob g ob:=InF.refl;have bc:=hf;obtain⟨p,b⟩:∃p,iw A (k+1) n=p:=⟨_,rfl⟩
 rw[b];rw[iw]at b;simp only[go_sem,Q,n2];refine cq A n fin aa rfl [[123]] (B+4) Wi (B+8) a6 (fi bc) Ws Wk a6 a6 Wp (InF.go E) (λm h=>by rw[<-b,h];rfl) ?_;intro m e;rw[e,PR.bind_ok]at b;have v:=Src.df (A:=A) a8 () m e;have Z:=Src.da () m e;simp only[go_sem,Q,n2];refine aI aa rfl (o.stmts m a6 a6) Wi (B+8) a6 (fi bc) Wg (InF.go E) (λm h=>by rw[<-b,h]) ?_;intro l r t;rw[t]at b;simp only[go_sem,Q,n2,ed];refine⟨_,ae.refl _,?_⟩;simp only[go_sem,Q,n2];exact InF.ret (n:=r) (a:=l) (rs:=[ed l]) (InF.go E) Wg b.symm ⟨_,_,rfl,.one (.d _),rfl⟩ rfl
def Mf(hl:z A<=100000)(u:∀j,j<=k->SmK A fin j)(c4:n<=z A)(y:4*(z A-n)+5<=k+1):fR 122 [] A n fin (dH A (k+1) [] n) ed:=by
 intro B g ob hB hf ho;refine hdM B [125] Tryz.func122 rfl [.tmp 2] Wk hf λO bo s0 w0=>?_;have Q:=nlo hB;have n2:=nhi hB;obtain⟨p,l⟩:∃p,dH A (k+1) [] n=p:=⟨_,rfl⟩
 rw[l];simp only[go_sem,Q,n2];refine aq (λX K=>∃(j H:Nat)(q:List Stm),X+H=z A/\z q<=H/\4*(z A-H)+5<=j/\j<=k+1/\K.f 0=.one (.ptr 125 (g 125) 0)/\((q=[]/\K.f 3=.one (.d .nsl))\/(K.f 3=.one (.osl (B+11) (K.gen (B+11)) 5 0 (z q))/\K.obj (B+11)=S (smC q)))/\K.obj 125=S (rdC A H fin)/\InF B g ob K.gen K.obj/\(∀i,B+13<=i->K.obj i=N)/\dH A j q H=p) (z A-n) ?_ ?_
 .refine⟨k+1,n,[],a6,a8,a6,l0 _,?_⟩
  simp only[go_sem,Q,n2];exact⟨.inl trivial,ho,InF.refl,λi hi=>hf i a6,l⟩
 clear l;rintro X f g1 ad ⟨j,H,q,G,J,U,t,q0,b,I,E,bc,l⟩;simp only at q0 b I E bc;obtain⟨j,rfl⟩:∃i,j=i+1:=⟨j-1,a6⟩
 rw[dH]at l;have hg:=E.rd;simp only[go_sem,q0];refine cN A H fin [125] aa rfl WZ (B+13) a6 (fi bc) WI a6 (λh=>?_) (λh=>?_)
 .rw[l7 h]at l
  rcases b with⟨rfl,b⟩|⟨b,o3⟩
  .simp only[go_sem,Q,n2,q0,b]
   refine⟨_,ae.refl _,?_⟩;simp only[go_sem,Q,n2,b];exact InF.ret (n:=H+1) (a:=[]) (rs:=[.one (.d (.sl []))]) (InF.go E) Wg l.symm ⟨_,_,rfl,.one .nil,rfl⟩ rfl
  .simp only[go_sem,Q,n2,q0,b]
   refine⟨_,ae.refl _,?_⟩;simp only[go_sem,Q,n2,b];exact InF.ret (n:=H+1) (a:=q) (InF.go E) Wg l.symm (MN a6 Wg (by simp only[go_sem,Q,n2,o3]) rfl) rfl
 rw[j8 h]at l;have r:=(u j a6).stmt H a6 a6;rcases b with⟨rfl,b⟩|⟨b,o3⟩
 .simp only[go_sem,Q,n2,q0,b]
  refine aI aa rfl r WD (B+13) a6 (fi bc) WI (InF.go E) (λm h=>by rw[<-l,h];rfl) ?_;intro e m o;rw[o,PR.bind_ok]at l;have v:=Src.Kq j H e m o;have Z:=Src.GX j H e m o;simp only[go_sem,Q,n2,smV,lU,j5,q0,b,aZ];refine⟨⟨a7,a6⟩,?_⟩;refine ai (z A-m) a6 ⟨j,m,[]++[e],a6,by simp;omega,a6,a6,?_⟩;simp only[go_sem,Q,n2,q0,b];refine⟨.inr ?_,(InF.go E),(fi bc),l⟩;rw[s6 (by simp[lU])];simp[smC]
 .have x:=MK q
  simp only[go_sem,Q,n2,q0,b];refine aI aa rfl r WD (B+13) a6 (fi bc) WI (InF.go E) (λm h=>by rw[<-l,h];rfl) ?_;intro e m o;rw[o,PR.bind_ok]at l;have v:=Src.Kq j H e m o;have Z:=Src.GX j H e m o;simp only[go_sem,Q,n2,smV,lU,j5,q0,b,o3,x,aZ];refine⟨a6,⟨a7,a6⟩,?_⟩;refine ai (z A-m) a6 ⟨j,m,q++[e],a6,by rw[j4];simp;omega,a6,a6,?_⟩;simp only[go_sem,Q,n2,q0,b,j4];refine⟨.inr ?_,(InF.go E),(fi bc),l⟩;rw[s6 a6,MM,ML,s6 (by simp[lU])]
def XB(fin:Nat)(hl:z A<=100000)(k:Nat):SmK A fin k:=by
 induction k using Nat.strongRecOn with
 |ind k a=>
   cases k with
   |zero=>exact⟨λ_ _ h=>absurd h a6,λ_ _ h=>absurd h a6,λ_ _ h=>absurd h a6⟩
   |succ k=>exact⟨λn U Y=>Qo hl (a k a6) U Y,λn U Y=>Qp hl (a k a6) U Y,λn U Y=>Mf hl (λj b=>a j a6) U Y⟩
end
end
end Go.Proofs.YtednjibjomfhfaaGreatDoor
namespace Go.Am
section
attribute[local congr]ite_cc
def oY{P:Program}{rd:Option Nat}{O:Bs}{a:St->Loc->List Deferred->World->Prop}{c:Nat}{e:fW}{B:(Exit->St->Prop)->St->Prop}{b:Box B}{Q:Exit->St->Prop}{q:Box Q}{s:St}(d:St)(i:ae s d)(I:Nat->St->Prop)(n:Nat)(j:I n d)
 (V:∀n f g h,I n ⟨f,g,h⟩->B (lj (bx λk=>∃H d,H<n/\(spF P rd O a c e).vs k d/\I H d) q) ⟨f,g,h⟩):rj (spF P rd O a c e) b q s:=
 ⟨I,⟨n,d,i,j⟩,λn s l=>V n s.f s.gen s.obj l⟩
end
end Go.Am
namespace Go.Proofs.YtednjibjomfhfaaGreatDoor
section
open Go Go.Am Go.Asm
open Go.Src (PR dL az takeN aS Ex Stm eL dH dI mn)
attribute[local congr]ite_cc
def fnD(f:Src.Fn):List D:=[.str f.name,.sl (f.params.map λs=>[.str s]),.sl (f.locals.map λs=>[.str s]),.bool f.word,.sl (f.body.map smD)]
def Mg(f:Src.Fn):z (fnD f)=5:=rfl
def fnV(f:Src.Fn):AV:=.agg ((fnD f).map .d)
def EK{P:Nat->Prop}{s:St}{id g n:Nat}{l:List Str}(b:P id)(hg:s.gen id=g)(ho:s.obj id=S (cF l))(hn:z l=n):iB P s (.osl id g 1 0 n) (.sl (l.map λs=>[.str s])):=
 fN b hg l (λs=>[.str s]) ho Yb (λ_ _=>rfl) hn
def EL(l:List Str):((l.map λs=>([.str s]:List D)).flatten).map C.d=cF l:=by
 unfold cF
 induction l with
 |nil=>rfl
 |cons a l b=>simpa using b
def Ph{A:List Src.Tok}{fin k n:Nat}(hl:z A<=100000)(c4:n<=z A)(hk:4*(z A-n)+5<=k):fR 79 [] A n fin (mn A k n) fnV:=by
 intro B g ob hB hf ho;refine hdM B [125] Tryz.func79 rfl [.cell 2 60] Wk hf λO bo s0 w0=>?_;have Q:=nlo hB;have n2:=nhi hB;have E:InF B g ob g ob:=InF.refl;have bc:=hf;obtain⟨p,hp⟩:∃p,mn A k n=p:=⟨_,rfl⟩
 rw[hp];rw[mn]at hp;simp only[go_sem,Q,n2];refine cq A n fin aa rfl [[102,117,110,99]] (B+5) Wi (B+44) a6 (fi bc) Ws Wk a6 a6 Wp (InF.go E) (λm h=>by rw[<-hp,h];rfl) ?_;intro m hm;rw[hm,PR.bind_ok]at hp;have av:=Src.df (A:=A) a8 () m hm;have Z:=Src.da () m hm;simp only[go_sem,Q,n2];refine aI aa rfl (oZ A m fin 1 a6 a7) Wi (B+44) a6 (fi bc) Wg (InF.go E) (λm h=>by rw[<-hp,h];rfl) ?_;intro t m3 ht;rw[ht,PR.bind_ok]at hp;have P:=Src.kx t m3 ht;have bs:=Src.il t m3 ht;unfold qg nB;simp only[go_sem,Q,n2];refine cq A m3 fin aa rfl [[40]] (B+12) Wi (B+44) a6 (fi bc) Wg Wk a6 a6 Wp (InF.go E) (λm h=>by rw[<-hp,show Src.cP=[40]from rfl,h];rfl) ?_;intro m5 hm;rw[show Src.cP=[40]from rfl,hm,PR.bind_ok]at hp;have e0:=Src.df (A:=A) a8 () m5 hm;have b6:=Src.da () m5 hm;simp only[go_sem,Q,n2];refine xN A m5 fin aa rfl Wg Wg ?_;by_cases U:dL A m5=1
 case' pos=>
  rw[l7 U]at hp;have r:(dL A m5:Int)=1:=a6;simp only[go_sem,r,Q,n2];refine aI aa rfl (zb hl (k:=k) (n:=m5) a6 a6) Wi (B+44) a6 (fi bc) Wg (InF.go E) (λm h=>by rw[<-hp,h];rfl) ?_;intro ps m7 he;rw[he,PR.bind_ok]at hp;have b':m7<=z A:=by have:=Src.tw ps m7 he;omega
  have bf:m5<=m7:=by have:=Src.wI ps m7 he;omega
  obtain⟨cx,a',bk⟩:∃cx:C,(∀s:St,iB (B<=·) s cx (.sl (ps.map λs=>[.str s])))/\cx=.d (.sl (ps.map λs=>[D.str s])):=⟨_,λs=>.d _,rfl⟩
  simp only[go_sem,Q,n2,lA];clear he r U
 case' neg=>
  have r:¬(dL A m5:Int)=1:=a6;simp only[go_sem,r,Q,n2];obtain⟨ps,b2⟩:∃ps:List Str,ps=[]:=⟨_,rfl⟩
  obtain⟨m7,an⟩:∃m7,m7=m5:=⟨_,rfl⟩
  have u:(PR.ok ([]:List Str) m5)=PR.ok ps m7:=by rw[b2,an]
  rw[j8 U,u,PR.bind_ok]at hp;obtain⟨cx,a',bk⟩:∃cx:C,(∀s:St,iB (B<=·) s cx (.sl (ps.map λs=>[.str s])))/\cx=.d .nsl:=⟨_,λs=>by rw[b2];exact .nil,rfl⟩
  clear r U u;have b':m7<=z A:=a6;have bf:m5<=m7:=a6;rw[<-an];clear an b2
 all_goals
  refine cq A m7 fin aa rfl [[41]] (B+21) Wi (B+44) a6 (fi bc) Wg Wk a6 a6 Wp (InF.go E) (λm h=>by rw[<-hp,show Src.bt=[41]from rfl,h];rfl) ?_;intro m8 hm;rw[show Src.bt=[41]from rfl,hm,PR.bind_ok]at hp;have cc:=Src.df (A:=A) a8 () m8 hm;have b1:=Src.da () m8 hm;simp only[go_sem,Q,n2];by_cases h:az A m8=[119,111,114,100]
  case' pos=>
   have af:=Src.dJ h a8;refine cN A m8 fin [119,111,114,100] aa rfl Wg (B+44) a6 (fi bc) Wg a6 (λ_=>?_) (λh'=>absurd h h');obtain⟨w,hw⟩:∃w,w=T:=⟨_,rfl⟩
   obtain⟨m9,b3⟩:∃m9,m9=m8+1:=⟨_,rfl⟩
   rw[l7 h,B3 h,<-hw,<-b3]at hp;rw[<-b3];simp only[go_sem,Q,n2]
  case' neg=>
   refine cN A m8 fin [119,111,114,100] aa rfl Wg (B+44) a6 (fi bc) Wg a6 (λh'=>absurd h' h) (λ_=>?_);obtain⟨w,hw⟩:∃w,w=F:=⟨_,rfl⟩
   obtain⟨m9,b3⟩:∃m9,m9=m8:=⟨_,rfl⟩
   rw[j8 h,z7 h,<-hw,<-b3]at hp;rw[<-b3];simp only[go_sem,Q,n2]
  all_goals
   clear h;have b7:m9<=z A:=a6;have cd:m8<=m9:=a6;refine cq A m9 fin aa rfl [[123]] (B+27) Wi (B+44) a6 (fi bc) Wg Wk a6 a6 Wp (InF.go E) (λm h=>by rw[<-hp,h];rfl) ?_;intro a1 hm;rw[hm,PR.bind_ok]at hp;have ca:=Src.df (A:=A) a8 () a1 hm;have bz:=Src.da () a1 hm;simp only[go_sem,Q,n2]
   refine oY _ (dR (t:=3) (o:=B+3) (b:=B+35) (j:=2) (sz:=1) (off:=0) (cells:=[.d (.str t.text),cx,.d .nsl,.d (.bool w),.d .nsl]) Wg (by simp only[go_sem,Q,n2,bk,hw]) rfl a6)
    (λX K=>∃(j H:Nat)(q:List Str),X+H=z A/\z q<=H/\z A-H+1<=j/\a1<=H/\K.f 0=.one (.ptr 125 (g 125) 0)/\K.f 2=.one (.ptr (B+2) (K.gen (B+2)) 0)/\K.f 3=.one (.ptr (B+3) (K.gen (B+3)) 0)/\(∃a b c d e,K.obj (B+2)=S [a,b,c,d,e])/\
      K.obj (B+3)=S [.d (.str t.text),cx,.osl (B+35) (K.gen (B+35)) 1 0 (z q),.d (.bool w),.d .nsl]/\K.obj (B+35)=S (cF q)/\K.obj 125=S (rdC A H fin)/\InF B g ob K.gen K.obj/\(∀i,B+44<=i->K.obj i=N)/\
      ((dI A j q H).bind λls m=>(dH A k [] m).bind λb m=>Src.PR.ok {name:=t.text,params:=ps,locals:=ls,word:=w,body:=b} m)=p) (z A-a1) ?_ ?_
   .simp only[St.claimAt]
    refine⟨k,a1,[],a6,a8,a6,l0 _,?_⟩;simp only[go_sem,Q,n2];exact⟨⟨_,_,_,_,_,rfl,rfl,rfl,rfl,rfl⟩,rfl,(InF.go E),(fi bc),hp⟩
   clear bc E hp;rintro X f g1 ad ⟨j,H,q,hz,b8,hj,cb,q0,q2,q3,⟨a,b,c,d,e,o2⟩,o3,bl,I,E,bc,hp⟩;simp only at q0 q2 q3 o2 o3 bl I E bc;obtain⟨j,rfl⟩:∃i,j=i+1:=⟨j-1,a6⟩
   rw[dI]at hp;have hg:=E.rd;simp only[go_sem,q0];refine cN A H fin [118,97,114] aa rfl WZ (B+44) a6 (fi bc) WI a6 (λh=>?_) (λh=>?_)
   .rw[l7 h]at hp
    have af:=Src.dJ h a8;have b4:=sS q;simp only[go_sem,Q,n2,q0];obtain⟨ls,m',b5,L⟩:=Pk (eL A j (H+1)) (G:=λl=>z l<=100000) [] a8 (λl m h=>by have:=Src.DS h;have:=Src.tw l m h;omega);refine kU (∃a m,eL A j (H+1)=.ok a m) aR mixed aa [B+35,125] [([3],[1],[],F),([31],[1],[],F),([0],[],[],F),([33],[],[1],F),([32,34],[],[0],F),([3],[0,1],[],F),([36,35],[],[],T)] 2 rfl b9 rfl Wk ?_;simp only[go_sem]
    (apply bY;(case hf=>rfl);(case hg=>first|exact w8|exact⟨_,rfl,by decide,rfl⟩);(case U=>intro fa ga oa K' J;simp only[go_sem,Q,n2,q3,o3]at J|-;exact J))
    (apply bY;(case hf=>rfl);(case hg=>first|exact w8|exact⟨_,rfl,by decide,rfl⟩);(case U=>intro fa ga oa K' J;simp only[go_sem,Q,n2,q3,o3]at J|-;exact J))
    (apply bY;(case hf=>rfl);(case hg=>first|exact w8|exact⟨_,rfl,by decide,rfl⟩);(case U=>intro fa ga oa K' J;simp only[go_sem,q0]at J|-;exact J))
    refine kV (v:=lA ls) (y:=S (rdC A m' fin)) w8 a8 (λfa ga oa K' J=>?_) ?_
    .simp only[go_sem,Q,n2]at J|-
     refine aI (k:=bx K') aa rfl (zb hl (k:=j) (n:=H+1) a6 a6) WN (B+44) a6 (fi bc) Wg (InF.go E) (λm h=>by rw[<-hp,h];rfl) ?_;exact mF
    refine kg (a:=0) (v:=.one (.osl (B+35) (nxC (apC 9 (g1 (B+35)) 0) (g1 (B+35))) 1 0 (z q+z ls))) (x:=nxC (apC 9 (g1 (B+35)) 0) (g1 (B+35))) (y:=S (cF (q++ls))) rfl w8 (λfa ga oa K' J=>?_) ?_
    .simp only[go_sem,Q,n2,lA,bl,b4,aZ,j5]at J|-
     have e1:List.take (z q) (cF q)++List.map C.d (List.map (λs=>([D.str s]:List D)) ls).flatten=cF (q++ls):=by
      rw[s6 a6,EL];simp[cF]
     exact V7
    (apply bY;(case hf=>rfl);(case hg=>first|exact w8|exact⟨_,rfl,by decide,rfl⟩);(case U=>intro fa ga oa K' J;simp only[go_sem,Q,n2,q3,o3]at J|-;exact J))
    refine kW rfl w8 ?_;intro K' b0;simp only[go_sem,Q,n2,o3];refine b0 _ ?_;clear b0 K';intro W;have e:=L W;rw[e,PR.bind_ok]at hp;have av:=Src.tw ls m' e;have Z:=Src.wI ls m' e;have P:=Src.DS e;simp only[go_sem,Q,n2,q0];refine cq A m' fin aa rfl [[59]] (B+38) WN (B+44) a6 (fi bc) Wg Wk a6 a6 Wp (InF.go E) (λm h=>by rw[<-hp,show Src.bO=[59]from rfl,h];rfl) ?_;intro V hm;rw[show Src.bO=[59]from rfl,hm,PR.bind_ok]at hp;have bs:=Src.df (A:=A) a8 () V hm;have e0:=Src.da () V hm;simp only[go_sem,Q,n2];refine ai (z A-V) a6 ⟨j,V,q++ls,a6,by rw[j4];omega,a6,a6,?_⟩;simp only[go_sem,Q,n2,q0,q2,q3,j4];exact⟨⟨_,_,_,_,_,o2⟩,(InF.go E),(fi bc),hp⟩
   .rw[j8 h,PR.bind_ok]at hp
    simp only[go_sem,Q,n2,q0];refine aI aa rfl ((XB fin hl k).stmts H a6 a6) WD (B+44) a6 (fi bc) WI (InF.go E) (λm h=>by rw[<-hp,h];rfl) ?_;intro bd V he;rw[he,PR.bind_ok]at hp;simp only[go_sem,Q,n2,q2,q3,o2,o3,ed];refine⟨_,ae.refl _,?_⟩;simp only[go_sem,Q,n2,q2];refine InF.ret (n:=V) (a:=⟨t.text,ps,q,w,bd⟩) (rs:=[.agg [.d (.str t.text),.d (.sl (ps.map λs=>[.str s])),.d (.sl (q.map λs=>[.str s])),.d (.bool w),.d (.sl (bd.map smD))]]) (InF.go E) Wg hp.symm ?_ rfl
    exact⟨_,_,rfl,.agg (xs:=[.str t.text,.sl (ps.map λs=>[.str s]),.sl (q.map λs=>[.str s]),.bool w,.sl (bd.map smD)]) rfl (λi e he=>by
     match i,he with
     |0,he=>cases he;exact⟨_,rfl,.d _⟩
     |1,he=>cases he;exact⟨_,rfl,a' _⟩
     |2,he=>cases he;exact⟨_,rfl,EK a6 Wg (by simp only[go_sem,Q,n2,bl]) rfl⟩
     |3,he=>cases he;exact⟨_,rfl,.d _⟩
     | 4,he=>cases he;exact⟨_,rfl,.d _⟩),rfl⟩
end
section
open Go Go.Am Go.Asm
open Go.Src (PR dL az takeN aS Ex Stm eL dH dI mn kv lH lW)
attribute[local congr]ite_cc
section
def arD(a:Str×Int):List D:=[.str a.1,.int .i64 a.2]
def AQ(l:List (Str×Int)):List C:=l.flatMap λa=>(arD a).map .d
def IE(l:List (Str×Int)):z (AQ l)=z l*2:=by
 induction l with
 |nil=>rfl
 |cons a l b=>simp only[AQ,A1,j4,j5,arD,j6,j7]at b|-;omega
def fnC(l:List Src.Fn):List C:=l.flatMap λa=>(fnD a).map .d
def Mh(l:List Src.Fn):z (fnC l)=z l*5:=by
 induction l with
 |nil=>rfl
 |cons a l b=>simp only[fnC,A1,j4,j5,Mg,j6]at b|-;omega
def EM(f:Src.Fn):fnC [f]=(fnD f).map .d:=by simp[fnC]
def Mj(l m:List Src.Fn):fnC (l++m)=fnC l++fnC m:=by simp[fnC]
def je(p:Src.Prog):List D:=[.sl (p.vars.map λs=>[.str s]),.sl (p.arrays.map arD),.sl (p.funcs.map fnD)]
def cn(p:Src.Prog):AV:=.agg ((je p).map .d)
variable{P:Nat->Prop}{id g n:Nat}
def Qq{s:St}{l:List (Str×Int)}(a:P id)(hg:s.gen id=g)(ho:s.obj id=S (AQ l))(b:z l=n):iB P s (.osl id g 2 0 n) (.sl (l.map arD)):=
 fN a hg l arD ho rfl (λ_ _=>rfl) b
def UP{s:St}{l:List Src.Fn}(a:P id)(hg:s.gen id=g)(ho:s.obj id=S (fnC l))(b:z l=n):iB P s (.osl id g 5 0 n) (.sl (l.map fnD)):=
 fN a hg l fnD ho rfl (λ_ _=>rfl) b
instance:Inhabited Src.Fn:=⟨⟨[],[],[],false,[]⟩⟩
def Qr{A:List Src.Tok}{fin k:Nat}(hl:z A<=100000)(an:∀t∈A,t.num<=4294967295)(hk:4*z A+7<=k):fR 45 [] A 0 fin (lW A k 0) cn:=by
 intro B g ob hB hf ho;refine hdM B [125] Tryz.func45 rfl [.cell 2 26] Wk hf λO bo s0 w0=>?_;have Q:=nlo hB;have n2:=nhi hB;have E:InF B g ob g ob:=InF.refl;have bc:=hf;obtain⟨p,hp⟩:∃p,lW A k 0=p:=⟨_,rfl⟩
 rw[hp];rw[lW]at hp;simp only[go_sem,Q,n2]
 refine oY _ (((dR (t:=3) (o:=B+3) (b:=B+12) (j:=0) (sz:=1) (off:=0) (cells:=[.d .nsl,.d .nsl,.d .nsl]) Wg Wg rfl a6).trans
   (dR (t:=3) (o:=B+3) (b:=B+32) (j:=1) (sz:=2) (off:=0) (cells:=[.osl (B+12) (g (B+12)+1) 1 0 0,.d .nsl,.d .nsl]) Xd Xd rfl a6)).trans
   (dR (t:=3) (o:=B+3) (b:=B+45) (j:=2) (sz:=5) (off:=0) (cells:=[.osl (B+12) (g (B+12)+1) 1 0 0,.osl (B+32) (g (B+32)+1) 2 0 0,.d .nsl]) Xd Xd rfl a6))
  (λX K=>∃(j H:Nat)(vs:List Str)(u:List (Str×Int)),X+H=z A/\z vs<=H/\z u<=H/\z A-H+1<=j/\K.f 0=.one (.ptr 125 (g 125) 0)/\K.f 2=.one (.ptr (B+2) (K.gen (B+2)) 0)/\K.f 3=.one (.ptr (B+3) (K.gen (B+3)) 0)/\(∃a b c,K.obj (B+2)=S [a,b,c])/\
    K.obj (B+3)=S [.osl (B+12) (K.gen (B+12)) 1 0 (z vs),.osl (B+32) (K.gen (B+32)) 2 0 (z u),.osl (B+45) (K.gen (B+45)) 5 0 0]/\K.obj (B+12)=S (cF vs)/\K.obj (B+32)=S (AQ u)/\K.obj (B+45)=S []/\K.obj 125=S (rdC A H fin)/\InF B g ob K.gen K.obj/\(∀i,B+65<=i->K.obj i=N)/\
    ((kv A j vs u H).bind λh n=>(mn A k n).bind λf n=>(lH A k [f] n).bind λfs n=>PR.ok (Src.Prog.mk h.1 h.2 fs) n)=p) (z A) ?_ ?_
 .simp only[St.claimAt]
  refine⟨k,0,[],[],a6,a8,a8,a6,?_⟩;simp only[go_sem,Q,n2];exact⟨⟨_,_,_,rfl,rfl,rfl⟩,rfl,rfl,ho,(InF.go E),(fi bc),hp⟩
 clear bc E hp;rintro X f g1 ad ⟨j,H,vs,u,hz,bz,b2,hj,q0,q2,q3,⟨a,b,c,o2⟩,o3,w,r,a',I,E,bc,hp⟩;simp only at q0 q2 q3 o2 o3 w r a' I E bc;obtain⟨j,rfl⟩:∃i,j=i+1:=⟨j-1,a6⟩
 rw[kv]at hp;have hg:=E.rd;have b1:=sS vs;have cy:=IE u;simp only[go_sem,q0];refine cN A H fin [118,97,114] aa rfl WZ (B+65) a6 (fi bc) WI a6 (λh=>?_) (λh=>?_)
 .rw[l7 h]at hp
  have af:=Src.dJ h a8;simp only[go_sem,Q,n2,q0];obtain⟨ls,m',b5,L⟩:=Pk (eL A j (H+1)) (G:=λl=>z l<=100000) [] a8 (λl m h=>by have:=Src.DS h;have:=Src.tw l m h;omega);refine kU (∃a m,eL A j (H+1)=.ok a m) aR mixed aa [B+12,125] [([3],[1],[],F),([8],[1],[],F),([0],[],[],F),([10],[],[1],F),([9,11],[],[0],F),([3],[0,1],[],F),([13,12],[],[],T)] 2 rfl b9 rfl Wk ?_;simp only[go_sem]
  (apply bY;(case hf=>rfl);(case hg=>first|exact w8|exact⟨_,rfl,by decide,rfl⟩);(case U=>intro fa ga oa K' J;simp only[go_sem,Q,n2,q3,o3]at J|-;exact J))
  (apply bY;(case hf=>rfl);(case hg=>first|exact w8|exact⟨_,rfl,by decide,rfl⟩);(case U=>intro fa ga oa K' J;simp only[go_sem,Q,n2,q3,o3]at J|-;exact J))
  (apply bY;(case hf=>rfl);(case hg=>first|exact w8|exact⟨_,rfl,by decide,rfl⟩);(case U=>intro fa ga oa K' J;simp only[go_sem,q0]at J|-;exact J))
  refine kV (v:=lA ls) (y:=S (rdC A m' fin)) w8 a8 (λfa ga oa K' J=>?_) ?_
  .simp only[go_sem,Q,n2]at J|-
   refine aI (k:=bx K') aa rfl (zb hl (k:=j) (n:=H+1) a6 a6) WN (B+65) a6 (fi bc) Wg (InF.go E) (λm h=>by rw[<-hp,h];rfl) ?_;exact mF
  refine kg (a:=0) (v:=.one (.osl (B+12) (nxC (apC 9 (g1 (B+12)) 0) (g1 (B+12))) 1 0 (z vs+z ls))) (x:=nxC (apC 9 (g1 (B+12)) 0) (g1 (B+12))) (y:=S (cF (vs++ls))) rfl w8 (λfa ga oa K' J=>?_) ?_
  .simp only[go_sem,Q,n2,lA,w,b1,aZ,j5]at J|-
   have e1:List.take (z vs) (cF vs)++List.map C.d (List.map (λs=>([D.str s]:List D)) ls).flatten=cF (vs++ls):=by
    rw[s6 a6,EL];simp[cF]
   exact V7
  (apply bY;(case hf=>rfl);(case hg=>first|exact w8|exact⟨_,rfl,by decide,rfl⟩);(case U=>intro fa ga oa K' J;simp only[go_sem,Q,n2,q3,o3]at J|-;exact J))
  refine kW rfl w8 ?_;intro K' b0;simp only[go_sem,Q,n2,o3];refine b0 _ ?_;clear b0 K';intro W;have e:=L W;rw[e,PR.bind_ok]at hp;have av:=Src.tw ls m' e;have Z:=Src.wI ls m' e;have P:=Src.DS e;simp only[go_sem,Q,n2,q0];refine cq A m' fin aa rfl [[59]] (B+38) WN (B+65) a6 (fi bc) Wg Wk a6 a6 Wp (InF.go E) (λm h=>by rw[<-hp,show Src.bO=[59]from rfl,h];rfl) ?_;intro V hm;rw[show Src.bO=[59]from rfl,hm,PR.bind_ok]at hp;have bs:=Src.df (A:=A) a8 () V hm;have e0:=Src.da () V hm;simp only[go_sem,Q,n2];refine ai (z A-V) a6 ⟨j,V,vs++ls,u,a6,by rw[j4];omega,a6,a6,?_⟩;simp only[go_sem,Q,n2,q0,q2,q3,j4];exact⟨⟨_,_,_,o2⟩,r,a',(InF.go E),(fi bc),hp⟩
 rw[j8 h]at hp;simp only[go_sem,Q,n2,q0];refine cN A H fin [97,114,114,97,121] aa rfl WZ (B+65) a6 (fi bc) WI a6 (λh=>?_) (λh=>?_)
 .rw[l7 h]at hp
  have af:=Src.dJ h a8;simp only[go_sem,Q,n2,q0];refine aI aa rfl (oZ A (H+1) fin 1 a6 a7) WD (B+65) a6 (fi bc) Wg (InF.go E) (λm h=>by rw[<-hp,h];rfl) ?_;intro t m3 ht;rw[ht,PR.bind_ok]at hp;have P:=Src.kx t m3 ht;have bs:=Src.il t m3 ht;unfold qg nB;simp only[go_sem,Q,n2,q0];refine cq A m3 fin aa rfl [[91]] (B+20) WD (B+65) a6 (fi bc) Wg Wk a6 a6 Wp (InF.go E) (λm h=>by rw[<-hp,h];rfl) ?_;intro m5 hm;rw[hm,PR.bind_ok]at hp;have e0:=Src.df (A:=A) a8 () m5 hm;have b6:=Src.da () m5 hm;simp only[go_sem,Q,n2,q0];refine aI aa rfl (oZ A m5 fin 2 a6 a7) WD (B+65) a6 (fi bc) Wg (InF.go E) (λm h=>by rw[<-hp,h];rfl) ?_;intro t2 m7 a1;rw[a1,PR.bind_ok]at hp;have b':=Src.kx t2 m7 a1;have cc:=Src.il t2 m7 a1
  have ch:IntKind.i64.wrap (t2.num:Int)=(t2.num:Int):=by
   have:t2∈A:=by
    unfold takeN at a1;split at a1
    .rename_i t' b7
     split at a1
     .cases a1;exact l5 b7
     .cases a1
    .cases a1
   have:=an t2 this;rw[wrap_i64]<;>omega
  unfold qg nB;simp only[go_sem,Q,n2,q0,ch,q3,o3,r,cy,aZ];refine⟨a6,⟨a7,a6⟩,?_⟩
  have e1:List.take (z u*2) (AQ u)++[C.d (D.str t.text),C.d (D.int IntKind.i64 ↑t2.num)]=AQ (u++[(t.text,(t2.num:Int))]):=by
   rw[s6 a6];simp[AQ,arD]
  rw[e1];refine cq A m7 fin aa rfl [[93]] (B+35) WD (B+65) a6 (fi bc) Wg Wk a6 a6 Wp (InF.go E) (λm h=>by rw[<-hp,h];rfl) ?_;intro m9 hm;rw[hm,PR.bind_ok]at hp;have b3:=Src.df (A:=A) a8 () m9 hm;have ca:=Src.da () m9 hm;simp only[go_sem,Q,n2,q0];refine cq A m9 fin aa rfl [[59]] (B+38) WD (B+65) a6 (fi bc) Wg Wk a6 a6 Wp (InF.go E) (λm h=>by rw[<-hp,show Src.bO=[59]from rfl,h];rfl) ?_;intro bl hm;rw[show Src.bO=[59]from rfl,hm,PR.bind_ok]at hp;have b4:=Src.df (A:=A) a8 () bl hm;have b8:=Src.da () bl hm;simp only[go_sem,Q,n2];refine ai (z A-bl) a6 ⟨j,bl,vs,u++[(t.text,(t2.num:Int))],a6,a6,by rw[j4];simp;omega,a6,?_⟩;simp only[go_sem,Q,n2,q0,q2,q3,j4];exact⟨⟨_,_,_,o2⟩,w,a',(InF.go E),(fi bc),hp⟩
 rw[j8 h,PR.bind_ok]at hp;simp only at hp;simp only[go_sem,Q,n2,q0];obtain⟨f0,m0,L⟩:=look (mn A k H);refine kU (∃a m,mn A k H=.ok a m) aR mixed aa [B+44,B+45,125] [([3],[0,2],[],F),([40],[0,2],[],F),([0],[],[],F),([42],[],[2],F),([43],[],[0],F),([41,44],[],[1],F),([3],[0,1,2],[],F),([46,45],[],[],T)] 3 rfl b9 rfl Wk ?_;simp only[go_sem]
 (apply bY;(case hf=>rfl);(case hg=>first|exact w8|exact⟨_,rfl,by decide,rfl⟩);(case U=>intro fa ga oa K' J;simp only[go_sem,Q,n2,q3,o3]at J|-;exact J))
 (apply bY;(case hf=>rfl);(case hg=>first|exact w8|exact⟨_,rfl,by decide,rfl⟩);(case U=>intro fa ga oa K' J;simp only[go_sem,Q,n2,q3,o3]at J|-;exact J))
 (apply bY;(case hf=>rfl);(case hg=>first|exact w8|exact⟨_,rfl,by decide,rfl⟩);(case U=>intro fa ga oa K' J;simp only[go_sem,q0]at J|-;exact J))
 refine kV (v:=fnV f0) (y:=S (rdC A m0 fin)) w8 a8 (λfa ga oa K' J=>?_) ?_
 .simp only[go_sem,Q,n2]at J|-
  refine aI (k:=bx K') aa rfl (Ph hl (k:=k) (n:=H) a6 a6) WN (B+65) a6 (fi bc) WI (InF.go E) (λm h=>by rw[<-hp,h];rfl) ?_;exact mF
 (apply kg;(case hf=>rfl);(case hg=>first|exact w8|exact⟨_,rfl,by decide,rfl⟩);(case U=>intro fa ga oa K' J;simp only[go_sem,fnV,fnD]at J|-;exact J))
 refine kg (a:=1) (v:=.one (.osl (B+45) (nxC (apC 60 (g1 (B+45)) 0) (g1 (B+45))) 5 0 1)) (x:=nxC (apC 60 (g1 (B+45)) 0) (g1 (B+45))) (y:=S (fnC [f0])) rfl w8 (λfa ga oa K' J=>?_) ?_
 .simp only[go_sem,Q,n2,a',aZ,j5,EM,fnD]at J|-
  exact⟨⟨a7,a6⟩,J⟩
 (apply bY;(case hf=>rfl);(case hg=>first|exact w8|exact⟨_,rfl,by decide,rfl⟩);(case U=>intro fa ga oa K' J;simp only[go_sem,Q,n2,q3,o3]at J|-;exact J))
 refine kW rfl w8 ?_;intro K' b0;simp only[go_sem,Q,n2,o3];refine b0 _ ?_;clear b0 K';intro W;have e:=L W;rw[e,PR.bind_ok]at hp;have av:=Src.Fs f0 m0 e;have Z:=Src.Vw f0 m0 e;simp only[go_sem,Q,n2,q0]
 refine aq (λX K=>∃(j q:Nat)(fs:List Src.Fn),X+q=z A/\z fs<=q/\4*(z A-q)+6<=j/\K.f 0=.one (.ptr 125 (g 125) 0)/\K.f 2=.one (.ptr (B+2) (K.gen (B+2)) 0)/\K.f 3=.one (.ptr (B+3) (K.gen (B+3)) 0)/\(∃a b c,K.obj (B+2)=S [a,b,c])/\
   K.obj (B+3)=S [.osl (B+12) (K.gen (B+12)) 1 0 (z vs),.osl (B+32) (K.gen (B+32)) 2 0 (z u),.osl (B+45) (K.gen (B+45)) 5 0 (z fs)]/\K.obj (B+12)=S (cF vs)/\K.obj (B+32)=S (AQ u)/\K.obj (B+45)=S (fnC fs)/\K.obj 125=S (rdC A q fin)/\InF B g ob K.gen K.obj/\(∀i,B+65<=i->K.obj i=N)/\
   ((lH A j fs q).bind λfs n=>PR.ok (Src.Prog.mk vs u fs) n)=p) (z A-m0) ?_ ?_
 .refine⟨k,m0,[f0],a6,by simp;omega,a6,?_⟩
  simp only[go_sem,Q,n2,q0,q2,q3];exact⟨⟨_,_,_,o2⟩,w,r,(InF.go E),(fi bc),hp⟩
 clear bc E hp q0 q2 q3 o2 o3 w r a' I L W e hg;rintro X f g1 ad ⟨j,q,fs,hz,bk,hj,q0,q2,q3,⟨a,b,c,o2⟩,o3,w,r,a',I,E,bc,hp⟩;simp only at q0 q2 q3 o2 o3 w r a' I E bc;obtain⟨j,rfl⟩:∃i,j=i+1:=⟨j-1,a6⟩
 rw[lH]at hp;have hg:=E.rd;have bf:=I;unfold rdC jG at bf;have cx:=Mh fs;simp only[go_sem];refine bh b9 ?_;by_cases af:q<z A
 case neg=>
  rw[j8 af,PR.bind_ok]at hp;have bd:¬(q:Int)<(z A:Int):=a6;simp only[go_sem,Q,n2,hg,q0,bf,bd,j5,q2,q3,o2,o3];refine⟨_,ae.refl _,?_⟩;simp only[go_sem,Q,n2,q2];refine InF.ret (n:=q) (a:=⟨vs,u,fs⟩) (rs:=[.agg [.d (.sl (vs.map λs=>[.str s])),.d (.sl (u.map arD)),.d (.sl (fs.map fnD))]]) (InF.go E) WI hp.symm ?_ rfl
  exact⟨_,_,rfl,.agg (xs:=[.sl (vs.map λs=>[.str s]),.sl (u.map arD),.sl (fs.map fnD)]) rfl (λi e he=>by
   match i,he with
   |0,he=>cases he;exact⟨_,rfl,EK a6 Wg (by simp only[go_sem,Q,n2,w]) rfl⟩
   |1,he=>cases he;exact⟨_,rfl,Qq a6 Wg (by simp only[go_sem,Q,n2,r]) rfl⟩
   | 2,he=>cases he;exact⟨_,rfl,UP a6 Wg (by simp only[go_sem,Q,n2,a']) rfl⟩),rfl⟩
 rw[l7 af]at hp;have bd:(q:Int)<(z A:Int):=a6;simp only[go_sem,Q,n2,hg,q0,bf,bd,j5];obtain⟨f1,m1,L⟩:=look (mn A j q);refine kU (∃a m,mn A j q=.ok a m) aR mixed aa [B+61,B+45,125] [([3],[0,2],[],F),([57],[0,2],[],F),([0],[],[],F),([59],[],[2],F),([60],[],[0],F),([58,61],[],[1],F),([3],[0,1,2],[],F),([63,62],[],[],T)] 3 rfl b9 rfl Wk ?_;simp only[go_sem]
 (apply bY;(case hf=>rfl);(case hg=>first|exact w8|exact⟨_,rfl,by decide,rfl⟩);(case U=>intro fa ga oa K' J;simp only[go_sem,Q,n2,q3,o3]at J|-;exact J))
 (apply bY;(case hf=>rfl);(case hg=>first|exact w8|exact⟨_,rfl,by decide,rfl⟩);(case U=>intro fa ga oa K' J;simp only[go_sem,Q,n2,q3,o3]at J|-;exact J))
 (apply bY;(case hf=>rfl);(case hg=>first|exact w8|exact⟨_,rfl,by decide,rfl⟩);(case U=>intro fa ga oa K' J;simp only[go_sem,q0]at J|-;exact J))
 refine kV (v:=fnV f1) (y:=S (rdC A m1 fin)) w8 a8 (λfa ga oa K' J=>?_) ?_
 .simp only[go_sem,Q,n2]at J|-
  refine aI (k:=bx K') aa rfl (Ph hl (k:=j) (n:=q) a6 a6) WN (B+65) a6 (fi bc) WI (InF.go E) (λm h=>by rw[<-hp,h];rfl) ?_;exact mF
 (apply kg;(case hf=>rfl);(case hg=>first|exact w8|exact⟨_,rfl,by decide,rfl⟩);(case U=>intro fa ga oa K' J;simp only[go_sem,fnV,fnD]at J|-;exact J))
 refine kg (a:=1) (v:=.one (.osl (B+45) (nxC (apC 60 (g1 (B+45)) 0) (g1 (B+45))) 5 0 (z fs+1))) (x:=nxC (apC 60 (g1 (B+45)) 0) (g1 (B+45))) (y:=S (fnC (fs++[f1]))) rfl w8 (λfa ga oa K' J=>?_) ?_
 .simp only[go_sem,Q,n2,a',aZ,j5,cx]at J|-
  have e1:List.take (z fs*5) (fnC fs)++(fnD f1).map C.d=fnC (fs++[f1]):=by
   rw[s6 a6,Mj,EM]
  simp only[fnD,l9,v8]at e1;exact UD
 (apply bY;(case hf=>rfl);(case hg=>first|exact w8|exact⟨_,rfl,by decide,rfl⟩);(case U=>intro fa ga oa K' J;simp only[go_sem,Q,n2,q3,o3]at J|-;exact J))
 refine kW rfl w8 ?_;intro K' b0;simp only[go_sem,Q,n2,o3];refine b0 _ ?_;clear b0 K';intro W;have e:=L W;rw[e,PR.bind_ok]at hp;have P:=Src.Fs f1 m1 e;have bs:=Src.Vw f1 m1 e;simp only[go_sem,Q,n2,q0];refine ai (z A-m1) a6 ⟨j,m1,fs++[f1],a6,by rw[j4];simp;omega,a6,?_⟩;simp only[go_sem,Q,n2,q0,q2,q3,j4];exact⟨⟨_,_,_,o2⟩,w,r,(InF.go E),(fi bc),hp⟩
end
end
end Go.Proofs.YtednjibjomfhfaaGreatDoor
namespace Go.Src
section
open Go.Asm (Str letter dP)
def aN(s:Str):Bool:=decide (s≠[]/\z s<=20/\s.head?.any letter=T/\s.takeWhile dP=s/\s∉gW)
def ah(a:Bool)(s:Str):Bool:=if a then aN s else decide (s=[])
def bI(kind op num:Int)(name:Str)(n:Nat):Bool:=
 if kind=1 then decide (op=0) && ah F name && decide (n=0)
 else if kind=2 then decide (op=0/\num=0) && ah T name && decide (n=0)
 else if kind=3 then decide (op=0/\num=0) && ah T name && decide (n=1)
 else if kind=4 then decide (op=0/\num=0) && ah T name && decide (n<=6)
 else if kind=5 then decide (op=0/\num=0) && ah F name && decide (n=0)
 else if kind=6 then decide ((4<=op/\op<=15)/\num=0) && ah F name && decide (n=2)
 else if kind=7 then decide (op=0/\num=0) && ah F name && decide (n=1)
 else if kind=8\/kind=9 then decide (op=0/\num=0) && ah F name && decide (n=2)
 else F
mutual
def cR(q:Nat):Ex->Bool
 |.mk kind op num name kids=>decide (q<=24)&&(bI kind op num name (z kids)&&aU (q+1) kids)
def aU(q:Nat):List Ex->Bool
 |[]=>T
 |e::l=>cR q e&&aU q l
end
def cp(kind:Int)(name:Str)(n nt ne:Nat):Bool:=
 if kind=1 then ah T name && decide (n=1/\nt=0/\ne=0)
 else if kind=2 then ah T name && decide (n=2/\nt=0/\ne=0)
 else if kind=3 then ah F name && decide (n=1/\nt=0/\ne=0)
 else if kind=4 then ah F name && decide (n=1)
 else if kind=5 then ah F name && decide (n=1/\ne=0)
 else if kind=6 then ah T name && decide (n<=6/\nt=0/\ne=0)
 else if kind=7 then ah F name && decide (n<=1/\nt=0/\ne=0)
 else F
mutual
def di(q:Nat):Stm->Bool
 |.mk kind name e a el=>decide (q<=24)&&(cp kind name (z e) (z a) (z el)&&aU (q+1) e)&&(bg (q+1) a&&bg (q+1) el)
def bg(q:Nat):List Stm->Bool
 |[]=>T
 |s::l=>di q s&&bg q l
end
def cI(f:Fn):Bool:=aN f.name&&decide (z f.params<=6)&&(f.params.all aN&&f.locals.all aN&&bg 1 f.body)
def fb(a:Str×Int):Bool:=aN a.1&&decide (1<=a.2)&&decide (a.2<=4096)
def cD(p:Prog):Bool:=decide (1<=z p.funcs/\z p.funcs<=64)&&p.vars.all aN&&(p.arrays.all fb&&p.funcs.all cI)
mutual
def szE:Ex->Nat
 |.mk _ _ _ _ kids=>aH kids+1
def aH:List Ex->Nat
 |[]=>0
 |e::l=>szE e+aH l
end
mutual
def szS:Stm->Nat
 |.mk _ _ e a el=>aH e+aE a+aE el+1
def aE:List Stm->Nat
 |[]=>0
 |s::l=>szS s+aE l
end
def se:∀{l:List Ex}{e:Ex},e∈l->szE e<=aH l
 |x::l,e,h=>by
   rw[aH];rcases y9.1 h with rfl|h
   .omega
   .have:=se h;omega
def kO:∀{l:List Stm}{e:Stm},e∈l->szS e<=aE l
 |x::l,e,h=>by
   rw[aE];rcases y9.1 h with rfl|h
   .omega
   .have:=kO h;omega
def Kr:∀l:List Ex,z l<=aH l
 |[]=>l0 _
 |e::l=>by have:=Kr l;cases e;simp only[aH,szE,j6];omega
def Ks:∀l:List Stm,z l<=aE l
 |[]=>l0 _
 |e::l=>by have:=Ks l;cases e;simp only[aE,szS,j6];omega
def BS{q:Nat}:∀l:List Ex,aU q l=l.all (cR q)
 |[]=>by simp[aU]
 |e::l=>by simp[aU,BS l]
def BT{q:Nat}:∀l:List Stm,bg q l=l.all (di q)
 |[]=>by simp[bg]
 |e::l=>by simp[bg,BT l]
def Vx{a:Type}{p:a->Bool}{l:List a}{k:Nat}{x:a}(h:(l.take k).all p=T)(I:l[k]?=S x)(b:p x=T):(l.take (k+1)).all p=T:=by
 rw[B4,I,G2,h];simp[b]
def all_false{a:Type}{p:a->Bool}{l:List a}{k:Nat}{x:a}(I:l[k]?=S x)(b:p x=F):l.all p=F:=by
 rw[List.all_eq_false];exact⟨x,l5 I,by simp[b]⟩
end
end Go.Src
namespace Go.Am
section
section
section
variable{P:Program}{G:Nat->TI}{O:Bs}{rd:Option Nat}{X:Nat}{o:cg}{b:fW}{a:Nat}
end
end
end
end Go.Am
namespace Go.Proofs.YtednjibjomfhfaaGreatDoor
section
open Go Go.Am Go.Asm
open Go.Src (aN)
attribute[local congr]ite_cc
section
variable{o:cg}
def Qs(ho:kC o)(s:Str):bP Tryz.prog 4 o 123 [sv s] (·=bv (aN s)):=by
 refine hdG Tryz.func123 rfl [.tmp 2] λO bo s0 w0 g=>?_;obtain⟨X,a⟩:∃X,aN s=X:=⟨_,rfl⟩
 rw[a];unfold aN at a;by_cases l:s=[]
 .obtain rfl:X=F:=by rw[<-a];exact z7 λh=>h.1 l
  simp only[go_sem,s9 l]
 by_cases e:z s<=20
 case neg=>
  obtain rfl:X=F:=by rw[<-a];exact z7 λh=>e h.2.1
  have bd:¬(z s:Int)<=20:=a6;simp only[go_sem,l,bd]
 have bd:(z s:Int)<=20:=a6
 obtain⟨c,i⟩:∃c,s[0]?=S c:=by
  cases s with
  |nil=>exact absurd rfl l
  |cons c r=>exact⟨c,rfl⟩
 have b:s.head?=S c:=by rw[<-i,SO]
 simp only[go_sem,l,bd,i];refine jU rfl (by simp only[go_sem];exact pX c) ?_;rintro _ rfl;cases m:letter c
 .obtain rfl:X=F:=by rw[<-a];exact z7 λh=>by have:=h.2.2.1;rw[b]at this;simp[m]at this
  exact hG
 simp only[go_sem];refine jU rfl (by simp only[go_sem];exact uV (λc=>xY c) s a6) ?_;rintro _ rfl;by_cases L:s.takeWhile dP=s
 case neg=>
  obtain rfl:X=F:=by rw[<-a];exact z7 λh=>L h.2.2.2.1
  simp only[go_sem,L]
 simp only[go_sem,L];refine cK rfl (by simp only[go_sem];exact BB ho s) ?_;rintro _ rfl;by_cases d:s∈Src.gW
 .obtain rfl:X=F:=by rw[<-a];exact z7 λh=>h.2.2.2.2 d
  simp only[go_sem,d]
 .obtain rfl:X=T:=by rw[<-a];exact B3 ⟨l,e,by rw[b];simp[m],L,d⟩
  simp only[go_sem,d]
def nn(ho:kC o)(s:Str):bP Tryz.prog 4 o 81 [sv s] (·=bv (aN s)):=by
 refine hdG Tryz.func81 rfl [.tmp 2] λO bo s0 w0 g=>?_;have u:s∈Src.gW->aN s=F:=λh=>z7 λq=>q.2.2.2.2 h;obtain⟨X,n⟩:∃X,aN s=X:=⟨_,rfl⟩
 rw[n];rw[n]at u;by_cases a:s=[118,97,114]
 .obtain rfl:=u (by rw[a];decide)
  simp only[go_sem,s9 a]
 by_cases U:s=[97,114,114,97,121]
 .obtain rfl:=u (by rw[U];decide)
  simp only[go_sem,a,s9 U]
 by_cases Y:s=[102,117,110,99]
 .obtain rfl:=u (by rw[Y];decide)
  simp only[go_sem,a,U,s9 Y]
 by_cases b:s=[119,111,114,100]
 .obtain rfl:=u (by rw[b];decide)
  simp only[go_sem,a,U,Y,s9 b]
 by_cases d:s=[105,102]
 .obtain rfl:=u (by rw[d];decide)
  simp only[go_sem,a,U,Y,b,s9 d]
 by_cases e:s=[101,108,115,101]
 .obtain rfl:=u (by rw[e];decide)
  simp only[go_sem,a,U,Y,b,d,s9 e]
 by_cases i:s=[119,104,105,108,101]
 .obtain rfl:=u (by rw[i];decide)
  simp only[go_sem,a,U,Y,b,d,e,s9 i]
 by_cases l:s=[114,101,116,117,114,110]
 .obtain rfl:=u (by rw[l];decide)
  simp only[go_sem,a,U,Y,b,d,e,i,s9 l]
 by_cases m:s=[112,117,116]
 .obtain rfl:=u (by rw[m];decide)
  simp only[go_sem,a,U,Y,b,d,e,i,l,s9 m]
 by_cases c:s=[103,101,116]
 .obtain rfl:=u (by rw[c];decide)
  simp only[go_sem,a,U,Y,b,d,e,i,l,m,s9 c]
 simp only[go_sem,a,U,Y,b,d,e,i,l,m,c];refine cK rfl (by simp only[go_sem];exact Qs ho s) ?_;rintro _ rfl;rw[n];exact hG
def cV(ho:kC o)(s:Str)(b:Bool):bP Tryz.prog 4 o 192 [sv s,bv b] (·=bv (Src.ah b s)):=by
 refine hdG Tryz.func192 rfl [.tmp 4] λO bo s0 w0 g=>?_;unfold Src.ah;cases b
 .exact hG
 .simp only[go_sem]
  refine cK rfl (by simp only[go_sem];exact nn ho s) ?_;rintro _ rfl;exact hG
def qF(ho:kC o)(l:List Str)(hl:z l<=1000000000):bP Tryz.prog 4 o 80 [lA l] (·=bv (l.all aN)):=by
 refine hdG Tryz.func80 rfl [.tmp 2] λO bo s0 w0 g=>?_;unfold lA;simp only[go_sem,j5];refine aq (λX K=>∃k:Nat,X+k=z l/\(l.take k).all aN=T/\K.f 5=.one (.d (.sl (l.map λs=>[.str s])))/\K.f 6=iv .i64 (z l)/\K.f 7=iv .i64 k) (z l) ?_ ?_
 .exact U4
 rintro X f t u ⟨k,hk,e,i,a,b⟩;simp only at i a b;have n:=ab (k:=k) a6;by_cases q:k<z l
 case neg=>
  have H:¬(k:Int)<(z l:Int):=a6;obtain rfl:k=z l:=a6;rw[s6 (l0 _)]at e;simp only[go_sem,a,b,H,e]
 have H:(k:Int)<(z l:Int):=a6;have an:(0:Int)<=(k:Int):=a6;obtain⟨s,m⟩:=getq q;simp only[go_sem,i,a,b,H,an,m];refine cK rfl (by simp only[go_sem];exact nn ho s) ?_;rintro _ rfl;cases hb:aN s
 .simp only[go_sem,Src.all_false m hb]
 .simp only[go_sem,b,n]
  refine ai (X-1) a6 ⟨k+1,a6,Src.Vx e m hb,?_⟩;simp only[go_sem,i,a]
end
end
section
open Go Go.Am Go.Asm
open Go.Src (aN ah bI cp Ex Stm)
attribute[local congr]ite_cc
def Df{o:cg}(ho:kC o)(e:Ex):bP Tryz.prog 4 o 193 [exV e] (·=bv (match e with|.mk kind op num name kids=>bI kind op num name (z kids))):=by
 obtain⟨kind,op,num,name,kids⟩:=e;refine hdG Tryz.func193 rfl [.tmp 2] λO bo s0 w0 g=>?_;simp only;obtain⟨X,t⟩:∃X,bI kind op num name (z kids)=X:=⟨_,rfl⟩
 rw[t];unfold exV;simp only[exD,aA,l9,v8];unfold bI at t;by_cases l:kind=1
 .rw[l7 l]at t
  by_cases n:op=0
  case neg=>
   obtain rfl:X=F:=by rw[<-t];simp[n]
   simp only[go_sem,s9 l,n]
  simp only[go_sem,s9 l,s9 n];refine cK rfl WJ ?_;rintro _ rfl;cases P:ah F name
  .obtain rfl:X=F:=by rw[<-t];simp[P]
   simp only[go_sem,s9 l,s9 n]
  by_cases b:z kids=0
  case neg=>
   obtain rfl:X=F:=by rw[<-t];simp[b]
   have m:(0:Int)<=(z kids:Int):=a6;have c:¬(z kids:Int)<=0:=a6;simp only[go_sem,s9 l,s9 n,j5,m,c]
  have m:(0:Int)<=(z kids:Int):=a6;have c:(z kids:Int)<=0:=a6;obtain rfl:X=T:=by rw[<-t];simp[n,P,b]
  simp only[go_sem,s9 l,s9 n,j5,m,c]
 by_cases q:kind=2
 .rw[j8 l,l7 q]at t
  by_cases n:op=0
  case neg=>
   obtain rfl:X=F:=by rw[<-t];simp[n]
   simp only[go_sem,s9 q,l,n]
  by_cases bk:num=0
  case neg=>
   obtain rfl:X=F:=by rw[<-t];simp[bk]
   simp only[go_sem,s9 q,l,s9 n,bk]
  simp only[go_sem,s9 q,l,s9 n,s9 bk];refine cK rfl WV ?_;rintro _ rfl;cases P:ah T name
  .obtain rfl:X=F:=by rw[<-t];simp[P]
   simp only[go_sem,s9 q,l,s9 n,s9 bk]
  by_cases b:z kids=0
  case neg=>
   obtain rfl:X=F:=by rw[<-t];simp[b]
   have m:(0:Int)<=(z kids:Int):=a6;have c:¬(z kids:Int)<=0:=a6;simp only[go_sem,s9 q,l,s9 n,s9 bk,j5,m,c]
  have m:(0:Int)<=(z kids:Int):=a6;have c:(z kids:Int)<=0:=a6;obtain rfl:X=T:=by rw[<-t];simp[n,bk,P,b]
  simp only[go_sem,s9 q,l,s9 n,s9 bk,j5,m,c]
 by_cases u:kind=3
 .rw[j8 l,j8 q,l7 u]at t
  by_cases n:op=0
  case neg=>
   obtain rfl:X=F:=by rw[<-t];simp[n]
   simp only[go_sem,s9 u,l,q,n]
  by_cases bk:num=0
  case neg=>
   obtain rfl:X=F:=by rw[<-t];simp[bk]
   simp only[go_sem,s9 u,l,q,s9 n,bk]
  simp only[go_sem,s9 u,l,q,s9 n,s9 bk];refine cK rfl WV ?_;rintro _ rfl;cases P:ah T name
  .obtain rfl:X=F:=by rw[<-t];simp[P]
   simp only[go_sem,s9 u,l,q,s9 n,s9 bk]
  by_cases b:z kids=1
  case neg=>
   obtain rfl:X=F:=by rw[<-t];simp[b]
   by_cases m:(1:Int)<=(z kids:Int)
   .have c:¬(z kids:Int)<=1:=a6
    simp only[go_sem,s9 u,l,q,s9 n,s9 bk,j5,m,c]
   .simp only[go_sem,s9 u,l,q,s9 n,s9 bk,j5,m]
  have m:(1:Int)<=(z kids:Int):=a6;have c:(z kids:Int)<=1:=a6;obtain rfl:X=T:=by rw[<-t];simp[n,bk,P,b]
  simp only[go_sem,s9 u,l,q,s9 n,s9 bk,j5,m,c]
 by_cases v:kind=4
 .rw[j8 l,j8 q,j8 u,l7 v]at t
  by_cases n:op=0
  case neg=>
   obtain rfl:X=F:=by rw[<-t];simp[n]
   simp only[go_sem,s9 v,l,q,u,n]
  by_cases bk:num=0
  case neg=>
   obtain rfl:X=F:=by rw[<-t];simp[bk]
   simp only[go_sem,s9 v,l,q,u,s9 n,bk]
  simp only[go_sem,s9 v,l,q,u,s9 n,s9 bk];refine cK rfl WV ?_;rintro _ rfl;cases P:ah T name
  .obtain rfl:X=F:=by rw[<-t];simp[P]
   simp only[go_sem,s9 v,l,q,u,s9 n,s9 bk]
  have m:(0:Int)<=(z kids:Int):=a6;by_cases b:z kids<=6
  case neg=>
   obtain rfl:X=F:=by rw[<-t];simp;omega
   have c:¬(z kids:Int)<=6:=a6;simp only[go_sem,s9 v,l,q,u,s9 n,s9 bk,j5,m,c]
  have c:(z kids:Int)<=6:=a6;obtain rfl:X=T:=by rw[<-t];simp[n,bk,P,b]
  simp only[go_sem,s9 v,l,q,u,s9 n,s9 bk,j5,m,c]
 by_cases w:kind=5
 .rw[j8 l,j8 q,j8 u,j8 v,l7 w]at t
  by_cases n:op=0
  case neg=>
   obtain rfl:X=F:=by rw[<-t];simp[n]
   simp only[go_sem,s9 w,l,q,u,v,n]
  by_cases bk:num=0
  case neg=>
   obtain rfl:X=F:=by rw[<-t];simp[bk]
   simp only[go_sem,s9 w,l,q,u,v,s9 n,bk]
  simp only[go_sem,s9 w,l,q,u,v,s9 n,s9 bk];refine cK rfl WJ ?_;rintro _ rfl;cases P:ah F name
  .obtain rfl:X=F:=by rw[<-t];simp[P]
   simp only[go_sem,s9 w,l,q,u,v,s9 n,s9 bk]
  by_cases b:z kids=0
  case neg=>
   obtain rfl:X=F:=by rw[<-t];simp[b]
   have m:(0:Int)<=(z kids:Int):=a6;have c:¬(z kids:Int)<=0:=a6;simp only[go_sem,s9 w,l,q,u,v,s9 n,s9 bk,j5,m,c]
  have m:(0:Int)<=(z kids:Int):=a6;have c:(z kids:Int)<=0:=a6;obtain rfl:X=T:=by rw[<-t];simp[n,bk,P,b]
  simp only[go_sem,s9 w,l,q,u,v,s9 n,s9 bk,j5,m,c]
 by_cases r:kind=6
 .rw[j8 l,j8 q,j8 u,j8 v,j8 w,l7 r]at t
  by_cases bc:op<4
  case pos=>
   have I:¬4<=op:=a6;obtain rfl:X=F:=by rw[<-t];simp[I]
   simp only[go_sem,s9 r,l,q,u,v,w,bc]
  by_cases d:15<op
  case pos=>
   have I:¬op<=15:=a6;obtain rfl:X=F:=by rw[<-t];simp[I]
   simp only[go_sem,s9 r,l,q,u,v,w,bc,d]
  have i:4<=op:=a6;have A:op<=15:=a6;by_cases bk:num=0
  case neg=>
   obtain rfl:X=F:=by rw[<-t];simp[bk]
   simp only[go_sem,s9 r,l,q,u,v,w,bc,d,bk]
  simp only[go_sem,s9 r,l,q,u,v,w,bc,d,s9 bk];refine cK rfl WJ ?_;rintro _ rfl;cases P:ah F name
  .obtain rfl:X=F:=by rw[<-t];simp[P]
   simp only[go_sem,s9 r,l,q,u,v,w,bc,d,s9 bk]
  by_cases b:z kids=2
  case neg=>
   obtain rfl:X=F:=by rw[<-t];simp[b]
   by_cases m:(2:Int)<=(z kids:Int)
   .have c:¬(z kids:Int)<=2:=a6
    simp only[go_sem,s9 r,l,q,u,v,w,bc,d,s9 bk,j5,m,c]
   .simp only[go_sem,s9 r,l,q,u,v,w,bc,d,s9 bk,j5,m]
  have m:(2:Int)<=(z kids:Int):=a6;have c:(z kids:Int)<=2:=a6;obtain rfl:X=T:=by rw[<-t];simp[i,A,bk,P,b]
  simp only[go_sem,s9 r,l,q,u,v,w,bc,d,s9 bk,j5,m,c]
 by_cases x:kind=7
 .rw[j8 l,j8 q,j8 u,j8 v,j8 w,j8 r,l7 x]at t
  by_cases n:op=0
  case neg=>
   obtain rfl:X=F:=by rw[<-t];simp[n]
   simp only[go_sem,s9 x,l,q,u,v,w,r,n]
  by_cases bk:num=0
  case neg=>
   obtain rfl:X=F:=by rw[<-t];simp[bk]
   simp only[go_sem,s9 x,l,q,u,v,w,r,s9 n,bk]
  simp only[go_sem,s9 x,l,q,u,v,w,r,s9 n,s9 bk];refine cK rfl WJ ?_;rintro _ rfl;cases P:ah F name
  .obtain rfl:X=F:=by rw[<-t];simp[P]
   simp only[go_sem,s9 x,l,q,u,v,w,r,s9 n,s9 bk]
  by_cases b:z kids=1
  case neg=>
   obtain rfl:X=F:=by rw[<-t];simp[b]
   by_cases m:(1:Int)<=(z kids:Int)
   .have c:¬(z kids:Int)<=1:=a6
    simp only[go_sem,s9 x,l,q,u,v,w,r,s9 n,s9 bk,j5,m,c]
   .simp only[go_sem,s9 x,l,q,u,v,w,r,s9 n,s9 bk,j5,m]
  have m:(1:Int)<=(z kids:Int):=a6;have c:(z kids:Int)<=1:=a6;obtain rfl:X=T:=by rw[<-t];simp[n,bk,P,b]
  simp only[go_sem,s9 x,l,q,u,v,w,r,s9 n,s9 bk,j5,m,c]
 by_cases y:kind=8
 .rw[j8 l,j8 q,j8 u,j8 v,j8 w,j8 r,j8 x,l7 (Or.inl y)]at t
  by_cases n:op=0
  case neg=>
   obtain rfl:X=F:=by rw[<-t];simp[n]
   simp only[go_sem,s9 y,l,q,u,v,w,r,x,n]
  by_cases bk:num=0
  case neg=>
   obtain rfl:X=F:=by rw[<-t];simp[bk]
   simp only[go_sem,s9 y,l,q,u,v,w,r,x,s9 n,bk]
  simp only[go_sem,s9 y,l,q,u,v,w,r,x,s9 n,s9 bk];refine cK rfl WJ ?_;rintro _ rfl;cases P:ah F name
  .obtain rfl:X=F:=by rw[<-t];simp[P]
   simp only[go_sem,s9 y,l,q,u,v,w,r,x,s9 n,s9 bk]
  by_cases b:z kids=2
  case neg=>
   obtain rfl:X=F:=by rw[<-t];simp[b]
   by_cases m:(2:Int)<=(z kids:Int)
   .have c:¬(z kids:Int)<=2:=a6
    simp only[go_sem,s9 y,l,q,u,v,w,r,x,s9 n,s9 bk,j5,m,c]
   .simp only[go_sem,s9 y,l,q,u,v,w,r,x,s9 n,s9 bk,j5,m]
  have m:(2:Int)<=(z kids:Int):=a6;have c:(z kids:Int)<=2:=a6;obtain rfl:X=T:=by rw[<-t];simp[n,bk,P,b]
  simp only[go_sem,s9 y,l,q,u,v,w,r,x,s9 n,s9 bk,j5,m,c]
 by_cases a:kind=9
 .rw[j8 l,j8 q,j8 u,j8 v,j8 w,j8 r,j8 x,l7 (Or.inr a)]at t
  by_cases n:op=0
  case neg=>
   obtain rfl:X=F:=by rw[<-t];simp[n]
   simp only[go_sem,s9 a,l,q,u,v,w,r,x,y,n]
  by_cases bk:num=0
  case neg=>
   obtain rfl:X=F:=by rw[<-t];simp[bk]
   simp only[go_sem,s9 a,l,q,u,v,w,r,x,y,s9 n,bk]
  simp only[go_sem,s9 a,l,q,u,v,w,r,x,y,s9 n,s9 bk];refine cK rfl WJ ?_;rintro _ rfl;cases P:ah F name
  .obtain rfl:X=F:=by rw[<-t];simp[P]
   simp only[go_sem,s9 a,l,q,u,v,w,r,x,y,s9 n,s9 bk]
  by_cases b:z kids=2
  case neg=>
   obtain rfl:X=F:=by rw[<-t];simp[b]
   by_cases m:(2:Int)<=(z kids:Int)
   .have c:¬(z kids:Int)<=2:=a6
    simp only[go_sem,s9 a,l,q,u,v,w,r,x,y,s9 n,s9 bk,j5,m,c]
   .simp only[go_sem,s9 a,l,q,u,v,w,r,x,y,s9 n,s9 bk,j5,m]
  have m:(2:Int)<=(z kids:Int):=a6;have c:(z kids:Int)<=2:=a6;obtain rfl:X=T:=by rw[<-t];simp[n,bk,P,b]
  simp only[go_sem,s9 a,l,q,u,v,w,r,x,y,s9 n,s9 bk,j5,m,c]
 obtain rfl:X=F:=by rw[<-t];simp[l,q,u,v,w,r,x,y,a]
 simp only[go_sem,l,q,u,v,w,r,x,y,a]
end
section
open Go Go.Am Go.Asm
open Go.Src (aN ah bI cp cR aU szE aH Ex Stm)
attribute[local congr]ite_cc
def yV{o:cg}(ho:kC o):∀(av:Nat)(l:List Ex)(q:Nat),aH l<=av->av<=1000000000->q<=25->bP Tryz.prog 4 o 125 [dE l,iv .i64 q] (·=bv (aU q l)):=by
 intro av
 induction av using Nat.strongRecOn with
 |ind av G=>
 intro l q bc hN j;refine hdG Tryz.func125 rfl [.tmp 4] λO bo s0 w0 g=>?_;obtain⟨X,t⟩:∃X,aU q l=X:=⟨_,rfl⟩
 rw[t];have cv:=Src.Kr l;have x:=ab (k:=q) a6;unfold dE;by_cases b:0<z l/\24<q
 .have U:(0:Int)<(z l:Int):=a6
  have Y:(24:Int)<(q:Int):=a6
  obtain rfl:X=F:=by
   rw[<-t];cases l with
   |nil=>simp at b
   |cons e l=>obtain⟨kind,op,num,name,i⟩:=e;simp[aU,cR];omega
  simp only[go_sem,j5,U,Y]
 by_cases y:l=[]
 .subst y
  obtain rfl:X=T:=by rw[<-t];simp[aU]
  exact w1
 have gl:0<z l:=H7.2 y;have I:(0:Int)<(z l:Int):=a6;have Q:¬(24:Int)<(q:Int):=a6;simp only[go_sem,j5,I,Q];refine aq (λm K=>∃k:Nat,m+k=z l/\(l.take k).all (cR q)=T/\K.f 1=iv .i64 q/\K.f 14=.one (.d (.sl (l.map exD)))/\K.f 15=iv .i64 (z l)/\K.f 16=iv .i64 k) (z l) ?_ ?_
 .exact U4
 rintro m f g1 ad ⟨k,hk,w,u,E,n,A⟩;simp only at u E n A;have W:=ab (k:=k) a6;by_cases Z:k<z l
 case neg=>
  have H:¬(k:Int)<(z l:Int):=a6;obtain rfl:k=z l:=a6;rw[s6 (l0 _)]at w;obtain rfl:X=T:=by rw[<-t,Src.BS];exact w
  simp only[go_sem,n,A,H]
 have H:(k:Int)<(z l:Int):=a6;have an:(0:Int)<=(k:Int):=a6;obtain⟨e,v⟩:=getq Z;obtain⟨kind,op,num,name,i⟩:=e;have a:=Src.se (l5 v);rw[szE]at a;have B:exD (.mk kind op num name i)=[.int .i64 kind,.int .i64 op,.int .u32 num,.str name,.sl (i.map exD)]:=by simp only[exD,aA]
 have hF:=Df ho (.mk kind op num name i);have J:=G (aH i) a6 i (q+1) (l0 _) a6 a6;unfold exV at hF;unfold dE at J;rw[B]at hF;simp only[l9,v8]at hF;have c:q<=24:=a6;simp only[go_sem,u,E,n,A,H,an,v,B];refine cK rfl Yw ?_;rintro _ rfl;cases hf:bI kind op num name (z i)
 .obtain rfl:X=F:=by rw[<-t,Src.BS];exact Src.all_false v (by simp[cR,hf])
  simp only[go_sem,hf]
 simp only[go_sem,u,x];refine cK rfl (by simp only[go_sem,u,x];exact J) ?_;rintro _ rfl;cases V:aU (q+1) i
 .obtain rfl:X=F:=by rw[<-t,Src.BS];exact Src.all_false v (by simp[cR,hf,V])
  exact hG
 .simp only[go_sem,A,W]
  refine ai (m-1) a6 ⟨k+1,a6,Src.Vx w v (by simp[cR,hf,V,c]),?_⟩;simp only[go_sem,u,E,n]
def Dg{o:cg}(ho:kC o)(e:Stm):bP Tryz.prog 4 o 124 [smV e] (·=bv (match e with|.mk kind name e u el=>cp kind name (z e) (z u) (z el))):=by
 obtain⟨kind,name,e,u,el⟩:=e;refine hdG Tryz.func124 rfl [.tmp 2] λO bo s0 w0 g=>?_;simp only;obtain⟨X,b⟩:∃X,cp kind name (z e) (z u) (z el)=X:=⟨_,rfl⟩
 rw[b];unfold smV;simp only[smD,aA,cT,l9,v8];unfold cp at b;by_cases a:kind=1
 .rw[l7 a]at b
  simp only[go_sem,s9 a];refine cK rfl WV ?_;rintro _ rfl;cases P:ah T name
  .obtain rfl:X=F:=by rw[<-b];simp[P]
   simp only[go_sem,s9 a]
  have W:(0:Int)<=(z e:Int):=a6;by_cases m:(z e:Int)<1
  .obtain rfl:X=F:=by rw[<-b,P,w7];exact z7 a6
   simp only[go_sem,s9 a,j5,m]
  by_cases c:(1:Int)<(z e:Int)
  .obtain rfl:X=F:=by rw[<-b,P,w7];exact z7 a6
   simp only[go_sem,s9 a,j5,m,c]
  by_cases p:(z u:Int)=0
  case neg=>
   obtain rfl:X=F:=by rw[<-b,P,w7];exact z7 a6
   simp only[go_sem,s9 a,j5,m,c,p]
  by_cases q:(z el:Int)=0
  case neg=>
   obtain rfl:X=F:=by rw[<-b,P,w7];exact z7 a6
   simp only[go_sem,s9 a,j5,m,c,p,q]
  obtain rfl:X=T:=by rw[<-b,P,w7];exact B3 a6
  simp only[go_sem,s9 a,j5,m,c,p,q]
 by_cases d:kind=2
 .rw[j8 a,l7 d]at b
  simp only[go_sem,s9 d,a];refine cK rfl WV ?_;rintro _ rfl;cases P:ah T name
  .obtain rfl:X=F:=by rw[<-b];simp[P]
   simp only[go_sem,s9 d,a]
  have W:(0:Int)<=(z e:Int):=a6;by_cases m:(z e:Int)<2
  .obtain rfl:X=F:=by rw[<-b,P,w7];exact z7 a6
   simp only[go_sem,s9 d,a,j5,m]
  by_cases c:(2:Int)<(z e:Int)
  .obtain rfl:X=F:=by rw[<-b,P,w7];exact z7 a6
   simp only[go_sem,s9 d,a,j5,m,c]
  by_cases p:(z u:Int)=0
  case neg=>
   obtain rfl:X=F:=by rw[<-b,P,w7];exact z7 a6
   simp only[go_sem,s9 d,a,j5,m,c,p]
  by_cases q:(z el:Int)=0
  case neg=>
   obtain rfl:X=F:=by rw[<-b,P,w7];exact z7 a6
   simp only[go_sem,s9 d,a,j5,m,c,p,q]
  obtain rfl:X=T:=by rw[<-b,P,w7];exact B3 a6
  simp only[go_sem,s9 d,a,j5,m,c,p,q]
 by_cases i:kind=3
 .rw[j8 a,j8 d,l7 i]at b
  simp only[go_sem,s9 i,a,d];refine cK rfl WJ ?_;rintro _ rfl;cases P:ah F name
  .obtain rfl:X=F:=by rw[<-b];simp[P]
   simp only[go_sem,s9 i,a,d]
  have W:(0:Int)<=(z e:Int):=a6;by_cases m:(z e:Int)<1
  .obtain rfl:X=F:=by rw[<-b,P,w7];exact z7 a6
   simp only[go_sem,s9 i,a,d,j5,m]
  by_cases c:(1:Int)<(z e:Int)
  .obtain rfl:X=F:=by rw[<-b,P,w7];exact z7 a6
   simp only[go_sem,s9 i,a,d,j5,m,c]
  by_cases p:(z u:Int)=0
  case neg=>
   obtain rfl:X=F:=by rw[<-b,P,w7];exact z7 a6
   simp only[go_sem,s9 i,a,d,j5,m,c,p]
  by_cases q:(z el:Int)=0
  case neg=>
   obtain rfl:X=F:=by rw[<-b,P,w7];exact z7 a6
   simp only[go_sem,s9 i,a,d,j5,m,c,p,q]
  obtain rfl:X=T:=by rw[<-b,P,w7];exact B3 a6
  simp only[go_sem,s9 i,a,d,j5,m,c,p,q]
 by_cases l:kind=4
 .rw[j8 a,j8 d,j8 i,l7 l]at b
  simp only[go_sem,s9 l,a,d,i];refine cK rfl WJ ?_;rintro _ rfl;cases P:ah F name
  .obtain rfl:X=F:=by rw[<-b];simp[P]
   simp only[go_sem,s9 l,a,d,i]
  have W:(0:Int)<=(z e:Int):=a6;by_cases m:(z e:Int)<1
  .obtain rfl:X=F:=by rw[<-b,P,w7];exact z7 a6
   simp only[go_sem,s9 l,a,d,i,j5,m]
  by_cases c:(1:Int)<(z e:Int)
  .obtain rfl:X=F:=by rw[<-b,P,w7];exact z7 a6
   simp only[go_sem,s9 l,a,d,i,j5,m,c]
  obtain rfl:X=T:=by rw[<-b,P,w7];exact B3 a6
  simp only[go_sem,s9 l,a,d,i,j5,m,c]
 by_cases n:kind=5
 .rw[j8 a,j8 d,j8 i,j8 l,l7 n]at b
  simp only[go_sem,s9 n,a,d,i,l];refine cK rfl WJ ?_;rintro _ rfl;cases P:ah F name
  .obtain rfl:X=F:=by rw[<-b];simp[P]
   simp only[go_sem,s9 n,a,d,i,l]
  have W:(0:Int)<=(z e:Int):=a6;by_cases m:(z e:Int)<1
  .obtain rfl:X=F:=by rw[<-b,P,w7];exact z7 a6
   simp only[go_sem,s9 n,a,d,i,l,j5,m]
  by_cases c:(1:Int)<(z e:Int)
  .obtain rfl:X=F:=by rw[<-b,P,w7];exact z7 a6
   simp only[go_sem,s9 n,a,d,i,l,j5,m,c]
  by_cases q:(z el:Int)=0
  case neg=>
   obtain rfl:X=F:=by rw[<-b,P,w7];exact z7 a6
   simp only[go_sem,s9 n,a,d,i,l,j5,m,c,q]
  obtain rfl:X=T:=by rw[<-b,P,w7];exact B3 a6
  simp only[go_sem,s9 n,a,d,i,l,j5,m,c,q]
 by_cases r:kind=6
 .rw[j8 a,j8 d,j8 i,j8 l,j8 n,l7 r]at b
  simp only[go_sem,s9 r,a,d,i,l,n];refine cK rfl WV ?_;rintro _ rfl;cases P:ah T name
  .obtain rfl:X=F:=by rw[<-b];simp[P]
   simp only[go_sem,s9 r,a,d,i,l,n]
  have W:(0:Int)<=(z e:Int):=a6;have m:¬(z e:Int)<0:=a6;by_cases c:(6:Int)<(z e:Int)
  .obtain rfl:X=F:=by rw[<-b,P,w7];exact z7 a6
   simp only[go_sem,s9 r,a,d,i,l,n,j5,m,c]
  by_cases p:(z u:Int)=0
  case neg=>
   obtain rfl:X=F:=by rw[<-b,P,w7];exact z7 a6
   simp only[go_sem,s9 r,a,d,i,l,n,j5,m,c,p]
  by_cases q:(z el:Int)=0
  case neg=>
   obtain rfl:X=F:=by rw[<-b,P,w7];exact z7 a6
   simp only[go_sem,s9 r,a,d,i,l,n,j5,m,c,p,q]
  obtain rfl:X=T:=by rw[<-b,P,w7];exact B3 a6
  simp only[go_sem,s9 r,a,d,i,l,n,j5,m,c,p,q]
 by_cases t:kind=7
 .rw[j8 a,j8 d,j8 i,j8 l,j8 n,j8 r,l7 t]at b
  simp only[go_sem,s9 t,a,d,i,l,n,r];refine cK rfl WJ ?_;rintro _ rfl;cases P:ah F name
  .obtain rfl:X=F:=by rw[<-b];simp[P]
   simp only[go_sem,s9 t,a,d,i,l,n,r]
  have W:(0:Int)<=(z e:Int):=a6;have m:¬(z e:Int)<0:=a6;by_cases c:(1:Int)<(z e:Int)
  .obtain rfl:X=F:=by rw[<-b,P,w7];exact z7 a6
   simp only[go_sem,s9 t,a,d,i,l,n,r,j5,m,c]
  by_cases p:(z u:Int)=0
  case neg=>
   obtain rfl:X=F:=by rw[<-b,P,w7];exact z7 a6
   simp only[go_sem,s9 t,a,d,i,l,n,r,j5,m,c,p]
  by_cases q:(z el:Int)=0
  case neg=>
   obtain rfl:X=F:=by rw[<-b,P,w7];exact z7 a6
   simp only[go_sem,s9 t,a,d,i,l,n,r,j5,m,c,p,q]
  obtain rfl:X=T:=by rw[<-b,P,w7];exact B3 a6
  simp only[go_sem,s9 t,a,d,i,l,n,r,j5,m,c,p,q]
 obtain rfl:X=F:=by rw[<-b];simp[a,d,i,l,n,r,t]
 simp only[go_sem,a,d,i,l,n,r,t]
end
section
open Go Go.Am Go.Asm
open Go.Src (aN ah bI cp cR aU di bg cI fb cD szE aH szS aE Ex Stm)
attribute[local congr]ite_cc
def yW{o:cg}(ho:kC o):∀(av:Nat)(l:List Stm)(q:Nat),aE l<=av->av<=1000000000->q<=25->bP Tryz.prog 4 o 82 [ed l,iv .i64 q] (·=bv (bg q l)):=by
 intro av
 induction av using Nat.strongRecOn with
 |ind av G=>
 intro l q bc hN j;refine hdG Tryz.func82 rfl [.tmp 4] λO bo s0 w0 g=>?_;obtain⟨X,t⟩:∃X,bg q l=X:=⟨_,rfl⟩
 rw[t];have cv:=Src.Ks l;have x:=ab (k:=q) a6;unfold ed;by_cases b:0<z l/\24<q
 .have U:(0:Int)<(z l:Int):=a6
  have Y:(24:Int)<(q:Int):=a6
  obtain rfl:X=F:=by
   rw[<-t];cases l with
   |nil=>simp at b
   |cons e l=>
     obtain⟨kind,name,e,u,el⟩:=e;have:¬q<=24:=a6;simp[bg,di,this]
  simp only[go_sem,j5,U,Y]
 by_cases I:l=[]
 .subst I
  obtain rfl:X=T:=by rw[<-t];simp[bg]
  exact w1
 have gl:0<z l:=H7.2 I;have hc:(0:Int)<(z l:Int):=a6;have b5:¬(24:Int)<(q:Int):=a6;simp only[go_sem,j5,hc,b5];refine aq (λm K=>∃k:Nat,m+k=z l/\(l.take k).all (di q)=T/\K.f 1=iv .i64 q/\K.f 14=.one (.d (.sl (l.map smD)))/\K.f 15=iv .i64 (z l)/\K.f 16=iv .i64 k) (z l) ?_ ?_
 .exact U4
 rintro m f g1 ad ⟨k,hk,y,i,E,n,A⟩;simp only at i E n A;have hw:=ab (k:=k) a6;by_cases af:k<z l
 case neg=>
  have H:¬(k:Int)<(z l:Int):=a6;obtain rfl:k=z l:=a6;rw[s6 (l0 _)]at y;obtain rfl:X=T:=by rw[<-t,Src.BT];exact y
  simp only[go_sem,n,A,H]
 have H:(k:Int)<(z l:Int):=a6;have an:(0:Int)<=(k:Int):=a6;obtain⟨e,v⟩:=getq af;obtain⟨kind,name,w,u,el⟩:=e;have a:=Src.kO (l5 v);rw[szS]at a;have J:smD (.mk kind name w u el)=[.int .i64 kind,.str name,.sl (w.map exD),.sl (u.map smD),.sl (el.map smD)]:=by simp only[smD,aA,cT]
 have hF:=Dg ho (.mk kind name w u el);have Q:=yV ho (aH w) w (q+1) (l0 _) a6 a6;have W:=G (aE u) a6 u (q+1) (l0 _) a6 a6;have Z:=G (aE el) a6 el (q+1) (l0 _) a6 a6;unfold smV at hF;unfold dE at Q;unfold ed at W Z;rw[J]at hF;simp only[l9,v8]at hF;have c:q<=24:=a6;simp only[go_sem,i,E,n,A,H,an,v,J];refine cK rfl Yw ?_;rintro _ rfl;cases hf:cp kind name (z w) (z u) (z el)
 .obtain rfl:X=F:=by rw[<-t,Src.BT];exact Src.all_false v (by simp[di,hf])
  simp only[go_sem,hf]
 simp only[go_sem,i,x];refine cK rfl (by simp only[go_sem,i,x];exact Q) ?_;rintro _ rfl;cases V:aU (q+1) w
 .obtain rfl:X=F:=by rw[<-t,Src.BT];exact Src.all_false v (by simp[di,hf,V])
  exact hG
 simp only[go_sem,i,x];refine cK rfl (by simp only[go_sem,i,x];exact W) ?_;rintro _ rfl;cases B:bg (q+1) u
 .obtain rfl:X=F:=by rw[<-t,Src.BT];exact Src.all_false v (by simp[di,hf,V,B])
  exact hG
 simp only[go_sem,i,x];refine cK rfl (by simp only[go_sem,i,x];exact Z) ?_;rintro _ rfl;cases a':bg (q+1) el
 .obtain rfl:X=F:=by rw[<-t,Src.BT];exact Src.all_false v (by simp[di,hf,V,B,a'])
  exact hG
 .simp only[go_sem,A,hw]
  refine ai (m-1) a6 ⟨k+1,a6,Src.Vx y v (by simp[di,hf,V,B,a',c]),?_⟩;simp only[go_sem,i,E,n]
def szP(p:Src.Prog):Nat:=z p.vars+z p.arrays+z p.funcs+(p.funcs.map λf=>z f.params+z f.locals+aE f.body).sum
def kK{p:Src.Prog}{f:Src.Fn}(h:f∈p.funcs):z f.params+z f.locals+aE f.body<=szP p:=by
 have:∀l:List Src.Fn,f∈l->z f.params+z f.locals+aE f.body<=(l.map λf=>z f.params+z f.locals+aE f.body).sum:=by
  intro l
  induction l with
  |nil=>intro h;cases h
  |cons x l a=>
    intro h;rw[l9,D6];rcases y9.1 h with rfl|h
    .omega
    .have:=a h;omega
 have:=this _ h;unfold szP;omega
def EN{o:cg}(ho:kC o)(p:Src.Prog)(bc:szP p<=1000000000):bP Tryz.prog 4 o 46 [cn p] (·=bv (cD p)):=by
 refine hdG Tryz.func46 rfl [.tmp 2] λO bo s0 w0 g=>?_;obtain⟨X,G⟩:∃X,cD p=X:=⟨_,rfl⟩
 rw[G];obtain⟨vs,u,fs⟩:=p;have t:=bc;unfold szP at bc;simp only at bc;unfold cD at G;simp only at G;unfold cn je;by_cases U:z fs<1
 .have r:(z fs:Int)<1:=a6
  obtain rfl:X=F:=by rw[<-G];simp;omega
  simp only[go_sem,j5,r]
 have r:¬(z fs:Int)<1:=a6;by_cases Y:64<z fs
 .have b:(64:Int)<(z fs:Int):=a6
  obtain rfl:X=F:=by rw[<-G];simp;omega
  simp only[go_sem,j5,r,b]
 have b:¬(64:Int)<(z fs:Int):=a6;have hA:=qF ho vs a6;unfold lA at hA;simp only[go_sem,j5,r,b];refine cK rfl (by simp only[go_sem];exact hA) ?_;rintro _ rfl;cases hv:vs.all aN
 .obtain rfl:X=F:=by rw[<-G];simp[hv]
  exact hG
 simp only[go_sem,j5];refine aq (λm K=>∃k:Nat,m+k=z u/\(u.take k).all fb=T/\K.f 1=.one (.ptr 1 (K.gen 1) 0)/\K.obj 1=S [.d (.sl (vs.map λs=>[.str s])),.d (.sl (u.map arD)),.d (.sl (fs.map fnD))]/\K.f 24=.one (.d (.sl (u.map arD)))/\K.f 25=iv .i64 (z u)/\K.f 26=iv .i64 k) (z u) ?_ ?_
 .exact U4
 clear g;rintro m f g ob ⟨k,hk,bs,Q,o1,cv,e,h⟩;simp only at Q o1 cv e h;have hw:=ab (k:=k) a6;by_cases af:k<z u
 .have H:(k:Int)<(z u:Int):=a6
  have an:(0:Int)<=(k:Int):=a6;obtain⟨⟨V,sz⟩,I⟩:=getq af;simp only[go_sem,Q,o1,cv,e,h,H,an,I,arD];refine cK rfl (by simp only[go_sem];exact nn ho V) ?_;rintro _ rfl;cases hb:aN V
  .obtain rfl:X=F:=by rw[<-G,Src.all_false (p:=fb) I (by simp[fb,hb])];simp
   exact hG
  by_cases bz:sz<1
  .obtain rfl:X=F:=by rw[<-G,Src.all_false (p:=fb) I (by simp[fb,hb];omega)];simp
   simp only[go_sem,bz]
  by_cases A:4096<sz
  .obtain rfl:X=F:=by rw[<-G,Src.all_false (p:=fb) I (by simp[fb,hb];omega)];simp
   simp only[go_sem,bz,A]
  simp only[go_sem,bz,A,h,hw];refine ai (m-1) a6 ⟨k+1,a6,Src.Vx bs I (by simp[fb,hb];omega),?_⟩;simp only[go_sem,Q,o1,cv,e]
 have H:¬(k:Int)<(z u:Int):=a6;obtain rfl:k=z u:=a6;rw[s6 (l0 _)]at bs;simp only[go_sem,Q,o1,e,h,H,j5];refine aq (λm K=>∃k:Nat,m+k=z fs/\(fs.take k).all cI=T/\K.f 46=.one (.d (.sl (fs.map fnD)))/\K.f 47=iv .i64 (z fs)/\K.f 48=iv .i64 k) (z fs) ?_ ?_
 .exact U4
 clear Q o1 cv e h af H hw hk;rintro m f g ob ⟨k,hk,a,Z,a1,j⟩;simp only at Z a1 j;have hw:=ab (k:=k) a6;by_cases af:k<z fs
 case neg=>
  have H:¬(k:Int)<(z fs:Int):=a6;obtain rfl:k=z fs:=a6;rw[s6 (l0 _)]at a;obtain rfl:X=T:=by rw[<-G,bs,a,hv,B3 (show 1<=z fs/\z fs<=64 by omega)];rfl
  simp only[go_sem,a1,j,H]
 have H:(k:Int)<(z fs:Int):=a6;have an:(0:Int)<=(k:Int):=a6;obtain⟨x,I⟩:=getq af;have B:=kK (p:=⟨vs,u,fs⟩) (l5 I);obtain⟨V,J,ls,w,body⟩:=x;simp only at B;have n:=qF ho J a6;have q:=qF ho ls a6;have hB:=yW ho (aE body) body 1 (l0 _) a6 a6;unfold lA at n q;unfold ed at hB;have W:∀{y:Bool},cI ⟨V,J,ls,w,body⟩=y->y=F->X=F:=λU Y=>by rw[<-G,Src.all_false (p:=cI) I (by rw[U,Y])];simp
 simp only[go_sem,Z,a1,j,H,an,I,fnD];refine cK rfl (by simp only[go_sem];exact nn ho V) ?_;rintro _ rfl;cases hb:aN V
 .obtain rfl:=W rfl (by simp[cI,hb])
  exact hG
 by_cases v:6<z J
 .have i:(6:Int)<(z J:Int):=a6
  obtain rfl:=W rfl (by simp[cI,hb];omega);simp only[go_sem,j5,i]
 have i:¬(6:Int)<(z J:Int):=a6;have c:z J<=6:=a6;simp only[go_sem,j5,i];refine cK rfl (by simp only[go_sem];exact n) ?_;rintro _ rfl;cases cf:J.all aN
 .obtain rfl:=W rfl (by simp only[cI,hb,c,cf];simp)
  exact hG
 simp only[go_sem];refine cK rfl (by simp only[go_sem];exact q) ?_;rintro _ rfl;cases l:ls.all aN
 .obtain rfl:=W rfl (by simp only[cI,hb,c,cf,l];simp)
  exact hG
 simp only[go_sem];refine cK rfl Xn ?_;rintro _ rfl;cases E:bg 1 body
 .obtain rfl:=W rfl (by simp only[cI,hb,c,cf,l,E];simp)
  exact hG
 simp only[go_sem,j,hw];refine ai (m-1) a6 ⟨k+1,a6,Src.Vx a I (by simp only[cI,hb,c,cf,l,E];simp),?_⟩;simp only[go_sem,Z,a1]
end
end Go.Proofs.YtednjibjomfhfaaGreatDoor
namespace Go.Src
section
open Go.Asm (Str digit letter dP gK)
section
def PR.Sz{g:Type}(sz:g->Nat)(x n:Nat)(p:PR g):Prop:=∀a m,p=.ok a m->sz a+n<=x+m
def PR.bind_sz{g β:Type}{c:g->Nat}{d:β->Nat}{x y n:Nat}{p:PR g}{f:g->Nat->PR β}(h:p.Sz c x n)(i:∀a m,(f a m).Sz d (c a+y) m):(p.bind f).Sz d (x+y) n:=by
 intro b m e;cases p with
 |ok a k=>
   have U:=h a k rfl;have Y:=i a k b m e;omega
 |no k=>cases e
variable{k n:Nat}{g:Type}{s:Str}{c:g->Nat}
def PR.sz_no{x n m:Nat}:(PR.no m:PR g).Sz c x n:=λ_ _ e=>by cases e
def PR.sz_ok{x n m:Nat}{a:g}(h:c a+n<=x+m):(PR.ok a m).Sz c x n:=λb k e=>by cases e;exact h
def PR.Sz.of{x n y m:Nat}{p:PR g}(h:p.Sz c x n)(b:x+m<=y+n):p.Sz c y m:=λa k e=>by have:=h a k e;omega
def z0{g:Type}(_:g):Nat:=0
def BU:∀(l m:List Ex),aH (l++m)=aH l+aH m
 |[],m=>by simp[aH]
 |e::l,m=>by simp only[u7,aH,BU l m];omega
def BV:∀(l m:List Stm),aE (l++m)=aE l+aE m
 |[],m=>by simp[aE]
 |e::l,m=>by simp only[u7,aE,BV l m];omega
section
variable{A:List Tok}
def mQ:(takeN A k n).Sz (λ_=>1) 0 n:=λa m h=>by have:=il a m h;show 1+n<=0+m;omega
def dq{l:List Str}{n:Nat}:(aS A l n).Sz (λ_=>0) 0 n:=λa m h=>by have:=da a m h;show 0+n<=0+m;omega
mutual
theorem iN:∀(k l n:Nat),(dm A k l n).Sz szE 0 n
 |0,_,_=>by unfold dm;exact PR.sz_no
 |k+1,l,n=>by
   unfold dm;exact PR.bind_sz (y:=0) (BX k n) λa m=>BW k l a m
theorem BW:∀(k l:Nat)(left:Ex)(n:Nat),(gX A k l left n).Sz szE (szE left) n
 |0,_,_,_=>by unfold gX;exact PR.sz_no
 |k+1,l,left,n=>by
   unfold gX;split
   .exact PR.sz_ok a6
   .exact(PR.bind_sz (x:=0) (y:=szE left+1) (iN k _ (n+1)) λb q=>(BW k l _ q).of W7).of a6
theorem BX:∀(k n:Nat),(ey A k n).Sz szE 0 n
 |0,_=>by unfold ey;exact PR.sz_no
 |k+1,n=>by
   unfold ey;split
   .exact PR.bind_sz (y:=0) mQ λa m=>PR.sz_ok W7
   split
   .exact(PR.bind_sz (x:=0) (y:=1) dq λa m=>PR.sz_ok W7).of (m:=n) (y:=0) (n:=n+1) a6
   split
   .exact(PR.bind_sz (x:=0) (y:=0) (iN k 1 (n+1)) λa m=>(PR.bind_sz (x:=0) (y:=szE a) dq λb q=>PR.sz_ok (c:=szE) a6).of a6).of (m:=n) (y:=0) (n:=n+1) a6
   split
   .exact(PR.bind_sz (x:=0) (y:=1) (BX k (n+1)) λa m=>PR.sz_ok W7).of (m:=n) (y:=0) (n:=n+1) a6
   refine PR.bind_sz (x:=0) (y:=0) mQ λa m=>?_;split
   .exact(PR.bind_sz (x:=0) (y:=1) (iN k 1 (m+1)) λa m=>(PR.bind_sz (x:=0) (y:=szE a+1) dq λb q=>PR.sz_ok W7).of a6).of (n:=m+1) a6
   split
   .exact(PR.bind_sz (x:=0) (y:=1) (BY k (m+1)) λa m=>PR.sz_ok W7).of (n:=m+1) a6
   .exact PR.sz_ok W7
theorem BY:∀(k n:Nat),(fD A k n).Sz aH 0 n
 |0,_=>by unfold fD;exact PR.sz_no
 |k+1,n=>by
   unfold fD;split
   .exact PR.sz_ok (by simp only[aH];omega)
   .exact PR.bind_sz (y:=0) (iN k 1 n) λa m=>(BZ k [a] m).of (by simp only[aH];omega)
theorem BZ:∀(k:Nat)(l:List Ex)(n:Nat),(gY A k l n).Sz aH (aH l) n
 |0,_,_=>by unfold gY;exact PR.sz_no
 |k+1,l,n=>by
   unfold gY;split
   .exact(PR.bind_sz (x:=0) (y:=aH l) (iN k 1 (n+1)) λa m=>(BZ k (l++[a]) m).of (by rw[BU];simp only[aH];omega)).of a6
   .exact(PR.bind_sz (x:=0) (y:=aH l) dq λb q=>PR.sz_ok (c:=aH) a6).of a6
end
def tA:(jw A k n).Sz aH 0 n:=
 PR.bind_sz (x:=0) (y:=0) dq λ_ m=>(PR.bind_sz (x:=0) (y:=0) (iN k 1 m) λe m=>(PR.bind_sz (x:=0) (y:=szE e) dq λ_ _=>PR.sz_ok (by simp only[aH];omega)).of a6).of a6
def GZ:(iE A k n).Sz szS 0 n:=by
 unfold iE;refine PR.bind_sz (x:=0) (y:=0) mQ λt m=>((PR.bind_sz (x:=1) (y:=0) (c:=szS) ?_ λs q=>(PR.bind_sz (x:=0) (y:=szS s) dq λ_ _=>PR.sz_ok (c:=szS) a6).of (m:=q) a6).of (n:=m) (m:=m) a6)
 split
 .exact(PR.bind_sz (x:=0) (y:=1) (iN k 1 (m+1)) λ_ _=>PR.sz_ok X1).of a6
 split
 .exact(PR.bind_sz (x:=0) (y:=1) (iN k 1 (m+1)) λi _=>(PR.bind_sz (x:=0) (y:=szE i+1) dq λ_ q=>(PR.bind_sz (x:=0) (y:=szE i+1) (iN k 1 q) λ_ _=>PR.sz_ok X1).of a6).of a6).of a6
 split
 .exact(PR.bind_sz (x:=0) (y:=1) (BY k (m+1)) λ_ _=>PR.sz_ok Yc).of a6
 .exact PR.sz_no
mutual
theorem Kt:∀(k n:Nat),(gy A k n).Sz szS 0 n
 |0,_=>by unfold gy;exact PR.sz_no
 |k+1,n=>by
   unfold gy;split
   .exact(PR.bind_sz (x:=0) (y:=1) tA λe _=>(PR.bind_sz (x:=0) (y:=aH e+1) dq λ_ _=>PR.sz_ok Yc).of a6).of (n:=n+1) a6
   split
   .split
    .exact PR.sz_ok X1
    .exact(PR.bind_sz (x:=0) (y:=1) (iN k 1 (n+1)) λe _=>(PR.bind_sz (x:=0) (y:=szE e+1) dq λ_ _=>PR.sz_ok X1).of a6).of (n:=n+1) a6
   split
   .refine(PR.bind_sz (x:=0) (y:=1) tA λe m=>(PR.bind_sz (x:=0) (y:=aH e+1) (wM k m) λa q=>?_).of a6).of (n:=n+1) a6
    split
    .exact(PR.bind_sz (x:=0) (y:=aE a+aH e+1) (wM k (q+1)) λ_ _=>PR.sz_ok (by simp only[szS];omega)).of a6
    .exact PR.sz_ok Yc
   split
   .exact(PR.bind_sz (x:=0) (y:=1) tA λe m=>(PR.bind_sz (x:=0) (y:=aH e+1) (wM k m) λ_ _=>PR.sz_ok Yc).of a6).of (n:=n+1) a6
   .exact GZ
theorem wM:∀(k n:Nat),(iw A k n).Sz aE 0 n
 |0,_=>by unfold iw;exact PR.sz_no
 |k+1,n=>by
   unfold iw;exact PR.bind_sz (x:=0) (y:=0) dq λ_ m=>(tB k [] m).of (by simp only[aE];omega)
theorem tB:∀(k:Nat)(l:List Stm)(n:Nat),(dH A k l n).Sz aE (aE l) n
 |0,_,_=>by unfold dH;exact PR.sz_no
 |k+1,l,n=>by
   unfold dH;split
   .exact PR.sz_ok a6
   .exact(PR.bind_sz (x:=0) (y:=aE l) (Kt k n) λa m=>(tB k _ m).of (by rw[BV];simp only[aE];omega)).of a6
end
def Ca:∀{k:Nat}{l:List Fn}{n:Nat},(lH A k l n).In (z A) n
 |0,_,_=>by unfold lH;exact PR.in_no
 |k+1,l,n=>by
   unfold lH;split
   .exact PR.bind_in Fs λ_ _=>Ca
   .exact PR.in_here
def Ku:(lW A k n).In (z A) n:=PR.bind_in wL λ_ _=>PR.bind_in Fs λ_ _=>PR.bind_in Ca λ_ _=>PR.in_here
def tC:(eL A k n).Sz z 0 n:=λa m h=>by have:=DS h;omega
def wN:∀{k:Nat}{l:List Str}{n:Nat},(dI A k l n).Sz z (z l) n
 |0,_,_=>by unfold dI;exact PR.sz_no
 |k+1,l,n=>by
   unfold dI;split
   .exact(PR.bind_sz (x:=0) (y:=z l) (c:=z) tC λm q=>(PR.bind_sz (x:=0) (y:=z m+z l) dq λ_ _=>wN.of (by simp only[j4];omega)).of (m:=q) a6).of (n:=n+1) a6
   .exact PR.sz_ok a6
def szF(f:Fn):Nat:=z f.params+z f.locals+aE f.body
def Ft:(mn A k n).Sz (λf=>szF f+1) 0 n:=by
 unfold mn;refine PR.bind_sz (x:=0) (y:=0) dq λ_ m=>(PR.bind_sz (x:=0) (y:=0) mQ λt m=>(PR.bind_sz (x:=0) (y:=1) dq λ_ m=>(PR.bind_sz (x:=0) (y:=1) (c:=z) ?_ λd m=>(PR.bind_sz (x:=0) (y:=z d+1) dq λ_ m=>?_).of (n:=m) (m:=m) a6).of (n:=m) (m:=m) a6).of (m:=m) a6).of (m:=m) a6
 .split
  .exact tC
  .exact PR.sz_ok (m:=m) a8
 .have g:∀v,((aS A [[123]] v).bind λ_ a=>(dI A k [] a).bind λe a=>(dH A k [] a).bind λb a=>(PR.ok (Fn.mk t.text d e (decide (az A m=[119,111,114,100])) b) a)).Sz (λf=>szF f+1) (z d+1) v:=λv=>
   (PR.bind_sz (x:=0) (y:=z d+1) dq λ_ a=>(PR.bind_sz (x:=0) (y:=z d+1) (wN (l:=[])) λe a=>(PR.bind_sz (x:=0) (y:=z e+z d+1) (tB k [] a) λb a=>PR.sz_ok (by simp only[szF];omega)).of (m:=a) a6).of (m:=a) a6).of a6
  split
  .exact(g (m+1)).of a6
  .exact(g m).of a6
def wO:∀{k:Nat}{l:List Str}{u:List (Str×Int)}{n:Nat},(kv A k l u n).Sz (λh=>z h.1+z h.2) (z l+z u) n
 |0,_,_,_=>by unfold kv;exact PR.sz_no
 |k+1,l,u,n=>by
   unfold kv;split
   .exact(PR.bind_sz (x:=0) (y:=z l+z u) (c:=z) tC λm q=>(PR.bind_sz (x:=0) (y:=z m+z l+z u) dq λ_ _=>wO.of (by simp only[j4];omega)).of (m:=q) a6).of (n:=n+1) a6
   split
   .exact(PR.bind_sz (x:=0) (y:=z l+z u) mQ λt m=>(PR.bind_sz (x:=0) (y:=z l+z u+1) dq λ_ m=>(PR.bind_sz (x:=0) (y:=z l+z u+1) mQ λX m=>(PR.bind_sz (x:=0) (y:=z l+z u+2) dq λ_ m=>(PR.bind_sz (x:=0) (y:=z l+z u+2) dq λ_ m=>
     wO.of (m:=m) (by simp only[j4,B7];omega)).of (m:=m) a6).of (m:=m) a6).of (m:=m) a6).of (m:=m) a6).of (n:=n+1) a6
   .exact PR.sz_ok (by simp only;omega)
def Cb(l:List Fn):Nat:=z l+(l.map szF).sum
def Kv(l:List Fn)(f:Fn):Cb (l++[f])=Cb l+szF f+1:=by simp[Cb];omega
def Cc:∀{k:Nat}{l:List Fn}{n:Nat},(lH A k l n).Sz Cb (Cb l) n
 |0,_,_=>by unfold lH;exact PR.sz_no
 |k+1,l,n=>by
   unfold lH;split
   .exact(PR.bind_sz (x:=0) (y:=Cb l) Ft λf m=>Cc.of (m:=m) (by rw[Kv];omega)).of (m:=n) a6
   .exact PR.sz_ok a6
def szP(p:Prog):Nat:=z p.vars+z p.arrays+Cb p.funcs
def Kw:(lW A k n).Sz szP 0 n:=
 (PR.bind_sz (x:=0) (y:=0) wO λh m=>(PR.bind_sz (x:=0) (y:=z h.1+z h.2) Ft λf m=>(PR.bind_sz (x:=szF f+1) (y:=z h.1+z h.2) (Cc.of (m:=m) (by simp[Cb];omega)) λfs m=>PR.sz_ok (by simp only[szP];omega)).of (m:=m) a6).of (m:=m) a6).of (m:=n) a8
end
def DT{kd v:Nat}{t:Str}(h:firstT s=.ok (kd,t,v)):v<=4294967295:=by
 unfold firstT at h;split at h
 .cases h
 .split at h
  .split at h
   .cases h
   .cases h;omega
  split at h
  .split at h
   .split at h
    .rename_i I;cases h;omega
    .cases h
   .cases h
  split at h
  .split at h
   .cases h
   split at h<;>(cases h;omega)
  .split at h
   .cases h;omega
   .cases h
def pZ:∀{n k:Nat}{s:Str}{l:List Tok}{p:Nat},jH n k s=(.ok l,p)->z l<=n/\∀t∈l,t.num<=4294967295
 |0,_,_,_,_,h=>by unfold jH at h;cases h;simp
 |_+1,_,[],_,_,h=>by unfold jH at h;cases h;simp
 |n+1,k,c::r,l,p,h=>by
   unfold jH at h;split at h
   .have:=pZ h;exact⟨a6,this.2⟩
   split at h
   .have:=pZ h;exact⟨a6,this.2⟩
   split at h
   .cases h
   .rename_i b t v a
    split at h
    .rename_i e d hl
     cases h;have:=pZ hl;refine⟨by simp;omega,λx I=>?_⟩;rcases y9.1 I with rfl|I
     .exact DT a
     .exact this.2 x I
    .cases h
def Kx:z (qT s).1<=20001/\∀t∈(qT s).1,t.num<=4294967295:=by
 unfold qT;split
 .simp
 .split
  .rename_i h
   have:=pZ h;exact⟨by simp only;omega,this.2⟩
  .simp
def lS(A:List Tok)(fin n:Nat):Nat:=match A[n]? with|some t=>t.place|none=>fin
def Ky(s:Str):R Prog×Nat:=
 if (qT s).2.2≠0 then(.err (qT s).2.2,(qT s).2.1)
 else match lW (qT s).1 (4*z (qT s).1+7) 0 with
  |.ok p m=>if m<z (qT s).1 then(.err 3,lS (qT s).1 (z s) m)else(.ok p,0)
  |.no m=>(.err 3,lS (qT s).1 (z s) m)
def Ps{k m:Nat}{p:Prog}(h:lW (qT s).1 k 0=.ok p m):szP p<=20001:=by
 have U:=Kw p m h;have Y:m<=max 0 (z (qT s).1):=Ku p m h;have a:=Kx (s:=s);omega
end
end
end Go.Src
