/- A part; no conditions. -/
import Derived.Test.YtfdbpgoicedpcaaGreatDoorPart3
import Derived.ProofKit
import Derived.WideKeyArgs
import Derived.SizedLaws
import Derived.Deep.OwnRows
import Derived.Deep.CondSized
import Derived.RangeFuncCalls
import Derived.RangeFuncLeaves
import Derived.RangeFuncRecord
import Derived.OrdersIn
import Derived.TacticsIn
set_option linter.all false
open List renaming length -> z
open Option renaming some -> S, none -> N
open Bool renaming true -> T, false -> F
set_option maxHeartbeats 64000000
set_option maxRecDepth 100000
namespace Go.Am
section
attribute[local congr]ite_cc
variable{s:St}{P:Program}{R:AV->Prop}{Q:Exit->St->Prop}
def Rg{t:Nat}{p}{X}(hd:P.underlying t=S p.desc)(d:(P.info? t).map (λi=>(i.size,i.bytes,i.zero))=S (p.size,p.bytes,S X))(e:X.cells.toList=p.zero.map dV)(b:p.zero.all nJ=T)(hl:z p.zero=p.size)(f:fC p.desc=T\/X=dV (p.zero.headD .nsl)):uE P t p:=by
 refine⟨hd,?_,b,hl,λc i a U Z=>?_⟩;rotate_left;.grind
 cases h:P.info? t with|none=>grind;|some i=>grind
def ij{B}{b:Box B}{q:Box Q}(I:Nat->St->Prop) n(c:I n s)(V:∀n f g a,I n ⟨f,g,a⟩->B (nE (bx λe=>∃H d,H<n/\(sp P).vs e d/\I H d) q) ⟨f,g,a⟩):uy (sp P) b q s:=⟨I,⟨n,s,ai.refl s,c⟩,λn s h=>V n s.f s.gen s.obj h⟩
def dN{I:Nat->St->Prop}{n} H(h:H<n)(a:I H s):∃H d,H<n/\(sp P).vs s d/\I H d:=⟨H,s,h,ai.refl s,a⟩
def lI{G}{id}{ops}{q:Box Q}(an:qX G ops=T)(h:wpO (sp P) G ops ops.toList s (bx λa=>Q .normal a)):nF (sp P) G id ops s q:=.inl ⟨an,h⟩
def ja{o}{K}{k:Box K}{f}{args}{tys}(ho:o.op=.call ⟨.value (.func f),args,tys⟩)(a:aR P f (args.toList.map s.ev) R)(hd:(args.toList.map s.ev).all iq=T)(b:∀r,R r->K (s.put o.dst r)):bE (sp P) o s k:=⟨_,AU ho a hd,λ_⟨r,V,e⟩=>e▸b r V⟩
def wrap_i64 n(a:-9223372036854775808<=n)(U:n<=9223372036854775807):IntKind.i64.wrap n=n:=by rw[IntKind.wrap_i64];omega
def aae{x y}:Frz s (.d x) y↔y=jI x:=⟨λh=>by cases h;rfl,λh=>h▸.d x⟩
@[go_sem]def afI{x}:(∃r,oh s (.one (.d x)) r/\R r)=R (.one (.d (jI x))):=by
 apply propext;constructor;.rintro⟨r,⟨y,a,rfl⟩,b⟩;simp_all[aae]
 .intro h;exact⟨_,⟨_,.d x,rfl⟩,h⟩
@[go_sem]def aaf{R:List AV->Prop}:(∃rs,fv s [] rs/\R rs)=R []:=by simp[fv]
@[go_sem]def Zw{t}{A}{R:List AV->Prop}:(∃rs,fv s (t::A) rs/\R rs)=∃r,oh s t r/\∃rs,fv s A rs/\R (r::rs):=by grind[fv]
@[go_sem]def aag{t u}:GJ [t,u] R .ret s=∃rs,fv s [s.f t,s.f u] rs/\R (.tup rs):=B7 rfl rfl
@[go_sem]def Wp:(∀ b,jI (.bool b)=.bool b)/\(∀ k n,jI (.int k n)=.int k n)/\jI .nsl=.sl []:=by and_intros<;>intros<;>exact B7 rfl rfl
@[go_sem]def Zy s:jI (.str s)=.str s:=B7 rfl rfl
@[go_sem]def aah:=@GJ.eq_3
attribute [go_sem] AV.one.injEq AV.tup.injEq AV.agg.injEq C.d.injEq D.bool.injEq D.int.injEq D.str.injEq D.sl.injEq List.cons.injEq true_implies false_implies forall_const and_self
attribute [go_sem] Int.ofNat_lt Int.ofNat_le Int.natCast_nonneg dZ
def ah{k:Nat}(h:k<=4000000000000000000):IntKind.i64.wrap (k+1)=((k+1:Nat)):=by grind[IntKind.wrap_i64]
end
section
section
def pV:D->Bool|.sl _|.iptr _=>F|_=>T
def kO:C->Bool|.d x=>pV x|_=>F
def eZ:AV->Bool
 |.one c=>kO c|.agg cs=>cs.all kO|.tup A=>A.all λt=>match t with|.one c=>kO c|_=>F
 |.junk=>F|.exact _=>F
variable{s:St}{args:Array Operand}{tys:Array TypeId}{R:AV->Prop}{xs:List AV}{P:Program}{G:Nat->TI}{O:Bs}{β:Loc}{w:World}
def cX.of_scalar{J q}{w w'}{x}{v}(a:pV x=T)(h:cX J w x v):cX q w' x v:=by cases h<;>first|(exfalso;simp[pV]at a;done)|constructor
def RVc.of_scalar{J q}{w w'}{c}{v}(a:kO c=T)(h:RVc J w c v):RVc q w' c v:=by obtain⟨x,rfl,I⟩:=h;exact⟨x,rfl,I.of_scalar a⟩
def RVs.of_scalar{J q}{w w'}:∀{A}{vs},(A.all λt=>match t with|.one c=>kO c|_=>F)=T->RVs J w A vs->RVs q w' A vs|[],_,_,h=>by grind[RVs];|t::A,vs,a,h=>by simp only[D1,l6]at a;simp only[RVs]at h|-;obtain⟨u,W,rfl,U,Z⟩:=h;refine⟨u,W,rfl,?_,RVs.of_scalar a.2 Z⟩;cases t with|one c=>simp only[RV]at U|-;exact RVc.of_scalar a.1 U;|_=>simp at a
def RV.of_scalar{J q}{w w'}{x}{v}(a:eZ x=T)(h:RV J w x v):RV q w' x v:=by cases x with|one c=>simp only[RV]at h|-;exact RVc.of_scalar a h;|agg cs=>simp only[RV]at h|-;obtain⟨vs,U,Z,d⟩:=h;simp only[eZ,z7]at a;exact⟨vs,U,Z,λi c b=>let⟨u,hu,V⟩:=d i c b;⟨u,hu,V.of_scalar (a c (l8 b))⟩⟩;|tup A=>simp only[RV]at h|-;obtain⟨vs,U,Z⟩:=h;exact⟨vs,U,RVs.of_scalar a Z⟩;|junk=>simp[eZ]at a;|exact=>simp[eZ]at a
def JW{o}{f}(ho:o.op=.call ⟨.value (.func f),args,tys⟩)(I:fv s (args.toList.map s.ev) xs)(b:aR P f xs R)(hd:∀r,R r->eZ r=T):yx P o s (λs'=>∃r,R r/\s'=s.put o.dst r):=by
 intro O al β a w V c next Q g;unfold Oper.wp;rw[mh ho b.1 w];simp only[Oper.upon];have m:∀(l:List Operand)(xs:List AV),fv s (l.map s.ev) xs->RVs (Own O w) w xs (l.map a.eval):=by intro l;induction l with|nil=>intro xs h;simp only[x7,fv]at h;subst h;rfl;|cons x l i=>intro xs h;simp only[s7,fv]at h;obtain⟨r,j,rfl,U,Z⟩:=h;simp only[s7,RVs];exact⟨_,_,rfl,U.rep V (V.ev x),i j Z⟩
 have:=b.2 (Own O w) w (args.toList.map a.eval) (λ_ h=>h.1) (m _ _ I);rw[show (args.toList.map a.eval).toArray=args.map a.eval from H8 b9]at this;refine this.mono λe w'⟨v,r,k,d,n,p,E,q⟩=>?_;subst k;obtain⟨t,u⟩:=V.grow n p E;exact g _ β _ w' ⟨r,d,rfl⟩ (t.put c (RV.rep r (RV.of_scalar (hd r d) q))) (u.trans (Tr.same (St.put_gen _ _ _) (St.put_obj _ _ _) rfl))
def AG{o}{K}{k:Box K}{f}(ho:o.op=.call ⟨.value (.func f),args,tys⟩)(I:fv s (args.toList.map s.ev) xs)(a:aR P f xs R)(hd:∀r,R r->eZ r=T)(b:∀r,R r->K (s.put o.dst r)):bE (sp P) o s k:=⟨_,JW ho I a hd,λ_⟨r,V,e⟩=>e▸b r V⟩
def uA{H:Type}{id g off len}{cells}(hg:s.gen id=g)(ho:s.obj id=S cells) l(enc:H->D)(k:∀a,jI (enc a)=enc a)(bd:z l=len)(b:∀j a,l[j]?=S a->cells[off+j]?=S (.d (enc a)))(m:off+len<=z cells):Frz s (.osl id g 1 off len) (.sl (l.map λa=>[enc a])):=by
 have f:(l.map λa=>[enc a]).flatten=l.map enc:=by clear bd b;induction l with|nil=>rfl;|cons a l i=>simp[i]
 refine .osl hg ho a7 ZN (λe n=>by grind) (λj=>(cells[off+j]?).getD (.d .nsl)) (λj x I=>?_) (λj x I=>?_);.grind
 .rw[f,A4]at I;cases c:l[j]?with|none=>grind;|some a=>rw[c]at I;simp only[A5,w7]at I;grind[Frz.d]
end
def ai.trans{s d b:St}(h:ai s d)(c:ai d b):ai s b:=λO al β a w V=>by obtain⟨l,e,f⟩:=h O al β a w V;obtain⟨g,i,j⟩:=c O al l a w e;exact⟨g,i,f.trans j⟩
def St.grab(s:St)(t id sz:Nat):St:={f:=upd s.f t (.one (.osl id (s.gen id+1) sz 0 0)),gen:=upd s.gen id (s.gen id+1),obj:=upd s.obj id (S [])}
def sd{s:St}{t id sz:Nat}(k:s.f t=.one (.d .nsl)):ai s (s.grab t id sz):=by
 intro O al h a w V;let E:Loc:=λi=>if i=id then N else h i;have q:ik O h s.gen s.obj w E (s.grab t id sz).gen (s.grab t id sz).obj w:=by
  refine⟨λx I=>⟨⟨I.1,I.2.1,λi W b B=>?_⟩,rfl⟩,λi=>?_,λi n b=>?_⟩
  .simp only[St.grab,upd,E]at b B;split at B;.cases B
   .rename_i bz;simp only[bz,B1]at b;exact I.2.2 i W b B
  .simp only[St.grab,upd];grind
  .simp only[St.grab,upd,E]at n b|-;grind
 refine⟨E,⟨V.defers,V.size,λi=>?_,λi m l=>?_,λo G p r U Z c e u=>?_,V.base⟩,l7 _,λ_ _=>rfl,q,rfl,rfl⟩
 .by_cases j:i=t;.subst j;have g:=V.f i;rw[k]at g;simp only[ao,aQ]at g;rw[g.inv_nsl];simp only[St.grab,upd,B3,ao,aQ];refine⟨rfl,l7 _,λ_ _=>?_⟩;simp only[E,B3];exact⟨rfl,rfl⟩
  .have:=ao.keep q _ (V.f i);simpa only[St.grab,upd,j,B1]using this
 .simp only[St.grab,upd,E]at l|-;by_cases bz:i=id;.simp only[bz,B3,w7]at l|-;subst l;rfl
  .simp only[bz,B1]at l|-;exact(V.obj i m l).keep q (λ_ _=>rfl)
 .simp only[St.grab,upd,E]at U Z c e;split at c;.cases c
  .split at e;.cases e
   .rename_i v y;simp only[v,y,B1]at U Z;exact V.inj o G p r U Z c e u
section
inductive jO (P:Nat->Prop) (s:St):C->D->Prop where|d (x:D):jO P s (.d x) x|nil:jO P s (.d .nsl) (.sl [])|osl {id g sz off len:Nat}{cells:List C}{es:List (List D)} (hp:P id) (hg:s.gen id=g) (ho:s.obj id=some cells) (b1:off+len*sz<=cells.length) (bd:es.length=len) (az:∀e∈es,e.length=sz)(k:Nat->C) (hc:∀(j:Nat)(x:D),es.flatten[j]?=some x->cells[off+j]?=some (k j)) (hf:∀(j:Nat)(x:D),es.flatten[j]?=some x->jO P s (k j) x):jO P s (.osl id g sz off len) (.sl es)
variable{P:Nat->Prop}{s:St}{O:Bs}{β:Loc}{w:World}
def jO.rep{al}{a}{Y}(J:∀id,(Y id).isSome=T->(s.obj id).isSome=T/\¬P id)(V:Rel O al s β a w){c}{x}(h:jO P s c x):∀{v},aQ O β s.gen s.obj w c v->cX (Imm O β Y w) w x v:=by induction h with|d x=>intro v q;exact (q).mono λb B=>⟨⟨B.1,B.2.1,λid W ho H=>B.2.2 id W (J id ho).1 H⟩,rfl⟩;|nil=>intro v q;have q:cX (Imm O β s.obj w) w .nsl v:=q;rw[q.inv_nsl];exact .sl0;|osl E G ho b1 hlen az k hc hf ih=>rename_i id g sz off len t es;intro v q;have b4:=iV q G ZN;have bk:=V.obj id t ho;cases H:β id with|none=>exact V6;|some r=>
 rw[H]at b4 bk;obtain⟨K,b4⟩:=b4;obtain⟨hB,arr,el,lo,hi,A,ar,cu,bs⟩:=bk.cells K;rcases b4 with⟨Q,rfl,cm,_⟩|⟨X,o,rfl⟩
 .rw[<-hlen];have l:∀i e,es[i]?=S e->∀j x,e[j]?=S x->es.flatten[i*sz+j]?=S x:=λi e y j x I=>by
   have:∀(es:List (List D))(_:∀e∈es,z e=sz)i,es[i]?=S e->es.flatten[i*sz+j]?=S x:=by intro es;induction es with|nil=>simp;|cons e' es n=>intro hs i h;have hl:=hs e' b9;cases i with|zero=>grind;|succ i=>grind
   grind
  have av:∀m x,es.flatten[m]?=S x->∃u,w.cell? ⟨r.block,r.off+off+m,N⟩=S u/\cX (Imm O β Y w) w x u:=λm x I=>by exact X2
  have hJ:Imm O β Y w r.block:=⟨(F1.1 A).1,λh=>absurd hB a7,λc2 a2 b2 p y=>by obtain⟨U,Z⟩:=J c2 b2;exact Z (V.inj c2 id a2 r U ZN p H y▸E)⟩;refine .sl (λi j=>(w.cell? ⟨r.block,r.off+off+(i*sz+j),N⟩).getD undef) a7 (λ_=>hJ) az (λi e y j x I=>?_) (λi e y j x I=>?_);.grind
  grind
 .subst X;have:=v7 hlen;subst this;exact .sl0
def Gp{R n}(q:∀c v,R c v->n c v)(b:∀c x v,R c v->jO P s c x->n (.d x) v){kd}:∀{cells}{es}{m},fL R kd cells es->z m=z cells->(∀(j:Nat) c c',cells[j]?=S c->m[j]?=S c'->c'=c\/∃x,jO P s c x/\c'=.d x)->fL n kd m es:=by intro cells es m h;induction h generalizing m with|nil=>intro hl _;rw[v7 hl];exact .nil;|cons g U Z _ i=>rename_i k c e o es _;intro hl a;match m,hl with
 |E::c'::p,hl=>
 have f:E=.d k:=by
  rcases (a 0 _ _ rfl rfl) with rfl|⟨x,I,rfl⟩;.rfl
  .cases I with|d=>rfl;|nil=>grind[jV]
 subst f;refine .cons g U ?_ (i ZN (λj c1 c2 r t=>a (j+2) c1 c2 ZN ZN));rcases a 1 _ _ rfl rfl with rfl|⟨x,I,rfl⟩;.grind
 grind
def jO.repM{s a:St}{E}(q:ik O β s.gen s.obj w E a.gen a.obj w)(b:∀{c}{x}{v},aQ O β s.gen s.obj w c v->jO P s c x->cX (Imm O E a.obj w) w x v){kd}{c}{x}{v}(h:lu O β s.gen s.obj w kd c v)(I:jO P s c x):lu O E a.gen a.obj w kd (.d x) v:=by
 by_cases e:kd<200;.rw[BS e]at h|-;exact b h I
 .have f:=h.keep q;unfold lu at h;rw[l4 e]at h;obtain⟨ds,vs,rfl,_⟩:=h;cases I;exact f
def vE P{s e}(hg:e.gen=s.gen)(Y:∀i,e.f i=s.f i\/∃c x,s.f i=.one c/\e.f i=.one (.d x)/\jO P s c x)(ho:∀i m,e.obj i=S m->¬P i/\∃cells,s.obj i=S cells/\z m=z cells/\∀(j:Nat) c c',cells[j]?=S c->m[j]?=S c'->c'=c\/∃x,jO P s c x/\c'=.d x):ai s e:=by
 intro O al β a w V;have J:∀id,(e.obj id).isSome=T->(s.obj id).isSome=T/\¬P id:=λid h=>by cases hq:e.obj id with|none=>grind;|some m=>grind
 have q:ik O β s.gen s.obj w β e.gen e.obj w:=⟨λb t=>⟨⟨t.1,t.2.1,λid W U Z=>t.2.2 id W (J id U).1 Z⟩,rfl⟩,λ_=>by grind,λid _ h=>⟨(J id h).1,rfl,λW _ arr el fr U=>⟨arr,el,fr,U,l7 _⟩⟩⟩;refine⟨β,⟨V.defers,V.size,λi=>?_,λid m l=>?_,λB G a1 a2 U Z=>V.inj B G a1 a2 (J B U).1 (J G Z).1,V.base⟩,l7 _,λ_ _=>rfl,q,rfl,rfl⟩
 .rcases Y i with U|⟨c,x,U,Z,g⟩;.rw[U];exact ao.keep q _ (V.f i)
  .have:=V.f i;rw[U]at this;rw[Z];exact jO.rep J V g this
 .obtain⟨_,cells,Z,g,u⟩:=ho id m l;have bk:=V.obj id cells Z;cases H:β id with|none=>rw[H]at bk;subst bk;exact v7 g;|some ad=>rw[H]at bk;cases k:ad.spot with
 |some E=>
 obtain⟨K,⟨es,p,y,A⟩|⟨r,o,y,A⟩⟩:=bk.map k;.refine .ofMap k ⟨K,.inl ⟨es,p,y,?_⟩⟩;exact Gp (n:=lu O β e.gen e.obj w E) (λ_ _=>lu.keep q) (λ_ _ _ h I=>jO.repM q (λh I=>jO.rep J V I h) h I) A g u
 .refine .ofMap k ⟨K,.inr ⟨r,o,?_,A⟩⟩;subst y;match m,g with
  |[c'],_=>
  rcases u 0 _ _ rfl rfl with rfl|⟨x,I,rfl⟩;.rfl
  .cases I
 |none=>
 obtain⟨g2,arr,el,lo,hi,g3,g4,g5,g6⟩:=bk.cells k;refine .ofCells k ⟨g2,arr,el,lo,hi,g3,ZN,a7,λj c' L=>?_⟩;have Q:j<z cells:=by rw[<-g];exact(l9.1 L).1
 obtain⟨v,hv,X⟩:=g6 j cells[j] (x9 Q);refine⟨v,hv,?_⟩;rcases u j cells[j] c' (x9 Q) L with rfl|⟨x,I,rfl⟩;.exact aQ.keep q X
 .exact jO.rep J V I X
def St.drop1(s:St)(id o:Nat)(cs:List C):St:={s with obj:=λi=>if i=id then N else if i=o then S cs else s.obj i}
def LQ{id o}{cells cs}(ho:s.obj o=S cells)(hl:z cs=z cells)(h:∀(j:Nat) c c',cells[j]?=S c->cs[j]?=S c'->c'=c\/∃x,jO (·=id) s c x/\c'=.d x):ai s (s.drop1 id o cs):=by refine vE (·=id) rfl (λi=>.inl rfl) (λi m a=>?_);grind[St.drop1]
end
section
def iK(P:Program)(f:FuncId)(xs:List AV)(g:Nat->Nat)(ob:Obs)(R:AV->(Nat->Nat)->Obs->Prop):Prop:=Ce P f/\∀(O:Bs)(al:Nat)(β:Loc)(a:Act)(d:Nat->AV)(w:World)(vs:List Value),Rel O al ⟨d,g,ob⟩ β a w->bg O β g ob w xs vs->Calls P f vs.toArray w λe h=>∃v r c Y E,e=.returned v/\R r c Y/\ao O E c Y h r v/\(∀id b,Y id=S b->ew O E c Y h (c id) b (E id))/\(∀id L a W,(Y id).isSome=T->(Y L).isSome=T->E id=S a->E L=S W->a.block=W.block->id=L)/\Tr O β ⟨d,g,ob⟩ w E ⟨d,c,Y⟩ h
def iK.mono{P}{f}{xs}{g}{ob}{R n}(h:iK P f xs g ob R)(V:∀r g' Y,R r g' Y->n r g' Y):iK P f xs g ob n:=⟨h.1,λO al β a b w vs U Z=>(h.2 O al β a b w vs U Z).mono λ_ _⟨v,r,g',Y,E,c,d,e⟩=>⟨v,r,g',Y,E,c,V _ _ _ d,e⟩⟩
variable{s:St}{f:FuncId}{R:AV->(Nat->Nat)->Obs->Prop}{o:Oper}{args:Array Operand}{tys:Array TypeId}{g:Nat->Nat}{K:St->Prop}{bd:List PC}{P:Program}{G:Nat->TI}{O:Bs}{β:Loc}{w:World}
def sY(f:Nat->AV):List Nat->AV|[t]=>f t|A=>.tup (A.map f)
def Dr(k:List Nat)(R:AV->(Nat->Nat)->Obs->Prop):Exit->St->Prop|.normal,s|.ret,s=>∃a,ai s a/\R (sY a.f k) a.gen a.obj|_,_=>False
def bg.of_slots{al}{s}{a}(V:Rel O al s β a w):∀A:List Nat,bg O β s.gen s.obj w (A.map s.f) (A.map λt=>a.tmps.getD t undef)|[]=>by rfl;|t::A=>by simp only[s7,bg];exact⟨_,_,rfl,V.f t,bg.of_slots V A⟩
def JX{al}{a}(V:Rel O al s β a w):∀k:List Nat,ao O β s.gen s.obj w (sY s.f k) (vQ a.tmps k)|[]=>by simp only[sY,vQ,x7,ao,bg];simp;|[t]=>V.f t|t::b::A=>by simp only[sY,vQ,ao];exact⟨_,rfl,bg.of_slots V (t::b::A)⟩
def bg.len{g}{ob}:∀{A}{vs},bg O β g ob w A vs->z vs=z A|[],vs,h=>by simp only[bg]at h;grind;|t::A,vs,h=>by obtain⟨u,W,rfl,_,h⟩:=h;simp[bg.len h]
def JY B(hT:bK P G)(J:P.follows .mixedOrders=T){fn}{c}(u:P.funcs[f]?=S fn)(X:fn.body=S c)(hn:(fn.name== "runtime.NumGoroutine")=F)k(a1:fn.results=(k.map ResultVar.tmp).toArray)(an:codeOk fn.ntmps c=T){xs}(m:z xs<=fn.ntmps){ob:Obs}(h:wpC (spB P B) G c (bx (Dr k R)) ⟨dZ xs,g,ob⟩):iK P f xs g ob R:=by
 refine⟨⟨fn,u,by grind,hn⟩,λO al β a y w vs bz A=>?_⟩;refine calls_of_wp u X ?_;have hl:=A.len;have V:Rel O fn.ntmps ⟨dZ xs,g,ob⟩ β {tmps:=vs.toArray++Array.replicate (fn.ntmps-vs.toArray.size) undef,defers:=[]} w:=by refine⟨rfl,by grind,λi=>?_,bz.obj,bz.inj,bz.base⟩;simp only[dZ];cases I:xs[i]?with
 |some x=>
 obtain⟨v,U,Z⟩:=A.get I;have af:=(l9.1 U).1;have:(vs.toArray++Array.replicate (fn.ntmps-vs.toArray.size) undef).getD i undef=v:=by rw[y9,F2 a7];simp[U]
 grind;|none=>exact W8
 refine wp_mono (gQ hT J c an V h) (λe W n hp=>?_);obtain⟨s',E,p,t,ht⟩:=hp;have d:Dr k R .ret s'->∃v,(results fn W.tmps).run P n=.ok v n/\∃H r q Y E,Ending.returned v=.returned H/\R r q Y/\ao O E q Y n r H/\(∀id j,Y id=S j->ew O E q Y n (q id) j (E id))/\(∀id L a W,(Y id).isSome=T->(Y L).isSome=T->E id=S a->E L=S W->a.block=W.block->id=L)/\Tr O β ⟨y,g,ob⟩ w E ⟨y,q,Y⟩ n:=by rintro⟨s2,b0,hR⟩;obtain⟨bf,Q,bd⟩:=b0 O fn.ntmps E W n t;have b:=ht.trans bd;exact⟨_,ry k a1 W.tmps,_,_,_,_,bf,rfl,hR,JX Q k,Q.obj,Q.inj,⟨b.size,b.old,b.keep,b.os⟩⟩
 cases e with|normal=>exact⟨t.defers,d p⟩;|ret=>exact⟨t.defers,d p⟩;|exit id=>exact p.elim;|goto l=>exact p.elim;|panic ch=>exact p.elim;|outgrown=>exact p.elim
def kP{al}{s}{a}(V:Rel O al s β a w):∀l:List Operand,bg O β s.gen s.obj w (l.map s.ev) (l.map a.eval)|[]=>by rfl;|x::l=>by simp only[s7,bg];exact⟨_,_,rfl,V.ev x,kP V l⟩
def kC{al}{a}(V:Rel O al s β a w){dst}(c:∀d,dst=S d->d<al){r}{v}{g'}{Y}{E}{w'}{fa}(h:ao O E g' Y w' r v)(ho:∀id cells,Y id=S cells->ew O E g' Y w' (g' id) cells (E id))(j:∀id L a W,(Y id).isSome=T->(Y L).isSome=T->E id=S a->E L=S W->a.block=W.block->id=L)(b:Tr O β ⟨fa,s.gen,s.obj⟩ w E ⟨fa,g',Y⟩ w'):Rel O al (St.put ⟨s.f,g',Y⟩ dst r) E (a.put dst v) w'/\Tr O β s w E (St.put ⟨s.f,g',Y⟩ dst r) w':=by have e:ik O β s.gen s.obj w E g' Y w':=b.keep;have U:Rel O al ⟨s.f,g',Y⟩ E a w':=⟨V.defers,V.size,λi=>ao.keep e _ (V.f i),ho,j,C4 V.base b.size⟩;exact⟨U.put c h,⟨b.size,b.old,by rw[St.put_gen,St.put_obj];exact e,b.os⟩⟩
def LS(ho:o.op=.call ⟨.value (.func f),args,tys⟩)(b:iK P f (args.toList.map s.ev) s.gen s.obj R):yx P o s (λd=>∃r g' Y,R r g' Y/\d=St.put ⟨s.f,g',Y⟩ o.dst r):=by intro O al β a w V c next Q l;unfold Oper.wp;rw[mh ho b.1 w];simp only[Oper.upon];have:=b.2 O al β a s.f w (args.toList.map a.eval) V (kP V _);rw[show (args.toList.map a.eval).toArray=args.map a.eval from H8 b9]at this;refine this.mono λe m⟨v,r,g',Y,E,i,n,j,U,Z,k⟩=>?_;subst i;obtain⟨p,q⟩:=kC V c j U Z k;grind
def cY{k:Box K}{B}(ho:o.op=.call ⟨.value (.func f),args,tys⟩)(b:iK P f (args.toList.map s.ev) s.gen s.obj R)(c:∀r a Y,R r a Y->K (St.put ⟨s.f,a,Y⟩ o.dst r)):bE (spB P B) o s k:=⟨_,LS ho b,λ_⟨r,a,Y,V,e⟩=>e▸c r a Y V⟩
def mV:PC->AV|.d x=>.one (.d x)|.ptr id g off=>.one (.ptr id g off)
def mO.av{ob}{p}{v}(h:mO O β g ob w p v):ao O β g ob w (mV p) v:=by cases p<;>simpa only[mV,ao,aQ,mO]using h
def bg.append{g}{ob}:∀{xs Q}{vs W},bg O β g ob w xs vs->bg O β g ob w Q W->bg O β g ob w (xs++Q) (vs++W)|[],Q,vs,W,h,a=>by simp only[bg]at h;grind;|x::xs,Q,vs,W,h,a=>by obtain⟨u,k,rfl,U,Z⟩:=h;simp only[z6,bg];exact⟨_,_,rfl,U,bg.append Z a⟩
def qZ{g}{ob}:∀{bd}{vs},z vs=z bd->(∀(i:Nat) pc,bd[i]?=S pc->∃u,vs[i]?=S u/\mO O β g ob w pc u)->bg O β g ob w (bd.map mV) vs|[],vs,hl,_=>by simp_all[bg];|p::bd,vs,hl,h=>by match vs,hl with|u::us,hl=>simp only[s7,bg];obtain⟨a,L,V⟩:=h 0 p rfl;simp at L;subst L;exact⟨_,_,rfl,V.av,qZ ZN (λi pc b=>by simpa using h (i+1) pc ZN)⟩
def LU{t:Nat}(ho:o.op=.call ⟨.value (.tmp t),args,tys⟩)(hf:s.f t=.one (.clo f bd))(hp:iK P f (args.toList.map s.ev++bd.map mV) s.gen s.obj R)(az:f<1000000:=by decide):yx P o s (λs'=>∃r g' Y,R r g' Y/\s'=St.put ⟨s.f,g',Y⟩ o.dst r):=by
 intro O al β a w V c next Q hn;have hv:=V.f t;rw[hf]at hv;obtain⟨vs,b7,m,j⟩:=hv;rw[xL az]at b7;have b0:(execOp a.eval o).run P w=.ok (.enter f (args.map a.eval++vs)) w:=by exact im
 unfold Oper.wp;rw[b0];simp only[Oper.upon];have:=hp.2 O al β a s.f w (args.toList.map a.eval++vs.toList) V ((kP V _).append (qZ a7 (λi pc hi=>let⟨u,U,Z⟩:=j i pc hi;⟨u,by grind,Z⟩)));rw[show (args.toList.map a.eval++vs.toList).toArray=args.map a.eval++vs from H8 b9]at this;refine this.mono λe w'⟨v,r,g',Y,E,he,hR,hv,U,Z,h3⟩=>?_;subst he;obtain⟨k1,k2⟩:=kC V c hv U Z h3;grind
def LV{k:Box K}{B}{t:Nat}(ho:o.op=.call ⟨.value (.tmp t),args,tys⟩)(hf:s.f t=.one (.clo f bd))(hp:iK P f (args.toList.map s.ev++bd.map mV) s.gen s.obj R)(hk:∀r g' Y,R r g' Y->K (St.put ⟨s.f,g',Y⟩ o.dst r))(az:f<1000000:=by decide):bE (spB P B) o s k:=⟨_,LU ho hf hp az,λ_⟨r,g',Y,V,e⟩=>e▸hk r g' Y V⟩
end
def dOf:Value->D|.bool b=>.bool b|.int k n=>.int k n|.string s=>.str s.data.toList|.slice N 0 0=>.nsl|.pointer N=>.nilp|.nilFunc=>.nilf|.nilIface=>.nili|.map N=>.nilm|_=>.sl []
def Mv{v:Value}(h:nJ (dOf v)=T):dV (dOf v)=v:=by unfold dOf at h|-;split at h<;>first|(cases h;done)|rfl
def uM:Value->Bool|.agg _=>F|_=>T
def dVs:∀{l:List Value},(l.map dOf).all nJ=T->l=(l.map dOf).map dV|[],_=>rfl|v::l,h=>by simp only[s7,D1,l6]at h;rw[s7,s7,Mv h.1,<-dVs h.2]
def Wz(P:Program)(t:Nat):Option TI:=match P.underlying t,P.info? t with
 |some d,S i=>match i.zero with
  |some X=>let m:=X.cells.toList.map dOf
 bif m.all nJ&&z m==i.size&&(fC d||uM X)then S ⟨d,i.size,i.bytes,m⟩else N|none=>N
 |_,_=>N
variable{P:Program}
def Ru{t:Nat}{p:TI}(h:Wz P t=S p):uE P t p:=by
 unfold Wz at h;split at h;.next d i hd c=>
  split at h;.next X e=>
   simp only[cond_eq_ite]at h;split at h;.next a=>
    cases h;simp only[l6,G9,L2]at a;obtain⟨⟨U,Z⟩,b⟩:=a;refine Rg (X:=X) hd ZN (dVs U) U Z (b.imp id λho=>?_);have f:X.cells.toList=[X]:=by cases X<;>first|rfl|cases ho
    rw[f]at U|-;simp only[s7,x7,D1,U3,I3]at U;exact(Mv U).symm
   .cases h
  .cases h
 .cases h
def Kv{l:List (Nat×TI)}(h:(l.map λp=>Wz P p.1)=l.map λp=>S p.2):bK P (It l):=Ai λp a=>Ru (by have:=List.map_inj_left.1 h p a;exact this)
end
section
open Go.ChangeShapes
variable{H:Type}{enc:TypeId×Value->H}{P:Program}{w:World}
def jN(w:World)(cs:List Value)(ds:List D):Prop:=z ds=z cs/\∀(j:Nat)(x:D),ds[j]?=S x->∃v,cs[j]?=S v/\cX (λb=>b<w.heap.size) w x v
def jN.one{v:Value}{x:D}(h:cX (λb=>b<w.heap.size) w x v):jN w [v] [x]:=⟨rfl,λj y a=>by grind⟩
def mapM_some{H β:Type}{f:H->Option β}:∀{l:List H}{r:List β},l.mapM f=S r->z r=z l/\∀(i:Nat)(a:H),l[i]?=S a->∃b,r[i]?=S b/\f a=S b|[],r,h=>by grind;|a::l,r,h=>by rw[List.mapM_cons]at h;cases c:f a with|none=>grind;|some b=>cases hl:l.mapM f with|none=>grind;|some q=>simp[c,hl]at h;subst h;obtain⟨U,Z⟩:=mapM_some hl;grind
def Gn{base n:Nat}{a:Addr}{cs:List Value}(h:w.cells? base a n=S cs):z cs=n/\∀(j:Nat)(v:Value),cs[j]?=S v->w.cell? (a.add j)=S v:=by
 unfold World.cells? at h;split at h
 .obtain⟨U,Z⟩:=mapM_some h;refine⟨by grind,λj v c=>?_⟩;have d:j<n:=by have:=(l9.1 c).1;rw[U]at this;simpa using this
  obtain⟨b,e,f⟩:=Z j j (by simp[d]);grind
 .cases h
def qY{H:Type}{p:Nat->H->Prop}:∀(n:Nat),(∀i,i<n->∃x,p i x)->∃l:List H,z l=n/\∀(i:Nat)(x:H),l[i]?=S x->p i x|0,_=>⟨[],rfl,λi x h=>by simp at h⟩|n+1,h=>by obtain⟨l,U,Z⟩:=qY n (λi a=>h i a7);obtain⟨x,I⟩:=h n a7;refine⟨l++[x],by simp[U],λi y b=>?_⟩;grind
def nG{P:Program}{e:TypeId}{p:Nat->Bool}:∀{l:List (DataW H)},(DataW.weightsAll P e l).all p=T->∀d∈l,(d.weights P e).all p=T
 |[],_,_,hd=>by cases hd;|d::l,h,a,hd=>by
  simp only[DataW.weightsAll,F7,l6]at h;rcases A0.1 hd with rfl|hd;.exact h.1
  .exact nG h.2 a hd
def JV{w w':World}(h:∀b,b<w.heap.size->w'.heap[b]?=w.heap[b]?){p:MemPlace}(a:p.block<w.heap.size):w.sameAt w' p:=by cases p with|cell b o=>exact World.cell?_of_block (w:=w) (h b a);|map b=>exact h b a
def Rh{w w':World}(h:∀b,b<w.heap.size->w'.heap[b]?=w.heap[b]?)(E:w'.os=w.os/\w'.output=w.output)(a:MemPlace->Prop):w.keptBut w' a:=by refine⟨E.1,E.2,λi c=>?_⟩;grind
def Dq(P:Program)(f:FuncId)(args:Array Value)(w:World):Prop:=Calls P f args w λe a=>e=.returned (.bool T)/\w.heap.size<=a.heap.size/\(∀b,b<w.heap.size->a.heap[b]?=w.heap[b]?)/\a.os=w.os/\a.output=w.output
def sX(hl:laidOutB P=T){W r:World}(hW:∀b,b<W.heap.size->r.heap[b]?=W.heap[b]?):∀(A:List TypeId)(vs:List Value)(ds:List (DataW H))(ps:List MemPlace),A.all (λt=>P.readableRec t&&decide (t<P.types.size))=T->(∀p∈ps,p.block<W.heap.size)->DataW.TrodAll enc P W 0 (λ_=>T) T A vs ds ps->DataW.TrodAll enc P r 0 (λb=>decide (b<W.heap.size)) T A vs ds ps|[],[],[],ps,_,_,h=>h|t::A,v::vs,d::ds,ps,G,a,h=>by obtain⟨p,q,U,Z,rfl⟩:=h;simp only[D1,l6,v8]at G;exact⟨p,q,WideElems.Trod_stays hl G.1.1 G.1.2 U (λx I=>JV hW (a x aby)) (λx I=>by grind),sX hl hW A vs ds q G.2 (λx I=>a x aby) Z,rfl⟩;|[],[],_::_,_,_,_,h=>h.elim|[],_::_,_,_,_,_,h=>h.elim|_::_,[],_,_,_,_,h=>h.elim|_::_,_::_,[],_,_,_,h=>h.elim
def xe{w:World}{sp:Nat->Bool}:∀(A:List TypeId)(vs:List Value)(ds:List (DataW H))(ps:List MemPlace),DataW.TrodAll enc P w 0 sp T A vs ds ps->z ds=z A|[],[],[],_,_=>rfl|_::A,_::vs,_::ds,_,h=>by obtain⟨p,q,_,Z,_⟩:=h;simp[xe A vs ds q Z];|[],[],_::_,_,h=>h.elim|[],_::_,_,_,h=>h.elim|_::_,[],_,_,h=>h.elim|_::_,_::_,[],_,h=>h.elim
end
section
section
def pk(P:Program):Nat->List Field->Option Nat|off,[]=>S off|off,f::l=>if f.offset=off then pk P (off+P.cellsOf f.type) l else N
def xM(P:Program)(A:List TypeId):Bool:=A.all λt=>match P.underlying t with|some .bool|some (.int _)|some .string=>P.cellsOf t==1|some (.slice e)=>P.cellsOf t==1&&A.contains e&&decide (0<P.cellsOf e)|some (.struct fs)=>(pk P 0 fs.toList==S (P.cellsOf t))&&fs.toList.all (λf=>A.contains f.type)|some (.array n e)=>(P.cellsOf t==n*P.cellsOf e)&&A.contains e|_=>F
inductive iT (P:Program):TypeId->List D->Prop where|bool {t:TypeId} (L:P.underlying t=some .bool) (b:Bool):iT P t [.bool b]|int {t:TypeId}{k:IntKind} (L:P.underlying t=some (.int k)) (m:Int) (hw:(Lit.int k m).wf=true):iT P t [.int k m]|str {t:TypeId} (L:P.underlying t=some .string) (s:List UInt8) (hl:s.length<=reachBytes):iT P t [.str s]|sl {t e:TypeId} (L:P.underlying t=some (.slice e)) (es:List (List D)) (hl:es.length*P.bytesOf e<=reachBytes) (h:∀x∈es,iT P e x):iT P t [.sl es]|struct {t:TypeId}{fs:Array Field} (L:P.underlying t=some (.struct fs)) (o:List (List D)) (hl:o.length=fs.toList.length)(h:∀(i:Nat)(f:Field)(x:List D),fs.toList[i]?=some f->o[i]?=some x->iT P f.type x):iT P t o.flatten|array {t n e:TypeId} (L:P.underlying t=some (.array n e)) (o:List (List D)) (hl:o.length=n) (hs:∀x∈o,x.length=P.cellsOf e) (h:∀x∈o,iT P e x):iT P t o.flatten
mutual
def yo:D->Nat
 |.sl es=>kQ es+1
 |.str bs=>z bs+1
 |_=>1
def gK:List D->Nat
 |[]=>0
 |d::r=>yo d+gK r
def kQ:List (List D)->Nat
 |[]=>0
 |e::r=>gK e+kQ r
end
mutual
def jH{H:Type}:DataW H->Nat
 |.lit (.string bytes)=>z bytes+1
 |.lit _=>1
 |.nil=>1
 |.ptr d=>jH d+1
 |.slice elems spare=>pX elems+pX spare+1
 |.agg parts=>pX parts+1
 |.iface _ d=>jH d+1
 |.map entries=>LZ entries+1
 |.held _=>1
def pX{H:Type}:List (DataW H)->Nat
 |[]=>0
 |d::r=>jH d+pX r
def LZ{H:Type}:List (Lit×DataW H)->Nat
 |[]=>0
 |x::r=>Ws x+LZ r
def Ws{H:Type}:Lit×DataW H->Nat
 |(.string bytes,d)=>z bytes+jH d+1
 |(_,d)=>jH d+1
end
def Gr a b:gK (a++b)=gK a+gK b:=by induction a with|nil=>simp[gK];|cons x a c=>simp[gK,c];omega
def rh l:gK l.flatten=kQ l:=by induction l with|nil=>rfl;|cons x l a=>simp[Gr,a,kQ]
def pY{H}:∀{es}{l},z es<=z l->(∀(i:Nat) x(d:DataW H),es[i]?=S x->l[i]?=S d->gK x<=jH d)->kQ es<=pX l|[],l,_,_=>by simp[kQ];|x::es,[],h,_=>by simp at h;|x::es,d::l,h,a=>by have b:=a 0 x d rfl rfl;have:=pY (es:=es) (l:=l) ZN (λi y e U Z=>a (i+1) y e ZN ZN);grind[kQ,pX]
variable{B:Bool}{base q:Nat}{sp:Nat->Bool}{A:List TypeId}{ps:List MemPlace}{H:Type}{enc:TypeId×Value->H}{P:Program}{w:World}
def add_add(a:Addr) m j:(a.add m).add j=a.add (m+j):=by unfold Addr.add;grind
def qG{p}:∀{A}{l},(DataW.weightsEach P A l).all p=T->∀(i:Nat) t(d:DataW H),A[i]?=S t->l[i]?=S d->(d.weights P t).all p=T|[],_,_,i,t,d,U,_=>by simp at U;|_::_,[],_,i,t,d,_,Z=>by simp at Z;|t::A,d::l,h,i,a,b,U,Z=>by simp only[DataW.weightsEach,F7,l6]at h;cases i with|zero=>grind;|succ i=>exact qG h.2 i a b ZN ZN
def jN.app{c1 c2}{d1 d2}(U:jN w c1 d1)(Z:jN w c2 d2):jN w (c1++c2) (d1++d2):=by
 refine⟨by simp[U.1,Z.1],λj x I=>?_⟩;rw[L5]at I;split at I;.rename_i b;obtain⟨v,a,V⟩:=U.2 j x I;grind
 .rename_i b;obtain⟨v,a,V⟩:=Z.2 _ x I;refine⟨v,?_,V⟩;rw[H6 (by rw[<-U.1];omega),<-U.1];exact a
def uB{cs}:∀fl{off a}(Q:Nat->List D->Prop),pk P off fl=S a->a<=z cs->(∀i f,fl[i]?=S f->∃ds,jN w ((cs.drop f.offset).take (P.cellsOf f.type)) ds/\iT P f.type ds/\z ds=P.cellsOf f.type/\Q i ds)->∃o,z o=z fl/\(∀(i:Nat) f x,fl[i]?=S f->o[i]?=S x->iT P f.type x)/\off<=a/\jN w ((cs.drop off).take (a-off)) o.flatten/\∀i x,o[i]?=S x->Q i x
 |[],off,a,Q,h,_,_=>by simp[pk]at h;subst h;refine⟨[],rfl,λi f x h=>by simp at h,l7 _,?_,λi x h=>by simp at h⟩;rw[K8,G8];exact⟨rfl,λj x h=>by simp at h⟩;|f::fl,off,a,Q,h,c,b=>by
  simp only[pk]at h;split at h
  .rename_i ho;obtain⟨ds,d1,d2,d3,d4⟩:=b 0 f rfl;obtain⟨o,d,k,l,e,m⟩:=uB fl (λi=>Q (i+1)) h c (λi g hg=>b (i+1) g ZN);refine⟨ds::o,by simp[d],λi g x hg I=>?_,a7,?_,λi x I=>?_⟩;rotate_left 2;.grind
   .grind
   .rw[J8];have:(cs.drop off).take (a-off)=(cs.drop f.offset).take (P.cellsOf f.type)++(cs.drop (off+P.cellsOf f.type)).take (a-(off+P.cellsOf f.type)):=by rw[ho,show a-off=P.cellsOf f.type+(a-(off+P.cellsOf f.type)) by omega,List.take_add,R9]
    rw[this];exact d1.app e
  .cases h
def uC{sz}:∀n{cs}{o},z o=n->z cs=n*sz->(∀i x,o[i]?=S x->jN w ((cs.drop (i*sz)).take sz) x)->jN w cs o.flatten|0,cs,o,hl,a,_=>by obtain rfl:=v7 hl;obtain rfl:=v7 (by simpa using a);exact⟨rfl,λj x h=>by simp at h⟩;|n+1,cs,o,hl,a,h=>by match o,hl with|p::ps,hl=>rw[<-G3 sz cs,J8];refine jN.app (by simpa using h 0 p rfl) (uC (sz:=sz) n ZN ZN λi x I=>?_);have:=h (i+1) x ZN;rw[R9,show sz+i*sz=(i+1)*sz by grind];exact this
def pn{B}{base}{sp}{A}(hp:xM P A=T):∀q{t}{cs}{d}{ps},t∈A->DataW.trod enc P w base sp B q t cs=S (d,ps)->(d.weights P t).all (·<=reachBytes)=T->∃ds,jN w cs ds/\iT P t ds/\z ds=P.cellsOf t/\gK ds<=jH d
 |0,_,_,_,_,_,h,_=>by simp[DataW.trod]at h;|q+1,t,cs,d,ps,ht,h,hz=>by
  have E:=z7.1 hp t ht;unfold DataW.trod at h;split at E
  .rename_i L;rw[L]at h;simp at E;rcases cs with _|⟨v,_|⟨v',r⟩⟩;.simp at h
   .cases v<;>simp at h;obtain⟨rfl,_⟩:=h;exact⟨_,.one (.bool _),.bool L _,E.symm,by simp[gK,yo,jH]⟩
   grind
  .rename_i k L;rw[L]at h;simp at E;rcases cs with _|⟨v,_|⟨v',r⟩⟩;.simp at h
   .cases v<;>simp at h;obtain⟨⟨rfl,O⟩,rfl,_⟩:=h;exact⟨_,.one (.int _ _),.int L _ O,E.symm,by simp[gK,yo,jH]⟩
   grind
  .rename_i L;rw[L]at h;simp at E;rcases cs with _|⟨v,_|⟨v',r⟩⟩;.simp at h
   .cases v<;>simp at h;rename_i s;obtain⟨hs,rfl,_⟩:=h;refine⟨[.str s.data.toList],.one ?_,.str L _ (by grind[DataW.weights]),E.symm,by simp[gK,yo,jH]⟩;have:(Value.string s)=.string ⟨s.data.toList.toArray⟩:=b9;rw[this];exact .str _
   grind
  .rename_i e L;rw[L]at h;simp at E;obtain⟨⟨b3,cc⟩,az⟩:=E;rcases cs with _|⟨v,_|⟨v',r⟩⟩;.simp at h
   .cases v with
   |slice a len cap=>cases a with|none=>
   have:len=0/\cap=0:=by cases len<;>cases cap<;>simp at h|-
   obtain⟨rfl,rfl⟩:=this;have hd:1<=jH d:=by cases d with|lit l=>grind|_=>simp[jH]
   exact⟨[.sl []],.one .sl0,.sl L [] b9 abc,b3.symm,by grind[gK,yo,kQ]⟩;|some a=>
   simp only at h;split at h;.rename_i hc;cases he:(List.range len).mapM (λi=>(w.cells? base (a.add (i*P.cellsOf e)) (P.cellsOf e)).bind (DataW.trod enc P w base sp B q e))with|none=>grind;|some G=>
    obtain⟨U,Z⟩:=mapM_some he;rw[he]at h;simp only[I9,F0,M8]at h;obtain⟨rest,_,rfl,_⟩:=h;simp only[DataW.weights,L,D1,F7,l6,v8,j6]at hz;have K:∀i,i<len->∃cs ds,w.cells? base (a.add (i*P.cellsOf e)) (P.cellsOf e)=S cs/\jN w cs ds/\iT P e ds/\z ds=P.cellsOf e/\∃b,G[i]?=S b/\gK ds<=jH b.1:=by intro i hi;obtain⟨b,X,hb⟩:=Z i i (by simp[hi]);cases b2:w.cells? base (a.add (i*P.cellsOf e)) (P.cellsOf e)with|none=>grind;|some cd=>rw[b2]at hb;obtain⟨ds,g1,g2,g3,g4⟩:=pn hp q cc hb ((nG hz.2.1) b.1 (E6.2 ⟨b,l8 X,rfl⟩));grind
    generalize P.cellsOf e=sz at*;obtain⟨es,hl,c⟩:=qY (p:=λi ds=>∃cs,w.cells? base (a.add (i*sz)) sz=S cs/\jN w cs ds/\iT P e ds/\z ds=sz/\∃b,G[i]?=S b/\gK ds<=jH b.1) len (λi hi=>let⟨cs,ds,g⟩:=K i hi;⟨ds,cs,g⟩);have Q:kQ es<=pX (G.map (·.1)):=pY ZN (λi x d I hd=>by grind);refine⟨[.sl es],.one ?_,.sl L es ZN (λx I=>?_),b3.symm,by grind[gK,yo,jH]⟩
    .by_cases ch:len=0;.subst ch;have:=v7 hl;subst this;exact .sl0
     .have u:∀i(x:List D),es[i]?=S x->∀j(y:D),x[j]?=S y->∃v,w.cell? (a.add (i*sz+j))=S v/\cX (λb=>b<w.heap.size) w y v:=λi x I j y hy=>by obtain⟨cd,g1,g2,g3,g4,_⟩:=c i x I;obtain⟨v,b7,m⟩:=g2.2 j y hy;have:=(Gn g1).2 j v b7;refine⟨v,?_,m⟩;rw[<-this,add_add]
      obtain⟨x0,bf⟩:∃x,es[0]?=S x:=⟨_,x9 a7⟩;obtain⟨al,q1,q2,q3,q4,_⟩:=c 0 x0 bf;obtain⟨y0,ad⟩:∃y,x0[0]?=S y:=⟨_,x9 a7⟩;obtain⟨v0,bl,_⟩:=u 0 x0 bf 0 y0 ad;obtain⟨b,off,J⟩:=a;have bn:J=N:=by
       have:(⟨b,off,J⟩:Addr).add (0*sz+0)=⟨b,off,J⟩:=by simp[Addr.add]
       rw[this]at bl;cases J with|none=>rfl;|some k=>grind[World.cell?]
      subst bn;rw[<-hl];refine .sl (sz:=sz) (λi j=>(w.cell? ⟨b,off+(i*sz+j),N⟩).getD undef) a7 (λ_=>by have:=World.block_lt_of_cell? w _ bl;grind[Addr.add]) (λx I=>?_) (λi x I j y hy=>?_) (λi x I j y hy=>?_);.obtain⟨i,hi⟩:=C9 I;grind
      .obtain⟨v,hv,_⟩:=u i x I j y hy;rw[fb]at hv;grind
      .obtain⟨v,hv,V⟩:=u i x I j y hy;rw[fb]at hv;grind
    .obtain⟨i,hi⟩:=C9 I;grind
   .cases h;|_=>simp at h
   grind
  .rename_i fs L;simp only[l6,L2]at E;obtain⟨b4,bs⟩:=E;rw[L]at h;simp only at h;split at h;.rename_i bd;cases hm:fs.toList.mapM (λf=>DataW.trod enc P w base sp B q f.type ((cs.drop f.offset).take (P.cellsOf f.type)))with|none=>grind;|some xs=>
    rw[hm]at h;simp at h;obtain⟨rfl,_⟩:=h;obtain⟨U,Z⟩:=mapM_some hm;simp only[DataW.weights,L]at hz;obtain⟨o,p1,p2,_,p4,p5⟩:=uB (w:=w) (cs:=cs) fs.toList (λi ds=>∃b,xs[i]?=S b/\gK ds<=jH b.1) b4 a7 (λi f hf=>by
    obtain⟨b,hb,W⟩:=Z i f hf;have af:f.type∈A:=by have:=z7.1 bs f (l8 hf);simpa using this
    obtain⟨ds,g1,g2,g3,g4⟩:=pn hp q af W (qG hz i f.type b.1 ZN ZN);grind);have Q:kQ o<=pX (xs.map (·.1)):=pY ZN (λi x d I hd=>by grind);have b2:(cs.drop 0).take (P.cellsOf t-0)=cs:=by rw[D6,Nat.sub_zero,<-bd,E8]
    rw[b2]at p4;exact⟨o.flatten,p4,.struct L o p1 p2,by rw[p4.1,bd],by rw[rh];grind[jH]⟩
   .cases h
  .rename_i n e L;simp at E;obtain⟨az,cc⟩:=E;rw[L]at h;simp only at h;split at h;.rename_i bd;cases hm:(List.range n).mapM (λi=>DataW.trod enc P w base sp B q e ((cs.drop (i*P.cellsOf e)).take (P.cellsOf e)))with|none=>grind;|some xs=>
    rw[hm]at h;simp at h;obtain⟨rfl,_⟩:=h;obtain⟨U,Z⟩:=mapM_some hm;simp only[DataW.weights,L]at hz;have K:∀i,i<n->∃ds,jN w ((cs.drop (i*P.cellsOf e)).take (P.cellsOf e)) ds/\iT P e ds/\z ds=P.cellsOf e/\∃b,xs[i]?=S b/\gK ds<=jH b.1:=by intro i hi;obtain⟨b,hb,W⟩:=Z i i (by simp[hi]);obtain⟨ds,g1,g2,g3,g4⟩:=pn hp q cc W ((nG hz) b.1 (E6.2 ⟨b,l8 hb,rfl⟩));exact⟨ds,g1,g2,g3,b,hb,g4⟩
    obtain⟨o,hl,c⟩:=qY n K;have Q:kQ o<=pX (xs.map (·.1)):=pY ZN (λi x d I hd=>by grind);have cb:=uC n hl a7 (λi x I=>(c i x I).1);refine⟨o.flatten,cb,.array L o hl (λx I=>?_) (λx I=>?_),by rw[cb.1,bd],by rw[rh];grind[jH]⟩;.obtain⟨i,hi⟩:=C9 I;grind
    .obtain⟨i,hi⟩:=C9 I;grind
   .cases h
  grind
def Rm(a:xM P A=T){t}(c:t∈A)(e:P.cellsOf t=1){v}{d}(U:v.oneCell'=T)(h:DataW.trod enc P w base sp B q t v.cells.toList=S (d,ps))(f:(d.weights P t).all (·<=reachBytes)=T):∃x,cX (λb=>b<w.heap.size) w x v/\iT P t [x]/\yo x<=jH d:=by obtain⟨ds,g,i,hl,K⟩:=pn a q c h f;rw[e]at hl;match ds,hl with
 |[x],_=>
 obtain⟨u,L,V⟩:=g.2 0 x rfl;have:v.cells.toList=[v]:=by cases v<;>first|rfl|(simp[Value.oneCell']at U)
 grind[gK]
def Ro(f:xM P A=T){t}(g:t∈A){vs}{d}(h:DataW.trod enc P w base sp B q t (Value.agg vs).cells.toList=S (d,ps))(j:(d.weights P t).all (·<=reachBytes)=T):∃ds,RV (λb=>b<w.heap.size) w (.agg (ds.map .d)) (.agg vs)/\iT P t ds/\gK ds<=jH d:=by obtain⟨ds,e,k,hl,K⟩:=pn f q g h j;refine⟨ds,?_,k,K⟩;simp only[RV];refine⟨vs,rfl,by have:=e.1;grind[Value.cells],λi c a=>?_⟩;rw[A4]at a;cases I:ds[i]?with|none=>grind;|some x=>rw[I]at a;cases a;obtain⟨u,L,V⟩:=e.2 i x I;exact⟨u,by grind[Value.cells],⟨x,rfl,V⟩⟩
end
variable{P:Program}{t:TypeId}{ds:List D}
def iT.inv_bool(h:iT P t ds)(L:P.underlying t=S .bool):∃b,ds=[.bool b]:=by cases h with|bool _ b=>simp;|int a=>grind;|str a=>grind;|sl a=>grind;|struct a=>grind;|array a=>grind
def iT.inv_int{k:IntKind}(h:iT P t ds)(L:P.underlying t=S (.int k)):∃m,ds=[.int k m]/\(Lit.int k m).wf=T:=by cases h with|int a m hw=>grind;|bool a=>grind;|str a=>grind;|sl a=>grind;|struct a=>grind;|array a=>grind
def iT.inv_str(h:iT P t ds)(L:P.underlying t=S .string):∃s,ds=[.str s]/\z s<=reachBytes:=by cases h with|str _ s hl=>grind;|bool a=>grind;|int a=>grind;|sl a=>grind;|struct a=>grind;|array a=>grind
def iT.inv_sl{e:TypeId}(h:iT P t ds)(L:P.underlying t=S (.slice e)):∃es,ds=[.sl es]/\z es*P.bytesOf e<=reachBytes/\∀x∈es,iT P e x:=by cases h with|sl a es hl b=>grind;|bool a=>grind;|int a=>grind;|str a=>grind;|struct a=>grind;|array a=>grind
def iT.inv_struct{fs:Array Field}(h:iT P t ds)(L:P.underlying t=S (.struct fs)):∃o:List (List D),ds=o.flatten/\z o=z fs.toList/\∀(i:Nat)(f:Field)(x:List D),fs.toList[i]?=S f->o[i]?=S x->iT P f.type x:=by cases h with|struct a o hl b=>grind;|bool a=>grind;|int a=>grind;|str a=>grind;|sl a=>grind;|array a=>grind
def sq{H β:Type}{f:β->H}{Q:β->Prop}:∀{l:List H},(∀x∈l,∃y,x=f y/\Q y)->∃m:List β,l=m.map f/\∀y∈m,Q y|[],_=>⟨[],rfl,λ_ h=>by cases h⟩|x::l,h=>by obtain⟨y,rfl,a⟩:=h x b9;obtain⟨m,rfl,b⟩:=sq (l:=l) λx I=>h x aby;exact⟨y::m,rfl,λX c=>by grind⟩
end
section
open Go.ChangeAt Go.ChangeShapes Go.WideShapes Go.RowKit
variable{H:Type}{enc:TypeId×Value->H}
end
attribute[local congr]ite_cc
section
def fen(rd:Option Nat):Fence:={Fence.wide with round:=rd}
variable{o:Oper}{a:Act}{n:Nat}{ds:List Deferred}{s:St}{rd:Option Nat}{args:Array Value}{Q:Exit->Act->World->Prop}{K:St->Prop}{R:Ending->World->Prop}{next:Act->World->Prop}{p:Nat->Prop}{k:Box K}
section
variable{P:Program}{G:Nat->TI}{w:World}
def Kb{f}{w}(h:Calls P f args w R):CallsIn (fen rd) n P f args w R:=(callsIn_wide (n:=n)).2 h
def kR{f}{w}(h:CallsIn (fen N) n P f args w R):Calls P f args w R:=(callsIn_wide (n:=n)).1 h
def Ma{a}{w}{R}(h:Rows P a args w R):RowsIn (fen rd) n P a args w R:=λc b _=>let⟨v,d,r,s⟩:=h c b;⟨v,d,r,stepsIn_wide.2 s⟩
def Rp:({a with defers:=ds}).eval=a.eval:=rfl
def tC{dst:Option Nat}{v}:({a with defers:=ds}).put dst v = {a.put dst v with defers:=ds}:=by cases dst<;>rfl
def bu(o:Oper):Bool:=match o.op with|.defer _=>F|_=>T
def Gt(h:bu o=T):∀c,o.op≠.defer c:=by intro c b;grind[bu]
def jP(ad:bu o=T){w}(h:o.wp P a w (λW w'=>W.defers=[]/\next {W with defers:=ds} w') (λe W w'=>Q e {W with defers:=ds} w')):o.wpIn (fen rd) 0 P {a with defers:=ds} w next Q:=by unfold Oper.wp at h;refine⟨λ_ _=>trivial,?_⟩;rw[Oper.semAt_eq _ _ _ (Gt ad),Rp];generalize (execOp a.eval o).run P w=r at*;have J:LetsOut (λe W w'=>Q e {W with defers:=ds} w')->LetsOut Q:=λ⟨a,w,h⟩=>⟨_,w,h⟩;cases r with
 |ok x w'=>cases x with
  |value v=>simp_all[Oper.upon,Oper.uponIn,tC];|skip=>simp_all[Oper.upon,Oper.uponIn,tC];|enter f args=>simp only[Oper.upon,Oper.uponIn]at h|-;refine⟨λh=>(by cases h),Kb (h.mono λe i b=>?_)⟩;cases e with|returned v=>simp_all[tC];|panicked c=>exact b;|outgrown=>grind
  |row row args=>simp only[Oper.upon,Oper.uponIn]at h|-;refine⟨λh=>(by cases h),Ma (h.mono λv i b=>?_)⟩;simp_all[tC];|defer d=>have:=h.1;cases hd:o.dst<;>rw[hd]at this<;>simp[Act.put]at this;|_=>grind[Oper.upon]
 |halt x w'=>cases x<;>simp only[Oper.upon,Oper.uponIn]at h|-;exact h
end
abbrev il:=List PanicEntry->St->Prop
def sZ:il:=λ_ _=>False
def Mb(P:Program)(rd:Option Nat)(O:Bs)(q:St->Loc->List Deferred->World->Prop)(u:il)(o:Oper)(s:St)(R:St->Prop):Prop:=∀(al:Nat)(β:Loc)(a:Act)(ds:List Deferred)(w:World),Rel O al s β a w->q s β ds w->(∀d,o.dst=S d->d<al)->∀(next:Act->World->Prop)(Q:Exit->Act->World->Prop),(∀b E W c,R b->Rel O al b E W c->q b E ds c->next {W with defers:=ds} c)->(∀e b E W c,u e b->Rel O al b E W c->q b E ds c->Q (.panic e) {W with defers:=ds} c)->o.wpIn (fen rd) 0 P {a with defers:=ds} w next Q
def Is(O:Bs)(al:Nat)(q:St->Loc->List Deferred->World->Prop)(u:il)(Q:Exit->St->Prop)(e:Exit)(W:Act)(w':World):Prop:=∃b E c d,W={c with defers:=d}/\(Q e b\/∃f,e=.panic f/\u f b)/\Rel O al b E c w'/\q b E d w'
def Is.plain{O}{al}{q}{Q}{e}{W}{w'}(h:Is O al q sZ Q e W w'):∃b E a0 ad,W={a0 with defers:=ad}/\Q e b/\Rel O al b E a0 w'/\q b E ad w':=by obtain⟨b,E,a0,ad,U,Z,c⟩:=h;exact⟨b,E,a0,ad,U,Z.resolve_right (λ⟨_,_,h⟩=>h),c⟩
def Mc(P:Program)(rd:Option Nat)(O:Bs)(q:St->Loc->List Deferred->World->Prop)(u:il)(c:Code)(s:St)(R:Exit->St->Prop):Prop:=∀(al:Nat)(β:Loc)(a:Act)(ds:List Deferred)(w:World),codeOk al c=T->Rel O al s β a w->q s β ds w->c.wpIn (fen rd) 0 P (Is O al q u R) {a with defers:=ds} w
def spF(P:Program)(rd:Option Nat)(O:Bs)(q:St->Loc->List Deferred->World->Prop)(B:Nat)(u:il):Sp:=⟨Mb P rd O q u,Mc P rd O q u,ai,B⟩
@[go_sem]def aao P rd O q B u:(spF P rd O q B u).base=B:=B7 rfl rfl
def bA(O:Bs)(q:St->Loc->List Deferred->World->Prop):Prop:=∀s β ds w b E w',q s β ds w->Tr O β s w E b w'->q b E ds w'
variable{P:Program}{G:Nat->TI}{O:Bs}{w:World}{rd:Option Nat}{q:St->Loc->List Deferred->World->Prop}{u:il}{B:Nat}
def yx.toF(a6:bA O q)(ad:bu o=T){R}(h:yx P o s R):Mb P rd O q u o s R:=by intro al c a ds w V A hd next Q d _;exact jP ad (h O al c a w V hd _ _ (λe E W f g b i=>⟨b.defers,d e E W f g b (a6 _ _ _ _ _ _ _ A i)⟩))
def Dz(a6:bA O q)(ad:bu o=T)(h:bE (spB P B) o s k):bE (spF P rd O q B u) o s k:=let⟨R,U,Z⟩:=h
 ⟨R,U.toF a6 ad,Z⟩
def Wv{ar}(h:opA ar G o s k):opA (spB P ar.base) G o s k\/bE ar o s k:=by obtain⟨d,op,ty,g,i,gd⟩:=o;cases op with
 |buildSlice=>cases d<;>first|exact .inl h|exact .inr h
 |makeSlice=>cases d<;>first|exact .inl h|exact .inr h
 |box=>cases d<;>first|exact .inl h|exact .inr h
 |alloc=>cases d<;>first|exact .inl h|exact .inr h
 |makeMap t r=>cases r<;>cases d<;>first|exact .inl h|exact .inr h
 |slice t x j l e=>cases e<;>first|exact .inl h|exact .inr h
 |indexAddr t x q=>cases x<;>first|exact .inr h|exact .inl h
 |makeFunc f=>cases f<;>first|exact .inl h|exact .inr h
 |call c=>obtain⟨callee,args,tys⟩:=c;cases callee with|value f=>exact .inr h;|invoke r m=>exact .inr h;|builtin b=>cases b<;>first|exact .inl h|exact .inr h|(cases d<;>first|exact .inl h|exact .inr h)
 |_=>first|exact .inl h|exact .inr h
def qa(hT:bK P G)(a6:bA O q){al}{β}(V:Rel O al s β a w)(A:q s β ds w)(ad:bu o=T)(hd:∀d,o.dst=S d->d<al)(h:opA (spF P rd O q B u) G o s k)(e:∀b E W w',K b->Rel O al b E W w'->q b E ds w'->next {W with defers:=ds} w')(I:∀f b E W w',u f b->Rel O al b E W w'->q b E ds w'->Q (.panic f) {W with defers:=ds} w'):o.wpIn (fen rd) 0 P {a with defers:=ds} w next Q:=by
 rcases Wv (P:=P) h with h|⟨R,g,J⟩;.exact jP ad (px hT V hd h (λb E W w' U Z c=>⟨Z.defers,e b E W w' U Z (a6 _ _ _ _ _ _ _ A c)⟩))
 .exact g al β a ds w V A hd next Q (λb E W w' U Z c=>e b E W w' (J b U) Z c) I
def lK(hT:bK P G)(a6:bA O q){al}{ops}{ds}{Q}{K}{k:Box K}:∀l{s}{β}{a}{w},Rel O al s β a w->q s β ds w->l.all bu=T->iO al l=T->wpO (spF P rd O q B u) G ops l s k->(∀s' E W w',K s'->Rel O al s' E W w'->q s' E ds w'->Q .normal {W with defers:=ds} w')->(∀y s' E W w',u y s'->Rel O al s' E W w'->q s' E ds w'->Q (.panic y) {W with defers:=ds} w')->wpListIn (fen rd) 0 P ops Q l {a with defers:=ds} w|[],s,β,a,w,V,A,_,_,h,e,_=>e s β a w h V A|o::rest,s,β,a,w,V,A,c,ar,h,e,hX=>by obtain⟨hd,g⟩:=mg ar;simp only[D1,l6]at c;unfold wpO at h;unfold wpListIn;cases hg:o.guard with|none=>rw[hg]at h;rw[s5 (by simp[Region.wanted,hg])];exact qa hT a6 V A c.1 hd h (λs' E W w' U Z r=>lK hT a6 rest Z r c.2 g U e hX) hX;|some p=>
 obtain⟨j,n⟩:=p;rw[hg]at h;obtain⟨d,H,h⟩:=bh h;unfold pN at h;split at h
 .rename_i b i;have hy:=V.yielded H i;have h:=lL h;have I:=V.reput i;have m:q {s with f:=upd s.f d (bv b)} β ds w:=a6 _ _ _ _ _ _ _ A (Tr.same rfl rfl rfl);by_cases hw:b=n;.rw[s5 hw]at h;rw[s5 abd];exact qa hT a6 I m c.1 hd h (λs' E W w' U Z r=>lK hT a6 rest Z r c.2 g U e hX) hX
  .rw[l4 hw]at h;rw[l4 abd];refine⟨λ_ _=>trivial,?_⟩;rw[tC];exact lK hT a6 rest (I.put hd du) (a6 _ _ _ _ _ _ _ m (Tr.same (St.put_gen _ _ _) (St.put_obj _ _ _) rfl)) c.2 g h e hX
 .rename_i i;have hy:=V.yielded_u H i;rw[l4 abH];refine⟨λ_ _=>trivial,?_⟩;rw[tC];exact lK hT a6 rest (V.put hd du) (a6 _ _ _ _ _ _ _ A (Tr.same (St.put_gen _ _ _) (St.put_obj _ _ _) rfl)) c.2 g h e hX
 grind
def Kc(h:∃m,p m):∃m,p m/\∀k,p k->m<=k:=by obtain⟨m,b⟩:=h;induction m using Nat.strongRecOn with|ind m c=>grind
open Classical in
noncomputable def leastOf(p:Nat->Prop):Nat:=if h:∃m,p m then Classical.choose (Kc h)else 0
def leastOf_spec(h:∃m,p m):p (leastOf p)/\∀k,p k->leastOf p<=k:=by unfold leastOf;grind
def xD{b2}{w}{c}(I:Nat->Act->World->Prop) k(d:I k a w)(b:∀m a w,I m a w->c.wpIn b2 n P (Exit.then (λW w'=>∃m',m'<m/\I m' W w') Q) a w):(Code.loop c).wpIn b2 n P Q a w:=by refine wpIn_loop (λa w=>∃m,I m a w) (λa w=>leastOf λm=>I m a w) ⟨k,d⟩ (λa w g=>?_);refine wpIn_mono (b _ a w (leastOf_spec g).1) (λe W w' f=>?_);cases e with|normal=>obtain⟨m',h,r⟩:=f;exact⟨⟨m',r⟩,F6 ((leastOf_spec ⟨m',r⟩).2 m' r) h⟩;|_=>exact f
end
inductive BN (B:Nat) (s:St):AV->AV->Prop where|one {c:C}{x:D} (h:jO (B<=·) s c x):BN B s (.one c) (.one (.d x))|agg {cs:List C}{xs:List D} (hl:xs.length=cs.length) (h:∀(i:Nat)(c:C),cs[i]?=some c->∃x,xs[i]?=some x/\jO (B<=·) s c x):BN B s (.agg cs) (.agg (xs.map .d))
def fT(B:Nat)(s:St):List AV->List AV->Prop|[],rs=>rs=[]|t::A,rs=>∃r q,rs=r::q/\BN B s t r/\fT B s A q
def Wq(B:Nat)(g:Nat->Nat)(ob:Obs)(k:List Nat)(R:AV->Prop):Exit->St->Prop
 |.normal,s|.ret,s=>(∀i,i<B->s.gen i=g i)/\(∀i,i<B->s.obj i=ob i)/\match k with|[t]=>∃r,BN B s (s.f t) r/\R r|A=>∃a,fT B s (A.map s.f) a/\R (.tup a)
 |_,_=>False
variable{s:St}{R:AV->Prop}{B:Nat}{B0:Nat}{Q:Exit->St->Prop}{K:St->Prop}{q:Box Q}
section
variable{P:Program}{G:Nat->TI}{O:Bs}{β:Loc}{w:World}
def BN.rep{B al}{s}{a}{Y}(J:∀id,(Y id).isSome=T->(s.obj id).isSome=T/\¬B<=id)(V:Rel O al s β a w){x r}(h:BN B s x r){v}(g:ao O β s.gen s.obj w x v){g'}{E}(H:∀id,(Y id).isSome=T->E id=β id):ao O E g' Y w r v:=by have K:∀b,Imm O β Y w b->Imm O E Y w b/\w.heap[b]?=w.heap[b]?:=λb k=>⟨⟨k.1,k.2.1,λid a ho A=>k.2.2 id a ho ZN⟩,rfl⟩;cases h with|one h=>simp[ao]at g|-;simp[aQ];exact(jO.rep J V h g).mono K;|agg hl h=>rename_i n o;simp[ao]at g|-;obtain⟨vs,U,Z,p⟩:=g;refine⟨vs,U,by grind,λi c j=>?_⟩;rw[A4]at j;cases l:o[i]?with|none=>grind;|some y=>
 rw[l]at j;simp at j;subst j;have m:i<z n:=by rw[<-hl];exact(l9.1 l).1
 obtain⟨u,L,f⟩:=p i _ (x9 m);obtain⟨e,d,t⟩:=h i _ (x9 m);have:e=y:=by simpa[d]using l
 subst this;refine⟨u,L,?_⟩;simp[aQ];exact(jO.rep J V t f).mono K
def fT.rep{B al}{s}{a}{Y}(J:∀id,(Y id).isSome=T->(s.obj id).isSome=T/\¬B<=id)(V:Rel O al s β a w){g'}{E}(H:∀id,(Y id).isSome=T->E id=β id):∀(A:List Nat){b},fT B s (A.map s.f) b->bg O E g' Y w b (A.map λt=>a.tmps.getD t undef)|[],b,h=>by simp[fT]at h;subst h;rfl;|t::A,b,h=>by simp[fT]at h;obtain⟨r,q,rfl,U,Z⟩:=h;simp only[s7,bg];exact⟨_,_,rfl,U.rep J V (V.f t) H,fT.rep J V H A Z⟩
def aQ.back{E}{g g'}{ob Y}{w w'}(hl:∀id,(ob id).isSome=T->g' id=g id/\E id=β id/\(Y id).isSome=T)(K:∀b,Imm O E Y w' b->Imm O β ob w' b){c}{v p}(h:aQ O E g' Y w' c v)(h0:aQ O β g ob w c p):aQ O β g ob w' c v:=by cases c with|d x=>exact cX.mono h λb k=>⟨K b k,rfl⟩;|osl id g1 sz off len=>exact sg;|ptr id g1 off=>exact sg;|mp id g1 t=>exact sg;|lsl n=>exact h;|raw o=>exact h.elim;|clo f y=>obtain⟨vs,U,Z,r⟩:=h;obtain⟨e,_,_,a⟩:=h0;refine⟨vs,U,Z,λi pc l=>?_⟩;obtain⟨u,L,V⟩:=r i pc l;obtain⟨j,_,bz⟩:=a i pc l;refine⟨u,L,?_⟩;cases pc with|d x=>exact cX.mono V λb k=>⟨K b k,rfl⟩;|ptr id g1 off=>refine⟨V.1,bz.2.1,λhg ho=>?_⟩;obtain⟨l1,l2,m⟩:=hl id ho;rw[<-l2];exact V.2.2 a7 m
def fL.back{R b n}{kd}{cs}{es a6}(h:fL R kd cs es)(d:fL b kd cs a6)(V:∀c v e,R c v->b c e->n c v):fL n kd cs es:=by induction h generalizing a6 with|nil=>exact .nil;|cons f U Z _ g=>cases d with|cons _ _ a A=>exact .cons f U (V _ _ _ Z a) (g A)
def Gq B(hT:bK P G)(hm:P.follows .mixedOrders=T){f}{fn}{c}(hf:P.funcs[f]?=S fn)(hb:fn.body=S c)(hn:(fn.name== "runtime.NumGoroutine")=F)k(a1:fn.results=(k.map ResultVar.tmp).toArray)(an:codeOk fn.ntmps c=T){xs}(m:z xs<=fn.ntmps){g}{ob}(hB:∀i,B<=i->ob i=N)(h:wpC (spB P B) G c (bx (Wq B g ob k R)) ⟨dZ xs,g,ob⟩):iK P f xs g ob (λr g' Y=>R r/\g'=g/\Y=ob):=by
 refine⟨⟨fn,hf,by grind,hn⟩,λO al β a fa w vs bz hv=>?_⟩;refine calls_of_wp hf hb ?_;have hl:=hv.len;have V:Rel O fn.ntmps ⟨dZ xs,g,ob⟩ β {tmps:=vs.toArray++Array.replicate (fn.ntmps-vs.toArray.size) undef,defers:=[]} w:=by refine⟨rfl,by grind,λi=>?_,bz.obj,bz.inj,bz.base⟩;simp only[dZ];cases I:xs[i]?with
 |some x=>
 obtain⟨v,U,Z⟩:=hv.get I;have af:=(l9.1 U).1;have:(vs.toArray++Array.replicate (fn.ntmps-vs.toArray.size) undef).getD i undef=v:=by rw[y9,F2 a7];simp[U]
 grind;|none=>exact W8
 refine wp_mono (gQ hT hm c an V h) (λe W w' hp=>?_);obtain⟨s',E,hQ,av,ht⟩:=hp;have d:Wq B g ob k R .ret s'->∃v,(results fn W.tmps).run P w'=.ok v w'/\∃v' r g' Y E,Ending.returned v=.returned v'/\(R r/\g'=g/\Y=ob)/\ao O E g' Y w' r v'/\(∀id a',Y id=S a'->ew O E g' Y w' (g' id) a' (E id))/\(∀id L a W,(Y id).isSome=T->(Y L).isSome=T->E id=S a->E L=S W->a.block=W.block->id=L)/\Tr O β ⟨fa,g,ob⟩ w E ⟨fa,g',Y⟩ w':=by
  rintro⟨hg,bk,dd⟩;have af:∀id,(ob id).isSome=T->id<B:=λid ho=>S8 λhc=>by grind
  have n:∀id,(ob id).isSome=T->s'.gen id=g id/\E id=β id/\(s'.obj id).isSome=T:=λid ho=>by
   have U:=hg id (af id ho);have Z:(s'.obj id).isSome=T:=by rw[bk id (af id ho)];exact ho
   exact⟨U,(ht.keep.live id U Z).2.1,Z⟩
  have J:∀id,(ob id).isSome=T->(s'.obj id).isSome=T/\¬B<=id:=λid ho=>⟨(n id ho).2.2,by grind⟩;have K:∀b,Imm O E s'.obj w' b->Imm O β ob w' b:=λb hb=>⟨hb.1,hb.2.1,λid a ho he=>hb.2.2 id a (n id ho).2.2 ZN⟩;have y:∀id a',ob id=S a'->ew O β g ob w' (g id) a' (β id):=λid a' hc=>by
   have ho:(ob id).isSome=T:=by rw[hc];rfl
   have U:=av.obj id a' ZN;rw[(n id ho).2.1,(n id ho).1]at U;have h0:=V.obj id a' hc;cases H:β id with|none=>rw[H]at U;exact U;|some ad=>rw[H]at U h0;cases hs:ad.spot with|none=>obtain⟨p1,arr,el,lo,hi,p2,p3,p4,p5⟩:=U.cells hs;obtain⟨_,s,az,bf,cx,_,_,_,q5⟩:=h0.cells hs;refine .ofCells hs ⟨p1,arr,el,lo,hi,p2,p3,p4,λj c hj=>?_⟩;obtain⟨v,hv,X⟩:=p5 j c hj;obtain⟨v0,_,bc⟩:=q5 j c hj;exact⟨v,hv,aQ.back n K X bc⟩;|some kd=>
   obtain⟨p1,⟨es,p,p2,p3⟩|ar⟩:=U.map hs
   .obtain⟨_,⟨a6,bd,_,q3⟩|⟨_,o,q3,_⟩⟩:=h0.map hs;.exact .ofMap hs ⟨p1,.inl ⟨es,p,p2,p3.back q3 λc v v0 h h0=>by
    unfold lu at h h0|-;split;.rename_i hk;rw[s5 hk]at h h0;exact aQ.back n K h h0
    .rename_i hk;rw[l4 hk]at h;obtain⟨ds,vs,q1,q2,q3,q4⟩:=h;exact⟨ds,vs,q1,q2,q3,λi x I=>let⟨u,hu,V⟩:=q4 i x I;⟨u,hu,cX.mono V λb hb=>⟨K b hb,rfl⟩⟩⟩⟩⟩
    .subst q3;generalize es.toList=el at p3;cases p3
   .exact .ofMap hs ⟨p1,.inr ar⟩
  have q:ik O β g ob w β g ob w':=by refine⟨λb hb=>⟨K b (ht.imm b hb).1,(ht.imm b hb).2⟩,λ_=>l7 _,λid _ ho=>⟨ho,rfl,λW b4 arr el fr hh=>?_⟩⟩;exact(ht.keep.live id (n id ho).1 (n id ho).2.2).2.2 W b4 arr el fr hh
  refine⟨_,ry k a1 W.tmps,?_⟩;have bs:∀r,ao O β g ob w' r (vQ W.tmps k)->R r->∃v' r g' Y E,Ending.returned (vQ W.tmps k)=.returned v'/\(R r/\g'=g/\Y=ob)/\ao O E g' Y w' r v'/\(∀id a',Y id=S a'->ew O E g' Y w' (g' id) a' (E id))/\(∀id L a W,(Y id).isSome=T->(Y L).isSome=T->E id=S a->E L=S W->a.block=W.block->id=L)/\Tr O β ⟨fa,g,ob⟩ w E ⟨fa,g',Y⟩ w':=λr U Z=>⟨_,r,g,ob,β,rfl,⟨Z,rfl,rfl⟩,U,y,V.inj,⟨ht.size,ht.old,q,ht.os⟩⟩;have Q:∀id,(ob id).isSome=T->β id=E id:=λid ho=>(n id ho).2.1.symm;match k,dd with|[t],⟨r,U,Z⟩=>exact bs r (U.rep J av (av.f t) Q) Z;|[],⟨rs,U,Z⟩=>exact bs _ (by simp[ao];exact⟨_,rfl,fT.rep J av Q [] U⟩) Z;|t::t'::A,⟨rs,U,Z⟩=>exact bs _ (by simp[ao];exact⟨_,rfl,fT.rep J av Q (t::t'::A) U⟩) Z
 cases e with|normal=>exact⟨av.defers,d hQ⟩;|ret=>exact⟨av.defers,d hQ⟩;|exit id=>exact hQ.elim;|goto l=>exact hQ.elim;|panic ch=>exact hQ.elim;|outgrown=>exact hQ.elim
def Il{o} d{k:Box K}(b:ai s d)(h:bE (spB P B) o d k):bE (spB P B) o s k:=by obtain⟨R,e,J⟩:=h;refine⟨R,λO al β a w V c next Q f=>?_,J⟩;obtain⟨l,g,i⟩:=b O al β a w V;exact e O al l a w g c next Q (λj E W m U Z n=>f j E W m U Z (i.trans n))
def AH{o}{k:Box K}{f}{args}{tys}(ho:o.op=.call ⟨.value (.func f),args,tys⟩)(a:aR P f (args.toList.map s.ev) R)(hd:(args.toList.map s.ev).all iq=T)(b:∀r,R r->K (s.put o.dst r)):bE (spB P B) o s k:=⟨_,AU ho a hd,λ_⟨r,V,e⟩=>e▸b r V⟩
def fU{B}{b:Box B}(I:Nat->St->Prop) n(c:I n s)(V:∀n f g a,I n ⟨f,g,a⟩->B (nE (bx λe=>∃H d,H<n/\(spB P B0).vs e d/\I H d) q) ⟨f,g,a⟩):uy (spB P B0) b q s:=⟨I,⟨n,s,ai.refl s,c⟩,λn s h=>V n s.f s.gen s.obj h⟩
def Ds{B}{b:Box B} d(c:ai s d)(I:Nat->St->Prop) n(e:I n d)(V:∀n f g a,I n ⟨f,g,a⟩->B (nE (bx λh=>∃H d,H<n/\(spB P B0).vs h d/\I H d) q) ⟨f,g,a⟩):uy (spB P B0) b q s:=⟨I,⟨n,d,c,e⟩,λn s i=>V n s.f s.gen s.obj i⟩
def fD{I:Nat->St->Prop}{n} H(h:H<n)(a:I H s):∃H d,H<n/\(spB P B0).vs s d/\I H d:=⟨H,s,h,ai.refl s,a⟩
def cJ{id}{ops}(an:qX G ops=T)(h:wpO (spB P B0) G ops ops.toList s (bx λa=>Q .normal a)):nF (spB P B0) G id ops s q:=.inl ⟨an,h⟩
end
@[go_sem]def aai:=@Wq.eq_3
def Ri{x}(I:x≠.nsl):(∃r,BN B s (.one (.d x)) r/\R r)=R (.one (.d x)):=by
 apply propext;constructor;.rintro⟨r,V,a⟩;cases V with|one h=>cases h with|d=>exact a;|nil=>grind
 .intro h;exact⟨_,.one (.d x),h⟩
@[go_sem]def aaj{b}:(∃r,BN B s (.one (.d (.str b))) r/\R r)=R (.one (.d (.str b))):=Ri b9
def nc0:((0:Nat):Int)=0:=rfl
def nc1:((1:Nat):Int)=1:=rfl
attribute [go_sem] nc0 nc1 Nat.add_zero Nat.sub_zero Int.cast_ofNat_Int
def yk{a b}(h:nD a b=T):a=b:=by cases a<;>cases b<;>simp_all[nD]
def se k x E:∀cells:List C,mget (mset cells k x) E=if nD k E=T then S x else mget cells E
 |.d a::c::r=>by
  simp[mset];split;.rename_i U;rw[yk U];grind[mget]
  .rename_i U;simp[mget];rw[se k x E r];by_cases Z:nD k E=T
   .rw[s5 Z];split;.rename_i b;exfalso;have e:=yk b;have f:=yk Z;grind
    .rfl
   grind;|[]=>by rfl;|[.d a]=>by rfl;|.osl ..::_=>by rfl;|.ptr ..::_=>by rfl;|.clo ..::_=>by rfl;|.mp ..::_=>by rfl;|.lsl ..::_=>by rfl;|.raw _::_=>by rfl
@[go_sem]def afJ(B k j:Nat):(B+k=B+j)=(k=j):=b9
end Go.Am

