/- A part of the proof; no conditions. -/
import Derived.Test.YtlacbjnmkhndiaaGreatDoorPart3
import Derived.ProofKit
import Derived.WideKeyArgs
import Derived.SizedLaws
import Derived.Deep.OwnRows
import Derived.Deep.CondSized
import Derived.RangeFuncCalls
import Derived.RangeFuncLeaves
import Derived.RangeFuncRecord
import Derived.OrdersIn
import Derived.TacticsIn
set_option linter.unusedSimpArgs false
set_option linter.unusedVariables false
set_option linter.defProp false
open List renaming length -> z
open Option renaming some -> S, none -> N
open Bool renaming true -> T, false -> F
set_option maxHeartbeats 64000000
set_option maxRecDepth 100000
namespace Go.Am
section
attribute[local congr]ite_cc
section
variable{s:St}{P:Program}{R:AV->Prop}{Q:Exit->St->Prop}
def LS{t:Nat}{B:TI}{X:Value}(hd:P.underlying t=S B.desc)(b:(P.info? t).map (λi=>(i.size,i.bytes,i.zero))=S (B.size,B.bytes,S X))
 (e:X.cells.toList=B.zero.map dV)(f:B.zero.all lB=T)(hl:z B.zero=B.size)(d:ed B.desc=T\/X=dV (B.zero.headD .nsl)):uz P t B:=by
 refine⟨hd,?_,f,hl,λc i a U g=>?_⟩
 rotate_left
 .rw[U]at b
  simp only[A3,w7,I3]at b;have:a=X:=by simpa[g]using b.2.2
  rcases d with d|d
  .rw[c]at d;cases d
  .rw[this,d]
 cases h:P.info? t with
 |none=>rw[h]at b;cases b
 |some i=>
   rw[h]at b;simp only[A3,w7,I3]at b;exact⟨i,rfl,b.1,b.2.1,X,b.2.2,e⟩
def eM{B:(Exit->St->Prop)->St->Prop}{b:Box B}{q:Box Q}(I:Nat->St->Prop)(n:Nat)(c:I n s)
 (V:∀n f g a,I n ⟨f,g,a⟩->B (jD (bx λW=>∃j d,j<n/\(sp P).vs W d/\I j d) q) ⟨f,g,a⟩):oF (sp P) b q s:=
 ⟨I,⟨n,s,ai.refl s,c⟩,λn s e=>V n s.f s.gen s.obj e⟩
def cQ{I:Nat->St->Prop}{n:Nat}(j:Nat)(h:j<n)(a:I j s):∃j d,j<n/\(sp P).vs s d/\I j d:=⟨j,s,h,ai.refl s,a⟩
def jX{E:Nat->TI}{id:Nat}{ops:Array Oper}{q:Box Q}(a:oz E ops=T)(h:wpO (sp P) E ops ops.toList s (bx λW=>Q .normal W)):ly (sp P) E id ops s q:=.inl ⟨a,h⟩
def gw{o:Oper}{K:St->Prop}{k:Box K}{f:FuncId}{args:Array Operand}{tys:Array TypeId}(ho:o.op=.call ⟨.value (.func f),args,tys⟩)
 (a:aJ P f (args.toList.map s.ev) R)(hd:(args.toList.map s.ev).all fk=T)(b:∀r,R r->K (s.put o.dst r)):bC (sp P) o s k:=
 ⟨_,xF ho a hd,λ_⟨r,V,e⟩=>e▸b r V⟩
def wrap_i64(n:Int)(a:-9223372036854775808<=n)(U:n<=9223372036854775807):IntKind.i64.wrap n=n:=by rw[IntKind.wrap_i64];omega
def Uk{x y:D}:Frz s (.d x) y↔y=iC x:=⟨λh=>by cases h;rfl,λh=>h▸.d x⟩
@[go_sem]def ZA{x:D}:(∃r,lW s (.one (.d x)) r/\R r)=R (.one (.d (iC x))):=by
 apply propext;constructor
 .rintro⟨r,⟨y,a,rfl⟩,b⟩;rw[Uk]at a;subst a;exact b
 .intro h;exact⟨_,⟨_,.d x,rfl⟩,h⟩
@[go_sem]def Ul{R:List AV->Prop}:(∃rs,dU s [] rs/\R rs)=R []:=by simp[dU]
@[go_sem]def Ty{t:AV}{ts:List AV}{R:List AV->Prop}:(∃rs,dU s (t::ts) rs/\R rs)=∃r,lW s t r/\∃rs,dU s ts rs/\R (r::rs):=by
 apply propext;simp only[dU];constructor
 .rintro⟨_,⟨r,o,rfl,U,a⟩,b⟩;exact⟨r,U,o,a,b⟩
 .rintro⟨r,U,o,a,b⟩;exact⟨_,⟨r,o,rfl,U,a⟩,b⟩
@[go_sem]def Um{t u:Nat}:CC [t,u] R .ret s=∃rs,dU s [s.f t,s.f u] rs/\R (.tup rs):=B9 rfl rfl
@[go_sem]def Qr:(∀(b:Bool),iC (.bool b)=.bool b)/\(∀(k:IntKind)(n:Int),iC (.int k n)=.int k n)/\iC .nsl=.sl []:=by and_intros<;>intros<;>exact B9 rfl rfl
@[go_sem]def TA(s:List UInt8):iC (.str s)=.str s:=B9 rfl rfl
@[go_sem]def Un:=@CC.eq_3
attribute [go_sem] AV.one.injEq AV.tup.injEq AV.agg.injEq C.d.injEq D.bool.injEq D.int.injEq D.str.injEq D.sl.injEq List.cons.injEq true_implies false_implies forall_const and_self
attribute [go_sem] Int.ofNat_lt Int.ofNat_le Int.natCast_nonneg dE
def ah{k:Nat}(h:k<=4000000000000000000):IntKind.i64.wrap ((k:Int)+1)=((k+1:Nat):Int):=by rw[IntKind.wrap_i64]<;>omega
end
end
section
open Go.ChangeShapes
section
section
variable{H:Type}{enc:TypeId×Value->H}{P:Program}{w:World}
def iF(w:World)(cs:List Value)(ds:List D):Prop:=z ds=z cs/\∀(j:Nat)(x:D),ds[j]?=S x->∃v,cs[j]?=S v/\cD (λb=>b<w.heap.size) w x v
def iF.one{v:Value}{x:D}(h:cD (λb=>b<w.heap.size) w x v):iF w [v] [x]:=⟨rfl,λj y a=>by
 cases j with
 |zero=>simp at a;subst a;exact⟨v,rfl,h⟩
 | succ j=>simp at a⟩
def mapM_some{A β:Type}{f:A->Option β}:∀{l:List A}{r:List β},l.mapM f=S r->z r=z l/\∀(i:Nat)(a:A),l[i]?=S a->∃b,r[i]?=S b/\f a=S b
 |[],r,h=>by simp at h;subst h;exact⟨rfl,λi a c=>by simp at c⟩
 |a::l,r,h=>by
   rw[P8]at h;cases c:f a with
   |none=>simp[c]at h
   |some b=>
     cases hl:l.mapM f with
     |none=>simp[c,hl]at h
     |some q=>
       simp[c,hl]at h;subst h;obtain⟨U,d⟩:=mapM_some hl;refine⟨by simp[U],λi x I=>?_⟩;cases i with
       |zero=>simp at I;subst I;exact⟨b,rfl,c⟩
       |succ i=>simpa using d i x YT
def Ch{base n:Nat}{a:Addr}{cs:List Value}(h:w.cells? base a n=S cs):z cs=n/\∀(j:Nat)(v:Value),cs[j]?=S v->w.cell? (a.add j)=S v:=by
 unfold World.cells? at h;split at h
 .obtain⟨U,d⟩:=mapM_some h
  refine⟨by simpa using U,λj v c=>?_⟩
  have e:j<n:=by
   have:=(l6.1 c).1;rw[U]at this;simpa using this
  obtain⟨b,f,g⟩:=d j j (by simp[e]);rw[f]at c;cases c;exact g
 .cases h
def oI{A:Type}{p:Nat->A->Prop}:∀(n:Nat),(∀i,i<n->∃x,p i x)->∃l:List A,z l=n/\∀(i:Nat)(x:A),l[i]?=S x->p i x
 |0,_=>⟨[],rfl,λi x h=>by simp at h⟩
 |n+1,h=>by
   obtain⟨l,U,b⟩:=oI n (λi c=>h i a7);obtain⟨x,I⟩:=h n a7;refine⟨l++[x],by simp[U],λi y a=>?_⟩;rw[L3]at a;split at a
   .exact b i y a
   .rename_i c
    have bl:i=n:=by
     have:=(l6.1 a).1;simp at this;omega
    subst bl;rw[U,Lz]at a;simp at a;exact a▸I
def lz{P:Program}{e:TypeId}{p:Nat->Bool}:∀{l:List (DataW H)},(DataW.weightsAll P e l).all p=T->∀d∈l,(d.weights P e).all p=T
 |[],_,_,hd=>by cases hd
 |d::l,h,a,hd=>by
   simp only[DataW.weightsAll,G6,s5]at h;rcases A0.1 hd with rfl|hd
   .exact h.1
   .exact lz h.2 a hd
def Fx{w G:World}(h:∀b,b<w.heap.size->G.heap[b]?=w.heap[b]?){p:MemPlace}(a:p.block<w.heap.size):w.sameAt G p:=by
 cases p with
 |cell b o=>exact World.cell?_of_block (w:=w) (h b a)
 |map b=>exact h b a
def LU{w G:World}(h:∀b,b<w.heap.size->G.heap[b]?=w.heap[b]?)(n:G.os=w.os/\G.output=w.output)(a:MemPlace->Prop):w.keptBut G a:=by
 refine⟨n.1,n.2,λi c=>?_⟩;rw[h i c];split<;>simp_all
def zJ(P:Program)(f:FuncId)(args:Array Value)(w:World):Prop:=
 Calls P f args w λe G=>e=.returned (.bool T)/\w.heap.size<=G.heap.size/\(∀b,b<w.heap.size->G.heap[b]?=w.heap[b]?)/\G.os=w.os/\G.output=w.output
def qu(hl:laidOutB P=T){W A:World}(hW:∀b,b<W.heap.size->A.heap[b]?=W.heap[b]?):∀(ts:List TypeId)(vs:List Value)(ds:List (DataW H))(ps:List MemPlace),ts.all (λt=>P.readableRec t&&decide (t<P.types.size))=T->
  (∀p∈ps,p.block<W.heap.size)->DataW.TrodAll enc P W 0 (λ_=>T) T ts vs ds ps->DataW.TrodAll enc P A 0 (λb=>decide (b<W.heap.size)) T ts vs ds ps
 |[],[],[],ps,_,_,h=>h
 |t::ts,v::vs,d::ds,ps,g,a,h=>by
   obtain⟨p,q,U,c,rfl⟩:=h;simp only[E9,s5,B4]at g
   exact⟨p,q,WideElems.Trod_stays hl g.1.1 g.1.2 U (λx I=>Fx hW (a x YN)) (λx I=>by simpa using a x YN),
    qu hl hW ts vs ds q g.2 (λx I=>a x YN) c,rfl⟩
 |[],[],_::_,_,_,_,h=>h.elim
 |[],_::_,_,_,_,_,h=>h.elim
 |_::_,[],_,_,_,_,h=>h.elim
 |_::_,_::_,[],_,_,_,h=>h.elim
def tQ{w:World}{sp:Nat->Bool}:∀(ts:List TypeId)(vs:List Value)(ds:List (DataW H))(ps:List MemPlace),DataW.TrodAll enc P w 0 sp T ts vs ds ps->z ds=z ts
 |[],[],[],_,_=>rfl
 |_::ts,_::vs,_::ds,_,h=>by
   obtain⟨p,q,_,a,_⟩:=h;simp[tQ ts vs ds q a]
 |[],[],_::_,_,h=>h.elim
 |[],_::_,_,_,h=>h.elim
 |_::_,[],_,_,h=>h.elim
 |_::_,_::_,[],_,h=>h.elim
end
end
end
section
section
def mE(P:Program):Nat->List Field->Option Nat
 |off,[]=>S off
 |off,f::l=>if f.offset=off then mE P (off+P.cellsOf f.type) l else N
def uJ(P:Program)(ts:List TypeId):Bool:=ts.all λt=>
 match P.underlying t with
 |some .bool|some (.int _)|some .string=>P.cellsOf t==1
 |some (.slice e)=>P.cellsOf t==1&&ts.contains e&&decide (0<P.cellsOf e)
 |some (.struct fs)=>(mE P 0 fs.toList==S (P.cellsOf t))&&fs.toList.all (λf=>ts.contains f.type)
 |some (.array n e)=>(P.cellsOf t==n*P.cellsOf e)&&ts.contains e
 |_=>F
inductive fZ (P:Program):TypeId->List D->Prop where
 |bool {t:TypeId} (L:P.underlying t=some .bool) (b:Bool):fZ P t [.bool b]
 |int {t:TypeId}{k:IntKind} (L:P.underlying t=some (.int k)) (m:Int) (hw:(Lit.int k m).wf=true):fZ P t [.int k m]
 |str {t:TypeId} (L:P.underlying t=some .string) (s:List UInt8) (hl:s.length<=reachBytes):fZ P t [.str s]
 |sl {t e:TypeId} (L:P.underlying t=some (.slice e)) (es:List (List D)) (hl:es.length*P.bytesOf e<=reachBytes) (h:∀x∈es,fZ P e x):fZ P t [.sl es]
 |struct {t:TypeId}{fs:Array Field} (L:P.underlying t=some (.struct fs)) (o:List (List D)) (hl:o.length=fs.toList.length)
    (h:∀(i:Nat)(f:Field)(x:List D),fs.toList[i]?=some f->o[i]?=some x->fZ P f.type x):fZ P t o.flatten
 |array {t n e:TypeId} (L:P.underlying t=some (.array n e)) (o:List (List D)) (hl:o.length=n) (hs:∀x∈o,x.length=P.cellsOf e) (h:∀x∈o,fZ P e x):fZ P t o.flatten
mutual
def vf:D->Nat
 |.sl es=>iU es+1
 |.str bs=>z bs+1
 |_=>1
def eN:List D->Nat
 |[]=>0
 |d::r=>vf d+eN r
def iU:List (List D)->Nat
 |[]=>0
 |e::r=>eN e+iU r
end
mutual
def gZ{H:Type}:DataW H->Nat
 |.lit (.string bytes)=>z bytes+1
 |.lit _=>1
 |.nil=>1
 |.ptr d=>gZ d+1
 |.slice elems spare=>ni elems+ni spare+1
 |.agg parts=>ni parts+1
 |.iface _ d=>gZ d+1
 |.map entries=>Hw entries+1
 |.held _=>1
def ni{H:Type}:List (DataW H)->Nat
 |[]=>0
 |d::r=>gZ d+ni r
def Hw{H:Type}:List (Lit×DataW H)->Nat
 |[]=>0
 |x::r=>Qt x+Hw r
def Qt{H:Type}:Lit×DataW H->Nat
 |(.string bytes,d)=>z bytes+gZ d+1
 |(_,d)=>gZ d+1
end
def Ck(a b:List D):eN (a++b)=eN a+eN b:=by
 induction a with
 |nil=>simp[eN]
 |cons x a c=>simp only[C6,eN,c];omega
def oN(l:List (List D)):eN l.flatten=iU l:=by
 induction l with
 |nil=>simp[eN,iU]
 |cons x l a=>simp only[E7,Ck,a,iU]
def nj{H:Type}:∀{es:List (List D)}{l:List (DataW H)},z es<=z l->(∀(i:Nat)(x:List D)(d:DataW H),es[i]?=S x->l[i]?=S d->eN x<=gZ d)->iU es<=ni l
 |[],l,_,_=>by simp[iU]
 |x::es,[],h,_=>by simp at h
 |x::es,d::l,h,a=>by
   have c:=a 0 x d rfl rfl;have:=nj (es:=es) (l:=l) YU (λi y e U b=>a (i+1) y e (by simpa using U) (by simpa using b));simp only[iU,ni];omega
variable{A:Bool}{base q:Nat}{sp:Nat->Bool}{ts:List TypeId}{ps:List MemPlace}
section
variable{H:Type}{enc:TypeId×Value->H}{P:Program}{w:World}
def add_add(a:Addr)(m j:Nat):(a.add m).add j=a.add (m+j):=by
 unfold Addr.add;by_cases b:m=0
 .subst b;simp
 .by_cases c:j=0
  .subst c;simp
  .have:¬m+j=0:=a7
   simp[b,c,C2]
def nQ{p:Nat->Bool}:∀{ts:List TypeId}{l:List (DataW H)},(DataW.weightsEach P ts l).all p=T->∀(i:Nat)(t:TypeId)(d:DataW H),ts[i]?=S t->l[i]?=S d->(d.weights P t).all p=T
 |[],_,_,i,t,d,U,_=>by simp at U
 |_::_,[],_,i,t,d,_,a=>by simp at a
 |t::ts,d::l,h,i,b,c,U,a=>by
   simp only[DataW.weightsEach,G6,s5]at h;cases i with
   |zero=>simp at U a;subst U a;exact h.1
   |succ i=>exact nQ h.2 i b c (by simpa using U) (by simpa using a)
def iF.app{b c:List Value}{d d2:List D}(U:iF w b d)(e:iF w c d2):iF w (b++c) (d++d2):=by
 refine⟨by simp[U.1,e.1],λj x I=>?_⟩;rw[L3]at I;split at I
 .rename_i f
  obtain⟨v,a,V⟩:=U.2 j x I;exact⟨v,by rw[E8 (by rw[<-U.1];exact f)];exact a,V⟩
 .rename_i f
  obtain⟨v,a,V⟩:=e.2 _ x I;refine⟨v,?_,V⟩;rw[D1 (by rw[<-U.1];omega),<-U.1];exact a
def ru{cs:List Value}:∀(fl:List Field){off a:Nat}(Q:Nat->List D->Prop),mE P off fl=S a->a<=z cs->
  (∀(i:Nat)(f:Field),fl[i]?=S f->∃ds,iF w ((cs.drop f.offset).take (P.cellsOf f.type)) ds/\fZ P f.type ds/\z ds=P.cellsOf f.type/\Q i ds)->
  ∃o:List (List D),z o=z fl/\(∀(i:Nat)(f:Field)(x:List D),fl[i]?=S f->o[i]?=S x->fZ P f.type x)/\off<=a/\iF w ((cs.drop off).take (a-off)) o.flatten/\∀(i:Nat)(x:List D),o[i]?=S x->Q i x
 |[],off,a,Q,h,_,_=>by
   simp only[mE,w7]at h;subst h;refine⟨[],rfl,λi f x h=>by simp at h,l8 _,?_,λi x h=>by simp at h⟩;rw[Lz,M1];exact⟨rfl,λj x h=>by simp at h⟩
 |f::fl,off,a,Q,h,b,hf=>by
   simp only[mE]at h;split at h
   .rename_i ho
    obtain⟨ds,c,d2,n,d⟩:=hf 0 f rfl;obtain⟨o,e,k,p,l,m⟩:=ru fl (λi=>Q (i+1)) h b (λi g hg=>hf (i+1) g (by simpa using hg));refine⟨ds::o,by simp[e],λi g x hg I=>?_,a7,?_,λi x I=>?_⟩
    rotate_left 2
    .cases i with
     |zero=>simp at I;subst I;exact d
     |succ i=>exact m i x YT
    .cases i with
     |zero=>simp at hg I;subst hg I;exact d2
     |succ i=>exact k i g x (by simpa using hg) YT
    .rw[E7]
     have:(cs.drop off).take (a-off)=(cs.drop f.offset).take (P.cellsOf f.type)++(cs.drop (off+P.cellsOf f.type)).take (a-(off+P.cellsOf f.type)):=by
      rw[ho,show a-off=P.cellsOf f.type+(a-(off+P.cellsOf f.type)) by omega,List.take_add,S9]
     rw[this];exact c.app l
   .cases h
def rv{sz:Nat}:∀(n:Nat){cs:List Value}{o:List (List D)},z o=n->z cs=n*sz->(∀(i:Nat)(x:List D),o[i]?=S x->iF w ((cs.drop (i*sz)).take sz) x)->iF w cs o.flatten
 |0,cs,o,hl,Z,_=>by
   obtain rfl:=z6 hl;obtain rfl:=z6 (by simpa using Z);exact⟨rfl,λj x h=>by simp at h⟩
 |n+1,cs,o,hl,Z,h=>by
   match o,hl with
   |p::ps,hl=>
     rw[<-H7 sz cs,E7];refine iF.app (by simpa using h 0 p rfl) (rv (sz:=sz) n YO (by rw[G0,Z,Nat.succ_mul];omega) λi x I=>?_);have:=h (i+1) x YT;rw[S9,show sz+i*sz=(i+1)*sz by rw[Nat.succ_mul];omega];exact this
def mF{A:Bool}{base:Nat}{sp:Nat->Bool}{ts:List TypeId}(hp:uJ P ts=T):∀(q:Nat){t:TypeId}{cs:List Value}{d:DataW H}{ps:List MemPlace},t∈ts->DataW.trod enc P w base sp A q t cs=S (d,ps)->(d.weights P t).all (·<=reachBytes)=T->
  ∃ds,iF w cs ds/\fZ P t ds/\z ds=P.cellsOf t/\eN ds<=gZ d
 |0,_,_,_,_,_,h,_=>by simp[DataW.trod]at h
 |q+1,t,cs,d,ps,ht,h,hz=>by
   have c:=x9.1 hp t ht;unfold DataW.trod at h;split at c
   .rename_i L
    rw[L]at h;simp only[I7]at c;rcases cs with _|⟨v,_|⟨v',r⟩⟩
    .simp at h
    .cases v<;>simp at h
     obtain⟨rfl,_⟩:=h;exact⟨_,.one (.bool _),.bool L _,c.symm,by simp[eN,vf,gZ]⟩
    .simp at h
   .rename_i k L
    rw[L]at h;simp only[I7]at c;rcases cs with _|⟨v,_|⟨v',r⟩⟩
    .simp at h
    .cases v<;>simp at h
     obtain⟨⟨rfl,G⟩,rfl,_⟩:=h;exact⟨_,.one (.int _ _),.int L _ G,c.symm,by simp[eN,vf,gZ]⟩
    .simp at h
   .rename_i L
    rw[L]at h;simp only[I7]at c;rcases cs with _|⟨v,_|⟨v',r⟩⟩
    .simp at h
    .cases v<;>simp at h
     rename_i s;obtain⟨hs,rfl,_⟩:=h;refine⟨[.str s.data.toList],.one ?_,.str L _ (by simpa[DataW.weights]using hz),c.symm,by simp[eN,vf,gZ]⟩;have:(Value.string s)=.string ⟨s.data.toList.toArray⟩:=a8;rw[this];exact .str _
    .simp at h
   .rename_i e L
    rw[L]at h;simp only[s5,I7,B4,J8]at c;obtain⟨⟨W,cf⟩,az⟩:=c;rcases cs with _|⟨v,_|⟨v',r⟩⟩
    .simp at h
    .cases v with
     |slice a len cap=>
       cases a with
       |none=>
         have:len=0/\cap=0:=by
          cases len<;>cases cap<;>simp at h|-
         obtain⟨rfl,rfl⟩:=this;have hd:1<=gZ d:=by cases d with|lit l=>cases l<;>simp[gZ]|_=>simp[gZ]
         exact⟨[.sl []],.one .sl0,.sl L [] a8 (λ_ h=>by cases h),W.symm,by simpa[eN,vf,iU]using hd⟩
       |some a=>
         simp only at h;split at h
         .rename_i Z
          cases he:(List.range len).mapM (λi=>(w.cells? base (a.add (i*P.cellsOf e)) (P.cellsOf e)).bind (DataW.trod enc P w base sp A q e))with
          |none=>rw[he]at h;simp at h
          |some B=>
            obtain⟨U,h2⟩:=mapM_some he;rw[he]at h;simp only[Ly,G5,I3]at h;obtain⟨rest,_,rfl,_⟩:=h;simp only[DataW.weights,L,E9,G6,s5,B4,j7]at hz;have X:z B*P.bytesOf e<=reachBytes:=D0 (L4 _ (L9 _ _)) hz.1;have a6:=lz hz.2.1
            have J:∀i,i<len->∃cs ds,w.cells? base (a.add (i*P.cellsOf e)) (P.cellsOf e)=S cs/\iF w cs ds/\fZ P e ds/\z ds=P.cellsOf e/\∃b,B[i]?=S b/\eN ds<=gZ b.1:=by
             intro i hi;obtain⟨b,Q,hb⟩:=h2 i i (by simp[hi]);cases b6:w.cells? base (a.add (i*P.cellsOf e)) (P.cellsOf e)with
             |none=>rw[b6]at hb;cases hb
             |some cd=>
               rw[b6]at hb;obtain⟨ds,g1,g2,g3,g4⟩:=mF hp q cf (d:=b.1) (ps:=b.2) hb (a6 b.1 (D6.2 ⟨b,l7 Q,rfl⟩));exact⟨cd,ds,rfl,g1,g2,g3,b,Q,g4⟩
            generalize P.cellsOf e=sz at *;obtain⟨es,hl,u⟩:=oI (p:=λi ds=>∃cs,w.cells? base (a.add (i*sz)) sz=S cs/\iF w cs ds/\fZ P e ds/\z ds=sz/\∃b,B[i]?=S b/\eN ds<=gZ b.1) len (λi hi=>let ⟨cs,ds,g⟩:=J i hi;⟨ds,cs,g⟩)
            have K:iU es<=ni (B.map (·.1)):=nj (by rw[j7,hl,U];simp) (λi x d I hd=>by
             obtain⟨_,_,_,_,_,b,hb,a1⟩:=u i x I;rw[w9,hb]at hd;cases hd;exact a1)
            refine⟨[.sl es],.one ?_,.sl L es (by rw[hl];simpa[U]using X) (λx I=>?_),W.symm,by simp only[eN,vf,gZ];omega⟩
            .by_cases b8:len=0
             .subst b8
              have:es=[]:=z6 hl;subst this;exact .sl0
             .have al:∀i(x:List D),es[i]?=S x->∀j(y:D),x[j]?=S y->∃v,w.cell? (a.add (i*sz+j))=S v/\cD (λb=>b<w.heap.size) w y v:=λi x I j y hy=>by
               obtain⟨cd,g1,g2,g3,g4,_⟩:=u i x I;obtain⟨v,cx,m⟩:=g2.2 j y hy;have:=(Ch g1).2 j v cx;refine⟨v,?_,m⟩;rw[<-this,add_add]
              obtain⟨x0,bk⟩:∃x,es[0]?=S x:=⟨_,v8 a7⟩
              obtain⟨Y,q1,q2,q3,q4,_⟩:=u 0 x0 bk;obtain⟨y0,ad⟩:∃y,x0[0]?=S y:=⟨_,v8 a7⟩
              obtain⟨v0,b1,_⟩:=al 0 x0 bk 0 y0 ad;obtain⟨b,off,E⟩:=a
              have bo:E=N:=by
               have:(⟨b,off,E⟩:Addr).add (0*sz+0)=⟨b,off,E⟩:=by simp[Addr.add]
               rw[this]at b1;cases E with
               |none=>rfl
               |some k=>
                 unfold World.cell? at b1;simp at b1;split at b1<;>simp at b1
              subst bo;rw[<-hl];refine .sl (b:=b) (off:=off) (sz:=sz) (λi j=>(w.cell? ⟨b,off+(i*sz+j),N⟩).getD undef) a7 (λ_=>by have:=World.block_lt_of_cell? w _ b1;simpa[Addr.add]using this) (λx I=>?_) (λi x I j y hy=>?_) (λi x I j y hy=>?_)
              .obtain⟨i,hi⟩:=D9 I
               obtain⟨_,_,_,_,g4,_⟩:=u i x hi;exact g4
              .obtain⟨v,hv,_⟩:=al i x I j y hy
               rw[ew]at hv;rw[C2,hv];rfl
              .obtain⟨v,hv,V⟩:=al i x I j y hy
               rw[ew]at hv;rw[hv];exact V
            .obtain⟨i,hi⟩:=D9 I
             obtain⟨_,_,_,g3,_⟩:=u i x hi;exact g3
         .cases h
     |_=>simp at h
    .simp at h
   .rename_i fs L
    simp only[s5,I7]at c;obtain⟨b',bs⟩:=c;rw[L]at h;simp only at h;split at h
    .rename_i bd
     cases hm:fs.toList.mapM (λf=>DataW.trod enc P w base sp A q f.type ((cs.drop f.offset).take (P.cellsOf f.type)))with
     |none=>rw[hm]at h;simp at h
     |some xs=>
       rw[hm]at h;simp only[A3,w7,I3]at h;obtain⟨rfl,_⟩:=h;obtain⟨U,h2⟩:=mapM_some hm;simp only[DataW.weights,L]at hz
       obtain⟨o,p1,p2,_,p4,p5⟩:=ru (w:=w) (cs:=cs) fs.toList (λi ds=>∃b,xs[i]?=S b/\eN ds<=gZ b.1) b' a7 (λi f hf=>by
        obtain⟨b,hb,O⟩:=h2 i f hf
        have af:f.type∈ts:=by
         have:=x9.1 bs f (l7 hf);exact Vt
        obtain⟨ds,g1,g2,g3,g4⟩:=mF hp q af (d:=b.1) (ps:=b.2) O (nQ hz i f.type b.1 (by rw[w9,hf];rfl) (by rw[w9,hb];rfl));exact⟨ds,g1,g2,g3,b,hb,g4⟩)
       have K:iU o<=ni (xs.map (·.1)):=nj (by rw[j7,p1,U];exact l8 _) (λi x d I hd=>by
        obtain⟨b,hb,a1⟩:=p5 i x I;rw[w9,hb]at hd;cases hd;exact a1)
       have b6:(cs.drop 0).take (P.cellsOf t-0)=cs:=by rw[D7,Nat.sub_zero,<-bd,I1]
       rw[b6]at p4;exact⟨o.flatten,p4,.struct L o p1 p2,by rw[p4.1,bd],by rw[oN];simp only[gZ];omega⟩
    .cases h
   .rename_i n e L
    simp only[s5,I7,J8]at c;obtain⟨az,cf⟩:=c;rw[L]at h;simp only at h;split at h
    .rename_i bd
     cases hm:(List.range n).mapM (λi=>DataW.trod enc P w base sp A q e ((cs.drop (i*P.cellsOf e)).take (P.cellsOf e)))with
     |none=>rw[hm]at h;simp at h
     |some xs=>
       rw[hm]at h;simp only[A3,w7,I3]at h;obtain⟨rfl,_⟩:=h;obtain⟨U,h2⟩:=mapM_some hm;simp only[DataW.weights,L]at hz;have a6:=lz hz
       have J:∀i,i<n->∃ds,iF w ((cs.drop (i*P.cellsOf e)).take (P.cellsOf e)) ds/\fZ P e ds/\z ds=P.cellsOf e/\∃b,xs[i]?=S b/\eN ds<=gZ b.1:=by
        intro i hi;obtain⟨b,hb,O⟩:=h2 i i (by simp[hi]);obtain⟨ds,g1,g2,g3,g4⟩:=mF hp q cf (d:=b.1) (ps:=b.2) O (a6 b.1 (D6.2 ⟨b,l7 hb,rfl⟩));exact⟨ds,g1,g2,g3,b,hb,g4⟩
       obtain⟨o,hl,u⟩:=oI (p:=λi ds=>iF w ((cs.drop (i*P.cellsOf e)).take (P.cellsOf e)) ds/\fZ P e ds/\z ds=P.cellsOf e/\∃b,xs[i]?=S b/\eN ds<=gZ b.1) n J
       have K:iU o<=ni (xs.map (·.1)):=nj (by rw[j7,hl,U];simp) (λi x d I hd=>by
        obtain⟨_,_,_,b,hb,a1⟩:=u i x I;rw[w9,hb]at hd;cases hd;exact a1)
       have ch:=rv (w:=w) n hl (by rw[bd,az]) (λi x I=>(u i x I).1);refine⟨o.flatten,ch,.array L o hl (λx I=>?_) (λx I=>?_),by rw[ch.1,bd],by rw[oN];simp only[gZ];omega⟩
       .obtain⟨i,hi⟩:=D9 I
        exact(u i x hi).2.2.1
       .obtain⟨i,hi⟩:=D9 I
        exact(u i x hi).2.1
    .cases h
   .cases c
def DW(a:uJ P ts=T){t:TypeId}(c:t∈ts)(Z:P.cellsOf t=1){v:Value}{d:DataW H}(U:v.oneCell'=T)
 (h:DataW.trod enc P w base sp A q t v.cells.toList=S (d,ps))(e:(d.weights P t).all (·<=reachBytes)=T):∃x,cD (λb=>b<w.heap.size) w x v/\fZ P t [x]/\vf x<=gZ d:=by
 obtain⟨ds,f,g,hl,K⟩:=mF a q c h e;rw[Z]at hl
 match ds,hl with
 |[x],_=>
   obtain⟨u,L,V⟩:=f.2 0 x rfl;have:v.cells.toList=[v]:=by cases v<;>first|rfl|(simp[Value.oneCell']at U)
   rw[this]at L;simp at L;subst L;exact⟨x,V,g,by simpa[eN]using K⟩
def LY(e:uJ P ts=T){t:TypeId}(f:t∈ts){vs:Array Value}{d:DataW H}
 (h:DataW.trod enc P w base sp A q t (Value.agg vs).cells.toList=S (d,ps))(g:(d.weights P t).all (·<=reachBytes)=T):
  ∃ds,RV (λb=>b<w.heap.size) w (.agg (ds.map .d)) (.agg vs)/\fZ P t ds/\eN ds<=gZ d:=by
 obtain⟨ds,a,j,hl,K⟩:=mF e q f h g;refine⟨ds,?_,j,K⟩;simp only[RV];refine⟨vs,rfl,by have:=a.1;simpa[Value.cells]using this.symm,λi c Z=>?_⟩;rw[w9]at Z;cases I:ds[i]? with
 |none=>rw[I]at Z;cases Z
 |some x=>
   rw[I]at Z;cases Z;obtain⟨u,L,V⟩:=a.2 i x I;exact⟨u,by simpa[Value.cells]using L,⟨x,rfl,V⟩⟩
end
end
end
section
open Go.ChangeAt Go.ChangeShapes Go.WideShapes Go.RowKit
section
section
variable{H:Type}{enc:TypeId×Value->H}
end
end
end
section
attribute[local congr]ite_cc
section
def fen(rd:Option Nat):Fence:={Fence.wide with round:=rd}
variable{o:Oper}{a:Act}{n:Nat}{ds:List Deferred}{s:St}{rd:Option Nat}{args:Array Value}{Q:Exit->Act->World->Prop}{K:St->Prop}{R:Ending->World->Prop}{next:Act->World->Prop}{p:Nat->Prop}{k:Box K}
section
variable{P:Program}{E:Nat->TI}{w:World}
def FE{f:FuncId}{w:World}(h:Calls P f args w R):CallsIn (fen rd) n P f args w R:=(callsIn_wide (n:=n)).2 h
def kU{f:FuncId}{w:World}(h:CallsIn (fen N) n P f args w R):Calls P f args w R:=(callsIn_wide (n:=n)).1 h
def Hx{a:String}{w:World}{R:Value->World->Prop}(h:Rows P a args w R):RowsIn (fen rd) n P a args w R:=
 λc b _=>let ⟨v,G,r,s⟩:=h c b;⟨v,G,r,stepsIn_wide.2 s⟩
def LZ:({a with defers:=ds}:Act).eval=a.eval:=rfl
def qF{dst:Option Nat}{v:Value}:({a with defers:=ds}:Act).put dst v = {a.put dst v with defers:=ds}:=by cases dst<;>rfl
def aW(o:Oper):Bool:=match o.op with|.defer _=>F|_=>T
def Cm(h:aW o=T):∀c,o.op≠.defer c:=by
 intro c Z;simp[aW,Z]at h
def iG(ad:aW o=T){w:World}
 (h:o.wp P a w (λb G=>b.defers=[]/\next {b with defers:=ds} G) (λe b G=>Q e {b with defers:=ds} G)):o.wpIn (fen rd) 0 P {a with defers:=ds} w next Q:=by
 unfold Oper.wp at h;refine⟨λ_ _=>trivial,?_⟩;rw[Oper.semAt_eq _ _ _ (Cm ad),LZ];generalize (execOp a.eval o).run P w=r at *;have J:LetsOut (λe b G=>Q e {b with defers:=ds} G)->LetsOut Q:=λ⟨a,w,h⟩=>⟨_,w,h⟩
 cases r with
 |ok x G=>
   cases x with
   |value v=>simp only[Oper.upon,Oper.uponIn]at h|-;rw[qF];exact h.2
   |skip=>simp only[Oper.upon,Oper.uponIn]at h|-;rw[qF];exact h.2
   |enter f args=>
     simp only[Oper.upon,Oper.uponIn]at h|-;refine⟨λh=>(by cases h),FE (h.mono λe H c=>?_)⟩;cases e with
     |returned v=>simp only at c|-;rw[qF];exact c.2
     |panicked g=>exact c
     |outgrown=>exact J c
   |row row args=>
     simp only[Oper.upon,Oper.uponIn]at h|-;refine⟨λh=>(by cases h),Hx (h.mono λv H c=>?_)⟩;rw[qF];exact c.2
   |defer d=>
     simp only[Oper.upon]at h;have:=h.1;cases hd:o.dst<;>rw[hd]at this<;>simp[Act.put]at this
   |_=>simp only[Oper.upon]at h
 |halt x G=>
   cases x<;>simp only[Oper.upon,Oper.uponIn]at h|-;exact h
end
abbrev fT:=List PanicEntry->St->Prop
def vn:fT:=λ_ _=>False
def Hy(P:Program)(rd:Option Nat)(O:Bs)(i:St->Loc->List Deferred->World->Prop)(q:fT)(o:Oper)(s:St)(R:St->Prop):Prop:=∀(al:Nat)(β:Loc)(a:Act)(ds:List Deferred)(w:World),Rel O al s β a w->i s β ds w->(∀d,o.dst=S d->d<al)->
 ∀(next:Act->World->Prop)(Q:Exit->Act->World->Prop),(∀W A b G,R W->Rel O al W A b G->i W A ds G->next {b with defers:=ds} G)->(∀c W A b G,q c W->Rel O al W A b G->i W A ds G->Q (.panic c) {b with defers:=ds} G)->o.wpIn (fen rd) 0 P {a with defers:=ds} w next Q
def Eb(O:Bs)(al:Nat)(i:St->Loc->List Deferred->World->Prop)(q:fT)(Q:Exit->St->Prop)(e:Exit)(d:Act)(G:World):Prop:=
 ∃W A b H,d = {b with defers:=H}/\(Q e W\/∃c,e=.panic c/\q c W)/\Rel O al W A b G/\i W A H G
def Eb.plain{O:Bs}{al:Nat}{i:St->Loc->List Deferred->World->Prop}{Q:Exit->St->Prop}{e:Exit}{b:Act}{G:World}(h:Eb O al i vn Q e b G):∃W A a0 H,b = {a0 with defers:=H}/\Q e W/\Rel O al W A a0 G/\i W A H G:=by
 obtain⟨W,A,a0,H,U,c,d⟩:=h;exact⟨W,A,a0,H,U,c.resolve_right (λ⟨_,_,h⟩=>h),d⟩
def Hz(P:Program)(rd:Option Nat)(O:Bs)(i:St->Loc->List Deferred->World->Prop)(q:fT)(c:Code)(s:St)(R:Exit->St->Prop):Prop:=∀(al:Nat)(β:Loc)(a:Act)(ds:List Deferred)(w:World),codeOk al c=T->Rel O al s β a w->i s β ds w->
 c.wpIn (fen rd) 0 P (Eb O al i q R) {a with defers:=ds} w
def spF(P:Program)(rd:Option Nat)(O:Bs)(i:St->Loc->List Deferred->World->Prop)(B:Nat)(q:fT):Sp:=⟨Hy P rd O i q,Hz P rd O i q,ai,B⟩
@[go_sem]def Uv(P:Program)(rd:Option Nat)(O:Bs)(i:St->Loc->List Deferred->World->Prop)(B:Nat)(q:fT):(spF P rd O i B q).base=B:=B9 rfl rfl
def bp(O:Bs)(i:St->Loc->List Deferred->World->Prop):Prop:=∀s β ds w W A G,i s β ds w->Tr O β s w A W G->i W A ds G
section
variable{P:Program}{E:Nat->TI}{O:Bs}{w:World}{rd:Option Nat}{i:St->Loc->List Deferred->World->Prop}{q:fT}{B:Nat}
def vo.toF(a6:bp O i)(ad:aW o=T){R:St->Prop}(h:vo P o s R):Hy P rd O i q o s R:=by
 intro al c a ds w V X hd next Q d _;exact iG ad (h O al c a w V hd _ _ (λW A e G f b g=>⟨b.defers,d W A e G f b (a6 _ _ _ _ _ _ _ X g)⟩))
def xu(a6:bp O i)(ad:aW o=T)(h:bC (spB P B) o s k):bC (spF P rd O i B q) o s k:=
 let ⟨R,U,b⟩:=h
 ⟨R,U.toF a6 ad,b⟩
def Qw{ar:Sp}(h:opA ar E o s k):opA (spB P ar.base) E o s k\/bC ar o s k:=by
 obtain⟨d,op,ty,g,i,gd⟩:=o;cases op with
 |buildSlice=>cases d<;>first|exact .inl h|exact .inr h
 |makeSlice=>cases d<;>first|exact .inl h|exact .inr h
 |box=>cases d<;>first|exact .inl h|exact .inr h
 |alloc=>cases d<;>first|exact .inl h|exact .inr h
 |makeMap t r=>cases r<;>cases d<;>first|exact .inl h|exact .inr h
 |slice t x H j e=>cases e<;>first|exact .inl h|exact .inr h
 |indexAddr t x l=>cases x<;>first|exact .inr h|exact .inl h
 |makeFunc f=>cases f<;>first|exact .inl h|exact .inr h
 |call c=>
   obtain⟨callee,args,tys⟩:=c;cases callee with
   |value f=>exact .inr h
   |invoke r m=>exact .inr h
   |builtin b=>cases b<;>first|exact .inl h|exact .inr h|(cases d<;>first|exact .inl h|exact .inr h)
 |_=>first|exact .inl h|exact .inr h
def np(hT:bu P E)(a6:bp O i){al:Nat}{β:Loc}(V:Rel O al s β a w)(X:i s β ds w)(ad:aW o=T)(hd:∀d,o.dst=S d->d<al)(h:opA (spF P rd O i B q) E o s k)
(f:∀W A b G,K W->Rel O al W A b G->i W A ds G->next {b with defers:=ds} G)(I:∀g W A b G,q g W->Rel O al W A b G->i W A ds G->Q (.panic g) {b with defers:=ds} G):o.wpIn (fen rd) 0 P {a with defers:=ds} w next Q:=by
 rcases Qw (P:=P) h with h|⟨R,j,J⟩
 .exact iG ad (mN hT V hd h (λW A b G U c e=>⟨c.defers,f W A b G U c (a6 _ _ _ _ _ _ _ X e)⟩))
 .exact j al β a ds w V X hd next Q (λW A b G U c e=>f W A b G (J W U) c e) I
def jZ(hT:bu P E)(a6:bp O i){al:Nat}{ops:Array Oper}{ds:List Deferred}{Q:Exit->Act->World->Prop}{K:St->Prop}{k:Box K}:∀(l:List Oper){s:St}{β:Loc}{a:Act}{w:World},Rel O al s β a w->i s β ds w->l.all aW=T->fX al l=T->wpO (spF P rd O i B q) E ops l s k->
  (∀W A c G,K W->Rel O al W A c G->i W A ds G->Q .normal {c with defers:=ds} G)->(∀I W A c G,q I W->Rel O al W A c G->i W A ds G->Q (.panic I) {c with defers:=ds} G)->wpListIn (fen rd) 0 P ops Q l {a with defers:=ds} w
 |[],s,β,a,w,V,X,_,_,h,m,_=>m s β a w h V X
 |o::rest,s,β,a,w,V,X,e,ar,h,m,hX=>by
   obtain⟨hd,g⟩:=kx ar;simp only[E9,s5]at e;unfold wpO at h;unfold wpListIn;cases hg:o.guard with
   |none=>
     rw[hg]at h;simp only at h;rw[l9 (by simp[Region.wanted,hg])];exact np hT a6 V X e.1 hd h (λW A c G U u y=>jZ hT a6 rest u y e.2 g U m hX) hX
   |some p=>
     obtain⟨j,t⟩:=p;rw[hg]at h;simp only at h;obtain⟨d,J,h⟩:=aU h;unfold mZ at h;split at h
     .rename_i b r
      have hy:=V.yielded J r;have h:=ka h;have L:=V.reput r;have Y:i {s with f:=upd s.f d (bv b)} β ds w:=a6 _ _ _ _ _ _ _ X (Tr.same rfl rfl rfl);by_cases hw:b=t
      .rw[l9 hw]at h
       rw[l9 Yw];exact np hT a6 L Y e.1 hd h (λW A c G U u y=>jZ hT a6 rest u y e.2 g U m hX) hX
      .rw[j9 hw]at h
       rw[j9 Yw];have H:=L.put hd (x:=uv) (v:=undef) cZ;refine⟨λ_ _=>trivial,?_⟩;rw[qF];exact jZ hT a6 rest H (a6 _ _ _ _ _ _ _ Y (Tr.same (St.put_gen _ _ _) (St.put_obj _ _ _) rfl)) e.2 g h m hX
     .rename_i r
      have hy:=V.yielded_u J r;rw[j9 YX];have H:=V.put hd (x:=uv) (v:=undef) cZ;refine⟨λ_ _=>trivial,?_⟩;rw[qF];exact jZ hT a6 rest H (a6 _ _ _ _ _ _ _ X (Tr.same (St.put_gen _ _ _) (St.put_obj _ _ _) rfl)) e.2 g h m hX
     .exact Vs
def xv(h:∃m,p m):∃m,p m/\∀k,p k->m<=k:=by
 obtain⟨m,c⟩:=h
 induction m using Nat.strongRecOn with
 |ind m d=>
   by_cases hl:∃k,k<m/\p k
   .obtain⟨k,b,e⟩:=hl
    exact d k b e
   .exact⟨m,c,λk b=>Nat.le_of_not_lt λf=>hl ⟨k,f,b⟩⟩
open Classical in
noncomputable def leastOf(p:Nat->Prop):Nat:=if h:∃m,p m then Classical.choose (xv h)else 0
def leastOf_spec(h:∃m,p m):p (leastOf p)/\∀k,p k->leastOf p<=k:=by
 unfold leastOf;rw[dif_pos h];exact Classical.choose_spec (xv h)
def uy{b6:Fence}{w:World}{c:Code}(I:Nat->Act->World->Prop)(k:Nat)(d:I k a w)
 (b:∀m a w,I m a w->c.wpIn b6 n P (Exit.then (λf G=>∃m',m'<m/\I m' f G) Q) a w):(Code.loop c).wpIn b6 n P Q a w:=by
 refine wpIn_loop (λa w=>∃m,I m a w) (λa w=>leastOf λm=>I m a w) ⟨k,d⟩ (λa w h=>?_);refine wpIn_mono (b _ a w (leastOf_spec h).1) (λe f G g=>?_);cases e with
 |normal=>
   obtain⟨m',i,r⟩:=g;exact⟨⟨m',r⟩,G9 ((leastOf_spec ⟨m',r⟩).2 m' r) i⟩
 |_=>exact g
end
end
end
section
section
def nh:D->Bool
 |.sl _|.iptr _=>F
 |_=>T
def kl:C->Bool
 |.d x=>nh x
 |_=>F
def dS:AV->Bool
 |.one c=>kl c
 |.agg cs=>cs.all kl
 |.tup a=>a.all λt=>match t with|.one c=>kl c|_=>F
 |.junk=>F
 |.exact _=>F
variable{s:St}{args:Array Operand}{tys:Array TypeId}{R:AV->Prop}{xs:List AV}
section
variable{P:Program}{E:Nat->TI}{O:Bs}{β:Loc}{w:World}
def cD.of_scalar{J K:Nat->Prop}{w G:World}{x:D}{v:Value}(a:nh x=T)(h:cD J w x v):cD K G x v:=by
 cases h<;>first|(exfalso;simp[nh]at a;done)|constructor
def RVc.of_scalar{J K:Nat->Prop}{w G:World}{c:C}{v:Value}(a:kl c=T)(h:RVc J w c v):RVc K G c v:=by
 obtain⟨x,rfl,I⟩:=h;exact⟨x,rfl,I.of_scalar a⟩
def RVs.of_scalar{J K:Nat->Prop}{w G:World}:∀{ts:List AV}{vs:List Value},(ts.all λt=>match t with|.one c=>kl c|_=>F)=T->RVs J w ts vs->RVs K G ts vs
 |[],_,_,h=>by simp only[RVs]at h|-;exact h
 |t::ts,vs,a,h=>by
   simp only[E9,s5]at a;simp only[RVs]at h|-;obtain⟨u,b,rfl,U,d⟩:=h;refine⟨u,b,rfl,?_,RVs.of_scalar a.2 d⟩;cases t with
   |one c=>simp only[RV]at U|-;exact RVc.of_scalar a.1 U
   |_=>simp at a
def RV.of_scalar{J K:Nat->Prop}{w G:World}{x:AV}{v:Value}(a:dS x=T)(h:RV J w x v):RV K G x v:=by
 cases x with
 |one c=>simp only[RV]at h|-;exact RVc.of_scalar a h
 |agg cs=>
   simp only[RV]at h|-;obtain⟨vs,U,b,d⟩:=h;simp only[dS,x9]at a;exact⟨vs,U,b,λi c Z=>let ⟨u,hu,V⟩:=d i c Z;⟨u,hu,V.of_scalar (a c (l7 Z))⟩⟩
 |tup e=>
   simp only[RV]at h|-;obtain⟨vs,U,b⟩:=h;exact⟨vs,U,RVs.of_scalar a b⟩
 |junk=>simp[dS]at a
 |exact=>simp[dS]at a
def Fy{o:Oper}{f:FuncId}(ho:o.op=.call ⟨.value (.func f),args,tys⟩)
 (I:dU s (args.toList.map s.ev) xs)(b:aJ P f xs R)(hd:∀r,R r->dS r=T):vo P o s (λW=>∃r,R r/\W=s.put o.dst r):=by
 intro O al β a w V c next Q g;unfold Oper.wp;rw[ky ho b.1 w];simp only[Oper.upon]
 have m:∀(l:List Operand)(xs:List AV),dU s (l.map s.ev) xs->RVs (Own O w) w xs (l.map a.eval):=by
  intro l
  induction l with
  |nil=>intro xs h;simp only[x7,dU]at h;subst h;simp only[x7,RVs]
  |cons x l i=>
    intro xs h;simp only[s6,dU]at h;obtain⟨r,j,rfl,U,k⟩:=h;simp only[s6,RVs];exact⟨_,_,rfl,U.rep V (V.ev x),i j k⟩
 have:=b.2 (Own O w) w (args.toList.map a.eval) (λ_ h=>h.1) (m _ _ I);rw[show (args.toList.map a.eval).toArray=args.map a.eval from J7 a8]at this;refine this.mono λe G⟨v,r,p,d,q,t,n,u⟩=>?_;subst p;obtain⟨y,A⟩:=V.grow q t n;exact g _ β _ G ⟨r,d,rfl⟩ (y.put c (RV.rep r (RV.of_scalar (hd r d) u))) (A.trans (Tr.same (St.put_gen _ _ _) (St.put_obj _ _ _) rfl))
def sD{o:Oper}{K:St->Prop}{k:Box K}{f:FuncId}(ho:o.op=.call ⟨.value (.func f),args,tys⟩)
 (I:dU s (args.toList.map s.ev) xs)(a:aJ P f xs R)(hd:∀r,R r->dS r=T)(b:∀r,R r->K (s.put o.dst r)):bC (sp P) o s k:=
 ⟨_,Fy ho I a hd,λ_⟨r,V,e⟩=>e▸b r V⟩
def rr{A:Type}{id g off len:Nat}{cells:List C}(hg:s.gen id=g)(ho:s.obj id=S cells)(l:List A)(enc:A->D)(f:∀a,iC (enc a)=enc a)(bd:z l=len)
 (Z:∀(j:Nat)(a:A),l[j]?=S a->cells[off+j]?=S (.d (enc a)))(Q:off+len<=z cells):Frz s (.osl id g 1 off len) (.sl (l.map λa=>[enc a])):=by
 have c:(l.map λa=>[enc a]).flatten=l.map enc:=by
  clear bd Z
  induction l with
  |nil=>rfl
  |cons a l i=>simp[i]
 refine .osl hg ho a7 (by simpa using bd) (λe k=>by obtain⟨a,_,rfl⟩:=D6.1 k;rfl) (λj=>(cells[off+j]?).getD (.d .nsl)) (λj x I=>?_) (λj x I=>?_)
 .rw[c,w9]at I
  cases b:l[j]? with
  |none=>rw[b]at I;cases I
  |some a=>rw[Z j a b];rfl
 .rw[c,w9]at I
  cases b:l[j]? with
  |none=>rw[b]at I;cases I
  |some a=>
    rw[b]at I;simp only[A3,w7]at I;subst I;rw[Z j a b];have:=Frz.d (s:=s) (enc a);rw[f]at this;exact this
end
end
def ai.trans{s d b:St}(h:ai s d)(q:ai d b):ai s b:=λO al β a w V=>by
 obtain⟨l,c,e⟩:=h O al β a w V;obtain⟨f,g,i⟩:=q O al l a w c;exact⟨f,g,e.trans i⟩
def St.grab(s:St)(t id sz:Nat):St:=
 {f:=upd s.f t (.one (.osl id (s.gen id+1) sz 0 0)),gen:=upd s.gen id (s.gen id+1),obj:=upd s.obj id (S [])}
def pL{s:St}{t id sz:Nat}(u:s.f t=.one (.d .nsl)):ai s (s.grab t id sz):=by
 intro O al n a w V
 let A:Loc:=λi=>if i=id then N else n i
 have q:fE O n s.gen s.obj w A (s.grab t id sz).gen (s.grab t id sz).obj w:=by
  refine⟨λx I=>⟨⟨I.1,I.2.1,λi o b bs=>?_⟩,rfl⟩,λi=>?_,λi p b=>?_⟩
  .simp only[St.grab,upd,A]at b bs
   split at bs
   .cases bs
   .rename_i c
    simp only[c,B1]at b;exact I.2.2 i o b bs
  .simp only[St.grab,upd];split
   .rename_i h;subst h;omega
   .omega
  .simp only[St.grab,upd,A]at p b|-
   by_cases c:i=id
   .subst c;simp at p
   .simp only[c,B1]at b|-
    exact⟨b,trivial,λo Q v y B U=>⟨v,y,B,U,l8 _⟩⟩
 refine⟨A,⟨V.defers,V.size,λi=>?_,λi l m=>?_,λE G H J U j e g K=>?_,V.base⟩,l8 _,λ_ _=>rfl,q,rfl,rfl⟩
 .by_cases r:i=t
  .subst r
   have k:=V.f i;rw[u]at k;simp only[ak,aK]at k;rw[k.inv_nsl];simp only[St.grab,upd,B5,ak,aK];refine⟨rfl,l8 _,λ_ _=>?_⟩;simp only[A,B5];exact⟨rfl,rfl⟩
  .have:=ak.keep q _ (V.f i)
   simpa only[St.grab,upd,r,B1]using this
 .simp only[St.grab,upd,A]at m|-
  by_cases c:i=id
  .simp only[c,B5,w7]at m|-
   subst m;rfl
  .simp only[c,B1]at m|-
   exact(V.obj i l m).keep q (λ_ _=>rfl)
 .simp only[St.grab,upd,A]at U j e g
  split at e
  .cases e
  .split at g
   .cases g
   .rename_i L P
    simp only[L,P,B1]at U j;exact V.inj E G H J U j e g K
section
inductive iz (P:Nat->Prop) (s:St):C->D->Prop where
 |d (x:D):iz P s (.d x) x
 |nil:iz P s (.d .nsl) (.sl [])
 |osl {id g sz off len:Nat}{cells:List C}{es:List (List D)} (hp:P id) (hg:s.gen id=g) (ho:s.obj id=some cells) (Q:off+len*sz<=cells.length) (bd:es.length=len) (az:∀e∈es,e.length=sz)
    (k:Nat->C) (Z:∀(j:Nat)(x:D),es.flatten[j]?=some x->cells[off+j]?=some (k j)) (hf:∀(j:Nat)(x:D),es.flatten[j]?=some x->iz P s (k j) x):iz P s (.osl id g sz off len) (.sl es)
variable{P:Nat->Prop}
section
variable{O:Bs}{β:Loc}{w:World}
def iz.rep{al:Nat}{s:St}{a:Act}{Y:Obs}(n:∀id,(Y id).isSome=T->(s.obj id).isSome=T/\¬P id)(V:Rel O al s β a w){c:C}{x:D}(h:iz P s c x):
  ∀{v:Value},aK O β s.gen s.obj w c v->cD (Imm O β Y w) w x v:=by
 induction h with
 |d x=>
   intro v q;have q:cD (Imm O β s.obj w) w x v:=q;exact q.mono λb A=>⟨⟨A.1,A.2.1,λid J ho av=>A.2.2 id J (n id ho).1 av⟩,rfl⟩
 |nil=>
   intro v q;have q:cD (Imm O β s.obj w) w .nsl v:=q;rw[q.inv_nsl];exact .sl0
 |osl K W ho Q hlen az k Z hf ih=>
   rename_i id g sz off len y es;intro v q;have b6:=ig q W ZD;have B:=V.obj id y ho;cases av:β id with
   |none=>
     exact VT
   |some t=>
     rw[av]at b6 B;obtain⟨X,b6⟩:=b6;obtain⟨hB,arr,el,H,hi,r,ar,bl,ca⟩:=B.cells X;rcases b6 with⟨af,rfl,cy,_⟩|⟨b8,o,rfl⟩
     .rw[<-hlen]
      have l:∀i e,es[i]?=S e->∀j x,e[j]?=S x->es.flatten[i*sz+j]?=S x:=λi e he j x I=>by
       exact hV
      have E:∀m x,es.flatten[m]?=S x->∃u,w.cell? ⟨t.block,t.off+off+m,N⟩=S u/\cD (Imm O β Y w) w x u:=λm x I=>by
       exact W8
      have hJ:Imm O β Y w t.block:=⟨(E5.1 r).1,λh=>absurd hB a7,λbs a2 cv G he=>by
       obtain⟨U,h2⟩:=n bs cv;exact h2 (V.inj bs id a2 t U ZD G av he▸K)⟩
      refine .sl (b:=t.block) (off:=t.off+off) (sz:=sz) (λi j=>(w.cell? ⟨t.block,t.off+off+(i*sz+j),N⟩).getD undef) a7 (λ_=>hJ) az (λi e he j x I=>?_) (λi e he j x I=>?_)
      .obtain⟨u,L,_⟩:=E _ x (l i e he j x I)
       rw[C2,L];rfl
      .obtain⟨u,L,f⟩:=E _ x (l i e he j x I)
       rw[L];exact f
     .subst b8
      have:es=[]:=z6 hlen;subst this;exact .sl0
def Ci{s:St}{R t:C->Value->Prop}(q:∀c v,R c v->t c v)(b:∀c x v,R c v->iz P s c x->t (.d x) v){kd:TypeDesc}:
  ∀{cells:List C}{es:List MapEntry}{l:List C},eA R kd cells es->z l=z cells->(∀(j:Nat)(c c':C),cells[j]?=S c->l[j]?=S c'->c'=c\/∃x,iz P s c x/\c'=.d x)->eA t kd l es:=by
 intro cells es l h
 induction h generalizing l with
 |nil=>intro hl _;rw[z6 hl];exact .nil
 |cons a U g _ i=>
   rename_i k c e y es _;intro hl Z
   match l,hl with
   |m::c'::A,hl=>
     have n:=Z 0 _ _ rfl rfl
     have f:m=.d k:=by
      rcases n with rfl|⟨x,I,rfl⟩
      .rfl
      .cases I with
       |d=>rfl
       |nil=>exfalso;cases kd<;>simp[iK]at a
     subst f;refine .cons a U ?_ (i YO (λj o p r u=>Z (j+2) o p (by simpa using r) (by simpa using u)));rcases Z 1 _ _ rfl rfl with rfl|⟨x,I,rfl⟩
     .exact q _ _ g
     .exact b _ _ _ g I
def iz.repM{s W:St}{A:Loc}(q:fE O β s.gen s.obj w A W.gen W.obj w)(b:∀{c:C}{x:D}{v:Value},aK O β s.gen s.obj w c v->iz P s c x->cD (Imm O A W.obj w) w x v){kd:Nat}{c:C}{x:D}{v:Value}
 (h:jN O β s.gen s.obj w kd c v)(I:iz P s c x):jN O A W.gen W.obj w kd (.d x) v:=by
 by_cases a:kd<200
 .rw[yB a]at h|-
  exact b h I
 .have e:=h.keep q
  unfold jN at h;rw[j9 a]at h;obtain⟨ds,vs,rfl,_⟩:=h;cases I;exact e
def xq(P:Nat->Prop){s W:St}(hg:W.gen=s.gen)
 (hf:∀i,W.f i=s.f i\/∃c x,s.f i=.one c/\W.f i=.one (.d x)/\iz P s c x)
 (ho:∀i l,W.obj i=S l->¬P i/\∃cells,s.obj i=S cells/\z l=z cells/\∀(j:Nat)(c c':C),cells[j]?=S c->l[j]?=S c'->c'=c\/∃x,iz P s c x/\c'=.d x):ai s W:=by
 intro O al β a w V
 have n:∀id,(W.obj id).isSome=T->(s.obj id).isSome=T/\¬P id:=λid h=>by
  cases G:W.obj id with
  |none=>rw[G]at h;cases h
  |some l=>
    obtain⟨U,cells,e,_⟩:=ho id l G;exact⟨by rw[e];rfl,U⟩
 have q:fE O β s.gen s.obj w β W.gen W.obj w:=
  ⟨λb y=>⟨⟨y.1,y.2.1,λid J U e=>y.2.2 id J (n id U).1 e⟩,rfl⟩,λ_=>by rw[hg];exact l8 _,
   λid _ h=>⟨(n id h).1,rfl,λJ _ arr el fr U=>⟨arr,el,fr,U,l8 _⟩⟩⟩
 refine⟨β,⟨V.defers,V.size,λi=>?_,λid l m=>?_,λK L a1 a2 U e=>V.inj K L a1 a2 (n K U).1 (n L e).1,V.base⟩,l8 _,λ_ _=>rfl,q,rfl,rfl⟩
 .rcases hf i with U|⟨c,x,U,e,g⟩
  .rw[U];exact ak.keep q _ (V.f i)
  .have:=V.f i
   rw[U]at this;rw[e];exact iz.rep n V g this
 .obtain⟨_,cells,e,g,A⟩:=ho id l m
  have k:=V.obj id cells e;cases Q:β id with
  |none=>
    rw[Q]at k;have hz:cells=[]:=k;subst hz;exact z6 g
  |some ad=>
    rw[Q]at k;cases u:ad.spot with
    |some Y=>
      obtain⟨Z,⟨es,p,B,E⟩|⟨r,o,B,E⟩⟩:=k.map u
      .refine .ofMap u ⟨Z,.inl ⟨es,p,B,?_⟩⟩
       exact Ci (R:=jN O β s.gen s.obj w Y) (t:=jN O β W.gen W.obj w Y) (λ_ _=>jN.keep q) (λ_ _ _ h I=>iz.repM (P:=P) q (λh I=>iz.rep n V I h) h I) E g A
      .refine .ofMap u ⟨Z,.inr ⟨r,o,?_,E⟩⟩
       subst B
       match l,g with
       |[c'],_=>
         rcases A 0 _ _ rfl rfl with rfl|⟨x,I,rfl⟩
         .rfl
         .cases I
    |none=>
    obtain⟨g2,arr,el,H,hi,g3,g4,g5,g6⟩:=k.cells u;refine .ofCells u ⟨g2,arr,el,H,hi,g3,(by rw[hg];exact g4),a7,λj c' bl=>?_⟩;have hj:j<z cells:=by rw[<-g];exact(l6.1 bl).1
    obtain⟨v,hv,X⟩:=g6 j cells[j] (v8 hj);refine⟨v,hv,?_⟩;rcases A j cells[j] c' (v8 hj) bl with rfl|⟨x,I,rfl⟩
    .exact aK.keep q X
    .exact iz.rep n V I X
end
end
section
def gY(P:Program)(f:FuncId)(xs:List AV)(g:Nat->Nat)(ob:Obs)(R:AV->(Nat->Nat)->Obs->Prop):Prop:=
 FW P f/\∀(O:Bs)(al:Nat)(β:Loc)(a:Act)(d:Nat->AV)(w:World)(vs:List Value),Rel O al ⟨d,g,ob⟩ β a w->aS O β g ob w xs vs->
  Calls P f vs.toArray w λe G=>∃v r c Y A,e=.returned v/\R r c Y/\ak O A c Y G r v/\
   (∀id b,Y id=S b->dt O A c Y G (c id) b (A id))/\(∀id L a h,(Y id).isSome=T->(Y L).isSome=T->A id=S a->A L=S h->a.block=h.block->id=L)/\
   Tr O β ⟨d,g,ob⟩ w A ⟨d,c,Y⟩ G
def gY.mono{P:Program}{f:FuncId}{xs:List AV}{g:Nat->Nat}{ob:Obs}{R t:AV->(Nat->Nat)->Obs->Prop}(h:gY P f xs g ob R)(V:∀r g' Y,R r g' Y->t r g' Y):gY P f xs g ob t:=
 ⟨h.1,λO al β a b w vs U c=>(h.2 O al β a b w vs U c).mono λ_ _⟨v,r,g',Y,A,d,e,i⟩=>⟨v,r,g',Y,A,d,V _ _ _ e,i⟩⟩
variable{s:St}{f:FuncId}{R:AV->(Nat->Nat)->Obs->Prop}{o:Oper}{args:Array Operand}{tys:Array TypeId}{g:Nat->Nat}{K:St->Prop}{q:List PC}
section
variable{P:Program}{E:Nat->TI}{O:Bs}{β:Loc}{w:World}
def nP(f:Nat->AV):List Nat->AV
 |[t]=>f t
 |a=>.tup (a.map f)
def zK(d:List Nat)(R:AV->(Nat->Nat)->Obs->Prop):Exit->St->Prop
 |.normal,s|.ret,s=>∃W,ai s W/\R (nP W.f d) W.gen W.obj
 |_,_=>False
def aS.of_slots{al:Nat}{s:St}{a:Act}(V:Rel O al s β a w):∀ts:List Nat,aS O β s.gen s.obj w (ts.map s.f) (ts.map λt=>a.tmps.getD t undef)
 |[]=>by simp only[x7,aS]
 |t::ts=>by simp only[s6,aS];exact⟨_,_,rfl,V.f t,aS.of_slots V ts⟩
def Fz{al:Nat}{a:Act}(V:Rel O al s β a w):∀d:List Nat,ak O β s.gen s.obj w (nP s.f d) (nv a.tmps d)
 |[]=>by simp only[nP,nv,x7,ak,aS];exact⟨[],rfl,rfl⟩
 |[t]=>V.f t
 |t::b::c=>by simp only[nP,nv,ak];exact⟨_,rfl,aS.of_slots V (t::b::c)⟩
def aS.len{g:Nat->Nat}{ob:Obs}:∀{ts:List AV}{vs:List Value},aS O β g ob w ts vs->z vs=z ts
 |[],vs,h=>by simp only[aS]at h;rw[h];rfl
 |t::ts,vs,h=>by simp only[aS]at h;obtain⟨u,a,rfl,_,h⟩:=h;simp[aS.len h]
def FA(B:Nat)(hT:bu P E)(Z:P.follows .mixedOrders=T){fn:Func}{c:Code}(hf:P.funcs[f]?=S fn)(y:fn.body=S c)(hn:(fn.name == "runtime.NumGoroutine")=F)
 (d:List Nat)(a1:fn.results=(d.map ResultVar.tmp).toArray)(an:codeOk fn.ntmps c=T){xs:List AV}(m:z xs<=fn.ntmps){ob:Obs}
 (h:wpC (spB P B) E c (bx (zK d R)) ⟨dE xs,g,ob⟩):gY P f xs g ob R:=by
 refine⟨⟨fn,hf,by rw[y];rfl,hn⟩,λO al β a H w vs t hv=>?_⟩;refine calls_of_wp hf y ?_;have hl:=hv.len
 have V:Rel O fn.ntmps ⟨dE xs,g,ob⟩ β {tmps:=vs.toArray++Array.replicate (fn.ntmps-vs.toArray.size) undef,defers:=[]} w:=by
  refine⟨rfl,by simp;omega,λi=>?_,t.obj,t.inj,t.base⟩;simp only[dE];cases I:xs[i]? with
  |some x=>
    exact kb
  |none=>
    exact W4
 refine wp_mono (fc (B:=B) hT Z c an V h) (λe j G hp=>?_);obtain⟨W,A,n,u,ht⟩:=hp
 have k:zK d R .ret W->∃v,(results fn j.tmps).run P G=.ok v G/\∃X r p Y A,Ending.returned v=.returned X/\R r p Y/\ak O A p Y G r X/\
   (∀id b,Y id=S b->dt O A p Y G (p id) b (A id))/\(∀id L a j,(Y id).isSome=T->(Y L).isSome=T->A id=S a->A L=S j->a.block=j.block->id=L)/\
   Tr O β ⟨H,g,ob⟩ w A ⟨H,p,Y⟩ G:=by
  rintro⟨s2,b8,hR⟩;obtain⟨ad,Q,q⟩:=b8 O fn.ntmps A j G u;have J:=ht.trans q;exact⟨_,pg d a1 j.tmps,_,_,_,_,ad,rfl,hR,Fz Q d,Q.obj,Q.inj,⟨J.size,J.old,J.keep,J.os⟩⟩
 cases e with
 |normal=>exact⟨u.defers,k n⟩
 |ret=>exact⟨u.defers,k n⟩
 |exit id=>exact n.elim
 |goto l=>exact n.elim
 |panic ch=>exact n.elim
 |outgrown=>exact n.elim
def jF{al:Nat}{s:St}{a:Act}(V:Rel O al s β a w):∀l:List Operand,aS O β s.gen s.obj w (l.map s.ev) (l.map a.eval)
 |[]=>by simp only[x7,aS]
 |x::l=>by simp only[s6,aS];exact⟨_,_,rfl,V.ev x,jF V l⟩
def jo{al:Nat}{a:Act}(V:Rel O al s β a w){dst:Option Nat}(c:∀d,dst=S d->d<al){r:AV}{v:Value}{g':Nat->Nat}{Y:Obs}{A:Loc}{G:World}{fa:Nat->AV}
 (j:ak O A g' Y G r v)(ho:∀id cells,Y id=S cells->dt O A g' Y G (g' id) cells (A id))(k:∀id L a e,(Y id).isSome=T->(Y L).isSome=T->A id=S a->A L=S e->a.block=e.block->id=L)
 (b:Tr O β ⟨fa,s.gen,s.obj⟩ w A ⟨fa,g',Y⟩ G):Rel O al (St.put ⟨s.f,g',Y⟩ dst r) A (a.put dst v) G/\Tr O β s w A (St.put ⟨s.f,g',Y⟩ dst r) G:=by
 have h:fE O β s.gen s.obj w A g' Y G:=b.keep;have U:Rel O al ⟨s.f,g',Y⟩ A a G:=⟨V.defers,V.size,λi=>ak.keep h _ (V.f i),ho,k,D0 V.base b.size⟩
 exact⟨U.put c j,⟨b.size,b.old,by rw[St.put_gen,St.put_obj];exact h,b.os⟩⟩
def Hq(ho:o.op=.call ⟨.value (.func f),args,tys⟩)
 (b:gY P f (args.toList.map s.ev) s.gen s.obj R):vo P o s (λW=>∃r g' Y,R r g' Y/\W=St.put ⟨s.f,g',Y⟩ o.dst r):=by
 intro O al β a w V c next Q hn;unfold Oper.wp;rw[ky ho b.1 w];simp only[Oper.upon];have:=b.2 O al β a s.f w (args.toList.map a.eval) V (jF V _);rw[show (args.toList.map a.eval).toArray=args.map a.eval from J7 a8]at this;exact R3
def cJ{k:Box K}{B:Nat}(ho:o.op=.call ⟨.value (.func f),args,tys⟩)
 (b:gY P f (args.toList.map s.ev) s.gen s.obj R)(c:∀r a Y,R r a Y->K (St.put ⟨s.f,a,Y⟩ o.dst r)):bC (spB P B) o s k:=
 ⟨_,Hq ho b,λ_⟨r,a,Y,V,e⟩=>e▸c r a Y V⟩
def kT:PC->AV
 |.d x=>.one (.d x)
 |.ptr id g off=>.one (.ptr id g off)
def kP.av{ob:Obs}{p:PC}{v:Value}(h:kP O β g ob w p v):ak O β g ob w (kT p) v:=by
 cases p<;>simpa only[kT,ak,aK,kP]using h
def aS.append{g:Nat->Nat}{ob:Obs}:∀{xs Q:List AV}{vs a:List Value},aS O β g ob w xs vs->aS O β g ob w Q a->aS O β g ob w (xs++Q) (vs++a)
 |[],Q,vs,a,h,q=>by simp only[aS]at h;subst h;exact q
 |x::xs,Q,vs,a,h,q=>by
   simp only[aS]at h;obtain⟨u,c,rfl,U,b⟩:=h;simp only[C6,aS];exact⟨_,_,rfl,U,aS.append b q⟩
def oJ{g:Nat->Nat}{ob:Obs}:∀{q:List PC}{vs:List Value},z vs=z q->(∀(i:Nat)(pc:PC),q[i]?=S pc->∃u,vs[i]?=S u/\kP O β g ob w pc u)->aS O β g ob w (q.map kT) vs
 |[],vs,hl,_=>by simp only[x7,aS];exact z6 hl
 |p::q,vs,hl,h=>by
   match vs,hl with
   |u::us,hl=>
     simp only[s6,aS];obtain⟨a,L,V⟩:=h 0 p rfl;simp at L;subst L;exact⟨_,_,rfl,V.av,oJ YO (λi pc hi=>by simpa using h (i+1) pc YV)⟩
def Hr{t:Nat}(ho:o.op=.call ⟨.value (.tmp t),args,tys⟩)(hf:s.f t=.one (.clo f q))
 (hp:gY P f (args.toList.map s.ev++q.map kT) s.gen s.obj R)(az:f<1000000:=by decide):vo P o s (λW=>∃r g' Y,R r g' Y/\W=St.put ⟨s.f,g',Y⟩ o.dst r):=by
 intro O al β a w V c next Q hn;have hv:=V.f t;rw[hf]at hv;simp only[ak,aK]at hv;obtain⟨vs,cx,m,j⟩:=hv;rw[uI az]at cx
 have bz:(execOp a.eval o).run P w=.ok (.enter f (args.map a.eval++vs)) w:=by
  exact k6
 unfold Oper.wp;rw[bz];simp only[Oper.upon];have Z:aS O β s.gen s.obj w (q.map kT) vs.toList:=oJ ZL (λi pc hi=>let ⟨u,U,h2⟩:=j i pc hi;⟨u,by simpa using U,h2⟩);have:=hp.2 O al β a s.f w (args.toList.map a.eval++vs.toList) V ((jF V _).append Z);rw[show (args.toList.map a.eval++vs.toList).toArray=args.map a.eval++vs from J7 a8]at this;exact R3
def Hs{k:Box K}{B:Nat}{t:Nat}(ho:o.op=.call ⟨.value (.tmp t),args,tys⟩)(hf:s.f t=.one (.clo f q))
(hp:gY P f (args.toList.map s.ev++q.map kT) s.gen s.obj R)(hk:∀r g' Y,R r g' Y->K (St.put ⟨s.f,g',Y⟩ o.dst r))(az:f<1000000:=by decide):bC (spB P B) o s k:=
 ⟨_,Hr ho hf hp az,λ_⟨r,g',Y,V,e⟩=>e▸hk r g' Y V⟩
end
end
end
section
attribute[local congr]ite_cc
section
inductive yx (B:Nat) (s:St):AV->AV->Prop where
 |one {c:C}{x:D} (h:iz (B<=·) s c x):yx B s (.one c) (.one (.d x))
 |agg {cs:List C}{xs:List D} (hl:xs.length=cs.length) (h:∀(i:Nat)(c:C),cs[i]?=some c->∃x,xs[i]?=some x/\iz (B<=·) s c x):yx B s (.agg cs) (.agg (xs.map .d))
def eH(B:Nat)(s:St):List AV->List AV->Prop
 |[],rs=>rs=[]
 |t::a,rs=>∃r o,rs=r::o/\yx B s t r/\eH B s a o
def Qs(B:Nat)(g:Nat->Nat)(ob:Obs)(d:List Nat)(R:AV->Prop):Exit->St->Prop
 |.normal,s|.ret,s=>(∀i,i<B->s.gen i=g i)/\(∀i,i<B->s.obj i=ob i)/\
   match d with
   |[t]=>∃r,yx B s (s.f t) r/\R r
   |b=>∃a,eH B s (b.map s.f) a/\R (.tup a)
 |_,_=>False
variable{s:St}{R:AV->Prop}{B:Nat}{B0:Nat}{Q:Exit->St->Prop}{K:St->Prop}{q:Box Q}
section
variable{P:Program}{E:Nat->TI}{O:Bs}{β:Loc}{w:World}
def yx.rep{B al:Nat}{s:St}{a:Act}{Y:Obs}(n:∀id,(Y id).isSome=T->(s.obj id).isSome=T/\¬B<=id)(V:Rel O al s β a w){x r:AV}(h:yx B s x r){v:Value}(g:ak O β s.gen s.obj w x v){g':Nat->Nat}{A:Loc}(av:∀id,(Y id).isSome=T->A id=β id):ak O A g' Y w r v:=by
 have J:∀b,Imm O β Y w b->Imm O A Y w b/\w.heap[b]?=w.heap[b]?:=λb k=>⟨⟨k.1,k.2.1,λid a ho m=>k.2.2 id a ho (by rw[<-av id ho];exact m)⟩,rfl⟩
 cases h with
 |one h=>
   simp only[ak]at g|-;simp only[aK];exact(iz.rep n V h g).mono J
 |agg hl h=>
   rename_i o p;simp only[ak]at g|-;obtain⟨vs,U,t,G⟩:=g;refine⟨vs,U,by rw[t,j7,hl],λi c Z=>?_⟩;rw[w9]at Z;cases j:p[i]? with
   |none=>rw[j]at Z;cases Z
   |some y=>
     rw[j]at Z;simp only[A3,w7]at Z;subst Z;have l:i<z o:=by rw[<-hl];exact(l6.1 j).1
     obtain⟨u,L,f⟩:=G i _ (v8 l);obtain⟨e,d,H⟩:=h i _ (v8 l);have:e=y:=by simpa[d]using j
     subst this;refine⟨u,L,?_⟩;simp only[aK];exact(iz.rep n V H f).mono J
def eH.rep{B al:Nat}{s:St}{a:Act}{Y:Obs}(n:∀id,(Y id).isSome=T->(s.obj id).isSome=T/\¬B<=id)(V:Rel O al s β a w){g':Nat->Nat}{A:Loc}(av:∀id,(Y id).isSome=T->A id=β id):
  ∀(b:List Nat){c:List AV},eH B s (b.map s.f) c->aS O A g' Y w c (b.map λt=>a.tmps.getD t undef)
 |[],c,h=>by simp only[x7,eH]at h;subst h;simp only[x7,aS]
 |t::b,c,h=>by
   simp only[s6,eH]at h;obtain⟨r,o,rfl,U,d⟩:=h;simp only[s6,aS];exact⟨_,_,rfl,U.rep n V (V.f t) av,eH.rep n V av b d⟩
def aK.back{A:Loc}{g g':Nat->Nat}{ob Y:Obs}{w G:World}(hl:∀id,(ob id).isSome=T->g' id=g id/\A id=β id/\(Y id).isSome=T)(J:∀b,Imm O A Y G b->Imm O β ob G b)
 {c:C}{v m:Value}(h:aK O A g' Y G c v)(h0:aK O β g ob w c m):aK O β g ob G c v:=by
 cases c with
 |d x=>exact cD.mono h λb k=>⟨J b k,rfl⟩
 |osl id g1 sz off len=>
   exact tz
 |ptr id g1 off=>
   exact tz
 |mp id g1 H=>
   exact tz
 |lsl n=>exact h
 |raw o=>exact h.elim
 |clo f q=>
   obtain⟨vs,U,p,r⟩:=h;obtain⟨e,_,_,a⟩:=h0;refine⟨vs,U,p,λi pc l=>?_⟩;obtain⟨u,L,V⟩:=r i pc l;obtain⟨j,_,t⟩:=a i pc l;refine⟨u,L,?_⟩;cases pc with
   |d x=>exact cD.mono V λb k=>⟨J b k,rfl⟩
   |ptr id g1 off=>
     refine⟨V.1,t.2.1,λhg ho=>?_⟩;obtain⟨l1,l2,y⟩:=hl id ho;rw[<-l2];exact V.2.2 (by rw[l1];exact hg) y
def eA.back{R b t:C->Value->Prop}{kd:TypeDesc}{cs:List C}{es a6:List MapEntry}(h:eA R kd cs es)(d:eA b kd cs a6)(V:∀c v e,R c v->b c e->t c v):eA t kd cs es:=by
 induction h generalizing a6 with
 |nil=>exact .nil
 |cons f U g _ i=>
   cases d with
   |cons _ _ a l=>exact .cons f U (V _ _ _ g a) (i l)
def Cj(B:Nat)(hT:bu P E)(hm:P.follows .mixedOrders=T){f:FuncId}{fn:Func}{c:Code}(hf:P.funcs[f]?=S fn)(hb:fn.body=S c)(hn:(fn.name == "runtime.NumGoroutine")=F)
 (d:List Nat)(a1:fn.results=(d.map ResultVar.tmp).toArray)(an:codeOk fn.ntmps c=T){xs:List AV}(m:z xs<=fn.ntmps){g:Nat->Nat}{ob:Obs}(hB:∀i,B<=i->ob i=N)
 (h:wpC (spB P B) E c (bx (Qs B g ob d R)) ⟨dE xs,g,ob⟩):gY P f xs g ob (λr g' Y=>R r/\g'=g/\Y=ob):=by
 refine⟨⟨fn,hf,by rw[hb];rfl,hn⟩,λO al β a fa w vs b2 hv=>?_⟩;refine calls_of_wp hf hb ?_;have hl:=hv.len
 have V:Rel O fn.ntmps ⟨dE xs,g,ob⟩ β {tmps:=vs.toArray++Array.replicate (fn.ntmps-vs.toArray.size) undef,defers:=[]} w:=by
  refine⟨rfl,by simp;omega,λi=>?_,b2.obj,b2.inj,b2.base⟩;simp only[dE];cases I:xs[i]? with
  |some x=>
    exact kb
  |none=>
    exact W4
 refine wp_mono (fc (B:=B) hT hm c an V h) (λe a' G hp=>?_);obtain⟨W,A,hQ,bf,ht⟩:=hp
 have k:Qs B g ob d R .ret W->∃v,(results fn a'.tmps).run P G=.ok v G/\∃v' r g' Y A,Ending.returned v=.returned v'/\(R r/\g'=g/\Y=ob)/\ak O A g' Y G r v'/\
   (∀id bs,Y id=S bs->dt O A g' Y G (g' id) bs (A id))/\(∀id L a a',(Y id).isSome=T->(Y L).isSome=T->A id=S a->A L=S a'->a.block=a'.block->id=L)/\
   Tr O β ⟨fa,g,ob⟩ w A ⟨fa,g',Y⟩ G:=by
  rintro⟨hg,bn,dc⟩
  have af:∀id,(ob id).isSome=T->id<B:=λid ho=>Tf λZ=>by
   rw[hB id a7]at ho;cases ho
  have y:∀id,(ob id).isSome=T->W.gen id=g id/\A id=β id/\(W.obj id).isSome=T:=λid ho=>by
   have U:=hg id (af id ho);have h2:(W.obj id).isSome=T:=by rw[bn id (af id ho)];exact ho
   exact⟨U,(ht.keep.live id U h2).2.1,h2⟩
  have n:∀id,(ob id).isSome=T->(W.obj id).isSome=T/\¬B<=id:=λid ho=>⟨(y id ho).2.2,by have:=af id ho;omega⟩
  have J:∀b,Imm O A W.obj G b->Imm O β ob G b:=λb hb=>⟨hb.1,hb.2.1,λid a ho he=>hb.2.2 id a (y id ho).2.2 (by rw[(y id ho).2.1];exact he)⟩
  have ar:∀id bs,ob id=S bs->dt O β g ob G (g id) bs (β id):=λid bs Z=>by
   have ho:(ob id).isSome=T:=by rw[Z];rfl
   have U:=bf.obj id bs (by rw[bn id (af id ho)];exact Z);rw[(y id ho).2.1,(y id ho).1]at U;have h0:=V.obj id bs Z;cases av:β id with
   |none=>rw[av]at U;exact U
   |some ad=>
     rw[av]at U h0;cases hs:ad.spot with
     |none=>
       obtain⟨p1,arr,el,H,hi,p2,p3,p4,p5⟩:=U.cells hs;obtain⟨_,s,K,bo,cx,_,_,_,q5⟩:=h0.cells hs;refine .ofCells hs ⟨p1,arr,el,H,hi,p2,p3,p4,λj c hj=>?_⟩;obtain⟨v,hv,X⟩:=p5 j c hj;obtain⟨v0,_,bd⟩:=q5 j c hj;exact⟨v,hv,aK.back y J X bd⟩
     |some kd=>
       obtain⟨p1,⟨es,p,p2,p3⟩|az⟩:=U.map hs
       .obtain⟨_,⟨a6,bk,_,q3⟩|⟨_,o,q3,_⟩⟩:=h0.map hs
        .exact .ofMap hs ⟨p1,.inl ⟨es,p,p2,p3.back q3 λc v v0 h h0=>by
         unfold jN at h h0|-;split
         .rename_i hk
          rw[l9 hk]at h h0;exact aK.back y J h h0
         .rename_i hk
          rw[j9 hk]at h;obtain⟨ds,vs,q1,q2,q3,q4⟩:=h;exact⟨ds,vs,q1,q2,q3,λi x I=>let ⟨u,hu,V⟩:=q4 i x I;⟨u,hu,cD.mono V λb hb=>⟨J b hb,rfl⟩⟩⟩⟩⟩
        .subst q3
         generalize es.toList=el at p3;cases p3
       .exact .ofMap hs ⟨p1,.inr az⟩
  have q:fE O β g ob w β g ob G:=by
   refine⟨λb hb=>⟨J b (ht.imm b hb).1,(ht.imm b hb).2⟩,λ_=>l8 _,λid _ ho=>⟨ho,rfl,λa' b' arr el fr hh=>?_⟩⟩;exact(ht.keep.live id (y id ho).1 (y id ho).2.2).2.2 a' b' arr el fr hh
  refine⟨_,pg d a1 a'.tmps,?_⟩
  have bl:∀r,ak O β g ob G r (nv a'.tmps d)->R r->∃v' r g' Y A,Ending.returned (nv a'.tmps d)=.returned v'/\(R r/\g'=g/\Y=ob)/\ak O A g' Y G r v'/\
   (∀id bs,Y id=S bs->dt O A g' Y G (g' id) bs (A id))/\(∀id L a a',(Y id).isSome=T->(Y L).isSome=T->A id=S a->A L=S a'->a.block=a'.block->id=L)/\
   Tr O β ⟨fa,g,ob⟩ w A ⟨fa,g',Y⟩ G:=λr U h2=>⟨_,r,g,ob,β,rfl,⟨h2,rfl,rfl⟩,U,ar,V.inj,⟨ht.size,ht.old,q,ht.os⟩⟩
  have Q:∀id,(ob id).isSome=T->β id=A id:=λid ho=>(y id ho).2.1.symm
  match d,dc with
  |[t],⟨r,U,h2⟩=>exact bl r (U.rep n bf (bf.f t) Q) h2
  |[],⟨rs,U,h2⟩=>exact bl _ (by simp only[ak];exact⟨_,rfl,eH.rep n bf Q [] U⟩) h2
  |t::t'::ts,⟨rs,U,h2⟩=>exact bl _ (by simp only[ak];exact⟨_,rfl,eH.rep n bf Q (t::t'::ts) U⟩) h2
 cases e with
 |normal=>exact⟨bf.defers,k hQ⟩
 |ret=>exact⟨bf.defers,k hQ⟩
 |exit id=>exact hQ.elim
 |goto l=>exact hQ.elim
 |panic ch=>exact hQ.elim
 |outgrown=>exact hQ.elim
def DU{o:Oper}(d:St){k:Box K}(b:ai s d)(h:bC (spB P B) o d k):bC (spB P B) o s k:=by
 obtain⟨R,e,J⟩:=h;refine⟨R,λO al β a w V c next Q f=>?_,J⟩;obtain⟨l,g,i⟩:=b O al β a w V;exact e O al l a w g c next Q (λW A j G U m n=>f W A j G U m (i.trans n))
def xr{o:Oper}{k:Box K}{f:FuncId}{args:Array Operand}{tys:Array TypeId}(ho:o.op=.call ⟨.value (.func f),args,tys⟩)
 (a:aJ P f (args.toList.map s.ev) R)(hd:(args.toList.map s.ev).all fk=T)(b:∀r,R r->K (s.put o.dst r)):bC (spB P B) o s k:=
 ⟨_,xF ho a hd,λ_⟨r,V,e⟩=>e▸b r V⟩
def eI{B:(Exit->St->Prop)->St->Prop}{b:Box B}(I:Nat->St->Prop)(n:Nat)(c:I n s)
 (V:∀n f g a,I n ⟨f,g,a⟩->B (jD (bx λW=>∃j d,j<n/\(spB P B0).vs W d/\I j d) q) ⟨f,g,a⟩):oF (spB P B0) b q s:=
 ⟨I,⟨n,s,ai.refl s,c⟩,λn s e=>V n s.f s.gen s.obj e⟩
def zL{B:(Exit->St->Prop)->St->Prop}{b:Box B}(d:St)(c:ai s d)(I:Nat->St->Prop)(n:Nat)(e:I n d)
 (V:∀n f g a,I n ⟨f,g,a⟩->B (jD (bx λW=>∃j d,j<n/\(spB P B0).vs W d/\I j d) q) ⟨f,g,a⟩):oF (spB P B0) b q s:=
 ⟨I,⟨n,d,c,e⟩,λn s h=>V n s.f s.gen s.obj h⟩
def ee{I:Nat->St->Prop}{n:Nat}(j:Nat)(h:j<n)(a:I j s):∃j d,j<n/\(spB P B0).vs s d/\I j d:=⟨j,s,h,ai.refl s,a⟩
def cp{id:Nat}{ops:Array Oper}(a:oz E ops=T)(h:wpO (spB P B0) E ops ops.toList s (bx λW=>Q .normal W)):ly (spB P B0) E id ops s q:=.inl ⟨a,h⟩
end
@[go_sem]def Uo:=@Qs.eq_3
def LV{x:D}(I:x≠.nsl):(∃r,yx B s (.one (.d x)) r/\R r)=R (.one (.d x)):=by
 apply propext;constructor
 .rintro⟨r,V,a⟩
  cases V with
  |one h=>
    cases h with
    |d=>exact a
    |nil=>exact absurd rfl I
 .intro h;exact⟨_,.one (.d x),h⟩
@[go_sem]def Up{b:List UInt8}:(∃r,yx B s (.one (.d (.str b))) r/\R r)=R (.one (.d (.str b))):=LV a8
def nc0:((0:Nat):Int)=0:=rfl
def nc1:((1:Nat):Int)=1:=rfl
attribute [go_sem] nc0 nc1 Nat.add_zero Nat.sub_zero Int.cast_ofNat_Int
def vb{a b:D}(h:kO a b=T):a=b:=by
 cases a<;>cases b<;>simp_all[kO]
def pM(k:D)(x:C)(a:D):∀cells:List C,mget (mset cells k x) a=if kO k a=T then S x else mget cells a
 |.d f::c::r=>by
   simp only[mset];split
   .rename_i U
    rw[vb U];simp only[mget];split<;>rfl
   .rename_i U
    simp only[mget];rw[pM k x a r];by_cases b:kO k a=T
    .rw[l9 b]
     split
     .rename_i e
      exfalso;have g:=vb e;have h:=vb b;subst g;subst h;exact U e
     .rfl
    .rw[j9 b,j9 b]
 |[]=>by simp[mset,mget]
 |[.d f]=>by simp[mset,mget]
 |.osl .. :: _=>by simp[mset,mget]
 |.ptr .. :: _=>by simp[mset,mget]
 |.clo .. :: _=>by simp[mset,mget]
 |.mp .. :: _=>by simp[mset,mget]
 |.lsl .. :: _=>by simp[mset,mget]
 |.raw _::_=>by simp[mset,mget]
@[go_sem]def ZB(B k j:Nat):(B+k=B+j)=(k=j):=a8
end
end
end Go.Am
