/- A part of the proof; no conditions. -/
import Derived.Test.YtednjibjomfhfaaGreatDoorPart3
import Derived.ProofKit
import Derived.WideKeyArgs
import Derived.SizedLaws
import Derived.Deep.OwnRows
import Derived.Deep.CondSized
import Derived.RangeFuncCalls
import Derived.RangeFuncLeaves
import Derived.RangeFuncRecord
import Derived.OrdersIn
import Derived.TacticsIn
set_option linter.all false
open List renaming length -> z
open Option renaming some -> S, none -> N
open Bool renaming true -> T, false -> F
set_option maxHeartbeats 64000000
set_option maxRecDepth 100000
namespace Go.Am
section
attribute[local congr]ite_cc
section
variable{s:St}{P:Program}{R:AV->Prop}{Q:Exit->St->Prop}
def LF{t:Nat}{A:TI}{X:Value}(hd:P.underlying t=S A.desc)(b:(P.info? t).map (λi=>(i.size,i.bytes,i.zero))=S (A.size,A.bytes,S X))
 (e:X.cells.toList=A.zero.map dV)(f:A.zero.all lu=T)(hl:z A.zero=A.size)(d:ez A.desc=T\/X=dV (A.zero.headD .nsl)):rr P t A:=by
 refine⟨hd,?_,f,hl,λc i a U Y=>?_⟩
 rotate_left
 .rw[U]at b
  simp only[z8,w9,I2]at b;have:a=X:=by simpa[Y]using b.2.2
  rcases d with d|d
  .rw[c]at d;cases d
  .rw[this,d]
 cases h:P.info? t with
 |none=>rw[h]at b;cases b
 |some i=>
   rw[h]at b;simp only[z8,w9,I2]at b;exact⟨i,rfl,b.1,b.2.1,X,b.2.2,e⟩
def fj{B:(Exit->St->Prop)->St->Prop}{b:Box B}{q:Box Q}(I:Nat->St->Prop)(n:Nat)(c:I n s)
 (V:∀n f g a,I n ⟨f,g,a⟩->B (lj (bx λe=>∃H d,H<n/\(sp P).vs e d/\I H d) q) ⟨f,g,a⟩):rj (sp P) b q s:=
 ⟨I,⟨n,s,ae.refl s,c⟩,λn s h=>V n s.f s.gen s.obj h⟩
def cZ{I:Nat->St->Prop}{n:Nat}(H:Nat)(h:H<n)(a:I H s):∃H d,H<n/\(sp P).vs s d/\I H d:=⟨H,s,h,ae.refl s,a⟩
def jN{G:Nat->TI}{id:Nat}{ops:Array Oper}{q:Box Q}(a:ow G ops=T)(h:wpO (sp P) G ops ops.toList s (bx λb=>Q .normal b)):ll (sp P) G id ops s q:=.inl ⟨a,h⟩
def fY{o:Oper}{K:St->Prop}{k:Box K}{f:FuncId}{args:Array Operand}{tys:Array TypeId}(ho:o.op=.call ⟨.value (.func f),args,tys⟩)
 (a:aF P f (args.toList.map s.ev) R)(hd:(args.toList.map s.ev).all fk=T)(b:∀r,R r->K (s.put o.dst r)):bu (sp P) o s k:=
 ⟨_,xG ho a hd,λ_⟨r,V,e⟩=>e▸b r V⟩
def wrap_i64(n:Int)(a:-9223372036854775808<=n)(U:n<=9223372036854775807):IntKind.i64.wrap n=n:=by rw[IntKind.wrap_i64];omega
def Tv{x y:D}:Frz s (.d x) y↔y=ir x:=⟨λh=>by cases h;rfl,λh=>h▸.d x⟩
@[go_sem]def XQ{x:D}:(∃r,mf s (.one (.d x)) r/\R r)=R (.one (.d (ir x))):=by
 apply propext;constructor
 .rintro⟨r,⟨y,a,rfl⟩,b⟩;rw[Tv]at a;subst a;exact b
 .intro h;exact⟨_,⟨_,.d x,rfl⟩,h⟩
@[go_sem]def Tw{R:List AV->Prop}:(∃rs,eu s [] rs/\R rs)=R []:=by simp[eu]
@[go_sem]def SG{t:AV}{A:List AV}{R:List AV->Prop}:(∃rs,eu s (t::A) rs/\R rs)=∃r,mf s t r/\∃rs,eu s A rs/\R (r::rs):=by
 apply propext;simp only[eu];constructor
 .rintro⟨_,⟨r,q,rfl,U,Y⟩,a⟩;exact⟨r,U,q,Y,a⟩
 .rintro⟨r,U,q,Y,a⟩;exact⟨_,⟨r,q,rfl,U,Y⟩,a⟩
@[go_sem]def Tx{t u:Nat}:CV [t,u] R .ret s=∃rs,eu s [s.f t,s.f u] rs/\R (.tup rs):=A6 rfl rfl
@[go_sem]def PM:(∀(b:Bool),ir (.bool b)=.bool b)/\(∀(k:IntKind)(n:Int),ir (.int k n)=.int k n)/\ir .nsl=.sl []:=by and_intros<;>intros<;>exact A6 rfl rfl
@[go_sem]def SI(s:List UInt8):ir (.str s)=.str s:=A6 rfl rfl
@[go_sem]def Ty:=@CV.eq_3
attribute [go_sem] AV.one.injEq AV.tup.injEq AV.agg.injEq C.d.injEq D.bool.injEq D.int.injEq D.str.injEq D.sl.injEq List.cons.injEq true_implies false_implies forall_const and_self
attribute [go_sem] Int.ofNat_lt Int.ofNat_le Int.natCast_nonneg dA
def ab{k:Nat}(h:k<=4000000000000000000):IntKind.i64.wrap ((k:Int)+1)=((k+1:Nat):Int):=by rw[IntKind.wrap_i64]<;>omega
end
end
section
open Go.ChangeShapes
section
section
variable{H:Type}{enc:TypeId×Value->H}{P:Program}{w:World}
def iA(w:World)(cs:List Value)(ds:List D):Prop:=z ds=z cs/\∀(j:Nat)(x:D),ds[j]?=S x->∃v,cs[j]?=S v/\cr (λb=>b<w.heap.size) w x v
def iA.one{v:Value}{x:D}(h:cr (λb=>b<w.heap.size) w x v):iA w [v] [x]:=⟨rfl,λj y a=>by
 cases j with
 |zero=>simp at a;subst a;exact⟨v,rfl,h⟩
 | succ j=>simp at a⟩
def mapM_some{d β:Type}{f:d->Option β}:∀{l:List d}{r:List β},l.mapM f=S r->z r=z l/\∀(i:Nat)(a:d),l[i]?=S a->∃b,r[i]?=S b/\f a=S b
 |[],r,h=>by simp at h;subst h;exact⟨rfl,λi a c=>by simp at c⟩
 |a::l,r,h=>by
   rw[OA]at h;cases c:f a with
   |none=>simp[c]at h
   |some b=>
     cases hl:l.mapM f with
     |none=>simp[c,hl]at h
     |some X=>
       simp[c,hl]at h;subst h;obtain⟨U,Y⟩:=mapM_some hl;refine⟨by simp[U],λi x I=>?_⟩;cases i with
       |zero=>simp at I;subst I;exact⟨b,rfl,c⟩
       |succ i=>simpa using Y i x Xl
def CB{base n:Nat}{a:Addr}{cs:List Value}(h:w.cells? base a n=S cs):z cs=n/\∀(j:Nat)(v:Value),cs[j]?=S v->w.cell? (a.add j)=S v:=by
 unfold World.cells? at h;split at h
 .obtain⟨U,Y⟩:=mapM_some h
  refine⟨by simpa using U,λj v c=>?_⟩
  have d:j<n:=by
   have:=(l8.1 c).1;rw[U]at this;simpa using this
  obtain⟨b,e,f⟩:=Y j j (by simp[d]);rw[e]at c;cases c;exact f
 .cases h
def oz{b:Type}{p:Nat->b->Prop}:∀(n:Nat),(∀i,i<n->∃x,p i x)->∃l:List b,z l=n/\∀(i:Nat)(x:b),l[i]?=S x->p i x
 |0,_=>⟨[],rfl,λi x h=>by simp at h⟩
 |n+1,h=>by
   obtain⟨l,U,Y⟩:=oz n (λi c=>h i a6);obtain⟨x,I⟩:=h n a6;refine⟨l++[x],by simp[U],λi y a=>?_⟩;rw[J6]at a;split at a
   .exact Y i y a
   .rename_i c
    have E:i=n:=by
     have:=(l8.1 a).1;simp at this;omega
    subst E;rw[U,J4]at a;simp at a;exact a▸I
def lp{P:Program}{e:TypeId}{p:Nat->Bool}:∀{l:List (DataW H)},(DataW.weightsAll P e l).all p=T->∀d∈l,(d.weights P e).all p=T
 |[],_,_,hd=>by cases hd
 |d::l,h,a,hd=>by
   simp only[DataW.weightsAll,G2,l4]at h;rcases y9.1 hd with rfl|hd
   .exact h.1
   .exact lp h.2 a hd
def FF{w w':World}(h:∀b,b<w.heap.size->w'.heap[b]?=w.heap[b]?){p:MemPlace}(a:p.block<w.heap.size):w.sameAt w' p:=by
 cases p with
 |cell b o=>exact World.cell?_of_block (w:=w) (h b a)
 |map b=>exact h b a
def LG{w w':World}(h:∀b,b<w.heap.size->w'.heap[b]?=w.heap[b]?)(q:w'.os=w.os/\w'.output=w.output)(a:MemPlace->Prop):w.keptBut w' a:=by
 refine⟨q.1,q.2,λi c=>?_⟩;rw[h i c];split<;>simp_all
def zX(P:Program)(f:FuncId)(args:Array Value)(w:World):Prop:=
 Calls P f args w λe a=>e=.returned (.bool T)/\w.heap.size<=a.heap.size/\(∀b,b<w.heap.size->a.heap[b]?=w.heap[b]?)/\a.os=w.os/\a.output=w.output
def qk(hl:laidOutB P=T){W o:World}(c:∀b,b<W.heap.size->o.heap[b]?=W.heap[b]?):∀(A:List TypeId)(vs:List Value)(ds:List (DataW H))(ps:List MemPlace),A.all (λt=>P.readableRec t&&decide (t<P.types.size))=T->
  (∀p∈ps,p.block<W.heap.size)->DataW.TrodAll enc P W 0 (λ_=>T) T A vs ds ps->DataW.TrodAll enc P o 0 (λb=>decide (b<W.heap.size)) T A vs ds ps
 |[],[],[],ps,_,_,h=>h
 |t::A,v::vs,d::ds,ps,J,a,h=>by
   obtain⟨p,q,U,Y,rfl⟩:=h;simp only[C4,l4,s7]at J
   exact⟨p,q,WideElems.Trod_stays hl J.1.1 J.1.2 U (λx I=>FF c (a x Xs)) (λx I=>by simpa using a x Xs),
    qk hl c A vs ds q J.2 (λx I=>a x Xs) Y,rfl⟩
 |[],[],_::_,_,_,_,h=>h.elim
 |[],_::_,_,_,_,_,h=>h.elim
 |_::_,[],_,_,_,_,h=>h.elim
 |_::_,_::_,[],_,_,_,h=>h.elim
def tR{w:World}{sp:Nat->Bool}:∀(A:List TypeId)(vs:List Value)(ds:List (DataW H))(ps:List MemPlace),DataW.TrodAll enc P w 0 sp T A vs ds ps->z ds=z A
 |[],[],[],_,_=>rfl
 |_::A,_::vs,_::ds,_,h=>by
   obtain⟨p,q,_,Y,_⟩:=h;simp[tR A vs ds q Y]
 |[],[],_::_,_,h=>h.elim
 |[],_::_,_,_,h=>h.elim
 |_::_,[],_,_,h=>h.elim
 |_::_,_::_,[],_,h=>h.elim
end
end
end
section
section
def mA(P:Program):Nat->List Field->Option Nat
 |off,[]=>S off
 |off,f::l=>if f.offset=off then mA P (off+P.cellsOf f.type) l else N
def uM(P:Program)(A:List TypeId):Bool:=A.all λt=>
 match P.underlying t with
 |some .bool|some (.int _)|some .string=>P.cellsOf t==1
 |some (.slice e)=>P.cellsOf t==1&&A.contains e&&decide (0<P.cellsOf e)
 |some (.struct fs)=>(mA P 0 fs.toList==S (P.cellsOf t))&&fs.toList.all (λf=>A.contains f.type)
 |some (.array n e)=>(P.cellsOf t==n*P.cellsOf e)&&A.contains e
 |_=>F
inductive fU (P:Program):TypeId->List D->Prop where
 |bool {t:TypeId} (hu:P.underlying t=some .bool) (b:Bool):fU P t [.bool b]
 |int {t:TypeId}{k:IntKind} (hu:P.underlying t=some (.int k)) (m:Int) (hw:(Lit.int k m).wf=true):fU P t [.int k m]
 |str {t:TypeId} (hu:P.underlying t=some .string) (s:List UInt8) (hl:s.length<=reachBytes):fU P t [.str s]
 |sl {t e:TypeId} (hu:P.underlying t=some (.slice e)) (es:List (List D)) (hl:es.length*P.bytesOf e<=reachBytes) (h:∀x∈es,fU P e x):fU P t [.sl es]
 |struct {t:TypeId}{fs:Array Field} (hu:P.underlying t=some (.struct fs)) (o:List (List D)) (hl:o.length=fs.toList.length)
    (h:∀(i:Nat)(f:Field)(x:List D),fs.toList[i]?=some f->o[i]?=some x->fU P f.type x):fU P t o.flatten
 |array {t n e:TypeId} (hu:P.underlying t=some (.array n e)) (o:List (List D)) (hl:o.length=n) (hs:∀x∈o,x.length=P.cellsOf e) (h:∀x∈o,fU P e x):fU P t o.flatten
mutual
def vj:D->Nat
 |.sl es=>iQ es+1
 |.str I=>z I+1
 |_=>1
def eT:List D->Nat
 |[]=>0
 |d::r=>vj d+eT r
def iQ:List (List D)->Nat
 |[]=>0
 |e::r=>eT e+iQ r
end
mutual
def gN{H:Type}:DataW H->Nat
 |.lit (.string bytes)=>z bytes+1
 |.lit _=>1
 |.nil=>1
 |.ptr d=>gN d+1
 |.slice elems spare=>nc elems+nc spare+1
 |.agg parts=>nc parts+1
 |.iface _ d=>gN d+1
 |.map entries=>Hx entries+1
 |.held _=>1
def nc{H:Type}:List (DataW H)->Nat
 |[]=>0
 |d::r=>gN d+nc r
def Hx{H:Type}:List (Lit×DataW H)->Nat
 |[]=>0
 |x::r=>PO x+Hx r
def PO{H:Type}:Lit×DataW H->Nat
 |(.string bytes,d)=>z bytes+gN d+1
 |(_,d)=>gN d+1
end
def CE(a b:List D):eT (a++b)=eT a+eT b:=by
 induction a with
 |nil=>simp[eT]
 |cons x a c=>simp only[u7,eT,c];omega
def oF(l:List (List D)):eT l.flatten=iQ l:=by
 induction l with
 |nil=>simp[eT,iQ]
 |cons x l a=>simp only[D8,CE,a,iQ]
def nd{H:Type}:∀{es:List (List D)}{l:List (DataW H)},z es<=z l->(∀(i:Nat)(x:List D)(d:DataW H),es[i]?=S x->l[i]?=S d->eT x<=gN d)->iQ es<=nc l
 |[],l,_,_=>by simp[iQ]
 |x::es,[],h,_=>by simp at h
 |x::es,d::l,h,a=>by
   have b:=a 0 x d rfl rfl;have:=nd (es:=es) (l:=l) Xm (λi y e U Y=>a (i+1) y e (by simpa using U) (by simpa using Y));simp only[iQ,nc];omega
variable{B:Bool}{base q:Nat}{sp:Nat->Bool}{A:List TypeId}{ps:List MemPlace}
section
variable{H:Type}{enc:TypeId×Value->H}{P:Program}{w:World}
def add_add(a:Addr)(m j:Nat):(a.add m).add j=a.add (m+j):=by
 unfold Addr.add;by_cases b:m=0
 .subst b;simp
 .by_cases c:j=0
  .subst c;simp
  .have:¬m+j=0:=a6
   simp[b,c,C7]
def nL{p:Nat->Bool}:∀{A:List TypeId}{l:List (DataW H)},(DataW.weightsEach P A l).all p=T->∀(i:Nat)(t:TypeId)(d:DataW H),A[i]?=S t->l[i]?=S d->(d.weights P t).all p=T
 |[],_,_,i,t,d,U,_=>by simp at U
 |_::_,[],_,i,t,d,_,Y=>by simp at Y
 |t::A,d::l,h,i,a,b,U,Y=>by
   simp only[DataW.weightsEach,G2,l4]at h;cases i with
   |zero=>simp at U Y;subst U Y;exact h.1
   |succ i=>exact nL h.2 i a b (by simpa using U) (by simpa using Y)
def iA.app{c1 c2:List Value}{d1 d2:List D}(U:iA w c1 d1)(Y:iA w c2 d2):iA w (c1++c2) (d1++d2):=by
 refine⟨by simp[U.1,Y.1],λj x I=>?_⟩;rw[J6]at I;split at I
 .rename_i b
  obtain⟨v,a,V⟩:=U.2 j x I;exact⟨v,by rw[G1 (by rw[<-U.1];exact b)];exact a,V⟩
 .rename_i b
  obtain⟨v,a,V⟩:=Y.2 _ x I;refine⟨v,?_,V⟩;rw[E3 (by rw[<-U.1];omega),<-U.1];exact a
def rn{cs:List Value}:∀(fl:List Field){off a:Nat}(Q:Nat->List D->Prop),mA P off fl=S a->a<=z cs->
  (∀(i:Nat)(f:Field),fl[i]?=S f->∃ds,iA w ((cs.drop f.offset).take (P.cellsOf f.type)) ds/\fU P f.type ds/\z ds=P.cellsOf f.type/\Q i ds)->
  ∃o:List (List D),z o=z fl/\(∀(i:Nat)(f:Field)(x:List D),fl[i]?=S f->o[i]?=S x->fU P f.type x)/\off<=a/\iA w ((cs.drop off).take (a-off)) o.flatten/\∀(i:Nat)(x:List D),o[i]?=S x->Q i x
 |[],off,a,Q,h,_,_=>by
   simp only[mA,w9]at h;subst h;refine⟨[],rfl,λi f x h=>by simp at h,l0 _,?_,λi x h=>by simp at h⟩;rw[J4,F6];exact⟨rfl,λj x h=>by simp at h⟩
 |f::fl,off,a,Q,h,b,hf=>by
   simp only[mA]at h;split at h
   .rename_i ho
    obtain⟨ds,d1,d2,d3,d4⟩:=hf 0 f rfl;obtain⟨o,c,d,l,e,k⟩:=rn fl (λi=>Q (i+1)) h b (λi g hg=>hf (i+1) g (by simpa using hg));refine⟨ds::o,by simp[c],λi g x hg I=>?_,a6,?_,λi x I=>?_⟩
    rotate_left 2
    .cases i with
     |zero=>simp at I;subst I;exact d4
     |succ i=>exact k i x Xl
    .cases i with
     |zero=>simp at hg I;subst hg I;exact d2
     |succ i=>exact d i g x (by simpa using hg) Xl
    .rw[D8]
     have:(cs.drop off).take (a-off)=(cs.drop f.offset).take (P.cellsOf f.type)++(cs.drop (off+P.cellsOf f.type)).take (a-(off+P.cellsOf f.type)):=by
      rw[ho,show a-off=P.cellsOf f.type+(a-(off+P.cellsOf f.type)) by omega,List.take_add,Q2]
     rw[this];exact d1.app e
   .cases h
def rp{sz:Nat}:∀(n:Nat){cs:List Value}{o:List (List D)},z o=n->z cs=n*sz->(∀(i:Nat)(x:List D),o[i]?=S x->iA w ((cs.drop (i*sz)).take sz) x)->iA w cs o.flatten
 |0,cs,o,hl,a,_=>by
   obtain rfl:=r0 hl;obtain rfl:=r0 (by simpa using a);exact⟨rfl,λj x h=>by simp at h⟩
 |n+1,cs,o,hl,a,h=>by
   match o,hl with
   |p::ps,hl=>
     rw[<-F9 sz cs,D8];refine iA.app (by simpa using h 0 p rfl) (rp (sz:=sz) n W8 (by rw[D4,a,Nat.succ_mul];omega) λi x I=>?_);have:=h (i+1) x Xl;rw[Q2,show sz+i*sz=(i+1)*sz by rw[Nat.succ_mul];omega];exact this
def mC{B:Bool}{base:Nat}{sp:Nat->Bool}{A:List TypeId}(hp:uM P A=T):∀(q:Nat){t:TypeId}{cs:List Value}{d:DataW H}{ps:List MemPlace},t∈A->DataW.trod enc P w base sp B q t cs=S (d,ps)->(d.weights P t).all (·<=reachBytes)=T->
  ∃ds,iA w cs ds/\fU P t ds/\z ds=P.cellsOf t/\eT ds<=gN d
 |0,_,_,_,_,_,h,_=>by simp[DataW.trod]at h
 |q+1,t,cs,d,ps,ht,h,hz=>by
   have c:=x7.1 hp t ht;unfold DataW.trod at h;split at c
   .rename_i hu
    rw[hu]at h;simp only[I5]at c;rcases cs with _|⟨v,_|⟨v',r⟩⟩
    .simp at h
    .cases v<;>simp at h
     obtain⟨rfl,_⟩:=h;exact⟨_,.one (.bool _),.bool hu _,c.symm,by simp[eT,vj,gN]⟩
    .simp at h
   .rename_i k hu
    rw[hu]at h;simp only[I5]at c;rcases cs with _|⟨v,_|⟨v',r⟩⟩
    .simp at h
    .cases v<;>simp at h
     obtain⟨⟨rfl,G⟩,rfl,_⟩:=h;exact⟨_,.one (.int _ _),.int hu _ G,c.symm,by simp[eT,vj,gN]⟩
    .simp at h
   .rename_i hu
    rw[hu]at h;simp only[I5]at c;rcases cs with _|⟨v,_|⟨v',r⟩⟩
    .simp at h
    .cases v<;>simp at h
     rename_i s;obtain⟨hs,rfl,_⟩:=h;refine⟨[.str s.data.toList],.one ?_,.str hu _ (by simpa[DataW.weights]using hz),c.symm,by simp[eT,vj,gN]⟩;have:(Value.string s)=.string ⟨s.data.toList.toArray⟩:=a8;rw[this];exact .str _
    .simp at h
   .rename_i e hu
    rw[hu]at h;simp only[l4,I5,s7,H8]at c;obtain⟨⟨L,ad⟩,bc⟩:=c;rcases cs with _|⟨v,_|⟨v',r⟩⟩
    .simp at h
    .cases v with
     |slice a len cap=>
       cases a with
       |none=>
         have:len=0/\cap=0:=by
          cases len<;>cases cap<;>simp at h|-
         obtain⟨rfl,rfl⟩:=this;have hd:1<=gN d:=by cases d with|lit l=>cases l<;>simp[gN]|_=>simp[gN]
         exact⟨[.sl []],.one .sl0,.sl hu [] a8 (λ_ h=>by cases h),L.symm,by simpa[eT,vj,iQ]using hd⟩
       |some a=>
         simp only at h;split at h
         .rename_i hc
          cases he:(List.range len).mapM (λi=>(w.cells? base (a.add (i*P.cellsOf e)) (P.cellsOf e)).bind (DataW.trod enc P w base sp B q e))with
          |none=>rw[he]at h;simp at h
          |some u=>
            obtain⟨U,Y⟩:=mapM_some he;rw[he]at h;simp only[I8,H4,I2]at h;obtain⟨rest,_,rfl,_⟩:=h;simp only[DataW.weights,hu,C4,G2,l4,s7,j5]at hz;have X:z u*P.bytesOf e<=reachBytes:=C1 (LD _ (Sf _ _)) hz.1;have a':=lp hz.2.1
            have J:∀i,i<len->∃cs ds,w.cells? base (a.add (i*P.cellsOf e)) (P.cellsOf e)=S cs/\iA w cs ds/\fU P e ds/\z ds=P.cellsOf e/\∃b,u[i]?=S b/\eT ds<=gN b.1:=by
             intro i hi;obtain⟨b,Q,hb⟩:=Y i i (by simp[hi]);cases ca:w.cells? base (a.add (i*P.cellsOf e)) (P.cellsOf e)with
             |none=>rw[ca]at hb;cases hb
             |some b6=>
               rw[ca]at hb;obtain⟨ds,g1,g2,g3,g4⟩:=mC hp q ad (d:=b.1) (ps:=b.2) hb (a' b.1 (G3.2 ⟨b,l5 Q,rfl⟩));exact⟨b6,ds,rfl,g1,g2,g3,b,Q,g4⟩
            generalize P.cellsOf e=sz at *;obtain⟨es,hl,W⟩:=oz (p:=λi ds=>∃cs,w.cells? base (a.add (i*sz)) sz=S cs/\iA w cs ds/\fU P e ds/\z ds=sz/\∃b,u[i]?=S b/\eT ds<=gN b.1) len (λi hi=>let ⟨cs,ds,g⟩:=J i hi;⟨ds,cs,g⟩)
            have K:iQ es<=nc (u.map (·.1)):=nd (by rw[j5,hl,U];simp) (λi x d I hd=>by
             obtain⟨_,_,_,_,_,b,hb,a1⟩:=W i x I;rw[y7,hb]at hd;cases hd;exact a1)
            refine⟨[.sl es],.one ?_,.sl hu es (by rw[hl];simpa[U]using X) (λx I=>?_),L.symm,by simp only[eT,vj,gN];omega⟩
            .by_cases cx:len=0
             .subst cx
              have:es=[]:=r0 hl;subst this;exact .sl0
             .have av:∀i(x:List D),es[i]?=S x->∀j(y:D),x[j]?=S y->∃v,w.cell? (a.add (i*sz+j))=S v/\cr (λb=>b<w.heap.size) w y v:=λi x I j y hy=>by
               obtain⟨b6,g1,g2,g3,g4,_⟩:=W i x I;obtain⟨v,c1,m⟩:=g2.2 j y hy;have:=(CB g1).2 j v c1;refine⟨v,?_,m⟩;rw[<-this,add_add]
              obtain⟨x0,bk⟩:∃x,es[0]?=S x:=⟨_,y8 a6⟩
              obtain⟨af,q1,q2,q3,q4,_⟩:=W 0 x0 bk;obtain⟨y0,bl⟩:∃y,x0[0]?=S y:=⟨_,y8 a6⟩
              obtain⟨v0,cz,_⟩:=av 0 x0 bk 0 y0 bl;obtain⟨b,off,E⟩:=a
              have b2:E=N:=by
               have:(⟨b,off,E⟩:Addr).add (0*sz+0)=⟨b,off,E⟩:=by simp[Addr.add]
               rw[this]at cz;cases E with
               |none=>rfl
               |some k=>
                 unfold World.cell? at cz;simp at cz;split at cz<;>simp at cz
              subst b2;rw[<-hl];refine .sl (b:=b) (off:=off) (sz:=sz) (λi j=>(w.cell? ⟨b,off+(i*sz+j),N⟩).getD undef) a6 (λ_=>by have:=World.block_lt_of_cell? w _ cz;simpa[Addr.add]using this) (λx I=>?_) (λi x I j y hy=>?_) (λi x I j y hy=>?_)
              .obtain⟨i,hi⟩:=C9 I
               obtain⟨_,_,_,_,g4,_⟩:=W i x hi;exact g4
              .obtain⟨v,hv,_⟩:=av i x I j y hy
               rw[eb]at hv;rw[C7,hv];rfl
              .obtain⟨v,hv,V⟩:=av i x I j y hy
               rw[eb]at hv;rw[hv];exact V
            .obtain⟨i,hi⟩:=C9 I
             obtain⟨_,_,_,g3,_⟩:=W i x hi;exact g3
         .cases h
     |_=>simp at h
    .simp at h
   .rename_i fs hu
    simp only[l4,I5]at c;obtain⟨b',bs⟩:=c;rw[hu]at h;simp only at h;split at h
    .rename_i bf
     cases hm:fs.toList.mapM (λf=>DataW.trod enc P w base sp B q f.type ((cs.drop f.offset).take (P.cellsOf f.type)))with
     |none=>rw[hm]at h;simp at h
     |some xs=>
       rw[hm]at h;simp only[z8,w9,I2]at h;obtain⟨rfl,_⟩:=h;obtain⟨U,Y⟩:=mapM_some hm;simp only[DataW.weights,hu]at hz
       obtain⟨o,p1,p2,_,p4,p5⟩:=rn (w:=w) (cs:=cs) fs.toList (λi ds=>∃b,xs[i]?=S b/\eT ds<=gN b.1) b' a6 (λi f hf=>by
        obtain⟨b,hb,O⟩:=Y i f hf
        have Z:f.type∈A:=by
         have:=x7.1 bs f (l5 hf);exact Um
        obtain⟨ds,g1,g2,g3,g4⟩:=mC hp q Z (d:=b.1) (ps:=b.2) O (nL hz i f.type b.1 (by rw[y7,hf];rfl) (by rw[y7,hb];rfl));exact⟨ds,g1,g2,g3,b,hb,g4⟩)
       have K:iQ o<=nc (xs.map (·.1)):=nd (by rw[j5,p1,U];exact l0 _) (λi x d I hd=>by
        obtain⟨b,hb,a1⟩:=p5 i x I;rw[y7,hb]at hd;cases hd;exact a1)
       have ca:(cs.drop 0).take (P.cellsOf t-0)=cs:=by rw[B1,Nat.sub_zero,<-bf,F0]
       rw[ca]at p4;exact⟨o.flatten,p4,.struct hu o p1 p2,by rw[p4.1,bf],by rw[oF];simp only[gN];omega⟩
    .cases h
   .rename_i n e hu
    simp only[l4,I5,H8]at c;obtain⟨bc,ad⟩:=c;rw[hu]at h;simp only at h;split at h
    .rename_i bf
     cases hm:(List.range n).mapM (λi=>DataW.trod enc P w base sp B q e ((cs.drop (i*P.cellsOf e)).take (P.cellsOf e)))with
     |none=>rw[hm]at h;simp at h
     |some xs=>
       rw[hm]at h;simp only[z8,w9,I2]at h;obtain⟨rfl,_⟩:=h;obtain⟨U,Y⟩:=mapM_some hm;simp only[DataW.weights,hu]at hz;have a':=lp hz
       have J:∀i,i<n->∃ds,iA w ((cs.drop (i*P.cellsOf e)).take (P.cellsOf e)) ds/\fU P e ds/\z ds=P.cellsOf e/\∃b,xs[i]?=S b/\eT ds<=gN b.1:=by
        intro i hi;obtain⟨b,hb,O⟩:=Y i i (by simp[hi]);obtain⟨ds,g1,g2,g3,g4⟩:=mC hp q ad (d:=b.1) (ps:=b.2) O (a' b.1 (G3.2 ⟨b,l5 hb,rfl⟩));exact⟨ds,g1,g2,g3,b,hb,g4⟩
       obtain⟨o,hl,W⟩:=oz (p:=λi ds=>iA w ((cs.drop (i*P.cellsOf e)).take (P.cellsOf e)) ds/\fU P e ds/\z ds=P.cellsOf e/\∃b,xs[i]?=S b/\eT ds<=gN b.1) n J
       have K:iQ o<=nc (xs.map (·.1)):=nd (by rw[j5,hl,U];simp) (λi x d I hd=>by
        obtain⟨_,_,_,b,hb,a1⟩:=W i x I;rw[y7,hb]at hd;cases hd;exact a1)
       have cm:=rp (w:=w) n hl (by rw[bf,bc]) (λi x I=>(W i x I).1);refine⟨o.flatten,cm,.array hu o hl (λx I=>?_) (λx I=>?_),by rw[cm.1,bf],by rw[oF];simp only[gN];omega⟩
       .obtain⟨i,hi⟩:=C9 I
        exact(W i x hi).2.2.1
       .obtain⟨i,hi⟩:=C9 I
        exact(W i x hi).2.1
    .cases h
   .cases c
def LJ(c:uM P A=T){t:TypeId}(e:t∈A)(f:P.cellsOf t=1){v:Value}{d:DataW H}(U:v.oneCell'=T)
 (h:DataW.trod enc P w base sp B q t v.cells.toList=S (d,ps))(g:(d.weights P t).all (·<=reachBytes)=T):∃x,cr (λb=>b<w.heap.size) w x v/\fU P t [x]/\vj x<=gN d:=by
 obtain⟨ds,i,j,hl,bc⟩:=mC c q e h g;rw[f]at hl
 match ds,hl with
 |[x],_=>
   obtain⟨u,a,V⟩:=i.2 0 x rfl;have:v.cells.toList=[v]:=by cases v<;>first|rfl|(simp[Value.oneCell']at U)
   rw[this]at a;simp at a;subst a;exact⟨x,V,j,by simpa[eT]using bc⟩
def LK(f:uM P A=T){t:TypeId}(g:t∈A){vs:Array Value}{d:DataW H}
 (h:DataW.trod enc P w base sp B q t (Value.agg vs).cells.toList=S (d,ps))(j:(d.weights P t).all (·<=reachBytes)=T):
  ∃ds,RV (λb=>b<w.heap.size) w (.agg (ds.map .d)) (.agg vs)/\fU P t ds/\eT ds<=gN d:=by
 obtain⟨ds,e,k,hl,bc⟩:=mC f q g h j;refine⟨ds,?_,k,bc⟩;simp only[RV];refine⟨vs,rfl,by have:=e.1;simpa[Value.cells]using this.symm,λi c a=>?_⟩;rw[y7]at a;cases I:ds[i]? with
 |none=>rw[I]at a;cases a
 |some x=>
   rw[I]at a;cases a;obtain⟨u,l,V⟩:=e.2 i x I;exact⟨u,by simpa[Value.cells]using l,⟨x,rfl,V⟩⟩
end
end
end
section
open Go.ChangeAt Go.ChangeShapes Go.WideShapes Go.RowKit
section
section
variable{H:Type}{enc:TypeId×Value->H}
end
end
end
section
attribute[local congr]ite_cc
section
def fen(rd:Option Nat):Fence:={Fence.wide with round:=rd}
variable{o:Oper}{a:Act}{n:Nat}{ds:List Deferred}{s:St}{rd:Option Nat}{args:Array Value}{Q:Exit->Act->World->Prop}{K:St->Prop}{R:Ending->World->Prop}{next:Act->World->Prop}{p:Nat->Prop}{k:Box K}
section
variable{P:Program}{G:Nat->TI}{w:World}
def FK{f:FuncId}{w:World}(h:Calls P f args w R):CallsIn (fen rd) n P f args w R:=(callsIn_wide (n:=n)).2 h
def jr{f:FuncId}{w:World}(h:CallsIn (fen N) n P f args w R):Calls P f args w R:=(callsIn_wide (n:=n)).1 h
def Hy{a:String}{w:World}{R:Value->World->Prop}(h:Rows P a args w R):RowsIn (fen rd) n P a args w R:=
 λc b _=>let ⟨v,d,r,s⟩:=h c b;⟨v,d,r,stepsIn_wide.2 s⟩
def LL:({a with defers:=ds}:Act).eval=a.eval:=rfl
def qy{dst:Option Nat}{v:Value}:({a with defers:=ds}:Act).put dst v = {a.put dst v with defers:=ds}:=by cases dst<;>rfl
def aX(o:Oper):Bool:=match o.op with|.defer _=>F|_=>T
def CG(h:aX o=T):∀c,o.op≠.defer c:=by
 intro c b;simp[aX,b]at h
def iC(c:aX o=T){w:World}
 (h:o.wp P a w (λW w'=>W.defers=[]/\next {W with defers:=ds} w') (λe W w'=>Q e {W with defers:=ds} w')):o.wpIn (fen rd) 0 P {a with defers:=ds} w next Q:=by
 unfold Oper.wp at h;refine⟨λ_ _=>trivial,?_⟩;rw[Oper.semAt_eq _ _ _ (CG c),LL];generalize (execOp a.eval o).run P w=r at *;have I:LetsOut (λe W w'=>Q e {W with defers:=ds} w')->LetsOut Q:=λ⟨a,w,h⟩=>⟨_,w,h⟩
 cases r with
 |ok x w'=>
   cases x with
   |value v=>simp only[Oper.upon,Oper.uponIn]at h|-;rw[qy];exact h.2
   |skip=>simp only[Oper.upon,Oper.uponIn]at h|-;rw[qy];exact h.2
   |enter f args=>
     simp only[Oper.upon,Oper.uponIn]at h|-;refine⟨λh=>(by cases h),FK (h.mono λe i b=>?_)⟩;cases e with
     |returned v=>simp only at b|-;rw[qy];exact b.2
     |panicked g=>exact b
     |outgrown=>exact I b
   |row row args=>
     simp only[Oper.upon,Oper.uponIn]at h|-;refine⟨λh=>(by cases h),Hy (h.mono λv i b=>?_)⟩;rw[qy];exact b.2
   |defer d=>
     simp only[Oper.upon]at h;have:=h.1;cases hd:o.dst<;>rw[hd]at this<;>simp[Act.put]at this
   |_=>simp only[Oper.upon]at h
 |halt x w'=>
   cases x<;>simp only[Oper.upon,Oper.uponIn]at h|-;exact h
end
abbrev fW:=List PanicEntry->St->Prop
def ql:fW:=λ_ _=>False
def Hz(P:Program)(rd:Option Nat)(O:Bs)(q:St->Loc->List Deferred->World->Prop)(u:fW)(o:Oper)(s:St)(R:St->Prop):Prop:=∀(av:Nat)(β:Loc)(a:Act)(ds:List Deferred)(w:World),Rel O av s β a w->q s β ds w->(∀d,o.dst=S d->d<av)->
 ∀(next:Act->World->Prop)(Q:Exit->Act->World->Prop),(∀b E W c,R b->Rel O av b E W c->q b E ds c->next {W with defers:=ds} c)->(∀e b E W c,u e b->Rel O av b E W c->q b E ds c->Q (.panic e) {W with defers:=ds} c)->o.wpIn (fen rd) 0 P {a with defers:=ds} w next Q
def En(O:Bs)(av:Nat)(q:St->Loc->List Deferred->World->Prop)(u:fW)(Q:Exit->St->Prop)(e:Exit)(W:Act)(w':World):Prop:=
 ∃b E c bc,W = {c with defers:=bc}/\(Q e b\/∃d,e=.panic d/\u d b)/\Rel O av b E c w'/\q b E bc w'
def En.plain{O:Bs}{av:Nat}{q:St->Loc->List Deferred->World->Prop}{Q:Exit->St->Prop}{e:Exit}{W:Act}{w':World}(h:En O av q ql Q e W w'):∃b E a0 bc,W = {a0 with defers:=bc}/\Q e b/\Rel O av b E a0 w'/\q b E bc w':=by
 obtain⟨b,E,a0,bc,U,Y,c⟩:=h;exact⟨b,E,a0,bc,U,Y.resolve_right (λ⟨_,_,h⟩=>h),c⟩
def HA(P:Program)(rd:Option Nat)(O:Bs)(q:St->Loc->List Deferred->World->Prop)(u:fW)(c:Code)(s:St)(R:Exit->St->Prop):Prop:=∀(av:Nat)(β:Loc)(a:Act)(ds:List Deferred)(w:World),codeOk av c=T->Rel O av s β a w->q s β ds w->
 c.wpIn (fen rd) 0 P (En O av q u R) {a with defers:=ds} w
def spF(P:Program)(rd:Option Nat)(O:Bs)(q:St->Loc->List Deferred->World->Prop)(B:Nat)(u:fW):Sp:=⟨Hz P rd O q u,HA P rd O q u,ae,B⟩
@[go_sem]def TF(P:Program)(rd:Option Nat)(O:Bs)(q:St->Loc->List Deferred->World->Prop)(B:Nat)(u:fW):(spF P rd O q B u).base=B:=A6 rfl rfl
def br(O:Bs)(q:St->Loc->List Deferred->World->Prop):Prop:=∀s β ds w b E w',q s β ds w->Tr O β s w E b w'->q b E ds w'
section
variable{P:Program}{G:Nat->TI}{O:Bs}{w:World}{rd:Option Nat}{q:St->Loc->List Deferred->World->Prop}{u:fW}{B:Nat}
def vq.toF(b:br O q)(c:aX o=T){R:St->Prop}(h:vq P o s R):Hz P rd O q u o s R:=by
 intro d e a ds w V A hd next Q f _;exact iC c (h O d e a w V hd _ _ (λg E W i j bk l=>⟨bk.defers,f g E W i j bk (b _ _ _ _ _ _ _ A l)⟩))
def Ag(b:br O q)(c:aX o=T)(h:bu (spB P B) o s k):bu (spF P rd O q B u) o s k:=
 let ⟨R,U,Y⟩:=h
 ⟨R,U.toF b c,Y⟩
def PT{an:Sp}(h:opA an G o s k):opA (spB P an.base) G o s k\/bu an o s k:=by
 obtain⟨d,op,g,i,H,gd⟩:=o;cases op with
 |buildSlice=>cases d<;>first|exact .inl h|exact .inr h
 |makeSlice=>cases d<;>first|exact .inl h|exact .inr h
 |box=>cases d<;>first|exact .inl h|exact .inr h
 |alloc=>cases d<;>first|exact .inl h|exact .inr h
 |makeMap t r=>cases r<;>cases d<;>first|exact .inl h|exact .inr h
 |slice t x j l e=>cases e<;>first|exact .inl h|exact .inr h
 |indexAddr t x L=>cases x<;>first|exact .inr h|exact .inl h
 |makeFunc f=>cases f<;>first|exact .inl h|exact .inr h
 |call c=>
   obtain⟨callee,args,tys⟩:=c;cases callee with
   |value f=>exact .inr h
   |invoke r m=>exact .inr h
   |builtin b=>cases b<;>first|exact .inl h|exact .inr h|(cases d<;>first|exact .inl h|exact .inr h)
 |_=>first|exact .inl h|exact .inr h
def ng(hT:bp P G)(g:br O q){av:Nat}{β:Loc}(V:Rel O av s β a w)(A:q s β ds w)(i:aX o=T)(hd:∀d,o.dst=S d->d<av)(h:opA (spF P rd O q B u) G o s k)
(e:∀b E W w',K b->Rel O av b E W w'->q b E ds w'->next {W with defers:=ds} w')(I:∀f b E W w',u f b->Rel O av b E W w'->q b E ds w'->Q (.panic f) {W with defers:=ds} w'):o.wpIn (fen rd) 0 P {a with defers:=ds} w next Q:=by
 rcases PT (P:=P) h with h|⟨R,j,J⟩
 .exact iC i (mI hT V hd h (λb E W w' U Y c=>⟨Y.defers,e b E W w' U Y (g _ _ _ _ _ _ _ A c)⟩))
 .exact j av β a ds w V A hd next Q (λb E W w' U Y c=>e b E W w' (J b U) Y c) I
def jP(hT:bp P G)(c:br O q){av:Nat}{ops:Array Oper}{ds:List Deferred}{Q:Exit->Act->World->Prop}{K:St->Prop}{k:Box K}:∀(l:List Oper){s:St}{β:Loc}{a:Act}{w:World},Rel O av s β a w->q s β ds w->l.all aX=T->fP av l=T->wpO (spF P rd O q B u) G ops l s k->
  (∀s' E W w',K s'->Rel O av s' E W w'->q s' E ds w'->Q .normal {W with defers:=ds} w')->(∀J s' E W w',u J s'->Rel O av s' E W w'->q s' E ds w'->Q (.panic J) {W with defers:=ds} w')->wpListIn (fen rd) 0 P ops Q l {a with defers:=ds} w
 |[],s,β,a,w,V,A,_,_,h,i,_=>i s β a w h V A
 |o::rest,s,β,a,w,V,A,e,X,h,i,m=>by
   obtain⟨hd,g⟩:=kh X;simp only[C4,l4]at e;unfold wpO at h;unfold wpListIn;cases hg:o.guard with
   |none=>
     rw[hg]at h;simp only at h;rw[l7 (by simp[Region.wanted,hg])];exact ng hT c V A e.1 hd h (λs' E W w' U Y H=>jP hT c rest Y H e.2 g U i m) m
   |some p=>
     obtain⟨j,t⟩:=p;rw[hg]at h;simp only at h;obtain⟨d,L,h⟩:=aQ h;unfold mV at h;split at h
     .rename_i b y
      have hy:=V.yielded L y;have h:=jQ h;have bk:=V.reput y;have r:q {s with f:=upd s.f d (bv b)} β ds w:=c _ _ _ _ _ _ _ A (Tr.same rfl rfl rfl);by_cases hw:b=t
      .rw[l7 hw]at h
       rw[l7 WT];exact ng hT c bk r e.1 hd h (λs' E W w' U Y H=>jP hT c rest Y H e.2 g U i m) m
      .rw[j8 hw]at h
       rw[j8 WT];have I:=bk.put hd (x:=uv) (v:=undef) cL;refine⟨λ_ _=>trivial,?_⟩;rw[qy];exact jP hT c rest I (c _ _ _ _ _ _ _ r (Tr.same (St.put_gen _ _ _) (St.put_obj _ _ _) rfl)) e.2 g h i m
     .rename_i y
      have hy:=V.yielded_u L y;rw[j8 Xo];have I:=V.put hd (x:=uv) (v:=undef) cL;refine⟨λ_ _=>trivial,?_⟩;rw[qy];exact jP hT c rest I (c _ _ _ _ _ _ _ A (Tr.same (St.put_gen _ _ _) (St.put_obj _ _ _) rfl)) e.2 g h i m
     .exact Ub
def xu(h:∃m,p m):∃m,p m/\∀k,p k->m<=k:=by
 obtain⟨m,c⟩:=h
 induction m using Nat.strongRecOn with
 |ind m d=>
   by_cases hl:∃k,k<m/\p k
   .obtain⟨k,b,e⟩:=hl
    exact d k b e
   .exact⟨m,c,λk b=>Nat.le_of_not_lt λf=>hl ⟨k,f,b⟩⟩
open Classical in
noncomputable def leastOf(p:Nat->Prop):Nat:=if h:∃m,p m then Classical.choose (xu h)else 0
def leastOf_spec(h:∃m,p m):p (leastOf p)/\∀k,p k->leastOf p<=k:=by
 unfold leastOf;rw[dif_pos h];exact Classical.choose_spec (xu h)
def uz{b1:Fence}{w:World}{c:Code}(I:Nat->Act->World->Prop)(k:Nat)(d:I k a w)
 (b:∀m a w,I m a w->c.wpIn b1 n P (Exit.then (λW w'=>∃m',m'<m/\I m' W w') Q) a w):(Code.loop c).wpIn b1 n P Q a w:=by
 refine wpIn_loop (λa w=>∃m,I m a w) (λa w=>leastOf λm=>I m a w) ⟨k,d⟩ (λa w h=>?_);refine wpIn_mono (b _ a w (leastOf_spec h).1) (λe W w' f=>?_);cases e with
 |normal=>
   obtain⟨m',i,g⟩:=f;exact⟨⟨m',g⟩,F8 ((leastOf_spec ⟨m',g⟩).2 m' g) i⟩
 |_=>exact f
end
end
end
section
section
def nb:D->Bool
 |.sl _|.iptr _=>F
 |_=>T
def jo:C->Bool
 |.d x=>nb x
 |_=>F
def ea:AV->Bool
 |.one c=>jo c
 |.agg cs=>cs.all jo
 |.tup A=>A.all λt=>match t with|.one c=>jo c|_=>F
 |.junk=>F
 |.exact _=>F
variable{s:St}{args:Array Operand}{tys:Array TypeId}{R:AV->Prop}{xs:List AV}
section
variable{P:Program}{G:Nat->TI}{O:Bs}{β:Loc}{w:World}
def cr.of_scalar{J m:Nat->Prop}{w w':World}{x:D}{v:Value}(a:nb x=T)(h:cr J w x v):cr m w' x v:=by
 cases h<;>first|(exfalso;simp[nb]at a;done)|constructor
def RVc.of_scalar{J m:Nat->Prop}{w w':World}{c:C}{v:Value}(a:jo c=T)(h:RVc J w c v):RVc m w' c v:=by
 obtain⟨x,rfl,I⟩:=h;exact⟨x,rfl,I.of_scalar a⟩
def RVs.of_scalar{J m:Nat->Prop}{w w':World}:∀{A:List AV}{vs:List Value},(A.all λt=>match t with|.one c=>jo c|_=>F)=T->RVs J w A vs->RVs m w' A vs
 |[],_,_,h=>by simp only[RVs]at h|-;exact h
 |t::A,vs,a,h=>by
   simp only[C4,l4]at a;simp only[RVs]at h|-;obtain⟨u,b,rfl,U,Y⟩:=h;refine⟨u,b,rfl,?_,RVs.of_scalar a.2 Y⟩;cases t with
   |one c=>simp only[RV]at U|-;exact RVc.of_scalar a.1 U
   |_=>simp at a
def RV.of_scalar{J m:Nat->Prop}{w w':World}{x:AV}{v:Value}(a:ea x=T)(h:RV J w x v):RV m w' x v:=by
 cases x with
 |one c=>simp only[RV]at h|-;exact RVc.of_scalar a h
 |agg cs=>
   simp only[RV]at h|-;obtain⟨vs,U,Y,d⟩:=h;simp only[ea,x7]at a;exact⟨vs,U,Y,λi c b=>let ⟨u,hu,V⟩:=d i c b;⟨u,hu,V.of_scalar (a c (l5 b))⟩⟩
 |tup A=>
   simp only[RV]at h|-;obtain⟨vs,U,Y⟩:=h;exact⟨vs,U,RVs.of_scalar a Y⟩
 |junk=>simp[ea]at a
 |exact=>simp[ea]at a
def FG{o:Oper}{f:FuncId}(ho:o.op=.call ⟨.value (.func f),args,tys⟩)
 (I:eu s (args.toList.map s.ev) xs)(b:aF P f xs R)(hd:∀r,R r->ea r=T):vq P o s (λs'=>∃r,R r/\s'=s.put o.dst r):=by
 intro O A β a w V c next Q g;unfold Oper.wp;rw[ki ho b.1 w];simp only[Oper.upon]
 have p:∀(l:List Operand)(xs:List AV),eu s (l.map s.ev) xs->RVs (Own O w) w xs (l.map a.eval):=by
  intro l
  induction l with
  |nil=>intro xs h;simp only[v8,eu]at h;subst h;simp only[v8,RVs]
  |cons x l i=>
    intro xs h;simp only[l9,eu]at h;obtain⟨r,j,rfl,U,Y⟩:=h;simp only[l9,RVs];exact⟨_,_,rfl,U.rep V (V.ev x),i j Y⟩
 have:=b.2 (Own O w) w (args.toList.map a.eval) (λ_ h=>h.1) (p _ _ I);rw[show (args.toList.map a.eval).toArray=args.map a.eval from H6 a8]at this;refine this.mono λe w'⟨v,r,k,d,m,n,q,t⟩=>?_;subst k;obtain⟨u,y⟩:=V.grow m n q;exact g _ β _ w' ⟨r,d,rfl⟩ (u.put c (RV.rep r (RV.of_scalar (hd r d) t))) (y.trans (Tr.same (St.put_gen _ _ _) (St.put_obj _ _ _) rfl))
def xp{o:Oper}{K:St->Prop}{k:Box K}{f:FuncId}(ho:o.op=.call ⟨.value (.func f),args,tys⟩)
 (I:eu s (args.toList.map s.ev) xs)(a:aF P f xs R)(hd:∀r,R r->ea r=T)(b:∀r,R r->K (s.put o.dst r)):bu (sp P) o s k:=
 ⟨_,FG ho I a hd,λ_⟨r,V,e⟩=>e▸b r V⟩
def rm{c:Type}{id g off len:Nat}{cells:List C}(hg:s.gen id=g)(ho:s.obj id=S cells)(l:List c)(enc:c->D)(k:∀a,ir (enc a)=enc a)(bf:z l=len)
 (f:∀(j:Nat)(a:c),l[j]?=S a->cells[off+j]?=S (.d (enc a)))(o:off+len<=z cells):Frz s (.osl id g 1 off len) (.sl (l.map λa=>[enc a])):=by
 have i:(l.map λa=>[enc a]).flatten=l.map enc:=by
  clear bf f
  induction l with
  |nil=>rfl
  |cons a l m=>simp[m]
 refine .osl hg ho a6 (by simpa using bf) (λe n=>by obtain⟨a,_,rfl⟩:=G3.1 n;rfl) (λj=>(cells[off+j]?).getD (.d .nsl)) (λj x I=>?_) (λj x I=>?_)
 .rw[i,y7]at I
  cases b:l[j]? with
  |none=>rw[b]at I;cases I
  |some a=>rw[f j a b];rfl
 .rw[i,y7]at I
  cases b:l[j]? with
  |none=>rw[b]at I;cases I
  |some a=>
    rw[b]at I;simp only[z8,w9]at I;subst I;rw[f j a b];have:=Frz.d (s:=s) (enc a);rw[k]at this;exact this
end
end
def ae.trans{s d b:St}(h:ae s d)(c:ae d b):ae s b:=λO av β a w V=>by
 obtain⟨j,e,f⟩:=h O av β a w V;obtain⟨bl,g,i⟩:=c O av j a w e;exact⟨bl,g,f.trans i⟩
def St.grab(s:St)(t id sz:Nat):St:=
 {f:=upd s.f t (.one (.osl id (s.gen id+1) sz 0 0)),gen:=upd s.gen id (s.gen id+1),obj:=upd s.obj id (S [])}
def uK{s:St}{t id sz:Nat}(o:s.f t=.one (.d .nsl)):ae s (s.grab t id sz):=by
 intro O J j a w V
 let E:Loc:=λi=>if i=id then N else j i
 have m:ft O j s.gen s.obj w E (s.grab t id sz).gen (s.grab t id sz).obj w:=by
  refine⟨λx I=>⟨⟨I.1,I.2.1,λi W b B=>?_⟩,rfl⟩,λi=>?_,λi k b=>?_⟩
  .simp only[St.grab,upd,E]at b B
   split at B
   .cases B
   .rename_i bl
    simp only[bl,B8]at b;exact I.2.2 i W b B
  .simp only[St.grab,upd];split
   .rename_i h;subst h;omega
   .omega
  .simp only[St.grab,upd,E]at k b|-
   by_cases bl:i=id
   .subst bl;simp at k
   .simp only[bl,B8]at b|-
    exact⟨b,trivial,λW an p c0 q U=>⟨p,c0,q,U,l0 _⟩⟩
 refine⟨E,⟨V.defers,V.size,λi=>?_,λi l r=>?_,λv u y A U Y c e G=>?_,V.base⟩,l0 _,λ_ _=>rfl,m,rfl,rfl⟩
 .by_cases n:i=t
  .subst n
   have g:=V.f i;rw[o]at g;simp only[ag,aD]at g;rw[g.inv_nsl];simp only[St.grab,upd,B5,ag,aD];refine⟨rfl,l0 _,λ_ _=>?_⟩;simp only[E,B5];exact⟨rfl,rfl⟩
  .have:=ag.keep m _ (V.f i)
   simpa only[St.grab,upd,n,B8]using this
 .simp only[St.grab,upd,E]at r|-
  by_cases bl:i=id
  .simp only[bl,B5,w9]at r|-
   subst r;rfl
  .simp only[bl,B8]at r|-
   exact(V.obj i l r).keep m (λ_ _=>rfl)
 .simp only[St.grab,upd,E]at U Y c e
  split at c
  .cases c
  .split at e
   .cases e
   .rename_i Q H
    simp only[Q,H,B8]at U Y;exact V.inj v u y A U Y c e G
section
inductive iB (P:Nat->Prop) (s:St):C->D->Prop where
 |d (x:D):iB P s (.d x) x
 |nil:iB P s (.d .nsl) (.sl [])
 |osl {id g sz off len:Nat}{cells:List C}{es:List (List D)} (hp:P id) (hg:s.gen id=g) (ho:s.obj id=some cells) (b5:off+len*sz<=cells.length) (bf:es.length=len) (bc:∀e∈es,e.length=sz)
    (k:Nat->C) (hc:∀(j:Nat)(x:D),es.flatten[j]?=some x->cells[off+j]?=some (k j)) (hf:∀(j:Nat)(x:D),es.flatten[j]?=some x->iB P s (k j) x):iB P s (.osl id g sz off len) (.sl es)
variable{P:Nat->Prop}{s:St}
section
variable{O:Bs}{β:Loc}{w:World}
def iB.rep{av:Nat}{a:Act}{Z:Obs}(J:∀id,(Z id).isSome=T->(s.obj id).isSome=T/\¬P id)(V:Rel O av s β a w){c:C}{x:D}(h:iB P s c x):
  ∀{v:Value},aD O β s.gen s.obj w c v->cr (Imm O β Z w) w x v:=by
 induction h with
 |d x=>
   intro v r;have r:cr (Imm O β s.obj w) w x v:=r;exact r.mono λb E=>⟨⟨E.1,E.2.1,λid W ho H=>E.2.2 id W (J id ho).1 H⟩,rfl⟩
 |nil=>
   intro v r;have r:cr (Imm O β s.obj w) w .nsl v:=r;rw[r.inv_nsl];exact .sl0
 |osl Q X ho b5 hlen bc k hc hf ih=>
   rename_i id g sz off len y es;intro v r;have A:=iH r X Yp;have G:=V.obj id y ho;cases H:β id with
   |none=>
     exact UL
   |some t=>
     rw[H]at A G;obtain⟨b2,A⟩:=A;obtain⟨hB,arr,el,lo,hi,q,L,c2,bo⟩:=G.cells b2;rcases A with⟨cap,rfl,cc,_⟩|⟨cx,o,rfl⟩
     .rw[<-hlen]
      have l:∀i e,es[i]?=S e->∀j x,e[j]?=S x->es.flatten[i*sz+j]?=S x:=λi e he j x I=>by
       exact hO
      have K:∀m x,es.flatten[m]?=S x->∃u,w.cell? ⟨t.block,t.off+off+m,N⟩=S u/\cr (Imm O β Z w) w x u:=λm x I=>by
       exact VS
      have hJ:Imm O β Z w t.block:=⟨(C8.1 q).1,λh=>absurd hB a6,λdh a2 cz p he=>by
       obtain⟨U,Y⟩:=J dh cz;exact Y (V.inj dh id a2 t U Yp p H he▸Q)⟩
      refine .sl (b:=t.block) (off:=t.off+off) (sz:=sz) (λi j=>(w.cell? ⟨t.block,t.off+off+(i*sz+j),N⟩).getD undef) a6 (λ_=>hJ) bc (λi e he j x I=>?_) (λi e he j x I=>?_)
      .obtain⟨u,hu,_⟩:=K _ x (l i e he j x I)
       rw[C7,hu];rfl
      .obtain⟨u,hu,f⟩:=K _ x (l i e he j x I)
       rw[hu];exact f
     .subst cx
      have:es=[]:=r0 hlen;subst this;exact .sl0
def CC{R n:C->Value->Prop}(m:∀c v,R c v->n c v)(b:∀c x v,R c v->iB P s c x->n (.d x) v){kd:TypeDesc}:
  ∀{cells:List C}{es:List MapEntry}{l:List C},eI R kd cells es->z l=z cells->(∀(j:Nat)(c c':C),cells[j]?=S c->l[j]?=S c'->c'=c\/∃x,iB P s c x/\c'=.d x)->eI n kd l es:=by
 intro cells es l h
 induction h generalizing l with
 |nil=>intro hl _;rw[r0 hl];exact .nil
 |cons g U Y _ i=>
   rename_i k c e q es _;intro hl a
   match l,hl with
   |E::c'::r,hl=>
     have W:=a 0 _ _ rfl rfl
     have f:E=.d k:=by
      rcases W with rfl|⟨x,I,rfl⟩
      .rfl
      .cases I with
       |d=>rfl
       |nil=>exfalso;cases kd<;>simp[iF]at g
     subst f;refine .cons g U ?_ (i W8 (λj c1 c2 o p=>a (j+2) c1 c2 (by simpa using o) (by simpa using p)));rcases a 1 _ _ rfl rfl with rfl|⟨x,I,rfl⟩
     .exact m _ _ Y
     .exact b _ _ _ Y I
def iB.repM{s a:St}{E:Loc}(m:ft O β s.gen s.obj w E a.gen a.obj w)(b:∀{c:C}{x:D}{v:Value},aD O β s.gen s.obj w c v->iB P s c x->cr (Imm O E a.obj w) w x v){kd:Nat}{c:C}{x:D}{v:Value}
 (h:jB O β s.gen s.obj w kd c v)(I:iB P s c x):jB O E a.gen a.obj w kd (.d x) v:=by
 by_cases e:kd<200
 .rw[yy e]at h|-
  exact b h I
 .have f:=h.keep m
  unfold jB at h;rw[j8 e]at h;obtain⟨ds,vs,rfl,_⟩:=h;cases I;exact f
def sx(P:Nat->Prop){s e:St}(hg:e.gen=s.gen)
 (hf:∀i,e.f i=s.f i\/∃c x,s.f i=.one c/\e.f i=.one (.d x)/\iB P s c x)
 (ho:∀i l,e.obj i=S l->¬P i/\∃cells,s.obj i=S cells/\z l=z cells/\∀(j:Nat)(c c':C),cells[j]?=S c->l[j]?=S c'->c'=c\/∃x,iB P s c x/\c'=.d x):ae s e:=by
 intro O av β a w V
 have J:∀id,(e.obj id).isSome=T->(s.obj id).isSome=T/\¬P id:=λid h=>by
  cases E:e.obj id with
  |none=>rw[E]at h;cases h
  |some l=>
    obtain⟨U,cells,Y,_⟩:=ho id l E;exact⟨by rw[Y];rfl,U⟩
 have m:ft O β s.gen s.obj w β e.gen e.obj w:=
  ⟨λb t=>⟨⟨t.1,t.2.1,λid W U Y=>t.2.2 id W (J id U).1 Y⟩,rfl⟩,λ_=>by rw[hg];exact l0 _,
   λid _ h=>⟨(J id h).1,rfl,λW _ arr el fr U=>⟨arr,el,fr,U,l0 _⟩⟩⟩
 refine⟨β,⟨V.defers,V.size,λi=>?_,λid l r=>?_,λG u a1 a2 U Y=>V.inj G u a1 a2 (J G U).1 (J u Y).1,V.base⟩,l0 _,λ_ _=>rfl,m,rfl,rfl⟩
 .rcases hf i with U|⟨c,x,U,Y,g⟩
  .rw[U];exact ag.keep m _ (V.f i)
  .have:=V.f i
   rw[U]at this;rw[Y];exact iB.rep J V g this
 .obtain⟨_,cells,Y,g,y⟩:=ho id l r
  have k:=V.obj id cells Y;cases H:β id with
  |none=>
    rw[H]at k;have hz:cells=[]:=k;subst hz;exact r0 g
  |some ad=>
    rw[H]at k;cases q:ad.spot with
    |some K=>
      obtain⟨L,⟨es,Q,A,B⟩|⟨p,o,A,B⟩⟩:=k.map q
      .refine .ofMap q ⟨L,.inl ⟨es,Q,A,?_⟩⟩
       exact CC (R:=jB O β s.gen s.obj w K) (n:=jB O β e.gen e.obj w K) (λ_ _=>jB.keep m) (λ_ _ _ h I=>iB.repM (P:=P) m (λh I=>iB.rep J V I h) h I) B g y
      .refine .ofMap q ⟨L,.inr ⟨p,o,?_,B⟩⟩
       subst A
       match l,g with
       |[c'],_=>
         rcases y 0 _ _ rfl rfl with rfl|⟨x,I,rfl⟩
         .rfl
         .cases I
    |none=>
    obtain⟨g2,arr,el,lo,hi,g3,g4,g5,g6⟩:=k.cells q;refine .ofCells q ⟨g2,arr,el,lo,hi,g3,(by rw[hg];exact g4),a6,λj c' X=>?_⟩;have Z:j<z cells:=by rw[<-g];exact(l8.1 X).1
    obtain⟨v,hv,bf⟩:=g6 j cells[j] (y8 Z);refine⟨v,hv,?_⟩;rcases y j cells[j] c' (y8 Z) X with rfl|⟨x,I,rfl⟩
    .exact aD.keep m bf
    .exact iB.rep J V I bf
def St.drop1(s:St)(id o:Nat)(cs:List C):St:={s with obj:=λi=>if i=id then N else if i=o then S cs else s.obj i}
def Hq{id o:Nat}{cells cs:List C}(ho:s.obj o=S cells)(hl:z cs=z cells)
 (h:∀(j:Nat)(c c':C),cells[j]?=S c->cs[j]?=S c'->c'=c\/∃x,iB (·=id) s c x/\c'=.d x):ae s (s.drop1 id o cs):=by
 refine sx (·=id) rfl (λi=>.inl rfl) (λi l a=>?_);simp only[St.drop1]at a;by_cases U:i=id
 .rw[l7 U]at a;cases a
 .rw[j8 U]at a
  refine⟨U,?_⟩;by_cases Y:i=o
  .rw[l7 Y]at a
   cases a;subst Y;exact⟨cells,ho,hl,h⟩
  .rw[j8 Y]at a
   exact⟨l,a,rfl,λj c c' e b=>.inl (by rw[e]at b;exact(E8 b).symm)⟩
end
end
section
def jl(P:Program)(f:FuncId)(xs:List AV)(g:Nat->Nat)(ob:Obs)(R:AV->(Nat->Nat)->Obs->Prop):Prop:=
 yK P f/\∀(O:Bs)(i:Nat)(β:Loc)(a:Act)(d:Nat->AV)(w:World)(vs:List Value),Rel O i ⟨d,g,ob⟩ β a w->aO O β g ob w xs vs->
  Calls P f vs.toArray w λe h=>∃v r c Z E,e=.returned v/\R r c Z/\ag O E c Z h r v/\
   (∀id b,Z id=S b->dX O E c Z h (c id) b (E id))/\(∀id K a W,(Z id).isSome=T->(Z K).isSome=T->E id=S a->E K=S W->a.block=W.block->id=K)/\
   Tr O β ⟨d,g,ob⟩ w E ⟨d,c,Z⟩ h
def jl.mono{P:Program}{f:FuncId}{xs:List AV}{g:Nat->Nat}{ob:Obs}{R n:AV->(Nat->Nat)->Obs->Prop}(h:jl P f xs g ob R)(V:∀r g' Z,R r g' Z->n r g' Z):jl P f xs g ob n:=
 ⟨h.1,λO b β a c w vs U Y=>(h.2 O b β a c w vs U Y).mono λ_ _⟨v,r,g',Z,E,d,e,i⟩=>⟨v,r,g',Z,E,d,V _ _ _ e,i⟩⟩
variable{s:St}{f:FuncId}{R:AV->(Nat->Nat)->Obs->Prop}{o:Oper}{args:Array Operand}{tys:Array TypeId}{g:Nat->Nat}{K:St->Prop}{bf:List PC}
section
variable{P:Program}{G:Nat->TI}{O:Bs}{β:Loc}{w:World}
def lM(f:Nat->AV):List Nat->AV
 |[t]=>f t
 |A=>.tup (A.map f)
def zY(k:List Nat)(R:AV->(Nat->Nat)->Obs->Prop):Exit->St->Prop
 |.normal,s|.ret,s=>∃a,ae s a/\R (lM a.f k) a.gen a.obj
 |_,_=>False
def aO.of_slots{av:Nat}{s:St}{a:Act}(V:Rel O av s β a w):∀A:List Nat,aO O β s.gen s.obj w (A.map s.f) (A.map λt=>a.tmps.getD t undef)
 |[]=>by simp only[v8,aO]
 |t::A=>by simp only[l9,aO];exact⟨_,_,rfl,V.f t,aO.of_slots V A⟩
def FH{av:Nat}{a:Act}(V:Rel O av s β a w):∀k:List Nat,ag O β s.gen s.obj w (lM s.f k) (nj a.tmps k)
 |[]=>by simp only[lM,nj,v8,ag,aO];exact⟨[],rfl,rfl⟩
 |[t]=>V.f t
 |t::b::A=>by simp only[lM,nj,ag];exact⟨_,rfl,aO.of_slots V (t::b::A)⟩
def aO.len{g:Nat->Nat}{ob:Obs}:∀{A:List AV}{vs:List Value},aO O β g ob w A vs->z vs=z A
 |[],vs,h=>by simp only[aO]at h;rw[h];rfl
 |t::A,vs,h=>by simp only[aO]at h;obtain⟨u,a,rfl,_,h⟩:=h;simp[aO.len h]
def FI(B:Nat)(hT:bp P G)(J:P.follows .mixedOrders=T){fn:Func}{c:Code}(hf:P.funcs[f]?=S fn)(u:fn.body=S c)(Q:(fn.name == "runtime.NumGoroutine")=F)
 (k:List Nat)(L:fn.results=(k.map ResultVar.tmp).toArray)(X:codeOk fn.ntmps c=T){xs:List AV}(p:z xs<=fn.ntmps){ob:Obs}
 (h:wpC (spB P B) G c (bx (zY k R)) ⟨dA xs,g,ob⟩):jl P f xs g ob R:=by
 refine⟨⟨fn,hf,by rw[u];rfl,Q⟩,λO av β a y w vs q hv=>?_⟩;refine calls_of_wp hf u ?_;have hl:=hv.len
 have V:Rel O fn.ntmps ⟨dA xs,g,ob⟩ β {tmps:=vs.toArray++Array.replicate (fn.ntmps-vs.toArray.size) undef,defers:=[]} w:=by
  refine⟨rfl,by simp;omega,λi=>?_,q.obj,q.inj,q.base⟩;simp only[dA];cases I:xs[i]? with
  |some x=>
    exact lb
  |none=>
    exact VT
 refine wp_mono (fe (B:=B) hT J c X V h) (λe W j hp=>?_);obtain⟨s',E,m,bk,ht⟩:=hp
 have d:zY k R .ret s'->∃v,(results fn W.tmps).run P j=.ok v j/\∃A r n Z E,Ending.returned v=.returned A/\R r n Z/\ag O E n Z j r A/\
   (∀id b,Z id=S b->dX O E n Z j (n id) b (E id))/\(∀id K a W,(Z id).isSome=T->(Z K).isSome=T->E id=S a->E K=S W->a.block=W.block->id=K)/\
   Tr O β ⟨y,g,ob⟩ w E ⟨y,n,Z⟩ j:=by
  rintro⟨s2,bz,hR⟩;obtain⟨bl,t,a1⟩:=bz O fn.ntmps E W j bk;have H:=ht.trans a1;exact⟨_,oW k L W.tmps,_,_,_,_,bl,rfl,hR,FH t k,t.obj,t.inj,⟨H.size,H.old,H.keep,H.os⟩⟩
 cases e with
 |normal=>exact⟨bk.defers,d m⟩
 |ret=>exact⟨bk.defers,d m⟩
 |exit id=>exact m.elim
 |goto l=>exact m.elim
 |panic ch=>exact m.elim
 |outgrown=>exact m.elim
def jq{av:Nat}{s:St}{a:Act}(V:Rel O av s β a w):∀l:List Operand,aO O β s.gen s.obj w (l.map s.ev) (l.map a.eval)
 |[]=>by simp only[v8,aO]
 |x::l=>by simp only[l9,aO];exact⟨_,_,rfl,V.ev x,jq V l⟩
def ja{av:Nat}{a:Act}(V:Rel O av s β a w){dst:Option Nat}(c:∀d,dst=S d->d<av){r:AV}{v:Value}{g':Nat->Nat}{Z:Obs}{E:Loc}{w':World}{fa:Nat->AV}
 (h:ag O E g' Z w' r v)(ho:∀id cells,Z id=S cells->dX O E g' Z w' (g' id) cells (E id))(j:∀id K a W,(Z id).isSome=T->(Z K).isSome=T->E id=S a->E K=S W->a.block=W.block->id=K)
 (b:Tr O β ⟨fa,s.gen,s.obj⟩ w E ⟨fa,g',Z⟩ w'):Rel O av (St.put ⟨s.f,g',Z⟩ dst r) E (a.put dst v) w'/\Tr O β s w E (St.put ⟨s.f,g',Z⟩ dst r) w':=by
 have e:ft O β s.gen s.obj w E g' Z w':=b.keep;have U:Rel O av ⟨s.f,g',Z⟩ E a w':=⟨V.defers,V.size,λi=>ag.keep e _ (V.f i),ho,j,C1 V.base b.size⟩
 exact⟨U.put c h,⟨b.size,b.old,by rw[St.put_gen,St.put_obj];exact e,b.os⟩⟩
def Hr(ho:o.op=.call ⟨.value (.func f),args,tys⟩)
 (b:jl P f (args.toList.map s.ev) s.gen s.obj R):vq P o s (λd=>∃r g' Z,R r g' Z/\d=St.put ⟨s.f,g',Z⟩ o.dst r):=by
 intro O i β a w V c next Q hn;unfold Oper.wp;rw[ki ho b.1 w];simp only[Oper.upon];have:=b.2 O i β a s.f w (args.toList.map a.eval) V (jq V _);rw[show (args.toList.map a.eval).toArray=args.map a.eval from H6 a8]at this;exact T6
def ct{k:Box K}{B:Nat}(ho:o.op=.call ⟨.value (.func f),args,tys⟩)
 (b:jl P f (args.toList.map s.ev) s.gen s.obj R)(c:∀r a Z,R r a Z->K (St.put ⟨s.f,a,Z⟩ o.dst r)):bu (spB P B) o s k:=
 ⟨_,Hr ho b,λ_⟨r,a,Z,V,e⟩=>e▸c r a Z V⟩
def kJ:PC->AV
 |.d x=>.one (.d x)
 |.ptr id g off=>.one (.ptr id g off)
def kF.av{ob:Obs}{p:PC}{v:Value}(h:kF O β g ob w p v):ag O β g ob w (kJ p) v:=by
 cases p<;>simpa only[kJ,ag,aD,kF]using h
def aO.append{g:Nat->Nat}{ob:Obs}:∀{xs Q:List AV}{vs a:List Value},aO O β g ob w xs vs->aO O β g ob w Q a->aO O β g ob w (xs++Q) (vs++a)
 |[],Q,vs,a,h,b=>by simp only[aO]at h;subst h;exact b
 |x::xs,Q,vs,a,h,b=>by
   simp only[aO]at h;obtain⟨u,i,rfl,U,Y⟩:=h;simp only[u7,aO];exact⟨_,_,rfl,U,aO.append Y b⟩
def oA{g:Nat->Nat}{ob:Obs}:∀{bf:List PC}{vs:List Value},z vs=z bf->(∀(i:Nat)(pc:PC),bf[i]?=S pc->∃u,vs[i]?=S u/\kF O β g ob w pc u)->aO O β g ob w (bf.map kJ) vs
 |[],vs,hl,_=>by simp only[v8,aO];exact r0 hl
 |p::bf,vs,hl,h=>by
   match vs,hl with
   |u::us,hl=>
     simp only[l9,aO];obtain⟨b,a,V⟩:=h 0 p rfl;simp at a;subst a;exact⟨_,_,rfl,V.av,oA W8 (λi pc hi=>by simpa using h (i+1) pc Xv)⟩
def Hs{t:Nat}(ho:o.op=.call ⟨.value (.tmp t),args,tys⟩)(hf:s.f t=.one (.clo f bf))
 (hp:jl P f (args.toList.map s.ev++bf.map kJ) s.gen s.obj R)(bc:f<1000000:=by decide):vq P o s (λs'=>∃r g' Z,R r g' Z/\s'=St.put ⟨s.f,g',Z⟩ o.dst r):=by
 intro O av β a w V c next Q hn;have hv:=V.f t;rw[hf]at hv;simp only[ag,aD]at hv;obtain⟨vs,c1,m,j⟩:=hv;rw[uL bc]at c1
 have bz:(execOp a.eval o).run P w=.ok (.enter f (args.map a.eval++vs)) w:=by
  exact l3
 unfold Oper.wp;rw[bz];simp only[Oper.upon];have hc:aO O β s.gen s.obj w (bf.map kJ) vs.toList:=oA (by simpa using m) (λi pc hi=>let ⟨u,U,Y⟩:=j i pc hi;⟨u,by simpa using U,Y⟩);have:=hp.2 O av β a s.f w (args.toList.map a.eval++vs.toList) V ((jq V _).append hc);rw[show (args.toList.map a.eval++vs.toList).toArray=args.map a.eval++vs from H6 a8]at this;exact T6
def Ht{k:Box K}{B:Nat}{t:Nat}(ho:o.op=.call ⟨.value (.tmp t),args,tys⟩)(hf:s.f t=.one (.clo f bf))
(hp:jl P f (args.toList.map s.ev++bf.map kJ) s.gen s.obj R)(hk:∀r g' Z,R r g' Z->K (St.put ⟨s.f,g',Z⟩ o.dst r))(bc:f<1000000:=by decide):bu (spB P B) o s k:=
 ⟨_,Hs ho hf hp bc,λ_⟨r,g',Z,V,e⟩=>e▸hk r g' Z V⟩
end
end
end
section
attribute[local congr]ite_cc
section
inductive yu (B:Nat) (s:St):AV->AV->Prop where
 |one {c:C}{x:D} (h:iB (B<=·) s c x):yu B s (.one c) (.one (.d x))
 |agg {cs:List C}{xs:List D} (hl:xs.length=cs.length) (h:∀(i:Nat)(c:C),cs[i]?=some c->∃x,xs[i]?=some x/\iB (B<=·) s c x):yu B s (.agg cs) (.agg (xs.map .d))
def fT(B:Nat)(s:St):List AV->List AV->Prop
 |[],rs=>rs=[]
 |t::A,rs=>∃r q,rs=r::q/\yu B s t r/\fT B s A q
def PN(B:Nat)(g:Nat->Nat)(ob:Obs)(k:List Nat)(R:AV->Prop):Exit->St->Prop
 |.normal,s|.ret,s=>(∀i,i<B->s.gen i=g i)/\(∀i,i<B->s.obj i=ob i)/\
   match k with
   |[t]=>∃r,yu B s (s.f t) r/\R r
   |A=>∃a,fT B s (A.map s.f) a/\R (.tup a)
 |_,_=>False
variable{s:St}{R:AV->Prop}{B:Nat}{B0:Nat}{Q:Exit->St->Prop}{K:St->Prop}{q:Box Q}
section
variable{P:Program}{G:Nat->TI}{O:Bs}{β:Loc}{w:World}
def yu.rep{B av:Nat}{s:St}{a:Act}{Z:Obs}(J:∀id,(Z id).isSome=T->(s.obj id).isSome=T/\¬B<=id)(V:Rel O av s β a w){x r:AV}(h:yu B s x r){v:Value}(j:ag O β s.gen s.obj w x v){g':Nat->Nat}{E:Loc}(H:∀id,(Z id).isSome=T->E id=β id):ag O E g' Z w r v:=by
 have bc:∀b,Imm O β Z w b->Imm O E Z w b/\w.heap[b]?=w.heap[b]?:=λb l=>⟨⟨l.1,l.2.1,λid a ho n=>l.2.2 id a ho (by rw[<-H id ho];exact n)⟩,rfl⟩
 cases h with
 |one h=>
   simp only[ag]at j|-;simp only[aD];exact(iB.rep J V h j).mono bc
 |agg hl h=>
   rename_i o p;simp only[ag]at j|-;obtain⟨vs,U,Y,t⟩:=j;refine⟨vs,U,by rw[Y,j5,hl],λi c g=>?_⟩;rw[y7]at g;cases k:p[i]? with
   |none=>rw[k]at g;cases g
   |some y=>
     rw[k]at g;simp only[z8,w9]at g;subst g;have m:i<z o:=by rw[<-hl];exact(l8.1 k).1
     obtain⟨u,A,f⟩:=t i _ (y8 m);obtain⟨e,d,I⟩:=h i _ (y8 m);have:e=y:=by simpa[d]using k
     subst this;refine⟨u,A,?_⟩;simp only[aD];exact(iB.rep J V I f).mono bc
def fT.rep{B av:Nat}{s:St}{a:Act}{Z:Obs}(J:∀id,(Z id).isSome=T->(s.obj id).isSome=T/\¬B<=id)(V:Rel O av s β a w){g':Nat->Nat}{E:Loc}(H:∀id,(Z id).isSome=T->E id=β id):
  ∀(A:List Nat){b:List AV},fT B s (A.map s.f) b->aO O E g' Z w b (A.map λt=>a.tmps.getD t undef)
 |[],b,h=>by simp only[v8,fT]at h;subst h;simp only[v8,aO]
 |t::A,b,h=>by
   simp only[l9,fT]at h;obtain⟨r,q,rfl,U,Y⟩:=h;simp only[l9,aO];exact⟨_,_,rfl,U.rep J V (V.f t) H,fT.rep J V H A Y⟩
def aD.back{E:Loc}{g g':Nat->Nat}{ob Z:Obs}{w w':World}(hl:∀id,(ob id).isSome=T->g' id=g id/\E id=β id/\(Z id).isSome=T)(bc:∀b,Imm O E Z w' b->Imm O β ob w' b)
 {c:C}{v p:Value}(h:aD O E g' Z w' c v)(h0:aD O β g ob w c p):aD O β g ob w' c v:=by
 cases c with
 |d x=>exact cr.mono h λb k=>⟨bc b k,rfl⟩
 |osl id g1 sz off len=>
   exact zs
 |ptr id g1 off=>
   exact zs
 |mp id g1 A=>
   exact zs
 |lsl n=>exact h
 |raw o=>exact h.elim
 |clo f H=>
   obtain⟨vs,U,Y,r⟩:=h;obtain⟨e,_,_,a⟩:=h0;refine⟨vs,U,Y,λi pc l=>?_⟩;obtain⟨u,t,V⟩:=r i pc l;obtain⟨j,_,y⟩:=a i pc l;refine⟨u,t,?_⟩;cases pc with
   |d x=>exact cr.mono V λb k=>⟨bc b k,rfl⟩
   |ptr id g1 off=>
     refine⟨V.1,y.2.1,λhg ho=>?_⟩;obtain⟨q,J,m⟩:=hl id ho;rw[<-J];exact V.2.2 (by rw[q];exact hg) m
def eI.back{R b n:C->Value->Prop}{kd:TypeDesc}{cs:List C}{es e:List MapEntry}(h:eI R kd cs es)(f:eI b kd cs e)(V:∀c v g,R c v->b c g->n c v):eI n kd cs es:=by
 induction h generalizing e with
 |nil=>exact .nil
 |cons i U Y _ j=>
   cases f with
   |cons _ _ a d=>exact .cons i U (V _ _ _ Y a) (j d)
def CD(B:Nat)(hT:bp P G)(hm:P.follows .mixedOrders=T){f:FuncId}{fn:Func}{c:Code}(hf:P.funcs[f]?=S fn)(hb:fn.body=S c)(hn:(fn.name == "runtime.NumGoroutine")=F)
 (k:List Nat)(L:fn.results=(k.map ResultVar.tmp).toArray)(bd:codeOk fn.ntmps c=T){xs:List AV}(p:z xs<=fn.ntmps){g:Nat->Nat}{ob:Obs}(hB:∀i,B<=i->ob i=N)
 (h:wpC (spB P B) G c (bx (PN B g ob k R)) ⟨dA xs,g,ob⟩):jl P f xs g ob (λr g' Z=>R r/\g'=g/\Z=ob):=by
 refine⟨⟨fn,hf,by rw[hb];rfl,hn⟩,λO av β a fa w vs cb hv=>?_⟩;refine calls_of_wp hf hb ?_;have hl:=hv.len
 have V:Rel O fn.ntmps ⟨dA xs,g,ob⟩ β {tmps:=vs.toArray++Array.replicate (fn.ntmps-vs.toArray.size) undef,defers:=[]} w:=by
  refine⟨rfl,by simp;omega,λi=>?_,cb.obj,cb.inj,cb.base⟩;simp only[dA];cases I:xs[i]? with
  |some x=>
    exact lb
  |none=>
    exact VT
 refine wp_mono (fe (B:=B) hT hm c bd V h) (λe W w' hp=>?_);obtain⟨s',E,hQ,bk,ht⟩:=hp
 have d:PN B g ob k R .ret s'->∃v,(results fn W.tmps).run P w'=.ok v w'/\∃v' r g' Z E,Ending.returned v=.returned v'/\(R r/\g'=g/\Z=ob)/\ag O E g' Z w' r v'/\
   (∀id a',Z id=S a'->dX O E g' Z w' (g' id) a' (E id))/\(∀id K a W,(Z id).isSome=T->(Z K).isSome=T->E id=S a->E K=S W->a.block=W.block->id=K)/\
   Tr O β ⟨fa,g,ob⟩ w E ⟨fa,g',Z⟩ w':=by
  rintro⟨hg,bs,eo⟩
  have af:∀id,(ob id).isSome=T->id<B:=λid ho=>Q5 λhc=>by
   rw[hB id a6]at ho;cases ho
  have n:∀id,(ob id).isSome=T->s'.gen id=g id/\E id=β id/\(s'.obj id).isSome=T:=λid ho=>by
   have U:=hg id (af id ho);have Y:(s'.obj id).isSome=T:=by rw[bs id (af id ho)];exact ho
   exact⟨U,(ht.keep.live id U Y).2.1,Y⟩
  have J:∀id,(ob id).isSome=T->(s'.obj id).isSome=T/\¬B<=id:=λid ho=>⟨(n id ho).2.2,by have:=af id ho;omega⟩
  have bc:∀b,Imm O E s'.obj w' b->Imm O β ob w' b:=λb hb=>⟨hb.1,hb.2.1,λid a ho he=>hb.2.2 id a (n id ho).2.2 (by rw[(n id ho).2.1];exact he)⟩
  have y:∀id a',ob id=S a'->dX O β g ob w' (g id) a' (β id):=λid a' hc=>by
   have ho:(ob id).isSome=T:=by rw[hc];rfl
   have U:=bk.obj id a' (by rw[bs id (af id ho)];exact hc);rw[(n id ho).2.1,(n id ho).1]at U;have h0:=V.obj id a' hc;cases H:β id with
   |none=>rw[H]at U;exact U
   |some ad=>
     rw[H]at U h0;cases hs:ad.spot with
     |none=>
       obtain⟨p1,arr,el,lo,hi,p2,p3,p4,p5⟩:=U.cells hs;obtain⟨_,s,bl,b1,dh,_,_,_,q5⟩:=h0.cells hs;refine .ofCells hs ⟨p1,arr,el,lo,hi,p2,p3,p4,λj c hj=>?_⟩;obtain⟨v,hv,bf⟩:=p5 j c hj;obtain⟨v0,_,bz⟩:=q5 j c hj;exact⟨v,hv,aD.back n bc bf bz⟩
     |some kd=>
       obtain⟨p1,⟨es,Q,p2,p3⟩|a1⟩:=U.map hs
       .obtain⟨_,⟨bo,b0,_,q3⟩|⟨_,o,q3,_⟩⟩:=h0.map hs
        .exact .ofMap hs ⟨p1,.inl ⟨es,Q,p2,p3.back q3 λc v v0 h h0=>by
         unfold jB at h h0|-;split
         .rename_i hk
          rw[l7 hk]at h h0;exact aD.back n bc h h0
         .rename_i hk
          rw[j8 hk]at h;obtain⟨ds,vs,q1,q2,q3,q4⟩:=h;exact⟨ds,vs,q1,q2,q3,λi x I=>let ⟨u,hu,V⟩:=q4 i x I;⟨u,hu,cr.mono V λb hb=>⟨bc b hb,rfl⟩⟩⟩⟩⟩
        .subst q3
         generalize es.toList=el at p3;cases p3
       .exact .ofMap hs ⟨p1,.inr a1⟩
  have m:ft O β g ob w β g ob w':=by
   refine⟨λb hb=>⟨bc b (ht.imm b hb).1,(ht.imm b hb).2⟩,λ_=>l0 _,λid _ ho=>⟨ho,rfl,λW an arr el fr hh=>?_⟩⟩;exact(ht.keep.live id (n id ho).1 (n id ho).2.2).2.2 W an arr el fr hh
  refine⟨_,oW k L W.tmps,?_⟩
  have X:∀r,ag O β g ob w' r (nj W.tmps k)->R r->∃v' r g' Z E,Ending.returned (nj W.tmps k)=.returned v'/\(R r/\g'=g/\Z=ob)/\ag O E g' Z w' r v'/\
   (∀id a',Z id=S a'->dX O E g' Z w' (g' id) a' (E id))/\(∀id K a W,(Z id).isSome=T->(Z K).isSome=T->E id=S a->E K=S W->a.block=W.block->id=K)/\
   Tr O β ⟨fa,g,ob⟩ w E ⟨fa,g',Z⟩ w':=λr U Y=>⟨_,r,g,ob,β,rfl,⟨Y,rfl,rfl⟩,U,y,V.inj,⟨ht.size,ht.old,m,ht.os⟩⟩
  have q:∀id,(ob id).isSome=T->β id=E id:=λid ho=>(n id ho).2.1.symm
  match k,eo with
  |[t],⟨r,U,Y⟩=>exact X r (U.rep J bk (bk.f t) q) Y
  |[],⟨rs,U,Y⟩=>exact X _ (by simp only[ag];exact⟨_,rfl,fT.rep J bk q [] U⟩) Y
  |t::t'::A,⟨rs,U,Y⟩=>exact X _ (by simp only[ag];exact⟨_,rfl,fT.rep J bk q (t::t'::A) U⟩) Y
 cases e with
 |normal=>exact⟨bk.defers,d hQ⟩
 |ret=>exact⟨bk.defers,d hQ⟩
 |exit id=>exact hQ.elim
 |goto l=>exact hQ.elim
 |panic ch=>exact hQ.elim
 |outgrown=>exact hQ.elim
def Eh{o:Oper}(d:St){k:Box K}(e:ae s d)(h:bu (spB P B) o d k):bu (spB P B) o s k:=by
 obtain⟨R,f,J⟩:=h;refine⟨R,λO b β a w V c next Q g=>?_,J⟩;obtain⟨j,i,l⟩:=e O b β a w V;exact f O b j a w i c next Q (λm E W n U Y p=>g m E W n U Y (l.trans p))
def xq{o:Oper}{k:Box K}{f:FuncId}{args:Array Operand}{tys:Array TypeId}(ho:o.op=.call ⟨.value (.func f),args,tys⟩)
 (a:aF P f (args.toList.map s.ev) R)(hd:(args.toList.map s.ev).all fk=T)(b:∀r,R r->K (s.put o.dst r)):bu (spB P B) o s k:=
 ⟨_,xG ho a hd,λ_⟨r,V,e⟩=>e▸b r V⟩
def eO{B:(Exit->St->Prop)->St->Prop}{b:Box B}(I:Nat->St->Prop)(n:Nat)(c:I n s)
 (V:∀n f g a,I n ⟨f,g,a⟩->B (lj (bx λe=>∃H d,H<n/\(spB P B0).vs e d/\I H d) q) ⟨f,g,a⟩):rj (spB P B0) b q s:=
 ⟨I,⟨n,s,ae.refl s,c⟩,λn s h=>V n s.f s.gen s.obj h⟩
def zZ{B:(Exit->St->Prop)->St->Prop}{b:Box B}(d:St)(c:ae s d)(I:Nat->St->Prop)(n:Nat)(e:I n d)
 (V:∀n f g a,I n ⟨f,g,a⟩->B (lj (bx λh=>∃H d,H<n/\(spB P B0).vs h d/\I H d) q) ⟨f,g,a⟩):rj (spB P B0) b q s:=
 ⟨I,⟨n,d,c,e⟩,λn s i=>V n s.f s.gen s.obj i⟩
def eA{I:Nat->St->Prop}{n:Nat}(H:Nat)(h:H<n)(a:I H s):∃H d,H<n/\(spB P B0).vs s d/\I H d:=⟨H,s,h,ae.refl s,a⟩
def cA{id:Nat}{ops:Array Oper}(a:ow G ops=T)(h:wpO (spB P B0) G ops ops.toList s (bx λb=>Q .normal b)):ll (spB P B0) G id ops s q:=.inl ⟨a,h⟩
end
@[go_sem]def Tz:=@PN.eq_3
def LH{x:D}(I:x≠.nsl):(∃r,yu B s (.one (.d x)) r/\R r)=R (.one (.d x)):=by
 apply propext;constructor
 .rintro⟨r,V,a⟩
  cases V with
  |one h=>
    cases h with
    |d=>exact a
    |nil=>exact absurd rfl I
 .intro h;exact⟨_,.one (.d x),h⟩
@[go_sem]def TA{b:List UInt8}:(∃r,yu B s (.one (.d (.str b))) r/\R r)=R (.one (.d (.str b))):=LH a8
def nc0:((0:Nat):Int)=0:=rfl
def nc1:((1:Nat):Int)=1:=rfl
attribute [go_sem] nc0 nc1 Nat.add_zero Nat.sub_zero Int.cast_ofNat_Int
def ve{a b:D}(h:kE a b=T):a=b:=by
 cases a<;>cases b<;>simp_all[kE]
def pG(k:D)(x:C)(E:D):∀cells:List C,mget (mset cells k x) E=if kE k E=T then S x else mget cells E
 |.d b::c::r=>by
   simp only[mset];split
   .rename_i U
    rw[ve U];simp only[mget];split<;>rfl
   .rename_i U
    simp only[mget];rw[pG k x E r];by_cases Y:kE k E=T
    .rw[l7 Y]
     split
     .rename_i a
      exfalso;have e:=ve a;have f:=ve Y;subst e;subst f;exact U a
     .rfl
    .rw[j8 Y,j8 Y]
 |[]=>by simp[mset,mget]
 |[.d b]=>by simp[mset,mget]
 |.osl .. :: _=>by simp[mset,mget]
 |.ptr .. :: _=>by simp[mset,mget]
 |.clo .. :: _=>by simp[mset,mget]
 |.mp .. :: _=>by simp[mset,mget]
 |.lsl .. :: _=>by simp[mset,mget]
 |.raw _::_=>by simp[mset,mget]
@[go_sem]def XR(B k j:Nat):(B+k=B+j)=(k=j):=a8
end
end
end Go.Am
