/- A part of the proof; no conditions. -/
import Derived.Test.YtlacbjnmkhndiaaGreatDoorPart3
import Derived.ProofKit
import Derived.WideKeyArgs
import Derived.SizedLaws
import Derived.Deep.OwnRows
import Derived.Deep.CondSized
import Derived.RangeFuncCalls
import Derived.RangeFuncLeaves
import Derived.RangeFuncRecord
import Derived.OrdersIn
import Derived.TacticsIn
set_option linter.unusedSimpArgs false
set_option linter.unusedVariables false
set_option linter.defProp false
open List renaming length -> z
open Option renaming some -> S, none -> N
open Bool renaming true -> T, false -> F
set_option maxHeartbeats 64000000
set_option maxRecDepth 100000
namespace Go.Am
section
attribute[local congr]ite_cc
section
variable{s:St}{P:Program}{R:AV->Prop}{Q:Exit->St->Prop}
def Jv{t:Nat}{B:TI}{X:Value}(hd:P.underlying t=S B.desc)(b:(P.info? t).map (λi=>(i.size,i.bytes,i.zero))=S (B.size,B.bytes,S X))
 (e:X.cells.toList=B.zero.map dV)(f:B.zero.all kB=T)(hl:z B.zero=B.size)(d:dF B.desc=T\/X=dV (B.zero.headD .nsl)):sH P t B:=by
 refine⟨hd,?_,f,hl,λc i a U g=>?_⟩
 rotate_left
 .rw[U]at b
  simp only[z7,v7,IT]at b;have:a=X:=by simpa[g]using b.2.2
  rcases d with d|d
  .rw[c]at d;cases d
  .rw[this,d]
 cases h:P.info? t with
 |none=>rw[h]at b;cases b
 |some i=>
   rw[h]at b;simp only[z7,v7,IT]at b;exact⟨i,rfl,b.1,b.2.1,X,b.2.2,e⟩
def eF{B:(Exit->St->Prop)->St->Prop}{b:Box B}{q:Box Q}(I:Nat->St->Prop)(n:Nat)(c:I n s)
 (V:∀n f g a,I n ⟨f,g,a⟩->B (iQ (bx λW=>∃j d,j<n/\(sp P).vs W d/\I j d) q) ⟨f,g,a⟩):ng (sp P) b q s:=
 ⟨I,⟨n,s,ae.refl s,c⟩,λn s e=>V n s.f s.gen s.obj e⟩
def cH{I:Nat->St->Prop}{n:Nat}(j:Nat)(h:j<n)(a:I j s):∃j d,j<n/\(sp P).vs s d/\I j d:=⟨j,s,h,ae.refl s,a⟩
def jn{E:Nat->TI}{id:Nat}{ops:Array Oper}{q:Box Q}(a:nd E ops=T)(h:wpO (sp P) E ops ops.toList s (bx λW=>Q .normal W)):ky (sp P) E id ops s q:=.inl ⟨a,h⟩
def fD{o:Oper}{K:St->Prop}{k:Box K}{f:FuncId}{args:Array Operand}{tys:Array TypeId}(ho:o.op=.call ⟨.value (.func f),args,tys⟩)
 (a:ax P f (args.toList.map s.ev) R)(hd:(args.toList.map s.ev).all eH=T)(b:∀r,R r->K (s.put o.dst r)):bm (sp P) o s k:=
 ⟨_,vT ho a hd,λ_⟨r,V,e⟩=>e▸b r V⟩
def wrap_i64(n:Int)(a:-9223372036854775808<=n)(U:n<=9223372036854775807):IntKind.i64.wrap n=n:=by rw[IntKind.wrap_i64];omega
def Ra{x y:D}:Frz s (.d x) y↔y=ge x:=⟨λh=>by cases h;rfl,λh=>h▸.d x⟩
@[go_sem]def WD{x:D}:(∃r,kR s (.one (.d x)) r/\R r)=R (.one (.d (ge x))):=by
 apply propext;constructor
 .rintro⟨r,⟨y,a,rfl⟩,b⟩;rw[Ra]at a;subst a;exact b
 .intro h;exact⟨_,⟨_,.d x,rfl⟩,h⟩
@[go_sem]def Rb{R:List AV->Prop}:(∃rs,dC s [] rs/\R rs)=R []:=by simp[dC]
@[go_sem]def Qs{t:AV}{ts:List AV}{R:List AV->Prop}:(∃rs,dC s (t::ts) rs/\R rs)=∃r,kR s t r/\∃rs,dC s ts rs/\R (r::rs):=by
 apply propext;simp only[dC];constructor
 .rintro⟨_,⟨r,o,rfl,U,a⟩,b⟩;exact⟨r,U,o,a,b⟩
 .rintro⟨r,U,o,a,b⟩;exact⟨_,⟨r,o,rfl,U,a⟩,b⟩
@[go_sem]def Rc{t u:Nat}:AI [t,u] R .ret s=∃rs,dC s [s.f t,s.f u] rs/\R (.tup rs):=B7 rfl rfl
@[go_sem]def NF:(∀(b:Bool),ge (.bool b)=.bool b)/\(∀(k:IntKind)(n:Int),ge (.int k n)=.int k n)/\ge .nsl=.sl []:=by and_intros<;>intros<;>exact B7 rfl rfl
@[go_sem]def Qu(s:List UInt8):ge (.str s)=.str s:=B7 rfl rfl
@[go_sem]def Rd:=@AI.eq_3
attribute [go_sem] AV.one.injEq AV.tup.injEq AV.agg.injEq C.d.injEq D.bool.injEq D.int.injEq D.str.injEq D.sl.injEq List.cons.injEq true_implies false_implies forall_const and_self
attribute [go_sem] Int.ofNat_lt Int.ofNat_le Int.natCast_nonneg cW
def ac{k:Nat}(h:k<=4000000000000000000):IntKind.i64.wrap ((k:Int)+1)=((k+1:Nat):Int):=by rw[IntKind.wrap_i64]<;>omega
end
end
section
open Go.ChangeShapes
section
section
variable{H:Type}{enc:TypeId×Value->H}{P:Program}{w:World}
def gg(w:World)(cs:List Value)(ds:List D):Prop:=z ds=z cs/\∀(j:Nat)(x:D),ds[j]?=S x->∃v,cs[j]?=S v/\ce (λb=>b<w.heap.size) w x v
def gg.one{v:Value}{x:D}(h:ce (λb=>b<w.heap.size) w x v):gg w [v] [x]:=⟨rfl,λj y a=>by
 cases j with
 |zero=>simp at a;subst a;exact⟨v,rfl,h⟩
 | succ j=>simp at a⟩
def mapM_some{A β:Type}{f:A->Option β}:∀{l:List A}{r:List β},l.mapM f=S r->z r=z l/\∀(i:Nat)(a:A),l[i]?=S a->∃b,r[i]?=S b/\f a=S b
 |[],r,h=>by simp at h;subst h;exact⟨rfl,λi a c=>by simp at c⟩
 |a::l,r,h=>by
   rw[O7]at h;cases c:f a with
   |none=>simp[c]at h
   |some b=>
     cases hl:l.mapM f with
     |none=>simp[c,hl]at h
     |some q=>
       simp[c,hl]at h;subst h;obtain⟨U,d⟩:=mapM_some hl;refine⟨by simp[U],λi x I=>?_⟩;cases i with
       |zero=>simp at I;subst I;exact⟨b,rfl,c⟩
       |succ i=>simpa using d i x Wk
def Al{base n:Nat}{a:Addr}{cs:List Value}(h:w.cells? base a n=S cs):z cs=n/\∀(j:Nat)(v:Value),cs[j]?=S v->w.cell? (a.add j)=S v:=by
 unfold World.cells? at h;split at h
 .obtain⟨U,d⟩:=mapM_some h
  refine⟨by simpa using U,λj v c=>?_⟩
  have e:j<n:=by
   have:=(l5.1 c).1;rw[U]at this;simpa using this
  obtain⟨b,f,g⟩:=d j j (by simp[e]);rw[f]at c;cases c;exact g
 .cases h
def nh{A:Type}{p:Nat->A->Prop}:∀(n:Nat),(∀i,i<n->∃x,p i x)->∃l:List A,z l=n/\∀(i:Nat)(x:A),l[i]?=S x->p i x
 |0,_=>⟨[],rfl,λi x h=>by simp at h⟩
 |n+1,h=>by
   obtain⟨l,U,b⟩:=nh n (λi c=>h i a7);obtain⟨x,I⟩:=h n a7;refine⟨l++[x],by simp[U],λi y a=>?_⟩;rw[K8]at a;split at a
   .exact b i y a
   .rename_i c
    have d:i=n:=by
     have:=(l5.1 a).1;simp at this;omega
    subst d;rw[U,J5]at a;simp at a;exact a▸I
def kz{P:Program}{e:TypeId}{p:Nat->Bool}:∀{l:List (DataW H)},(DataW.weightsAll P e l).all p=T->∀d∈l,(d.weights P e).all p=T
 |[],_,_,hd=>by cases hd
 |d::l,h,a,hd=>by
   simp only[DataW.weightsAll,H5,s5]at h;rcases A3.1 hd with rfl|hd
   .exact h.1
   .exact kz h.2 a hd
def Dl{w G:World}(h:∀b,b<w.heap.size->G.heap[b]?=w.heap[b]?){p:MemPlace}(a:p.block<w.heap.size):w.sameAt G p:=by
 cases p with
 |cell b o=>exact World.cell?_of_block (w:=w) (h b a)
 |map b=>exact h b a
def Jw{w G:World}(h:∀b,b<w.heap.size->G.heap[b]?=w.heap[b]?)(n:G.os=w.os/\G.output=w.output)(a:MemPlace->Prop):w.keptBut G a:=by
 refine⟨n.1,n.2,λi c=>?_⟩;rw[h i c];split<;>simp_all
def xX(P:Program)(f:FuncId)(args:Array Value)(w:World):Prop:=
 Calls P f args w λe G=>e=.returned (.bool T)/\w.heap.size<=G.heap.size/\(∀b,b<w.heap.size->G.heap[b]?=w.heap[b]?)/\G.os=w.os/\G.output=w.output
def pi(hl:laidOutB P=T){W A:World}(hW:∀b,b<W.heap.size->A.heap[b]?=W.heap[b]?):∀(ts:List TypeId)(vs:List Value)(ds:List (DataW H))(ps:List MemPlace),ts.all (λt=>P.readableRec t&&decide (t<P.types.size))=T->
  (∀p∈ps,p.block<W.heap.size)->DataW.TrodAll enc P W 0 (λ_=>T) T ts vs ds ps->DataW.TrodAll enc P A 0 (λb=>decide (b<W.heap.size)) T ts vs ds ps
 |[],[],[],ps,_,_,h=>h
 |t::ts,v::vs,d::ds,ps,g,a,h=>by
   obtain⟨p,q,U,c,rfl⟩:=h;simp only[E9,s5,B4]at g
   exact⟨p,q,WideElems.Trod_stays hl g.1.1 g.1.2 U (λx I=>Dl hW (a x We)) (λx I=>by simpa using a x We),
    pi hl hW ts vs ds q g.2 (λx I=>a x We) c,rfl⟩
 |[],[],_::_,_,_,_,h=>h.elim
 |[],_::_,_,_,_,_,h=>h.elim
 |_::_,[],_,_,_,_,h=>h.elim
 |_::_,_::_,[],_,_,_,h=>h.elim
def sd{w:World}{sp:Nat->Bool}:∀(ts:List TypeId)(vs:List Value)(ds:List (DataW H))(ps:List MemPlace),DataW.TrodAll enc P w 0 sp T ts vs ds ps->z ds=z ts
 |[],[],[],_,_=>rfl
 |_::ts,_::vs,_::ds,_,h=>by
   obtain⟨p,q,_,a,_⟩:=h;simp[sd ts vs ds q a]
 |[],[],_::_,_,h=>h.elim
 |[],_::_,_,_,h=>h.elim
 |_::_,[],_,_,h=>h.elim
 |_::_,_::_,[],_,h=>h.elim
end
end
end
section
section
def lz(P:Program):Nat->List Field->Option Nat
 |off,[]=>S off
 |off,f::l=>if f.offset=off then lz P (off+P.cellsOf f.type) l else N
def sS(P:Program)(ts:List TypeId):Bool:=ts.all λt=>
 match P.underlying t with
 |some .bool|some (.int _)|some .string=>P.cellsOf t==1
 |some (.slice e)=>P.cellsOf t==1&&ts.contains e&&decide (0<P.cellsOf e)
 |some (.struct fs)=>(lz P 0 fs.toList==S (P.cellsOf t))&&fs.toList.all (λf=>ts.contains f.type)
 |some (.array n e)=>(P.cellsOf t==n*P.cellsOf e)&&ts.contains e
 |_=>F
inductive fv (P:Program):TypeId->List D->Prop where
 |bool {t:TypeId} (L:P.underlying t=some .bool) (b:Bool):fv P t [.bool b]
 |int {t:TypeId}{k:IntKind} (L:P.underlying t=some (.int k)) (m:Int) (hw:(Lit.int k m).wf=true):fv P t [.int k m]
 |str {t:TypeId} (L:P.underlying t=some .string) (s:List UInt8) (hl:s.length<=reachBytes):fv P t [.str s]
 |sl {t e:TypeId} (L:P.underlying t=some (.slice e)) (es:List (List D)) (hl:es.length*P.bytesOf e<=reachBytes) (h:∀x∈es,fv P e x):fv P t [.sl es]
 |struct {t:TypeId}{fs:Array Field} (L:P.underlying t=some (.struct fs)) (o:List (List D)) (hl:o.length=fs.toList.length)
    (h:∀(i:Nat)(f:Field)(x:List D),fs.toList[i]?=some f->o[i]?=some x->fv P f.type x):fv P t o.flatten
 |array {t n e:TypeId} (L:P.underlying t=some (.array n e)) (o:List (List D)) (hl:o.length=n) (hs:∀x∈o,x.length=P.cellsOf e) (h:∀x∈o,fv P e x):fv P t o.flatten
mutual
def tC:D->Nat
 |.sl es=>gZ es+1
 |.str bs=>z bs+1
 |_=>1
def eg:List D->Nat
 |[]=>0
 |d::r=>tC d+eg r
def gZ:List (List D)->Nat
 |[]=>0
 |e::r=>eg e+gZ r
end
mutual
def fK{H:Type}:DataW H->Nat
 |.lit (.string bytes)=>z bytes+1
 |.lit _=>1
 |.nil=>1
 |.ptr d=>fK d+1
 |.slice elems spare=>lZ elems+lZ spare+1
 |.agg parts=>lZ parts+1
 |.iface _ d=>fK d+1
 |.map entries=>Fc entries+1
 |.held _=>1
def lZ{H:Type}:List (DataW H)->Nat
 |[]=>0
 |d::r=>fK d+lZ r
def Fc{H:Type}:List (Lit×DataW H)->Nat
 |[]=>0
 |x::r=>NH x+Fc r
def NH{H:Type}:Lit×DataW H->Nat
 |(.string bytes,d)=>z bytes+fK d+1
 |(_,d)=>fK d+1
end
def Aq(a b:List D):eg (a++b)=eg a+eg b:=by
 induction a with
 |nil=>simp[eg]
 |cons x a c=>simp only[C3,eg,c];omega
def nk(l:List (List D)):eg l.flatten=gZ l:=by
 induction l with
 |nil=>simp[eg,gZ]
 |cons x l a=>simp only[E8,Aq,a,gZ]
def ma{H:Type}:∀{es:List (List D)}{l:List (DataW H)},z es<=z l->(∀(i:Nat)(x:List D)(d:DataW H),es[i]?=S x->l[i]?=S d->eg x<=fK d)->gZ es<=lZ l
 |[],l,_,_=>by simp[gZ]
 |x::es,[],h,_=>by simp at h
 |x::es,d::l,h,a=>by
   have c:=a 0 x d rfl rfl;have:=ma (es:=es) (l:=l) Wl (λi y e U b=>a (i+1) y e (by simpa using U) (by simpa using b));simp only[gZ,lZ];omega
variable{A:Bool}{base q:Nat}{sp:Nat->Bool}{ts:List TypeId}{ps:List MemPlace}
section
variable{H:Type}{enc:TypeId×Value->H}{P:Program}{w:World}
def add_add(a:Addr)(m j:Nat):(a.add m).add j=a.add (m+j):=by
 unfold Addr.add;by_cases b:m=0
 .subst b;simp
 .by_cases c:j=0
  .subst c;simp
  .have:¬m+j=0:=a7
   simp[b,c,C0]
def mK{p:Nat->Bool}:∀{ts:List TypeId}{l:List (DataW H)},(DataW.weightsEach P ts l).all p=T->∀(i:Nat)(t:TypeId)(d:DataW H),ts[i]?=S t->l[i]?=S d->(d.weights P t).all p=T
 |[],_,_,i,t,d,U,_=>by simp at U
 |_::_,[],_,i,t,d,_,a=>by simp at a
 |t::ts,d::l,h,i,b,c,U,a=>by
   simp only[DataW.weightsEach,H5,s5]at h;cases i with
   |zero=>simp at U a;subst U a;exact h.1
   |succ i=>exact mK h.2 i b c (by simpa using U) (by simpa using a)
def gg.app{c1 b:List Value}{c d2:List D}(U:gg w c1 c)(d:gg w b d2):gg w (c1++b) (c++d2):=by
 refine⟨by simp[U.1,d.1],λj x I=>?_⟩;rw[K8]at I;split at I
 .rename_i e
  obtain⟨v,a,V⟩:=U.2 j x I;exact⟨v,by rw[F0 (by rw[<-U.1];exact e)];exact a,V⟩
 .rename_i e
  obtain⟨v,a,V⟩:=d.2 _ x I;refine⟨v,?_,V⟩;rw[D4 (by rw[<-U.1];omega),<-U.1];exact a
def qi{cs:List Value}:∀(fl:List Field){off a:Nat}(Q:Nat->List D->Prop),lz P off fl=S a->a<=z cs->
  (∀(i:Nat)(f:Field),fl[i]?=S f->∃ds,gg w ((cs.drop f.offset).take (P.cellsOf f.type)) ds/\fv P f.type ds/\z ds=P.cellsOf f.type/\Q i ds)->
  ∃o:List (List D),z o=z fl/\(∀(i:Nat)(f:Field)(x:List D),fl[i]?=S f->o[i]?=S x->fv P f.type x)/\off<=a/\gg w ((cs.drop off).take (a-off)) o.flatten/\∀(i:Nat)(x:List D),o[i]?=S x->Q i x
 |[],off,a,Q,h,_,_=>by
   simp only[lz,v7]at h;subst h;refine⟨[],rfl,λi f x h=>by simp at h,l7 _,?_,λi x h=>by simp at h⟩;rw[J5,L5];exact⟨rfl,λj x h=>by simp at h⟩
 |f::fl,off,a,Q,h,b,hf=>by
   simp only[lz]at h;split at h
   .rename_i ho
    obtain⟨ds,c,d2,n,d⟩:=hf 0 f rfl;obtain⟨o,e,k,p,l,m⟩:=qi fl (λi=>Q (i+1)) h b (λi g hg=>hf (i+1) g (by simpa using hg));refine⟨ds::o,by simp[e],λi g x hg I=>?_,a7,?_,λi x I=>?_⟩
    rotate_left 2
    .cases i with
     |zero=>simp at I;subst I;exact d
     |succ i=>exact m i x Wk
    .cases i with
     |zero=>simp at hg I;subst hg I;exact d2
     |succ i=>exact k i g x (by simpa using hg) Wk
    .rw[E8]
     have:(cs.drop off).take (a-off)=(cs.drop f.offset).take (P.cellsOf f.type)++(cs.drop (off+P.cellsOf f.type)).take (a-(off+P.cellsOf f.type)):=by
      rw[ho,show a-off=P.cellsOf f.type+(a-(off+P.cellsOf f.type)) by omega,List.take_add,Q2]
     rw[this];exact c.app l
   .cases h
def qj{sz:Nat}:∀(n:Nat){cs:List Value}{o:List (List D)},z o=n->z cs=n*sz->(∀(i:Nat)(x:List D),o[i]?=S x->gg w ((cs.drop (i*sz)).take sz) x)->gg w cs o.flatten
 |0,cs,o,hl,Z,_=>by
   obtain rfl:=y7 hl;obtain rfl:=y7 (by simpa using Z);exact⟨rfl,λj x h=>by simp at h⟩
 |n+1,cs,o,hl,Z,h=>by
   match o,hl with
   |p::ps,hl=>
     rw[<-H3 sz cs,E8];refine gg.app (by simpa using h 0 p rfl) (qj (sz:=sz) n Wf (by rw[F7,Z,Nat.succ_mul];omega) λi x I=>?_);have:=h (i+1) x Wk;rw[Q2,show sz+i*sz=(i+1)*sz by rw[Nat.succ_mul];omega];exact this
def lA{A:Bool}{base:Nat}{sp:Nat->Bool}{ts:List TypeId}(hp:sS P ts=T):∀(q:Nat){t:TypeId}{cs:List Value}{d:DataW H}{ps:List MemPlace},t∈ts->DataW.trod enc P w base sp A q t cs=S (d,ps)->(d.weights P t).all (·<=reachBytes)=T->
  ∃ds,gg w cs ds/\fv P t ds/\z ds=P.cellsOf t/\eg ds<=fK d
 |0,_,_,_,_,_,h,_=>by simp[DataW.trod]at h
 |q+1,t,cs,d,ps,ht,h,hz=>by
   have c:=y8.1 hp t ht;unfold DataW.trod at h;split at c
   .rename_i L
    rw[L]at h;simp only[I3]at c;rcases cs with _|⟨v,_|⟨v',r⟩⟩
    .simp at h
    .cases v<;>simp at h
     obtain⟨rfl,_⟩:=h;exact⟨_,.one (.bool _),.bool L _,c.symm,by simp[eg,tC,fK]⟩
    .simp at h
   .rename_i k L
    rw[L]at h;simp only[I3]at c;rcases cs with _|⟨v,_|⟨v',r⟩⟩
    .simp at h
    .cases v<;>simp at h
     obtain⟨⟨rfl,G⟩,rfl,_⟩:=h;exact⟨_,.one (.int _ _),.int L _ G,c.symm,by simp[eg,tC,fK]⟩
    .simp at h
   .rename_i L
    rw[L]at h;simp only[I3]at c;rcases cs with _|⟨v,_|⟨v',r⟩⟩
    .simp at h
    .cases v<;>simp at h
     rename_i s;obtain⟨hs,rfl,_⟩:=h;refine⟨[.str s.data.toList],.one ?_,.str L _ (by simpa[DataW.weights]using hz),c.symm,by simp[eg,tC,fK]⟩;have:(Value.string s)=.string ⟨s.data.toList.toArray⟩:=a8;rw[this];exact .str _
    .simp at h
   .rename_i e L
    rw[L]at h;simp only[s5,I3,B4,Js]at c;obtain⟨⟨W,cm⟩,az⟩:=c;rcases cs with _|⟨v,_|⟨v',r⟩⟩
    .simp at h
    .cases v with
     |slice a len cap=>
       cases a with
       |none=>
         have:len=0/\cap=0:=by
          cases len<;>cases cap<;>simp at h|-
         obtain⟨rfl,rfl⟩:=this;have hd:1<=fK d:=by cases d with|lit l=>cases l<;>simp[fK]|_=>simp[fK]
         exact⟨[.sl []],.one .sl0,.sl L [] a8 (λ_ h=>by cases h),W.symm,by simpa[eg,tC,gZ]using hd⟩
       |some a=>
         simp only at h;split at h
         .rename_i Z
          cases he:(List.range len).mapM (λi=>(w.cells? base (a.add (i*P.cellsOf e)) (P.cellsOf e)).bind (DataW.trod enc P w base sp A q e))with
          |none=>rw[he]at h;simp at h
          |some B=>
            obtain⟨U,h2⟩:=mapM_some he;rw[he]at h;simp only[J4,G1,IT]at h;obtain⟨rest,_,rfl,_⟩:=h;simp only[DataW.weights,L,E9,H5,s5,B4,j6]at hz;have X:z B*P.bytesOf e<=reachBytes:=C8 (K9 _ (L4 _ _)) hz.1;have a6:=kz hz.2.1
            have J:∀i,i<len->∃cs ds,w.cells? base (a.add (i*P.cellsOf e)) (P.cellsOf e)=S cs/\gg w cs ds/\fv P e ds/\z ds=P.cellsOf e/\∃b,B[i]?=S b/\eg ds<=fK b.1:=by
             intro i hi;obtain⟨b,Q,hb⟩:=h2 i i (by simp[hi]);cases b4:w.cells? base (a.add (i*P.cellsOf e)) (P.cellsOf e)with
             |none=>rw[b4]at hb;cases hb
             |some cf=>
               rw[b4]at hb;obtain⟨ds,g1,g2,g3,g4⟩:=lA hp q cm (d:=b.1) (ps:=b.2) hb (a6 b.1 (E3.2 ⟨b,l6 Q,rfl⟩));exact⟨cf,ds,rfl,g1,g2,g3,b,Q,g4⟩
            generalize P.cellsOf e=sz at *;obtain⟨es,hl,u⟩:=nh (p:=λi ds=>∃cs,w.cells? base (a.add (i*sz)) sz=S cs/\gg w cs ds/\fv P e ds/\z ds=sz/\∃b,B[i]?=S b/\eg ds<=fK b.1) len (λi hi=>let ⟨cs,ds,g⟩:=J i hi;⟨ds,cs,g⟩)
            have K:gZ es<=lZ (B.map (·.1)):=ma (by rw[j6,hl,U];simp) (λi x d I hd=>by
             obtain⟨_,_,_,_,_,b,hb,a1⟩:=u i x I;rw[x8,hb]at hd;cases hd;exact a1)
            refine⟨[.sl es],.one ?_,.sl L es (by rw[hl];simpa[U]using X) (λx I=>?_),W.symm,by simp only[eg,tC,fK];omega⟩
            .by_cases b8:len=0
             .subst b8
              have:es=[]:=y7 hl;subst this;exact .sl0
             .have al:∀i(x:List D),es[i]?=S x->∀j(y:D),x[j]?=S y->∃v,w.cell? (a.add (i*sz+j))=S v/\ce (λb=>b<w.heap.size) w y v:=λi x I j y hy=>by
               obtain⟨cf,g1,g2,g3,g4,_⟩:=u i x I;obtain⟨v,cx,m⟩:=g2.2 j y hy;have:=(Al g1).2 j v cx;refine⟨v,?_,m⟩;rw[<-this,add_add]
              obtain⟨x0,bk⟩:∃x,es[0]?=S x:=⟨_,v8 a7⟩
              obtain⟨Y,q1,q2,q3,q4,_⟩:=u 0 x0 bk;obtain⟨y0,ad⟩:∃y,x0[0]?=S y:=⟨_,v8 a7⟩
              obtain⟨v0,c1,_⟩:=al 0 x0 bk 0 y0 ad;obtain⟨b,off,E⟩:=a
              have b5:E=N:=by
               have:(⟨b,off,E⟩:Addr).add (0*sz+0)=⟨b,off,E⟩:=by simp[Addr.add]
               rw[this]at c1;cases E with
               |none=>rfl
               |some k=>
                 unfold World.cell? at c1;simp at c1;split at c1<;>simp at c1
              subst b5;rw[<-hl];refine .sl (b:=b) (off:=off) (sz:=sz) (λi j=>(w.cell? ⟨b,off+(i*sz+j),N⟩).getD undef) a7 (λ_=>by have:=World.block_lt_of_cell? w _ c1;simpa[Addr.add]using this) (λx I=>?_) (λi x I j y hy=>?_) (λi x I j y hy=>?_)
              .obtain⟨i,hi⟩:=D6 I
               obtain⟨_,_,_,_,g4,_⟩:=u i x hi;exact g4
              .obtain⟨v,hv,_⟩:=al i x I j y hy
               rw[dO]at hv;rw[C0,hv];rfl
              .obtain⟨v,hv,V⟩:=al i x I j y hy
               rw[dO]at hv;rw[hv];exact V
            .obtain⟨i,hi⟩:=D6 I
             obtain⟨_,_,_,g3,_⟩:=u i x hi;exact g3
         .cases h
     |_=>simp at h
    .simp at h
   .rename_i fs L
    simp only[s5,I3]at c;obtain⟨bl,bs⟩:=c;rw[L]at h;simp only at h;split at h
    .rename_i bd
     cases hm:fs.toList.mapM (λf=>DataW.trod enc P w base sp A q f.type ((cs.drop f.offset).take (P.cellsOf f.type)))with
     |none=>rw[hm]at h;simp at h
     |some xs=>
       rw[hm]at h;simp only[z7,v7,IT]at h;obtain⟨rfl,_⟩:=h;obtain⟨U,h2⟩:=mapM_some hm;simp only[DataW.weights,L]at hz
       obtain⟨o,p1,p2,_,p4,p5⟩:=qi (w:=w) (cs:=cs) fs.toList (λi ds=>∃b,xs[i]?=S b/\eg ds<=fK b.1) bl a7 (λi f hf=>by
        obtain⟨b,hb,O⟩:=h2 i f hf
        have af:f.type∈ts:=by
         have:=y8.1 bs f (l6 hf);exact SV
        obtain⟨ds,g1,g2,g3,g4⟩:=lA hp q af (d:=b.1) (ps:=b.2) O (mK hz i f.type b.1 (by rw[x8,hf];rfl) (by rw[x8,hb];rfl));exact⟨ds,g1,g2,g3,b,hb,g4⟩)
       have K:gZ o<=lZ (xs.map (·.1)):=ma (by rw[j6,p1,U];exact l7 _) (λi x d I hd=>by
        obtain⟨b,hb,a1⟩:=p5 i x I;rw[x8,hb]at hd;cases hd;exact a1)
       have b4:(cs.drop 0).take (P.cellsOf t-0)=cs:=by rw[D3,Nat.sub_zero,<-bd,H8]
       rw[b4]at p4;exact⟨o.flatten,p4,.struct L o p1 p2,by rw[p4.1,bd],by rw[nk];simp only[fK];omega⟩
    .cases h
   .rename_i n e L
    simp only[s5,I3,Js]at c;obtain⟨az,cm⟩:=c;rw[L]at h;simp only at h;split at h
    .rename_i bd
     cases hm:(List.range n).mapM (λi=>DataW.trod enc P w base sp A q e ((cs.drop (i*P.cellsOf e)).take (P.cellsOf e)))with
     |none=>rw[hm]at h;simp at h
     |some xs=>
       rw[hm]at h;simp only[z7,v7,IT]at h;obtain⟨rfl,_⟩:=h;obtain⟨U,h2⟩:=mapM_some hm;simp only[DataW.weights,L]at hz;have a6:=kz hz
       have J:∀i,i<n->∃ds,gg w ((cs.drop (i*P.cellsOf e)).take (P.cellsOf e)) ds/\fv P e ds/\z ds=P.cellsOf e/\∃b,xs[i]?=S b/\eg ds<=fK b.1:=by
        intro i hi;obtain⟨b,hb,O⟩:=h2 i i (by simp[hi]);obtain⟨ds,g1,g2,g3,g4⟩:=lA hp q cm (d:=b.1) (ps:=b.2) O (a6 b.1 (E3.2 ⟨b,l6 hb,rfl⟩));exact⟨ds,g1,g2,g3,b,hb,g4⟩
       obtain⟨o,hl,u⟩:=nh (p:=λi ds=>gg w ((cs.drop (i*P.cellsOf e)).take (P.cellsOf e)) ds/\fv P e ds/\z ds=P.cellsOf e/\∃b,xs[i]?=S b/\eg ds<=fK b.1) n J
       have K:gZ o<=lZ (xs.map (·.1)):=ma (by rw[j6,hl,U];simp) (λi x d I hd=>by
        obtain⟨_,_,_,b,hb,a1⟩:=u i x I;rw[x8,hb]at hd;cases hd;exact a1)
       have ch:=qj (w:=w) n hl (by rw[bd,az]) (λi x I=>(u i x I).1);refine⟨o.flatten,ch,.array L o hl (λx I=>?_) (λx I=>?_),by rw[ch.1,bd],by rw[nk];simp only[fK];omega⟩
       .obtain⟨i,hi⟩:=D6 I
        exact(u i x hi).2.2.1
       .obtain⟨i,hi⟩:=D6 I
        exact(u i x hi).2.1
    .cases h
   .cases c
def JA(a:sS P ts=T){t:TypeId}(c:t∈ts)(Z:P.cellsOf t=1){v:Value}{d:DataW H}(U:v.oneCell'=T)
 (h:DataW.trod enc P w base sp A q t v.cells.toList=S (d,ps))(e:(d.weights P t).all (·<=reachBytes)=T):∃x,ce (λb=>b<w.heap.size) w x v/\fv P t [x]/\tC x<=fK d:=by
 obtain⟨ds,f,g,hl,K⟩:=lA a q c h e;rw[Z]at hl
 match ds,hl with
 |[x],_=>
   obtain⟨u,L,V⟩:=f.2 0 x rfl;have:v.cells.toList=[v]:=by cases v<;>first|rfl|(simp[Value.oneCell']at U)
   rw[this]at L;simp at L;subst L;exact⟨x,V,g,by simpa[eg]using K⟩
def JB(e:sS P ts=T){t:TypeId}(f:t∈ts){vs:Array Value}{d:DataW H}
 (h:DataW.trod enc P w base sp A q t (Value.agg vs).cells.toList=S (d,ps))(g:(d.weights P t).all (·<=reachBytes)=T):
  ∃ds,RV (λb=>b<w.heap.size) w (.agg (ds.map .d)) (.agg vs)/\fv P t ds/\eg ds<=fK d:=by
 obtain⟨ds,a,j,hl,K⟩:=lA e q f h g;refine⟨ds,?_,j,K⟩;simp only[RV];refine⟨vs,rfl,by have:=a.1;simpa[Value.cells]using this.symm,λi c Z=>?_⟩;rw[x8]at Z;cases I:ds[i]? with
 |none=>rw[I]at Z;cases Z
 |some x=>
   rw[I]at Z;cases Z;obtain⟨u,L,V⟩:=a.2 i x I;exact⟨u,by simpa[Value.cells]using L,⟨x,rfl,V⟩⟩
end
end
end
section
open Go.ChangeAt Go.ChangeShapes Go.WideShapes Go.RowKit
section
section
variable{H:Type}{enc:TypeId×Value->H}
end
end
end
section
attribute[local congr]ite_cc
section
def fen(rd:Option Nat):Fence:={Fence.wide with round:=rd}
variable{o:Oper}{a:Act}{n:Nat}{ds:List Deferred}{s:St}{rd:Option Nat}{args:Array Value}{Q:Exit->Act->World->Prop}{K:St->Prop}{R:Ending->World->Prop}{next:Act->World->Prop}{p:Nat->Prop}{k:Box K}
section
variable{P:Program}{E:Nat->TI}{w:World}
def Ds{f:FuncId}{w:World}(h:Calls P f args w R):CallsIn (fen rd) n P f args w R:=(callsIn_wide (n:=n)).2 h
def jZ{f:FuncId}{w:World}(h:CallsIn (fen N) n P f args w R):Calls P f args w R:=(callsIn_wide (n:=n)).1 h
def Fd{a:String}{w:World}{R:Value->World->Prop}(h:Rows P a args w R):RowsIn (fen rd) n P a args w R:=
 λc b _=>let ⟨v,G,r,s⟩:=h c b;⟨v,G,r,stepsIn_wide.2 s⟩
def JC:({a with defers:=ds}:Act).eval=a.eval:=rfl
def pw{dst:Option Nat}{v:Value}:({a with defers:=ds}:Act).put dst v = {a.put dst v with defers:=ds}:=by cases dst<;>rfl
def aM(o:Oper):Bool:=match o.op with|.defer _=>F|_=>T
def Au(h:aM o=T):∀c,o.op≠.defer c:=by
 intro c Z;simp[aM,Z]at h
def gp(ad:aM o=T){w:World}
 (h:o.wp P a w (λb G=>b.defers=[]/\next {b with defers:=ds} G) (λe b G=>Q e {b with defers:=ds} G)):o.wpIn (fen rd) 0 P {a with defers:=ds} w next Q:=by
 unfold Oper.wp at h;refine⟨λ_ _=>trivial,?_⟩;rw[Oper.semAt_eq _ _ _ (Au ad),JC];generalize (execOp a.eval o).run P w=r at *;have J:LetsOut (λe b G=>Q e {b with defers:=ds} G)->LetsOut Q:=λ⟨a,w,h⟩=>⟨_,w,h⟩
 cases r with
 |ok x G=>
   cases x with
   |value v=>simp only[Oper.upon,Oper.uponIn]at h|-;rw[pw];exact h.2
   |skip=>simp only[Oper.upon,Oper.uponIn]at h|-;rw[pw];exact h.2
   |enter f args=>
     simp only[Oper.upon,Oper.uponIn]at h|-;refine⟨λh=>(by cases h),Ds (h.mono λe H c=>?_)⟩;cases e with
     |returned v=>simp only at c|-;rw[pw];exact c.2
     |panicked g=>exact c
     |outgrown=>exact J c
   |row row args=>
     simp only[Oper.upon,Oper.uponIn]at h|-;refine⟨λh=>(by cases h),Fd (h.mono λv H c=>?_)⟩;rw[pw];exact c.2
   |defer d=>
     simp only[Oper.upon]at h;have:=h.1;cases hd:o.dst<;>rw[hd]at this<;>simp[Act.put]at this
   |_=>simp only[Oper.upon]at h
 |halt x G=>
   cases x<;>simp only[Oper.upon,Oper.uponIn]at h|-;exact h
end
abbrev ff:=List PanicEntry->St->Prop
def tJ:ff:=λ_ _=>False
def Fe(P:Program)(rd:Option Nat)(O:Bs)(i:St->Loc->List Deferred->World->Prop)(q:ff)(o:Oper)(s:St)(R:St->Prop):Prop:=∀(al:Nat)(β:Loc)(a:Act)(ds:List Deferred)(w:World),Rel O al s β a w->i s β ds w->(∀d,o.dst=S d->d<al)->
 ∀(next:Act->World->Prop)(Q:Exit->Act->World->Prop),(∀W A b G,R W->Rel O al W A b G->i W A ds G->next {b with defers:=ds} G)->(∀c W A b G,q c W->Rel O al W A b G->i W A ds G->Q (.panic c) {b with defers:=ds} G)->o.wpIn (fen rd) 0 P {a with defers:=ds} w next Q
def BW(O:Bs)(al:Nat)(i:St->Loc->List Deferred->World->Prop)(q:ff)(Q:Exit->St->Prop)(e:Exit)(d:Act)(G:World):Prop:=
 ∃W A b H,d = {b with defers:=H}/\(Q e W\/∃c,e=.panic c/\q c W)/\Rel O al W A b G/\i W A H G
def BW.plain{O:Bs}{al:Nat}{i:St->Loc->List Deferred->World->Prop}{Q:Exit->St->Prop}{e:Exit}{b:Act}{G:World}(h:BW O al i tJ Q e b G):∃W A a0 H,b = {a0 with defers:=H}/\Q e W/\Rel O al W A a0 G/\i W A H G:=by
 obtain⟨W,A,a0,H,U,c,d⟩:=h;exact⟨W,A,a0,H,U,c.resolve_right (λ⟨_,_,h⟩=>h),d⟩
def Ff(P:Program)(rd:Option Nat)(O:Bs)(i:St->Loc->List Deferred->World->Prop)(q:ff)(c:Code)(s:St)(R:Exit->St->Prop):Prop:=∀(al:Nat)(β:Loc)(a:Act)(ds:List Deferred)(w:World),codeOk al c=T->Rel O al s β a w->i s β ds w->
 c.wpIn (fen rd) 0 P (BW O al i q R) {a with defers:=ds} w
def spF(P:Program)(rd:Option Nat)(O:Bs)(i:St->Loc->List Deferred->World->Prop)(B:Nat)(q:ff):Sp:=⟨Fe P rd O i q,Ff P rd O i q,ae,B⟩
@[go_sem]def Rk(P:Program)(rd:Option Nat)(O:Bs)(i:St->Loc->List Deferred->World->Prop)(B:Nat)(q:ff):(spF P rd O i B q).base=B:=B7 rfl rfl
def aY(O:Bs)(i:St->Loc->List Deferred->World->Prop):Prop:=∀s β ds w W A G,i s β ds w->Tr O β s w A W G->i W A ds G
section
variable{P:Program}{E:Nat->TI}{O:Bs}{w:World}{rd:Option Nat}{i:St->Loc->List Deferred->World->Prop}{q:ff}{B:Nat}
def tK.toF(a6:aY O i)(ad:aM o=T){R:St->Prop}(h:tK P o s R):Fe P rd O i q o s R:=by
 intro al c a ds w V X hd next Q d _;exact gp ad (h O al c a w V hd _ _ (λW A e G f b g=>⟨b.defers,d W A e G f b (a6 _ _ _ _ _ _ _ X g)⟩))
def yi(a6:aY O i)(ad:aM o=T)(h:bm (spB P B) o s k):bm (spF P rd O i B q) o s k:=
 let ⟨R,U,b⟩:=h
 ⟨R,U.toF a6 ad,b⟩
def NK{ar:Sp}(h:opA ar E o s k):opA (spB P ar.base) E o s k\/bm ar o s k:=by
 obtain⟨d,op,ty,g,i,gd⟩:=o;cases op with
 |buildSlice=>cases d<;>first|exact .inl h|exact .inr h
 |makeSlice=>cases d<;>first|exact .inl h|exact .inr h
 |box=>cases d<;>first|exact .inl h|exact .inr h
 |alloc=>cases d<;>first|exact .inl h|exact .inr h
 |makeMap t r=>cases r<;>cases d<;>first|exact .inl h|exact .inr h
 |slice t x H j e=>cases e<;>first|exact .inl h|exact .inr h
 |indexAddr t x l=>cases x<;>first|exact .inr h|exact .inl h
 |makeFunc f=>cases f<;>first|exact .inl h|exact .inr h
 |call c=>
   obtain⟨callee,args,tys⟩:=c;cases callee with
   |value f=>exact .inr h
   |invoke r m=>exact .inr h
   |builtin b=>cases b<;>first|exact .inl h|exact .inr h|(cases d<;>first|exact .inl h|exact .inr h)
 |_=>first|exact .inl h|exact .inr h
def me(hT:bb P E)(a6:aY O i){al:Nat}{β:Loc}(V:Rel O al s β a w)(X:i s β ds w)(ad:aM o=T)(hd:∀d,o.dst=S d->d<al)(h:opA (spF P rd O i B q) E o s k)
(f:∀W A b G,K W->Rel O al W A b G->i W A ds G->next {b with defers:=ds} G)(I:∀g W A b G,q g W->Rel O al W A b G->i W A ds G->Q (.panic g) {b with defers:=ds} G):o.wpIn (fen rd) 0 P {a with defers:=ds} w next Q:=by
 rcases NK (P:=P) h with h|⟨R,j,J⟩
 .exact gp ad (lH hT V hd h (λW A b G U c e=>⟨c.defers,f W A b G U c (a6 _ _ _ _ _ _ _ X e)⟩))
 .exact j al β a ds w V X hd next Q (λW A b G U c e=>f W A b G (J W U) c e) I
def jp(hT:bb P E)(a6:aY O i){al:Nat}{ops:Array Oper}{ds:List Deferred}{Q:Exit->Act->World->Prop}{K:St->Prop}{k:Box K}:∀(l:List Oper){s:St}{β:Loc}{a:Act}{w:World},Rel O al s β a w->i s β ds w->l.all aM=T->fk al l=T->wpO (spF P rd O i B q) E ops l s k->
  (∀W A c G,K W->Rel O al W A c G->i W A ds G->Q .normal {c with defers:=ds} G)->(∀I W A c G,q I W->Rel O al W A c G->i W A ds G->Q (.panic I) {c with defers:=ds} G)->wpListIn (fen rd) 0 P ops Q l {a with defers:=ds} w
 |[],s,β,a,w,V,X,_,_,h,m,_=>m s β a w h V X
 |o::rest,s,β,a,w,V,X,e,ar,h,m,hX=>by
   obtain⟨hd,g⟩:=jD ar;simp only[E9,s5]at e;unfold wpO at h;unfold wpListIn;cases hg:o.guard with
   |none=>
     rw[hg]at h;simp only at h;rw[l8 (by simp[Region.wanted,hg])];exact me hT a6 V X e.1 hd h (λW A c G U u y=>jp hT a6 rest u y e.2 g U m hX) hX
   |some p=>
     obtain⟨j,t⟩:=p;rw[hg]at h;simp only at h;obtain⟨d,J,h⟩:=aJ h;unfold lS at h;split at h
     .rename_i b r
      have hy:=V.yielded J r;have h:=jq h;have L:=V.reput r;have Y:i {s with f:=upd s.f d (bv b)} β ds w:=a6 _ _ _ _ _ _ _ X (Tr.same rfl rfl rfl);by_cases hw:b=t
      .rw[l8 hw]at h
       rw[l8 VX];exact me hT a6 L Y e.1 hd h (λW A c G U u y=>jp hT a6 rest u y e.2 g U m hX) hX
      .rw[j8 hw]at h
       rw[j8 VX];have H:=L.put hd (x:=uv) (v:=undef) cI;refine⟨λ_ _=>trivial,?_⟩;rw[pw];exact jp hT a6 rest H (a6 _ _ _ _ _ _ _ Y (Tr.same (St.put_gen _ _ _) (St.put_obj _ _ _) rfl)) e.2 g h m hX
     .rename_i r
      have hy:=V.yielded_u J r;rw[j8 WI];have H:=V.put hd (x:=uv) (v:=undef) cI;refine⟨λ_ _=>trivial,?_⟩;rw[pw];exact jp hT a6 rest H (a6 _ _ _ _ _ _ _ X (Tr.same (St.put_gen _ _ _) (St.put_obj _ _ _) rfl)) e.2 g h m hX
     .exact SL
def vJ(h:∃m,p m):∃m,p m/\∀k,p k->m<=k:=by
 obtain⟨m,c⟩:=h
 induction m using Nat.strongRecOn with
 |ind m d=>
   by_cases hl:∃k,k<m/\p k
   .obtain⟨k,b,e⟩:=hl
    exact d k b e
   .exact⟨m,c,λk b=>Nat.le_of_not_lt λf=>hl ⟨k,f,b⟩⟩
open Classical in
noncomputable def leastOf(p:Nat->Prop):Nat:=if h:∃m,p m then Classical.choose (vJ h)else 0
def leastOf_spec(h:∃m,p m):p (leastOf p)/\∀k,p k->leastOf p<=k:=by
 unfold leastOf;rw[dif_pos h];exact Classical.choose_spec (vJ h)
def sG{b2:Fence}{w:World}{c:Code}(I:Nat->Act->World->Prop)(k:Nat)(d:I k a w)
 (b:∀m a w,I m a w->c.wpIn b2 n P (Exit.then (λf G=>∃m',m'<m/\I m' f G) Q) a w):(Code.loop c).wpIn b2 n P Q a w:=by
 refine wpIn_loop (λa w=>∃m,I m a w) (λa w=>leastOf λm=>I m a w) ⟨k,d⟩ (λa w h=>?_);refine wpIn_mono (b _ a w (leastOf_spec h).1) (λe f G g=>?_);cases e with
 |normal=>
   obtain⟨m',i,r⟩:=g;exact⟨⟨m',r⟩,G3 ((leastOf_spec ⟨m',r⟩).2 m' r) i⟩
 |_=>exact g
end
end
end
section
section
def lY:D->Bool
 |.sl _|.iptr _=>F
 |_=>T
def jz:C->Bool
 |.d x=>lY x
 |_=>F
def dL:AV->Bool
 |.one c=>jz c
 |.agg cs=>cs.all jz
 |.tup a=>a.all λt=>match t with|.one c=>jz c|_=>F
 |.junk=>F
 |.exact _=>F
variable{s:St}{args:Array Operand}{tys:Array TypeId}{R:AV->Prop}{xs:List AV}
section
variable{P:Program}{E:Nat->TI}{O:Bs}{β:Loc}{w:World}
def ce.of_scalar{J K:Nat->Prop}{w G:World}{x:D}{v:Value}(a:lY x=T)(h:ce J w x v):ce K G x v:=by
 cases h<;>first|(exfalso;simp[lY]at a;done)|constructor
def RVc.of_scalar{J K:Nat->Prop}{w G:World}{c:C}{v:Value}(a:jz c=T)(h:RVc J w c v):RVc K G c v:=by
 obtain⟨x,rfl,I⟩:=h;exact⟨x,rfl,I.of_scalar a⟩
def RVs.of_scalar{J K:Nat->Prop}{w G:World}:∀{ts:List AV}{vs:List Value},(ts.all λt=>match t with|.one c=>jz c|_=>F)=T->RVs J w ts vs->RVs K G ts vs
 |[],_,_,h=>by simp only[RVs]at h|-;exact h
 |t::ts,vs,a,h=>by
   simp only[E9,s5]at a;simp only[RVs]at h|-;obtain⟨u,b,rfl,U,d⟩:=h;refine⟨u,b,rfl,?_,RVs.of_scalar a.2 d⟩;cases t with
   |one c=>simp only[RV]at U|-;exact RVc.of_scalar a.1 U
   |_=>simp at a
def RV.of_scalar{J K:Nat->Prop}{w G:World}{x:AV}{v:Value}(a:dL x=T)(h:RV J w x v):RV K G x v:=by
 cases x with
 |one c=>simp only[RV]at h|-;exact RVc.of_scalar a h
 |agg cs=>
   simp only[RV]at h|-;obtain⟨vs,U,b,d⟩:=h;simp only[dL,y8]at a;exact⟨vs,U,b,λi c Z=>let ⟨u,hu,V⟩:=d i c Z;⟨u,hu,V.of_scalar (a c (l6 Z))⟩⟩
 |tup e=>
   simp only[RV]at h|-;obtain⟨vs,U,b⟩:=h;exact⟨vs,U,RVs.of_scalar a b⟩
 |junk=>simp[dL]at a
 |exact=>simp[dL]at a
def Dm{o:Oper}{f:FuncId}(ho:o.op=.call ⟨.value (.func f),args,tys⟩)
 (I:dC s (args.toList.map s.ev) xs)(b:ax P f xs R)(hd:∀r,R r->dL r=T):tK P o s (λW=>∃r,R r/\W=s.put o.dst r):=by
 intro O al β a w V c next Q g;unfold Oper.wp;rw[jE ho b.1 w];simp only[Oper.upon]
 have m:∀(l:List Operand)(xs:List AV),dC s (l.map s.ev) xs->RVs (Own O w) w xs (l.map a.eval):=by
  intro l
  induction l with
  |nil=>intro xs h;simp only[w9,dC]at h;subst h;simp only[w9,RVs]
  |cons x l i=>
    intro xs h;simp only[l9,dC]at h;obtain⟨r,j,rfl,U,k⟩:=h;simp only[l9,RVs];exact⟨_,_,rfl,U.rep V (V.ev x),i j k⟩
 have:=b.2 (Own O w) w (args.toList.map a.eval) (λ_ h=>h.1) (m _ _ I);rw[show (args.toList.map a.eval).toArray=args.map a.eval from Jf a8]at this;refine this.mono λe G⟨v,r,p,d,q,t,n,u⟩=>?_;subst p;obtain⟨y,A⟩:=V.grow q t n;exact g _ β _ G ⟨r,d,rfl⟩ (y.put c (RV.rep r (RV.of_scalar (hd r d) u))) (A.trans (Tr.same (St.put_gen _ _ _) (St.put_obj _ _ _) rfl))
def vF{o:Oper}{K:St->Prop}{k:Box K}{f:FuncId}(ho:o.op=.call ⟨.value (.func f),args,tys⟩)
 (I:dC s (args.toList.map s.ev) xs)(a:ax P f xs R)(hd:∀r,R r->dL r=T)(b:∀r,R r->K (s.put o.dst r)):bm (sp P) o s k:=
 ⟨_,Dm ho I a hd,λ_⟨r,V,e⟩=>e▸b r V⟩
def qh{A:Type}{id g off len:Nat}{cells:List C}(hg:s.gen id=g)(ho:s.obj id=S cells)(l:List A)(enc:A->D)(f:∀a,ge (enc a)=enc a)(bd:z l=len)
 (Z:∀(j:Nat)(a:A),l[j]?=S a->cells[off+j]?=S (.d (enc a)))(Q:off+len<=z cells):Frz s (.osl id g 1 off len) (.sl (l.map λa=>[enc a])):=by
 have c:(l.map λa=>[enc a]).flatten=l.map enc:=by
  clear bd Z
  induction l with
  |nil=>rfl
  |cons a l i=>simp[i]
 refine .osl hg ho a7 (by simpa using bd) (λe k=>by obtain⟨a,_,rfl⟩:=E3.1 k;rfl) (λj=>(cells[off+j]?).getD (.d .nsl)) (λj x I=>?_) (λj x I=>?_)
 .rw[c,x8]at I
  cases b:l[j]? with
  |none=>rw[b]at I;cases I
  |some a=>rw[Z j a b];rfl
 .rw[c,x8]at I
  cases b:l[j]? with
  |none=>rw[b]at I;cases I
  |some a=>
    rw[b]at I;simp only[z7,v7]at I;subst I;rw[Z j a b];have:=Frz.d (s:=s) (enc a);rw[f]at this;exact this
end
end
def ae.trans{s d b:St}(h:ae s d)(q:ae d b):ae s b:=λO al β a w V=>by
 obtain⟨l,c,e⟩:=h O al β a w V;obtain⟨f,g,i⟩:=q O al l a w c;exact⟨f,g,e.trans i⟩
def St.grab(s:St)(t id sz:Nat):St:=
 {f:=upd s.f t (.one (.osl id (s.gen id+1) sz 0 0)),gen:=upd s.gen id (s.gen id+1),obj:=upd s.obj id (S [])}
def oe{s:St}{t id sz:Nat}(r:s.f t=.one (.d .nsl)):ae s (s.grab t id sz):=by
 intro O al k a w V
 let A:Loc:=λi=>if i=id then N else k i
 have q:eQ O k s.gen s.obj w A (s.grab t id sz).gen (s.grab t id sz).obj w:=by
  refine⟨λx I=>⟨⟨I.1,I.2.1,λi n b bs=>?_⟩,rfl⟩,λi=>?_,λi o b=>?_⟩
  .simp only[St.grab,upd,A]at b bs
   split at bs
   .cases bs
   .rename_i bz
    simp only[bz,A8]at b;exact I.2.2 i n b bs
  .simp only[St.grab,upd];split
   .rename_i h;subst h;omega
   .omega
  .simp only[St.grab,upd,A]at o b|-
   by_cases bz:i=id
   .subst bz;simp at o
   .simp only[bz,A8]at b|-
    exact⟨b,trivial,λn L v c0 y U=>⟨v,c0,y,U,l7 _⟩⟩
 refine⟨A,⟨V.defers,V.size,λi=>?_,λi m l=>?_,λB u E G U g c e H=>?_,V.base⟩,l7 _,λ_ _=>rfl,q,rfl,rfl⟩
 .by_cases p:i=t
  .subst p
   have j:=V.f i;rw[r]at j;simp only[ag,ay]at j;rw[j.inv_nsl];simp only[St.grab,upd,B1,ag,ay];refine⟨rfl,l7 _,λ_ _=>?_⟩;simp only[A,B1];exact⟨rfl,rfl⟩
  .have:=ag.keep q _ (V.f i)
   simpa only[St.grab,upd,p,A8]using this
 .simp only[St.grab,upd,A]at l|-
  by_cases bz:i=id
  .simp only[bz,B1,v7]at l|-
   subst l;rfl
  .simp only[bz,A8]at l|-
   exact(V.obj i m l).keep q (λ_ _=>rfl)
 .simp only[St.grab,upd,A]at U g c e
  split at c
  .cases c
  .split at e
   .cases e
   .rename_i J K
    simp only[J,K,A8]at U g;exact V.inj B u E G U g c e H
section
inductive jb (P:Nat->Prop) (s:St):C->D->Prop where
 |d (x:D):jb P s (.d x) x
 |nil:jb P s (.d .nsl) (.sl [])
 |osl {id g sz off len:Nat}{cells:List C}{es:List (List D)} (hp:P id) (hg:s.gen id=g) (ho:s.obj id=some cells) (Q:off+len*sz<=cells.length) (bd:es.length=len) (az:∀e∈es,e.length=sz)
    (k:Nat->C) (Z:∀(j:Nat)(x:D),es.flatten[j]?=some x->cells[off+j]?=some (k j)) (hf:∀(j:Nat)(x:D),es.flatten[j]?=some x->jb P s (k j) x):jb P s (.osl id g sz off len) (.sl es)
variable{P:Nat->Prop}
section
variable{O:Bs}{β:Loc}{w:World}
def jb.rep{al:Nat}{s:St}{a:Act}{Y:Obs}(J:∀id,(Y id).isSome=T->(s.obj id).isSome=T/\¬P id)(V:Rel O al s β a w){c:C}{x:D}(h:jb P s c x):
  ∀{v:Value},ay O β s.gen s.obj w c v->ce (Imm O β Y w) w x v:=by
 induction h with
 |d x=>
   intro v q;have q:ce (Imm O β s.obj w) w x v:=q;exact q.mono λb A=>⟨⟨A.1,A.2.1,λid G ho p=>A.2.2 id G (J id ho).1 p⟩,rfl⟩
 |nil=>
   intro v q;have q:ce (Imm O β s.obj w) w .nsl v:=q;rw[q.inv_nsl];exact .sl0
 |osl K W ho Q hlen az k Z hf ih=>
   rename_i id g sz off len y es;intro v q;have b4:=fM q W Xa;have bl:=V.obj id y ho;cases p:β id with
   |none=>
     exact Ut
   |some t=>
     rw[p]at b4 bl;obtain⟨X,b4⟩:=b4;obtain⟨hB,arr,el,H,hi,a6,ar,b2,ca⟩:=bl.cells X;rcases b4 with⟨af,rfl,cy,_⟩|⟨b8,o,rfl⟩
     .rw[<-hlen]
      have l:∀i e,es[i]?=S e->∀j x,e[j]?=S x->es.flatten[i*sz+j]?=S x:=λi e he j x I=>by
       exact hY
      have B:∀m x,es.flatten[m]?=S x->∃u,w.cell? ⟨t.block,t.off+off+m,N⟩=S u/\ce (Imm O β Y w) w x u:=λm x I=>by
       exact UN
      have hJ:Imm O β Y w t.block:=⟨(ER.1 a6).1,λh=>absurd hB a7,λE a2 b6 r he=>by
       obtain⟨U,h2⟩:=J E b6;exact h2 (V.inj E id a2 t U Xa r p he▸K)⟩
      refine .sl (b:=t.block) (off:=t.off+off) (sz:=sz) (λi j=>(w.cell? ⟨t.block,t.off+off+(i*sz+j),N⟩).getD undef) a7 (λ_=>hJ) az (λi e he j x I=>?_) (λi e he j x I=>?_)
      .obtain⟨u,L,_⟩:=B _ x (l i e he j x I)
       rw[C0,L];rfl
      .obtain⟨u,L,f⟩:=B _ x (l i e he j x I)
       rw[L];exact f
     .subst b8
      have:es=[]:=y7 hlen;subst this;exact .sl0
def Ao{s:St}{R t:C->Value->Prop}(q:∀c v,R c v->t c v)(b:∀c x v,R c v->jb P s c x->t (.d x) v){kd:TypeDesc}:
  ∀{cells:List C}{es:List MapEntry}{m:List C},dR R kd cells es->z m=z cells->(∀(j:Nat)(c c':C),cells[j]?=S c->m[j]?=S c'->c'=c\/∃x,jb P s c x/\c'=.d x)->dR t kd m es:=by
 intro cells es m h
 induction h generalizing m with
 |nil=>intro hl _;rw[y7 hl];exact .nil
 |cons a U g _ i=>
   rename_i k c e y es _;intro hl Z
   match m,hl with
   |l::c'::A,hl=>
     have n:=Z 0 _ _ rfl rfl
     have f:l=.d k:=by
      rcases n with rfl|⟨x,I,rfl⟩
      .rfl
      .cases I with
       |d=>rfl
       |nil=>exfalso;cases kd<;>simp[gw]at a
     subst f;refine .cons a U ?_ (i Wf (λj o p r u=>Z (j+2) o p (by simpa using r) (by simpa using u)));rcases Z 1 _ _ rfl rfl with rfl|⟨x,I,rfl⟩
     .exact q _ _ g
     .exact b _ _ _ g I
def jb.repM{s W:St}{A:Loc}(q:eQ O β s.gen s.obj w A W.gen W.obj w)(b:∀{c:C}{x:D}{v:Value},ay O β s.gen s.obj w c v->jb P s c x->ce (Imm O A W.obj w) w x v){kd:Nat}{c:C}{x:D}{v:Value}
 (h:jc O β s.gen s.obj w kd c v)(I:jb P s c x):jc O A W.gen W.obj w kd (.d x) v:=by
 by_cases a:kd<200
 .rw[wQ a]at h|-
  exact b h I
 .have e:=h.keep q
  unfold jc at h;rw[j8 a]at h;obtain⟨ds,vs,rfl,_⟩:=h;cases I;exact e
def vG(P:Nat->Prop){s W:St}(hg:W.gen=s.gen)
 (hf:∀i,W.f i=s.f i\/∃c x,s.f i=.one c/\W.f i=.one (.d x)/\jb P s c x)
 (ho:∀i m,W.obj i=S m->¬P i/\∃cells,s.obj i=S cells/\z m=z cells/\∀(j:Nat)(c c':C),cells[j]?=S c->m[j]?=S c'->c'=c\/∃x,jb P s c x/\c'=.d x):ae s W:=by
 intro O al β a w V
 have J:∀id,(W.obj id).isSome=T->(s.obj id).isSome=T/\¬P id:=λid h=>by
  cases G:W.obj id with
  |none=>rw[G]at h;cases h
  |some m=>
    obtain⟨U,cells,e,_⟩:=ho id m G;exact⟨by rw[e];rfl,U⟩
 have q:eQ O β s.gen s.obj w β W.gen W.obj w:=
  ⟨λb y=>⟨⟨y.1,y.2.1,λid K U e=>y.2.2 id K (J id U).1 e⟩,rfl⟩,λ_=>by rw[hg];exact l7 _,
   λid _ h=>⟨(J id h).1,rfl,λK _ arr el fr U=>⟨arr,el,fr,U,l7 _⟩⟩⟩
 refine⟨β,⟨V.defers,V.size,λi=>?_,λid m l=>?_,λL u a1 a2 U e=>V.inj L u a1 a2 (J L U).1 (J u e).1,V.base⟩,l7 _,λ_ _=>rfl,q,rfl,rfl⟩
 .rcases hf i with U|⟨c,x,U,e,g⟩
  .rw[U];exact ag.keep q _ (V.f i)
  .have:=V.f i
   rw[U]at this;rw[e];exact jb.rep J V g this
 .obtain⟨_,cells,e,g,A⟩:=ho id m l
  have bl:=V.obj id cells e;cases p:β id with
  |none=>
    rw[p]at bl;have hz:cells=[]:=bl;subst hz;exact y7 g
  |some ad=>
    rw[p]at bl;cases k:ad.spot with
    |some Q=>
      obtain⟨Y,⟨es,n,B,E⟩|⟨r,o,B,E⟩⟩:=bl.map k
      .refine .ofMap k ⟨Y,.inl ⟨es,n,B,?_⟩⟩
       exact Ao (R:=jc O β s.gen s.obj w Q) (t:=jc O β W.gen W.obj w Q) (λ_ _=>jc.keep q) (λ_ _ _ h I=>jb.repM (P:=P) q (λh I=>jb.rep J V I h) h I) E g A
      .refine .ofMap k ⟨Y,.inr ⟨r,o,?_,E⟩⟩
       subst B
       match m,g with
       |[c'],_=>
         rcases A 0 _ _ rfl rfl with rfl|⟨x,I,rfl⟩
         .rfl
         .cases I
    |none=>
    obtain⟨g2,arr,el,H,hi,g3,g4,g5,g6⟩:=bl.cells k;refine .ofCells k ⟨g2,arr,el,H,hi,g3,(by rw[hg];exact g4),a7,λj c' Z=>?_⟩;have hj:j<z cells:=by rw[<-g];exact(l5.1 Z).1
    obtain⟨v,hv,X⟩:=g6 j cells[j] (v8 hj);refine⟨v,hv,?_⟩;rcases A j cells[j] c' (v8 hj) Z with rfl|⟨x,I,rfl⟩
    .exact ay.keep q X
    .exact jb.rep J V I X
end
end
section
def fX(P:Program)(f:FuncId)(xs:List AV)(g:Nat->Nat)(ob:Obs)(R:AV->(Nat->Nat)->Obs->Prop):Prop:=
 DJ P f/\∀(O:Bs)(al:Nat)(β:Loc)(a:Act)(d:Nat->AV)(w:World)(vs:List Value),Rel O al ⟨d,g,ob⟩ β a w->aH O β g ob w xs vs->
  Calls P f vs.toArray w λe G=>∃v r c Y A,e=.returned v/\R r c Y/\ag O A c Y G r v/\
   (∀id b,Y id=S b->cU O A c Y G (c id) b (A id))/\(∀id L a h,(Y id).isSome=T->(Y L).isSome=T->A id=S a->A L=S h->a.block=h.block->id=L)/\
   Tr O β ⟨d,g,ob⟩ w A ⟨d,c,Y⟩ G
def fX.mono{P:Program}{f:FuncId}{xs:List AV}{g:Nat->Nat}{ob:Obs}{R t:AV->(Nat->Nat)->Obs->Prop}(h:fX P f xs g ob R)(V:∀r g' Y,R r g' Y->t r g' Y):fX P f xs g ob t:=
 ⟨h.1,λO al β a b w vs U c=>(h.2 O al β a b w vs U c).mono λ_ _⟨v,r,g',Y,A,d,e,i⟩=>⟨v,r,g',Y,A,d,V _ _ _ e,i⟩⟩
variable{s:St}{f:FuncId}{R:AV->(Nat->Nat)->Obs->Prop}{o:Oper}{args:Array Operand}{tys:Array TypeId}{g:Nat->Nat}{K:St->Prop}{q:List PC}
section
variable{P:Program}{E:Nat->TI}{O:Bs}{β:Loc}{w:World}
def mJ(f:Nat->AV):List Nat->AV
 |[t]=>f t
 |a=>.tup (a.map f)
def xY(d:List Nat)(R:AV->(Nat->Nat)->Obs->Prop):Exit->St->Prop
 |.normal,s|.ret,s=>∃W,ae s W/\R (mJ W.f d) W.gen W.obj
 |_,_=>False
def aH.of_slots{al:Nat}{s:St}{a:Act}(V:Rel O al s β a w):∀ts:List Nat,aH O β s.gen s.obj w (ts.map s.f) (ts.map λt=>a.tmps.getD t undef)
 |[]=>by simp only[w9,aH]
 |t::ts=>by simp only[l9,aH];exact⟨_,_,rfl,V.f t,aH.of_slots V ts⟩
def Dn{al:Nat}{a:Act}(V:Rel O al s β a w):∀d:List Nat,ag O β s.gen s.obj w (mJ s.f d) (mj a.tmps d)
 |[]=>by simp only[mJ,mj,w9,ag,aH];exact⟨[],rfl,rfl⟩
 |[t]=>V.f t
 |t::b::c=>by simp only[mJ,mj,ag];exact⟨_,rfl,aH.of_slots V (t::b::c)⟩
def aH.len{g:Nat->Nat}{ob:Obs}:∀{ts:List AV}{vs:List Value},aH O β g ob w ts vs->z vs=z ts
 |[],vs,h=>by simp only[aH]at h;rw[h];rfl
 |t::ts,vs,h=>by simp only[aH]at h;obtain⟨u,a,rfl,_,h⟩:=h;simp[aH.len h]
def Do(B:Nat)(hT:bb P E)(Z:P.follows .mixedOrders=T){fn:Func}{c:Code}(hf:P.funcs[f]?=S fn)(y:fn.body=S c)(hn:(fn.name == "runtime.NumGoroutine")=F)
 (d:List Nat)(a1:fn.results=(d.map ResultVar.tmp).toArray)(an:codeOk fn.ntmps c=T){xs:List AV}(m:z xs<=fn.ntmps){ob:Obs}
 (h:wpC (spB P B) E c (bx (xY d R)) ⟨cW xs,g,ob⟩):fX P f xs g ob R:=by
 refine⟨⟨fn,hf,by rw[y];rfl,hn⟩,λO al β a H w vs bz hv=>?_⟩;refine calls_of_wp hf y ?_;have hl:=hv.len
 have V:Rel O fn.ntmps ⟨cW xs,g,ob⟩ β {tmps:=vs.toArray++Array.replicate (fn.ntmps-vs.toArray.size) undef,defers:=[]} w:=by
  refine⟨rfl,by simp;omega,λi=>?_,bz.obj,bz.inj,bz.base⟩;simp only[cW];cases I:xs[i]? with
  |some x=>
    exact k6
  |none=>
    exact UL
 refine wp_mono (eA (B:=B) hT Z c an V h) (λe n G hp=>?_);obtain⟨W,A,p,u,ht⟩:=hp
 have k:xY d R .ret W->∃v,(results fn n.tmps).run P G=.ok v G/\∃X r t Y A,Ending.returned v=.returned X/\R r t Y/\ag O A t Y G r X/\
   (∀id j,Y id=S j->cU O A t Y G (t id) j (A id))/\(∀id L a n,(Y id).isSome=T->(Y L).isSome=T->A id=S a->A L=S n->a.block=n.block->id=L)/\
   Tr O β ⟨H,g,ob⟩ w A ⟨H,t,Y⟩ G:=by
  rintro⟨s2,b4,hR⟩;obtain⟨ad,Q,b⟩:=b4 O fn.ntmps A n G u;have J:=ht.trans b;exact⟨_,nD d a1 n.tmps,_,_,_,_,ad,rfl,hR,Dn Q d,Q.obj,Q.inj,⟨J.size,J.old,J.keep,J.os⟩⟩
 cases e with
 |normal=>exact⟨u.defers,k p⟩
 |ret=>exact⟨u.defers,k p⟩
 |exit id=>exact p.elim
 |goto l=>exact p.elim
 |panic ch=>exact p.elim
 |outgrown=>exact p.elim
def iS{al:Nat}{s:St}{a:Act}(V:Rel O al s β a w):∀l:List Operand,aH O β s.gen s.obj w (l.map s.ev) (l.map a.eval)
 |[]=>by simp only[w9,aH]
 |x::l=>by simp only[l9,aH];exact⟨_,_,rfl,V.ev x,iS V l⟩
def iD{al:Nat}{a:Act}(V:Rel O al s β a w){dst:Option Nat}(c:∀d,dst=S d->d<al){r:AV}{v:Value}{g':Nat->Nat}{Y:Obs}{A:Loc}{G:World}{fa:Nat->AV}
 (j:ag O A g' Y G r v)(ho:∀id cells,Y id=S cells->cU O A g' Y G (g' id) cells (A id))(k:∀id L a e,(Y id).isSome=T->(Y L).isSome=T->A id=S a->A L=S e->a.block=e.block->id=L)
 (b:Tr O β ⟨fa,s.gen,s.obj⟩ w A ⟨fa,g',Y⟩ G):Rel O al (St.put ⟨s.f,g',Y⟩ dst r) A (a.put dst v) G/\Tr O β s w A (St.put ⟨s.f,g',Y⟩ dst r) G:=by
 have h:eQ O β s.gen s.obj w A g' Y G:=b.keep;have U:Rel O al ⟨s.f,g',Y⟩ A a G:=⟨V.defers,V.size,λi=>ag.keep h _ (V.f i),ho,k,C8 V.base b.size⟩
 exact⟨U.put c j,⟨b.size,b.old,by rw[St.put_gen,St.put_obj];exact h,b.os⟩⟩
def EW(ho:o.op=.call ⟨.value (.func f),args,tys⟩)
 (b:fX P f (args.toList.map s.ev) s.gen s.obj R):tK P o s (λW=>∃r g' Y,R r g' Y/\W=St.put ⟨s.f,g',Y⟩ o.dst r):=by
 intro O al β a w V c next Q hn;unfold Oper.wp;rw[jE ho b.1 w];simp only[Oper.upon];have:=b.2 O al β a s.f w (args.toList.map a.eval) V (iS V _);rw[show (args.toList.map a.eval).toArray=args.map a.eval from Jf a8]at this;exact SD
def ck{k:Box K}{B:Nat}(ho:o.op=.call ⟨.value (.func f),args,tys⟩)
 (b:fX P f (args.toList.map s.ev) s.gen s.obj R)(c:∀r a Y,R r a Y->K (St.put ⟨s.f,a,Y⟩ o.dst r)):bm (spB P B) o s k:=
 ⟨_,EW ho b,λ_⟨r,a,Y,V,e⟩=>e▸c r a Y V⟩
def jY:PC->AV
 |.d x=>.one (.d x)
 |.ptr id g off=>.one (.ptr id g off)
def jU.av{ob:Obs}{p:PC}{v:Value}(h:jU O β g ob w p v):ag O β g ob w (jY p) v:=by
 cases p<;>simpa only[jY,ag,ay,jU]using h
def aH.append{g:Nat->Nat}{ob:Obs}:∀{xs Q:List AV}{vs a:List Value},aH O β g ob w xs vs->aH O β g ob w Q a->aH O β g ob w (xs++Q) (vs++a)
 |[],Q,vs,a,h,q=>by simp only[aH]at h;subst h;exact q
 |x::xs,Q,vs,a,h,q=>by
   simp only[aH]at h;obtain⟨u,c,rfl,U,b⟩:=h;simp only[C3,aH];exact⟨_,_,rfl,U,aH.append b q⟩
def ni{g:Nat->Nat}{ob:Obs}:∀{q:List PC}{vs:List Value},z vs=z q->(∀(i:Nat)(pc:PC),q[i]?=S pc->∃u,vs[i]?=S u/\jU O β g ob w pc u)->aH O β g ob w (q.map jY) vs
 |[],vs,hl,_=>by simp only[w9,aH];exact y7 hl
 |p::q,vs,hl,h=>by
   match vs,hl with
   |u::us,hl=>
     simp only[l9,aH];obtain⟨a,L,V⟩:=h 0 p rfl;simp at L;subst L;exact⟨_,_,rfl,V.av,ni Wf (λi pc hi=>by simpa using h (i+1) pc WG)⟩
def EX{t:Nat}(ho:o.op=.call ⟨.value (.tmp t),args,tys⟩)(hf:s.f t=.one (.clo f q))
 (hp:fX P f (args.toList.map s.ev++q.map jY) s.gen s.obj R)(az:f<1000000:=by decide):tK P o s (λW=>∃r g' Y,R r g' Y/\W=St.put ⟨s.f,g',Y⟩ o.dst r):=by
 intro O al β a w V c next Q hn;have hv:=V.f t;rw[hf]at hv;simp only[ag,ay]at hv;obtain⟨vs,cx,m,j⟩:=hv;rw[sR az]at cx
 have bf:(execOp a.eval o).run P w=.ok (.enter f (args.map a.eval++vs)) w:=by
  exact lo
 unfold Oper.wp;rw[bf];simp only[Oper.upon];have Z:aH O β s.gen s.obj w (q.map jY) vs.toList:=ni (by simpa using m) (λi pc hi=>let ⟨u,U,h2⟩:=j i pc hi;⟨u,by simpa using U,h2⟩);have:=hp.2 O al β a s.f w (args.toList.map a.eval++vs.toList) V ((iS V _).append Z);rw[show (args.toList.map a.eval++vs.toList).toArray=args.map a.eval++vs from Jf a8]at this;exact SD
def EY{k:Box K}{B:Nat}{t:Nat}(ho:o.op=.call ⟨.value (.tmp t),args,tys⟩)(hf:s.f t=.one (.clo f q))
(hp:fX P f (args.toList.map s.ev++q.map jY) s.gen s.obj R)(hk:∀r g' Y,R r g' Y->K (St.put ⟨s.f,g',Y⟩ o.dst r))(az:f<1000000:=by decide):bm (spB P B) o s k:=
 ⟨_,EX ho hf hp az,λ_⟨r,g',Y,V,e⟩=>e▸hk r g' Y V⟩
end
end
end
section
attribute[local congr]ite_cc
section
inductive wL (B:Nat) (s:St):AV->AV->Prop where
 |one {c:C}{x:D} (h:jb (B<=·) s c x):wL B s (.one c) (.one (.d x))
 |agg {cs:List C}{xs:List D} (hl:xs.length=cs.length) (h:∀(i:Nat)(c:C),cs[i]?=some c->∃x,xs[i]?=some x/\jb (B<=·) s c x):wL B s (.agg cs) (.agg (xs.map .d))
def dY(B:Nat)(s:St):List AV->List AV->Prop
 |[],rs=>rs=[]
 |t::a,rs=>∃r o,rs=r::o/\wL B s t r/\dY B s a o
def NG(B:Nat)(g:Nat->Nat)(ob:Obs)(d:List Nat)(R:AV->Prop):Exit->St->Prop
 |.normal,s|.ret,s=>(∀i,i<B->s.gen i=g i)/\(∀i,i<B->s.obj i=ob i)/\
   match d with
   |[t]=>∃r,wL B s (s.f t) r/\R r
   |b=>∃a,dY B s (b.map s.f) a/\R (.tup a)
 |_,_=>False
variable{s:St}{R:AV->Prop}{B:Nat}{B0:Nat}{Q:Exit->St->Prop}{K:St->Prop}{q:Box Q}
section
variable{P:Program}{E:Nat->TI}{O:Bs}{β:Loc}{w:World}
def wL.rep{B al:Nat}{s:St}{a:Act}{Y:Obs}(J:∀id,(Y id).isSome=T->(s.obj id).isSome=T/\¬B<=id)(V:Rel O al s β a w){x r:AV}(h:wL B s x r){v:Value}(g:ag O β s.gen s.obj w x v){g':Nat->Nat}{A:Loc}(p:∀id,(Y id).isSome=T->A id=β id):ag O A g' Y w r v:=by
 have K:∀b,Imm O β Y w b->Imm O A Y w b/\w.heap[b]?=w.heap[b]?:=λb k=>⟨⟨k.1,k.2.1,λid a ho m=>k.2.2 id a ho (by rw[<-p id ho];exact m)⟩,rfl⟩
 cases h with
 |one h=>
   simp only[ag]at g|-;simp only[ay];exact(jb.rep J V h g).mono K
 |agg hl h=>
   rename_i n o;simp only[ag]at g|-;obtain⟨vs,U,t,G⟩:=g;refine⟨vs,U,by rw[t,j6,hl],λi c Z=>?_⟩;rw[x8]at Z;cases j:o[i]? with
   |none=>rw[j]at Z;cases Z
   |some y=>
     rw[j]at Z;simp only[z7,v7]at Z;subst Z;have l:i<z n:=by rw[<-hl];exact(l5.1 j).1
     obtain⟨u,L,f⟩:=G i _ (v8 l);obtain⟨e,d,H⟩:=h i _ (v8 l);have:e=y:=by simpa[d]using j
     subst this;refine⟨u,L,?_⟩;simp only[ay];exact(jb.rep J V H f).mono K
def dY.rep{B al:Nat}{s:St}{a:Act}{Y:Obs}(J:∀id,(Y id).isSome=T->(s.obj id).isSome=T/\¬B<=id)(V:Rel O al s β a w){g':Nat->Nat}{A:Loc}(p:∀id,(Y id).isSome=T->A id=β id):
  ∀(b:List Nat){c:List AV},dY B s (b.map s.f) c->aH O A g' Y w c (b.map λt=>a.tmps.getD t undef)
 |[],c,h=>by simp only[w9,dY]at h;subst h;simp only[w9,aH]
 |t::b,c,h=>by
   simp only[l9,dY]at h;obtain⟨r,o,rfl,U,d⟩:=h;simp only[l9,aH];exact⟨_,_,rfl,U.rep J V (V.f t) p,dY.rep J V p b d⟩
def ay.back{A:Loc}{g g':Nat->Nat}{ob Y:Obs}{w G:World}(hl:∀id,(ob id).isSome=T->g' id=g id/\A id=β id/\(Y id).isSome=T)(K:∀b,Imm O A Y G b->Imm O β ob G b)
 {c:C}{v m:Value}(h:ay O A g' Y G c v)(h0:ay O β g ob w c m):ay O β g ob G c v:=by
 cases c with
 |d x=>exact ce.mono h λb k=>⟨K b k,rfl⟩
 |osl id g1 sz off len=>
   exact u2
 |ptr id g1 off=>
   exact u2
 |mp id g1 t=>
   exact u2
 |lsl n=>exact h
 |raw o=>exact h.elim
 |clo f q=>
   obtain⟨vs,U,p,r⟩:=h;obtain⟨e,_,_,a⟩:=h0;refine⟨vs,U,p,λi pc l=>?_⟩;obtain⟨u,L,V⟩:=r i pc l;obtain⟨j,_,bz⟩:=a i pc l;refine⟨u,L,?_⟩;cases pc with
   |d x=>exact ce.mono V λb k=>⟨K b k,rfl⟩
   |ptr id g1 off=>
     refine⟨V.1,bz.2.1,λhg ho=>?_⟩;obtain⟨l1,l2,y⟩:=hl id ho;rw[<-l2];exact V.2.2 (by rw[l1];exact hg) y
def dR.back{R b t:C->Value->Prop}{kd:TypeDesc}{cs:List C}{es bd:List MapEntry}(h:dR R kd cs es)(d:dR b kd cs bd)(V:∀c v e,R c v->b c e->t c v):dR t kd cs es:=by
 induction h generalizing bd with
 |nil=>exact .nil
 |cons f U g _ i=>
   cases d with
   |cons _ _ a l=>exact .cons f U (V _ _ _ g a) (i l)
def Ap(B:Nat)(hT:bb P E)(hm:P.follows .mixedOrders=T){f:FuncId}{fn:Func}{c:Code}(hf:P.funcs[f]?=S fn)(hb:fn.body=S c)(hn:(fn.name == "runtime.NumGoroutine")=F)
 (d:List Nat)(a1:fn.results=(d.map ResultVar.tmp).toArray)(an:codeOk fn.ntmps c=T){xs:List AV}(m:z xs<=fn.ntmps){g:Nat->Nat}{ob:Obs}(hB:∀i,B<=i->ob i=N)
 (h:wpC (spB P B) E c (bx (NG B g ob d R)) ⟨cW xs,g,ob⟩):fX P f xs g ob (λr g' Y=>R r/\g'=g/\Y=ob):=by
 refine⟨⟨fn,hf,by rw[hb];rfl,hn⟩,λO al β a fa w vs bz hv=>?_⟩;refine calls_of_wp hf hb ?_;have hl:=hv.len
 have V:Rel O fn.ntmps ⟨cW xs,g,ob⟩ β {tmps:=vs.toArray++Array.replicate (fn.ntmps-vs.toArray.size) undef,defers:=[]} w:=by
  refine⟨rfl,by simp;omega,λi=>?_,bz.obj,bz.inj,bz.base⟩;simp only[cW];cases I:xs[i]? with
  |some x=>
    exact k6
  |none=>
    exact UL
 refine wp_mono (eA (B:=B) hT hm c an V h) (λe a' G hp=>?_);obtain⟨W,A,hQ,av,ht⟩:=hp
 have k:NG B g ob d R .ret W->∃v,(results fn a'.tmps).run P G=.ok v G/\∃v' r g' Y A,Ending.returned v=.returned v'/\(R r/\g'=g/\Y=ob)/\ag O A g' Y G r v'/\
   (∀id b0,Y id=S b0->cU O A g' Y G (g' id) b0 (A id))/\(∀id L a a',(Y id).isSome=T->(Y L).isSome=T->A id=S a->A L=S a'->a.block=a'.block->id=L)/\
   Tr O β ⟨fa,g,ob⟩ w A ⟨fa,g',Y⟩ G:=by
  rintro⟨hg,bl,dd⟩
  have af:∀id,(ob id).isSome=T->id<B:=λid ho=>Q6 λZ=>by
   rw[hB id a7]at ho;cases ho
  have y:∀id,(ob id).isSome=T->W.gen id=g id/\A id=β id/\(W.obj id).isSome=T:=λid ho=>by
   have U:=hg id (af id ho);have h2:(W.obj id).isSome=T:=by rw[bl id (af id ho)];exact ho
   exact⟨U,(ht.keep.live id U h2).2.1,h2⟩
  have J:∀id,(ob id).isSome=T->(W.obj id).isSome=T/\¬B<=id:=λid ho=>⟨(y id ho).2.2,by have:=af id ho;omega⟩
  have K:∀b,Imm O A W.obj G b->Imm O β ob G b:=λb hb=>⟨hb.1,hb.2.1,λid a ho he=>hb.2.2 id a (y id ho).2.2 (by rw[(y id ho).2.1];exact he)⟩
  have az:∀id b0,ob id=S b0->cU O β g ob G (g id) b0 (β id):=λid b0 Z=>by
   have ho:(ob id).isSome=T:=by rw[Z];rfl
   have U:=av.obj id b0 (by rw[bl id (af id ho)];exact Z);rw[(y id ho).2.1,(y id ho).1]at U;have h0:=V.obj id b0 Z;cases p:β id with
   |none=>rw[p]at U;exact U
   |some ad=>
     rw[p]at U h0;cases hs:ad.spot with
     |none=>
       obtain⟨p1,arr,el,H,hi,p2,p3,p4,p5⟩:=U.cells hs;obtain⟨_,s,Q,bn,cy,_,_,_,q5⟩:=h0.cells hs;refine .ofCells hs ⟨p1,arr,el,H,hi,p2,p3,p4,λj c hj=>?_⟩;obtain⟨v,hv,X⟩:=p5 j c hj;obtain⟨v0,_,bf⟩:=q5 j c hj;exact⟨v,hv,ay.back y K X bf⟩
     |some kd=>
       obtain⟨p1,⟨es,n,p2,p3⟩|a6⟩:=U.map hs
       .obtain⟨_,⟨bd,bk,_,q3⟩|⟨_,o,q3,_⟩⟩:=h0.map hs
        .exact .ofMap hs ⟨p1,.inl ⟨es,n,p2,p3.back q3 λc v v0 h h0=>by
         unfold jc at h h0|-;split
         .rename_i hk
          rw[l8 hk]at h h0;exact ay.back y K h h0
         .rename_i hk
          rw[j8 hk]at h;obtain⟨ds,vs,q1,q2,q3,q4⟩:=h;exact⟨ds,vs,q1,q2,q3,λi x I=>let ⟨u,hu,V⟩:=q4 i x I;⟨u,hu,ce.mono V λb hb=>⟨K b hb,rfl⟩⟩⟩⟩⟩
        .subst q3
         generalize es.toList=el at p3;cases p3
       .exact .ofMap hs ⟨p1,.inr a6⟩
  have q:eQ O β g ob w β g ob G:=by
   refine⟨λb hb=>⟨K b (ht.imm b hb).1,(ht.imm b hb).2⟩,λ_=>l7 _,λid _ ho=>⟨ho,rfl,λa' b' arr el fr hh=>?_⟩⟩;exact(ht.keep.live id (y id ho).1 (y id ho).2.2).2.2 a' b' arr el fr hh
  refine⟨_,nD d a1 a'.tmps,?_⟩
  have bs:∀r,ag O β g ob G r (mj a'.tmps d)->R r->∃v' r g' Y A,Ending.returned (mj a'.tmps d)=.returned v'/\(R r/\g'=g/\Y=ob)/\ag O A g' Y G r v'/\
   (∀id b0,Y id=S b0->cU O A g' Y G (g' id) b0 (A id))/\(∀id L a a',(Y id).isSome=T->(Y L).isSome=T->A id=S a->A L=S a'->a.block=a'.block->id=L)/\
   Tr O β ⟨fa,g,ob⟩ w A ⟨fa,g',Y⟩ G:=λr U h2=>⟨_,r,g,ob,β,rfl,⟨h2,rfl,rfl⟩,U,az,V.inj,⟨ht.size,ht.old,q,ht.os⟩⟩
  have ar:∀id,(ob id).isSome=T->β id=A id:=λid ho=>(y id ho).2.1.symm
  match d,dd with
  |[t],⟨r,U,h2⟩=>exact bs r (U.rep J av (av.f t) ar) h2
  |[],⟨rs,U,h2⟩=>exact bs _ (by simp only[ag];exact⟨_,rfl,dY.rep J av ar [] U⟩) h2
  |t::t'::ts,⟨rs,U,h2⟩=>exact bs _ (by simp only[ag];exact⟨_,rfl,dY.rep J av ar (t::t'::ts) U⟩) h2
 cases e with
 |normal=>exact⟨av.defers,k hQ⟩
 |ret=>exact⟨av.defers,k hQ⟩
 |exit id=>exact hQ.elim
 |goto l=>exact hQ.elim
 |panic ch=>exact hQ.elim
 |outgrown=>exact hQ.elim
def BP{o:Oper}(d:St){k:Box K}(b:ae s d)(h:bm (spB P B) o d k):bm (spB P B) o s k:=by
 obtain⟨R,e,J⟩:=h;refine⟨R,λO al β a w V c next Q f=>?_,J⟩;obtain⟨l,g,i⟩:=b O al β a w V;exact e O al l a w g c next Q (λW A j G U m n=>f W A j G U m (i.trans n))
def vH{o:Oper}{k:Box K}{f:FuncId}{args:Array Operand}{tys:Array TypeId}(ho:o.op=.call ⟨.value (.func f),args,tys⟩)
 (a:ax P f (args.toList.map s.ev) R)(hd:(args.toList.map s.ev).all eH=T)(b:∀r,R r->K (s.put o.dst r)):bm (spB P B) o s k:=
 ⟨_,vT ho a hd,λ_⟨r,V,e⟩=>e▸b r V⟩
def dZ{B:(Exit->St->Prop)->St->Prop}{b:Box B}(I:Nat->St->Prop)(n:Nat)(c:I n s)
 (V:∀n f g a,I n ⟨f,g,a⟩->B (iQ (bx λW=>∃j d,j<n/\(spB P B0).vs W d/\I j d) q) ⟨f,g,a⟩):ng (spB P B0) b q s:=
 ⟨I,⟨n,s,ae.refl s,c⟩,λn s e=>V n s.f s.gen s.obj e⟩
def xZ{B:(Exit->St->Prop)->St->Prop}{b:Box B}(d:St)(c:ae s d)(I:Nat->St->Prop)(n:Nat)(e:I n d)
 (V:∀n f g a,I n ⟨f,g,a⟩->B (iQ (bx λW=>∃j d,j<n/\(spB P B0).vs W d/\I j d) q) ⟨f,g,a⟩):ng (spB P B0) b q s:=
 ⟨I,⟨n,d,c,e⟩,λn s h=>V n s.f s.gen s.obj h⟩
def dG{I:Nat->St->Prop}{n:Nat}(j:Nat)(h:j<n)(a:I j s):∃j d,j<n/\(spB P B0).vs s d/\I j d:=⟨j,s,h,ae.refl s,a⟩
def bO{id:Nat}{ops:Array Oper}(a:nd E ops=T)(h:wpO (spB P B0) E ops ops.toList s (bx λW=>Q .normal W)):ky (spB P B0) E id ops s q:=.inl ⟨a,h⟩
end
@[go_sem]def Re:=@NG.eq_3
def Jx{x:D}(I:x≠.nsl):(∃r,wL B s (.one (.d x)) r/\R r)=R (.one (.d x)):=by
 apply propext;constructor
 .rintro⟨r,V,a⟩
  cases V with
  |one h=>
    cases h with
    |d=>exact a
    |nil=>exact absurd rfl I
 .intro h;exact⟨_,.one (.d x),h⟩
@[go_sem]def Rf{b:List UInt8}:(∃r,wL B s (.one (.d (.str b))) r/\R r)=R (.one (.d (.str b))):=Jx a8
def nc0:((0:Nat):Int)=0:=rfl
def nc1:((1:Nat):Int)=1:=rfl
attribute [go_sem] nc0 nc1 Nat.add_zero Nat.sub_zero Int.cast_ofNat_Int
def tv{a b:D}(h:jT a b=T):a=b:=by
 cases a<;>cases b<;>simp_all[jT]
def og(k:D)(x:C)(a:D):∀cells:List C,mget (mset cells k x) a=if jT k a=T then S x else mget cells a
 |.d f::c::r=>by
   simp only[mset];split
   .rename_i U
    rw[tv U];simp only[mget];split<;>rfl
   .rename_i U
    simp only[mget];rw[og k x a r];by_cases b:jT k a=T
    .rw[l8 b]
     split
     .rename_i e
      exfalso;have g:=tv e;have h:=tv b;subst g;subst h;exact U e
     .rfl
    .rw[j8 b,j8 b]
 |[]=>by simp[mset,mget]
 |[.d f]=>by simp[mset,mget]
 |.osl .. :: _=>by simp[mset,mget]
 |.ptr .. :: _=>by simp[mset,mget]
 |.clo .. :: _=>by simp[mset,mget]
 |.mp .. :: _=>by simp[mset,mget]
 |.lsl .. :: _=>by simp[mset,mget]
 |.raw _::_=>by simp[mset,mget]
@[go_sem]def WF(B k j:Nat):(B+k=B+j)=(k=j):=a8
end
end
end Go.Am
