/- A part of the proof; no conditions. -/
import Derived.Test.YtlacbjnmkhndiaaGreatDoorPart3
import Derived.ProofKit
import Derived.WideKeyArgs
import Derived.SizedLaws
import Derived.Deep.OwnRows
set_option linter.unusedSimpArgs false
set_option linter.unusedVariables false
set_option linter.defProp false
open List renaming length -> z
open Option renaming some -> S, none -> N
open Bool renaming true -> T, false -> F
set_option maxHeartbeats 64000000
set_option maxRecDepth 100000
namespace Go.Am
section
attribute [local congr] Go.Am.ite_cc
section
variable{s:St}{P:Program}{R:AV->Prop}{Q:Exit->St->Prop}
def Jv{t:Nat}{B:TI}{X:Value}(hd:P.underlying t=S B.desc)(b:(P.info? t).map (λi=>(i.size,i.bytes,i.zero))=S (B.size,B.bytes,S X))
 (e:X.cells.toList=B.zero.map dV)(f:B.zero.all kB=T)(hl:z B.zero=B.size)(d:dF B.desc=T\/X=dV (B.zero.headD .nsl)):sH P t B:=by
 refine⟨hd,?_,f,hl,λc i a U g=>?_⟩
 rotate_left
 .rw[U]at b
  simp only[z7,v7,IT]at b;have:a=X:=by simpa[g]using b.2.2
  rcases d with d|d
  .rw[c]at d;cases d
  .rw[this,d]
 cases h:P.info? t with
 |none=>rw[h]at b;cases b
 |some i=>
   rw[h]at b;simp only[z7,v7,IT]at b;exact⟨i,rfl,b.1,b.2.1,X,b.2.2,e⟩
def eF{B:(Exit->St->Prop)->St->Prop}{b:Box B}{q:Box Q}(I:Nat->St->Prop)(n:Nat)(c:I n s)
 (V:∀n f g a,I n ⟨f,g,a⟩->B (iQ (bx λW=>∃j d,j<n/\(sp P).vs W d/\I j d) q) ⟨f,g,a⟩):ng (sp P) b q s:=
 ⟨I,⟨n,s,ae.refl s,c⟩,λn s e=>V n s.f s.gen s.obj e⟩
def cH{I:Nat->St->Prop}{n:Nat}(j:Nat)(h:j<n)(a:I j s):∃j d,j<n/\(sp P).vs s d/\I j d:=⟨j,s,h,ae.refl s,a⟩
def jn{E:Nat->TI}{id:Nat}{ops:Array Oper}{q:Box Q}(a:nd E ops=T)(h:wpO (sp P) E ops ops.toList s (bx λW=>Q .normal W)):ky (sp P) E id ops s q:=.inl ⟨a,h⟩
def fD{o:Oper}{K:St->Prop}{k:Box K}{f:FuncId}{args:Array Operand}{tys:Array TypeId}(ho:o.op=.call ⟨.value (.func f),args,tys⟩)
 (a:ax P f (args.toList.map s.ev) R)(hd:(args.toList.map s.ev).all eH=T)(b:∀r,R r->K (s.put o.dst r)):bm (sp P) o s k:=
 ⟨_,vT ho a hd,λ_⟨r,V,e⟩=>e▸b r V⟩
def wrap_i64(n:Int)(a:-9223372036854775808<=n)(U:n<=9223372036854775807):IntKind.i64.wrap n=n:=by rw[IntKind.wrap_i64];omega
def Ra{x y:D}:Frz s (.d x) y↔y=ge x:=⟨λh=>by cases h;rfl,λh=>h▸.d x⟩
@[go_sem]def WD{x:D}:(∃r,kR s (.one (.d x)) r/\R r)=R (.one (.d (ge x))):=by
 apply propext;constructor
 .rintro⟨r,⟨y,a,rfl⟩,b⟩;rw[Ra]at a;subst a;exact b
 .intro h;exact⟨_,⟨_,.d x,rfl⟩,h⟩
@[go_sem]def Rb{R:List AV->Prop}:(∃rs,dC s [] rs/\R rs)=R []:=by simp[dC]
@[go_sem]def Qs{t:AV}{ts:List AV}{R:List AV->Prop}:(∃rs,dC s (t::ts) rs/\R rs)=∃r,kR s t r/\∃rs,dC s ts rs/\R (r::rs):=by
 apply propext;simp only[dC];constructor
 .rintro⟨_,⟨r,o,rfl,U,a⟩,b⟩;exact⟨r,U,o,a,b⟩
 .rintro⟨r,U,o,a,b⟩;exact⟨_,⟨r,o,rfl,U,a⟩,b⟩
@[go_sem]def Rc{t u:Nat}:AI [t,u] R .ret s=∃rs,dC s [s.f t,s.f u] rs/\R (.tup rs):=B7 rfl rfl
@[go_sem]def NF:(∀(b:Bool),ge (.bool b)=.bool b)/\(∀(k:IntKind)(n:Int),ge (.int k n)=.int k n)/\ge .nsl=.sl []:=by and_intros<;>intros<;>exact B7 rfl rfl
@[go_sem]def Qu(s:List UInt8):ge (.str s)=.str s:=B7 rfl rfl
@[go_sem]def Rd:=@AI.eq_3
attribute [go_sem] AV.one.injEq AV.tup.injEq AV.agg.injEq C.d.injEq D.bool.injEq D.int.injEq D.str.injEq D.sl.injEq List.cons.injEq true_implies false_implies forall_const and_self
attribute [go_sem] Int.ofNat_lt Int.ofNat_le Int.natCast_nonneg cW
def ac{k:Nat}(h:k<=4000000000000000000):IntKind.i64.wrap ((k:Int)+1)=((k+1:Nat):Int):=by rw[IntKind.wrap_i64]<;>omega
end
end
section
open Go.ChangeShapes
section
section
variable{H:Type}{enc:TypeId×Value->H}{P:Program}{w:World}
def gg(w:World)(cs:List Value)(ds:List D):Prop:=z ds=z cs/\∀(j:Nat)(x:D),ds[j]?=S x->∃v,cs[j]?=S v/\ce (λb=>b<w.heap.size) w x v
def gg.one{v:Value}{x:D}(h:ce (λb=>b<w.heap.size) w x v):gg w [v] [x]:=⟨rfl,λj y a=>by
 cases j with
 |zero=>simp at a;subst a;exact⟨v,rfl,h⟩
 | succ j=>simp at a⟩
def mapM_some{A β:Type}{f:A->Option β}:∀{l:List A}{r:List β},l.mapM f=S r->z r=z l/\∀(i:Nat)(a:A),l[i]?=S a->∃b,r[i]?=S b/\f a=S b
 |[],r,h=>by simp at h;subst h;exact⟨rfl,λi a c=>by simp at c⟩
 |a::l,r,h=>by
   rw[O7]at h;cases c:f a with
   |none=>simp[c]at h
   |some b=>
     cases hl:l.mapM f with
     |none=>simp[c,hl]at h
     |some q=>
       simp[c,hl]at h;subst h;obtain⟨U,d⟩:=mapM_some hl;refine⟨by simp[U],λi x I=>?_⟩;cases i with
       |zero=>simp at I;subst I;exact⟨b,rfl,c⟩
       |succ i=>simpa using d i x Wk
def Al{base n:Nat}{a:Addr}{cs:List Value}(h:w.cells? base a n=S cs):z cs=n/\∀(j:Nat)(v:Value),cs[j]?=S v->w.cell? (a.add j)=S v:=by
 unfold World.cells? at h;split at h
 .obtain⟨U,d⟩:=mapM_some h
  refine⟨by simpa using U,λj v c=>?_⟩
  have e:j<n:=by
   have:=(l5.1 c).1;rw[U]at this;simpa using this
  obtain⟨b,f,g⟩:=d j j (by simp[e]);rw[f]at c;cases c;exact g
 .cases h
def nh{A:Type}{p:Nat->A->Prop}:∀(n:Nat),(∀i,i<n->∃x,p i x)->∃l:List A,z l=n/\∀(i:Nat)(x:A),l[i]?=S x->p i x
 |0,_=>⟨[],rfl,λi x h=>by simp at h⟩
 |n+1,h=>by
   obtain⟨l,U,b⟩:=nh n (λi c=>h i a7);obtain⟨x,I⟩:=h n a7;refine⟨l++[x],by simp[U],λi y a=>?_⟩;rw[K8]at a;split at a
   .exact b i y a
   .rename_i c
    have d:i=n:=by
     have:=(l5.1 a).1;simp at this;omega
    subst d;rw[U,J5]at a;simp at a;exact a▸I
def kz{P:Program}{e:TypeId}{p:Nat->Bool}:∀{l:List (DataW H)},(DataW.weightsAll P e l).all p=T->∀d∈l,(d.weights P e).all p=T
 |[],_,_,hd=>by cases hd
 |d::l,h,a,hd=>by
   simp only[DataW.weightsAll,H5,s5]at h;rcases A3.1 hd with rfl|hd
   .exact h.1
   .exact kz h.2 a hd
def Dl{w G:World}(h:∀b,b<w.heap.size->G.heap[b]?=w.heap[b]?){p:MemPlace}(a:p.block<w.heap.size):w.sameAt G p:=by
 cases p with
 |cell b o=>exact World.cell?_of_block (w:=w) (h b a)
 |map b=>exact h b a
def Jw{w G:World}(h:∀b,b<w.heap.size->G.heap[b]?=w.heap[b]?)(n:G.os=w.os/\G.output=w.output)(a:MemPlace->Prop):w.keptBut G a:=by
 refine⟨n.1,n.2,λi c=>?_⟩;rw[h i c];split<;>simp_all
def xX(P:Program)(f:FuncId)(args:Array Value)(w:World):Prop:=
 Calls P f args w λe G=>e=.returned (.bool T)/\w.heap.size<=G.heap.size/\(∀b,b<w.heap.size->G.heap[b]?=w.heap[b]?)/\G.os=w.os/\G.output=w.output
def pi(hl:laidOutB P=T){W A:World}(hW:∀b,b<W.heap.size->A.heap[b]?=W.heap[b]?):∀(ts:List TypeId)(vs:List Value)(ds:List (DataW H))(ps:List MemPlace),ts.all (λt=>P.readableRec t&&decide (t<P.types.size))=T->
  (∀p∈ps,p.block<W.heap.size)->DataW.TrodAll enc P W 0 (λ_=>T) T ts vs ds ps->DataW.TrodAll enc P A 0 (λb=>decide (b<W.heap.size)) T ts vs ds ps
 |[],[],[],ps,_,_,h=>h
 |t::ts,v::vs,d::ds,ps,g,a,h=>by
   obtain⟨p,q,U,c,rfl⟩:=h;simp only[E9,s5,B4]at g
   exact⟨p,q,WideElems.Trod_stays hl g.1.1 g.1.2 U (λx I=>Dl hW (a x We)) (λx I=>by simpa using a x We),
    pi hl hW ts vs ds q g.2 (λx I=>a x We) c,rfl⟩
 |[],[],_::_,_,_,_,h=>h.elim
 |[],_::_,_,_,_,_,h=>h.elim
 |_::_,[],_,_,_,_,h=>h.elim
 |_::_,_::_,[],_,_,_,h=>h.elim
def sd{w:World}{sp:Nat->Bool}:∀(ts:List TypeId)(vs:List Value)(ds:List (DataW H))(ps:List MemPlace),DataW.TrodAll enc P w 0 sp T ts vs ds ps->z ds=z ts
 |[],[],[],_,_=>rfl
 |_::ts,_::vs,_::ds,_,h=>by
   obtain⟨p,q,_,a,_⟩:=h;simp[sd ts vs ds q a]
 |[],[],_::_,_,h=>h.elim
 |[],_::_,_,_,h=>h.elim
 |_::_,[],_,_,h=>h.elim
 |_::_,_::_,[],_,h=>h.elim
end
end
end
end Go.Am
