/- A part of the proof; no conditions. -/
import Derived.Test.YtednjibjomfhfaaGreatDoorPart5
import Derived.RangeFuncSeq
import Derived.Below
import Derived.Lib.UnsafeStr
import Derived.Laws.Externs
import Derived.Handed
import Derived.Lay
import Derived.LaidMore
import Derived.SevenTiedAt
import Derived.Stop.Joined
import Derived.KernelRfl
import Derived.DefersIn
import Derived.RecoverIn
import Derived.Test.YtednjibjomfhfaaGreatDoorProg
import Derived.Lib.Bytealg
import Derived.Shelf.Strings.IndexAnyAll
import Derived.Laws.RangeAny
import Derived.WalkMore
import Derived.Shelf.RegionOpenPlain
import Derived.BigQuiet
import Derived.Laws.Runes
import Derived.Shelf.Small.Utf8
import Derived.Lib.QuoteLoop
import Derived.Lib.TrimU
import Derived.Lib.OthersKept
import Derived.Shelf.Strings.SlTrimAscii
import Derived.Shelf.Strings.Runes
set_option linter.all false
open List renaming length -> z
open Option renaming some -> S, none -> N
open Bool renaming true -> T, false -> F
set_option maxHeartbeats 64000000
set_option maxRecDepth 100000
namespace Go.Am
section
section
variable{B B' id:Nat}{ops:Array Oper}{Q:Exit->St->Prop}
section
variable{P:Program}{G:Nat->TI}{O:Bs}{w:World}{rd:Option Nat}{n:St->Loc->List Deferred->World->Prop}{t:fW}
def xv{hT:bp P G}(t:br O n){B av:Nat}{ops:Array Oper}{ds:List Deferred}{Q:Exit->Act->World->Prop}(v:ops.toList.all aX=T)(hg:ops.toList.all (λo=>o.guard.isNone)=T)(b4:fP av ops.toList=T)(I:(Nat->Bool)->St->Prop)
 (J:∀(L:Nat->Bool)(s:St)(i:Nat)(o:Oper),I L s->ops[i]?=S o->L i=F->(∀e∈o.after.toList,Region.binds .any e=T->L e.on=T)->
    (∀j l,L j=T->ops[j]?=S l->∀e∈l.after.toList,Region.binds .any e=T->L e.on=T)->opA (spB P B) G o s (bx λp=>I (upd L i T) p)):
  ∀(q:Nat)(b:Array Bool){s:St}{β:Loc}{a:Act}{w:World},b.size=ops.size->b.toList.count F<=q->Rel O av s β a w->n s β ds w->I (λi=>b.getD i F) s->
   (∀j l,b.getD j F=T->ops[j]?=S l->∀e∈l.after.toList,Region.binds .any e=T->b.getD e.on F=T)->
   (∀L p E W w',I L p->Rel O av p E W w'->n p E ds w'->(∃c,L=(λi=>c.getD i F)/\c.size=ops.size/\Region.ready .any ops c=[])->Q .normal {W with defers:=ds} w')->
   wpAnyIn (fen rd) 0 P .any ops Q q b {a with defers:=ds} w
 |0,b,s,β,a,w,bc,x,V,A,hI,hid,hQ=>by
   exact l1
 |q+1,b,s,β,a,w,bc,x,V,A,hI,hid,hQ=>by
   refine⟨λan=>hQ _ s β a w hI V A ⟨b,rfl,bc,an⟩,λi hi=>?_⟩;unfold Region.ready at hi;simp only[S8,E4,l4,H3]at hi;obtain⟨b8,y,m⟩:=hi;have ho:ops[i]?=S ops[i]:=A5 b8;rw[ho]at m;simp only[z8,A2,Ou,F3,H3]at m
   have bd:b[i]?=S F:=by
    exact VW
   have K:b.getD i F=F:=by rw[x8,bd];rfl
   have f:∀e∈ops[i].after.toList,Region.binds .any e=T->b.getD e.on F=T:=λe he hb=>by
    exact T7
   have U:(ops[i]).guard=N:=by
    have:=x7.1 hg ops[i] (G5 b8);exact Um
   have k:∀d,(ops[i]).dst=S d->d<av:=λd hd=>by
    exact UF
   have r:aX ops[i]=T:=x7.1 v ops[i] (G5 b8);unfold wpOpIn;rw[ho];simp only;rw[l7 (by simp[Region.wanted,U])]
   have u:(λj=>(b.setIfInBounds i T).getD j F)=upd (λj=>b.getD j F) i T:=by
    funext j;exact tI
   refine iC r (mI hT V k (J _ s i ops[i] hI ho K f hid) (λp E W w' g bk X=>⟨bk.defers,?_⟩));refine xv (hT:=hT) t v hg b4 I J q (b.setIfInBounds i T) (by simpa using bc) YD bk (t _ _ _ _ _ _ _ A X) (by rw[u];exact g) (λj l hj H e he hb=>?_) hQ;exact km
def sA(hT:bp P G)(g:P.follows .mixedOrders=T)(d:br O n){s:St}{q:Box Q}(k:ops.toList.all aX=T)(f:(ops.toList.all (λo=>o.guard.isNone)&&vh ops)=T)(I:(Nat->Bool)->St->Prop)(h0:I (λ_=>F) s)
 (J:∀(L:Nat->Bool)(s:St)(i:Nat)(o:Oper),I L s->ops[i]?=S o->L i=F->(∀e∈o.after.toList,Region.binds .any e=T->L e.on=T)->
    (∀j l,L j=T->ops[j]?=S l->∀e∈l.after.toList,Region.binds .any e=T->L e.on=T)->opA (spB P B) G o s (bx λs'=>I (upd L i T) s'))
 (m:∀L s',I L s'->(∀i,i<ops.size->L i=T)->Q .normal s'):ll (spF P rd O n B' t) G id ops s q:=by
 rw[l4]at f;obtain⟨hg,bc⟩:=f;refine .inr ⟨λe s'=>e=.normal/\Q .normal s',λp β a ds w r V A=>?_,λe s'⟨U,Y⟩=>U▸Y⟩;have u:Rel O p s β a {w with drawn:=w.drawn+1}:=V.of_heap rfl;have v:n s β ds {w with drawn:=w.drawn+1}:=d _ _ _ _ _ _ _ A (Tr.same rfl rfl rfl);refine wpIn_region_any g (xv (hT:=hT) d k hg r I J ops.size (Array.replicate ops.size F) a8 a8 u v ?_ (λj l c=>?_) (λL s' E W w' Y x y h6=>⟨s',E,W,ds,rfl,.inl ⟨rfl,m L s' Y Xx⟩,x,y⟩))
 .exact tb
 .rw[x8,D0]at c
  split at c<;>simp at c
def pJ(hT:bp P G)(a:P.follows .mixedOrders=T)(b:br O n){s:St}{q:Box Q}(p:List Nat)(y:List (List Nat×List Nat×List Nat×Bool))(g:Nat)(f:ops.toList.all aX=T)(c:Ek ops y g=T)(w:z p=g)(d:p.Nodup)
 (h:jE (spB P B) G p (jC ops.toList y) s (bx λe=>Q .normal e)):ll (spF P rd O n B' t) G id ops s q:=by
 obtain⟨U,I,Y,i,j⟩:=Em (Q:=Q) p y g c w d h;exact sA hT a b f U I Y i j
end
end
section
section
variable{P:Program}{G:Nat->TI}{O:Bs}{w:World}
def mE{av:Nat}{xs:List AV}{vs:List Value}{g:Nat->Nat}{ob:Obs}{β:Loc}{fa:Nat->AV}{M:Nat}{a:Act}(p:z xs<=av)(b:Rel O M ⟨fa,g,ob⟩ β a w)(c:aO O β g ob w xs vs):
  Rel O av ⟨dA xs,g,ob⟩ β {tmps:=vs.toArray++Array.replicate (av-vs.toArray.size) undef,defers:=[]} w:=by
 have hl:=c.len;refine⟨rfl,by simp;omega,λi=>?_,b.obj,b.inj,b.base⟩;simp only[dA];cases I:xs[i]? with
 |some x=>
   obtain⟨v,U,Y⟩:=c.get I;have d:i<z vs:=(l8.1 U).1
   have:(vs.toArray++Array.replicate (av-vs.toArray.size) undef).getD i undef=v:=by
    rw[x8,E9 (by simpa using d)];simp[U]
   rw[this];simpa only[A2]using Y
 |none=>
   have e:z xs<=i:=by simpa using I
   have:(vs.toArray++Array.replicate (av-vs.toArray.size) undef).getD i undef=undef:=by
    rw[x8,G7 Wk];simp[D0];split<;>rfl
   rw[this];exact cL
end
end
section
def Mk(O:Bs)(β:Loc)(ob:Obs)(w:World)(k:Nat):List Deferred->Prop
 |[]=>True
 |d::ds=>(∃D,d = {target:=.collected D,args:=#[]}/\k<=D/\Imm O β ob w D/\w.heap[D]?=S (.deferred (S []))/\∀a∈ds,a≠d)/\Mk O β ob w k ds
def TG(O:Bs)(b:Loc)(c:St)(a:World):St->Loc->List Deferred->World->Prop:=λs β ds w=>Tr O b c a β s w/\Mk O β s.obj w a.heap.size ds
def Mk.keep{O:Bs}{β E:Loc}{s a:St}{w w':World}(h:Tr O β s w E a w'){k:Nat}:∀{ds:List Deferred},Mk O β s.obj w k ds->Mk O E a.obj w' k ds
 |[],_=>trivial
 |d::ds,hm=>by
   obtain⟨⟨D,U,Y,b,c,e⟩,V⟩:=hm;exact⟨⟨D,U,Y,(h.imm D b).1,by rw[(h.imm D b).2];exact c,e⟩,Mk.keep h V⟩
def FL{O:Bs}{b:Loc}{c:St}{d:World}:br O (TG O b c d):=λ_ _ _ _ _ _ _ h a=>⟨h.1.trans a,h.2.keep a⟩
section
variable{P:Program}{G:Nat->TI}{O:Bs}{β:Loc}{w:World}
end
end
section
section
variable{P:Program}{G:Nat->TI}{O:Bs}{β:Loc}{w:World}
end
end
section
variable{cells:List C}
section
variable{P:Program}{G:Nat->TI}{O:Bs}{β:Loc}{w:World}
def St.claimAt(s:St)(o b j sz:Nat)(cells:List C):St:=⟨s.f,upd s.gen b (s.gen b+1),upd (upd s.obj o (S (cells.set j (.osl b (s.gen b+1) sz 0 0)))) b (S [])⟩
def Ad{s:St}{t o b j sz:Nat}(ht:(∃off,s.f t=.one (.ptr o (s.gen o) off))\/∃sz off len,s.f t=.one (.osl o (s.gen o) sz off len))(ho:s.obj o=S cells)(Z:cells[j]?=S (.d .nsl))(Q:o≠b):ae s (s.claimAt o b j sz cells):=by
 intro O av β a w V
 let E:Loc:=λi=>if i=b then N else β i
 have n:∀i,i≠b->((s.claimAt o b j sz cells).obj i).isSome=T->(s.obj i).isSome=T:=λi p hi=>by
  simp only[St.claimAt,upd,j8 p]at hi;by_cases A:i=o
  .subst A;rw[ho];rfl
  .rwa [j8 A]at hi
 have m:ft O β s.gen s.obj w E (s.claimAt o b j sz cells).gen (s.claimAt o b j sz cells).obj w:=by
  refine⟨λx I=>⟨⟨I.1,I.2.1,λi W hi H=>?_⟩,rfl⟩,λi=>?_,λi hg hi=>?_⟩
  .exact U8
  .simp only[St.claimAt,upd];split
   .rename_i e;subst e;omega
   .omega
  .by_cases p:i=b
   .subst p;simp[St.claimAt,upd]at hg
   .exact⟨n i p hi,by simp[E,p],λW _ arr el fr h=>⟨arr,el,fr,h,l0 _⟩⟩
 have g:∀ad,β o=S ad->ad.spot=N:=λad H=>by
  exact sb
 refine⟨E,⟨V.defers,V.size,λi=>ag.keep m _ (V.f i),λi l r=>?_,λi1 u a1 a2 q J b1 b2 hb=>?_,V.base⟩,l0 _,λ_ _=>rfl,m,rfl,rfl⟩
 .by_cases p:i=b
  .subst p
   simp only[St.claimAt,upd,B5,w9]at r;subst r;simp only[E,B5];rfl
  .by_cases A:i=o
   .subst A
    simp only[St.claimAt,upd,j8 p,B5,w9]at r;subst r;have K:=V.obj i cells ho;have B:E i=β i:=by simp[E,Q]
    rw[B];cases H:β i with
    |none=>rw[H]at K;have:cells=[]:=K;subst this;simp at Z
    |some ad=>
      rw[H]at K;obtain⟨g1,arr,el,lo,hi,g2,g3,g4,g5⟩:=K.cells (g ad H);refine .ofCells (g ad H) ⟨g1,arr,el,lo,hi,g2,by simpa[St.claimAt,upd,p]using g3,by simpa using g4,λk c L=>?_⟩;by_cases y:k=j
      .subst y
       have af:=(l8.1 Z).1;rw[SH af]at L;cases L;obtain⟨v,hv,X⟩:=g5 k _ Z;simp only[aD]at X;obtain rfl:=X.inv_nsl;refine⟨_,hv,rfl,by simp[St.claimAt,upd],λ_ _=>?_⟩;simp only[E,B5];exact⟨rfl,rfl⟩
      .rw[M9 (A9 y)]at L
       obtain⟨v,hv,X⟩:=g5 k c L;exact⟨v,hv,X.keep m⟩
   .simp only[St.claimAt,upd,j8 p,j8 A]at r
    have:=(V.obj i l r).keep m (λ_ _=>rfl);simpa[E,p,St.claimAt,upd]using this
 .exact K3
def dR{s:St}{t o b j sz off:Nat}(a:s.f t=.one (.ptr o (s.gen o) off))(ho:s.obj o=S cells)(c:cells[j]?=S (.d .nsl))(Q:o≠b):ae s (s.claimAt o b j sz cells):=
 Ad (.inl ⟨off,a⟩) ho c Q
end
end
end
section
attribute[local congr]ite_cc
section
variable{fn:Func}{g:Nat->Nat}
section
variable{P:Program}{G:Nat->TI}{O:Bs}{β:Loc}{w:World}
def lN(G:Nat->TI)(s:St):List ResultVar->{K:List AV->Prop}->Box K->Prop
 |[],K,_=>K []
 |.tmp t::r,K,_=>lN G s r (bx λvs=>K (s.f t::vs))
 |.cell a ty::r,K,_=>va (G ty) s (s.f a) (bx λv=>lN G s r (bx λvs=>K (v::vs)))
def oI(hT:bp P G){av:Nat}{s:St}{a:Act}(V:Rel O av s β a w):
  ∀(rs:List ResultVar){K:List AV->Prop}{k:Box K},lN G s rs k->∃vs Q,(∀g:ResultVar->Sem Value,(∀t,g (.tmp t)=pure (a.tmps.getD t undef))->(∀x t,g (.cell x t)=do loadVar t (<-asAddr (a.tmps.getD x undef)))->(rs.mapM g).run P w=.ok vs w)/\K Q/\aO O β s.gen s.obj w Q vs
 |[],K,k,h=>⟨[],[],λ_ _ _=>by simp,h,by simp only[aO]⟩
 |.tmp t::r,K,k,h=>by
   obtain⟨vs,Q,U,Y,d⟩:=oI hT V r h;refine⟨_::vs,_::Q,λg hg c=>?_,Y,by simp only[aO];exact⟨_,_,rfl,V.f t,d⟩⟩;simp only[OA,Sem.run_bind,hg,Sem.run_pure,Result.andThen_ok,U g hg c]
 |.cell x ty::r,K,k,h=>by
   unfold lN at h;obtain⟨y,Z,J,bz,b⟩:=tT hT V h (V.f x);obtain⟨vs,Q,U,Y,d⟩:=oI hT V r J;refine⟨Z::vs,y::Q,λg hg c=>?_,Y,by simp only[aO];exact⟨_,_,rfl,b,d⟩⟩;have hl:=bz w .refl
   have i:(g (.cell x ty)).run P w=.ok Z w:=by
    rw[c];unfold Instr.loadAt at hl;cases e:a.tmps.getD x undef with
    |pointer p=>
      rw[e]at hl;cases p with
      |some p=>simpa[Instr.sureAddr,asAddr]using hl
      |none=>simp[Instr.sureAddr]at hl
    |_=>rw[e]at hl;simp[Instr.sureAddr]at hl
   simp only[OA,Sem.run_bind,i,Sem.run_pure,Result.andThen_ok,U g hg c]
def pack:List AV->AV
 |[t]=>t
 |A=>.tup A
def lr:List Value->Value
 |[v]=>v
 |vs=>.tuple vs.toArray
def vo{ob:Obs}:∀{Q:List AV}{vs:List Value},aO O β g ob w Q vs->ag O β g ob w (pack Q) (lr vs)
 |[],vs,h=>by simp only[aO]at h;subst h;simp only[pack,lr,ag,aO];exact⟨[],rfl,rfl⟩
 |[t],vs,h=>by simp only[aO]at h;obtain⟨u,a,rfl,U,rfl⟩:=h;exact U
 |t::c::A,vs,h=>by
   have b:=h;simp only[aO]at h;obtain⟨u,a,rfl,U,d,i,rfl,Y,e⟩:=h;simp only[pack,lr,ag];exact⟨_,rfl,b⟩
def dY(hT:bp P G){av:Nat}{s:St}{a:Act}(V:Rel O av s β a w){rs:List ResultVar}(L:fn.results=rs.toArray){K:List AV->Prop}{k:Box K}(h:lN G s rs k):
  ∃v Q,(results fn a.tmps).run P w=.ok v w/\K Q/\ag O β s.gen s.obj w (pack Q) v/\∃vs,v=lr vs/\aO O β s.gen s.obj w Q vs:=by
 obtain⟨vs,Q,U,Y,b⟩:=oI hT V rs h;refine⟨lr vs,Q,?_,Y,vo b,vs,rfl,b⟩;unfold results;simp only[L,R3,Sem.run_bind,Sem.run_map];rw[U _ (λ_=>rfl) (λ_ _=>rfl)];simp only[Result.andThen_ok,Sem.run_pure]
 match vs with
 |[]=>simp[lr]
 |[t]=>simp[lr]
 |t::c::A=>simp[lr]
def Ae(G:Nat->TI)(rs:List ResultVar)(R:AV->(Nat->Nat)->Obs->Prop):Exit->St->Prop
 |.normal,s|.ret,s=>∃a,ae s a/\lN G a rs (bx λQ=>R (pack Q) a.gen a.obj)
 |_,_=>False
def PS(B:Nat)(hT:bp P G)(u:P.follows .mixedOrders=T){f:FuncId}{c:Code}(hf:P.funcs[f]?=S fn)(q:fn.body=S c)(y:(fn.name == "runtime.NumGoroutine")=F)
 (rs:List ResultVar)(L:fn.results=rs.toArray)(A:codeOk fn.ntmps c=T){xs:List AV}(p:z xs<=fn.ntmps){ob:Obs}{R:AV->(Nat->Nat)->Obs->Prop}
 (h:wpC (spB P B) G c (bx (Ae G rs R)) ⟨dA xs,g,ob⟩):jl P f xs g ob R:=by
 refine⟨⟨fn,hf,by rw[q];rfl,y⟩,λO av β a s w vs n hv=>?_⟩;refine calls_of_wp hf q ?_;have hl:=hv.len
 have V:Rel O fn.ntmps ⟨dA xs,g,ob⟩ β {tmps:=vs.toArray++Array.replicate (fn.ntmps-vs.toArray.size) undef,defers:=[]} w:=by
  refine⟨rfl,by simp;omega,λi=>?_,n.obj,n.inj,n.base⟩;simp only[dA];cases I:xs[i]? with
  |some x=>
    exact lb
  |none=>
    exact VT
 refine wp_mono (fe (B:=B) hT u c A V h) (λe W j J=>?_);obtain⟨X,E,k,bk,ht⟩:=J
 have d:Ae G rs R .ret X->∃v,(results fn W.tmps).run P j=.ok v j/\∃t r m Z E,Ending.returned v=.returned t/\R r m Z/\ag O E m Z j r t/\
   (∀id b,Z id=S b->dX O E m Z j (m id) b (E id))/\(∀id K a W,(Z id).isSome=T->(Z K).isSome=T->E id=S a->E K=S W->a.block=W.block->id=K)/\
   Tr O β ⟨s,g,ob⟩ w E ⟨s,m,Z⟩ j:=by
  rintro⟨s2,bz,hR⟩;obtain⟨bl,o,a1⟩:=bz O fn.ntmps E W j bk;have H:=ht.trans a1;obtain⟨v,Q,U,Y,h3,_⟩:=dY hT o L hR;exact⟨v,U,v,_,_,_,bl,rfl,Y,h3,o.obj,o.inj,⟨H.size,H.old,H.keep,H.os⟩⟩
 cases e with
 |normal=>exact⟨bk.defers,d k⟩
 |ret=>exact⟨bk.defers,d k⟩
 |exit id=>exact k.elim
 |goto l=>exact k.elim
 |panic ch=>exact k.elim
 |outgrown=>exact k.elim
def rq(s:St):List AV->AV->Prop
 |[t],r=>mf s t r
 |A,r=>∃a,eu s A a/\r=.tup a
def rq.rep{av:Nat}{s:St}{a:Act}(V:Rel O av s β a w):∀{A:List AV}{r:AV}{vs:List Value},rq s A r->aO O β s.gen s.obj w A vs->RV (Own O w) w r (lr vs):=by
 have b:∀(A d:List AV)(vs:List Value),eu s A d->aO O β s.gen s.obj w A vs->RVs (Own O w) w d vs:=by
  intro A
  induction A with
  |nil=>intro d vs h c;simp only[eu]at h;simp only[aO]at c;subst h c;simp only[RVs]
  |cons t A f=>
    intro d vs h c;simp only[eu]at h;simp only[aO]at c;obtain⟨r,q,rfl,U,Y⟩:=h;obtain⟨u,e,rfl,j,k⟩:=c;simp only[RVs];exact⟨_,_,rfl,U.rep V j,f _ _ Y k⟩
 intro A r vs h c
 match A,h with
 |[],⟨d,U,Y⟩=>
   subst Y;have:=b _ _ _ U c;simp only[aO]at c;subst c;simp only[RV,lr];exact⟨_,rfl,this⟩
 |[t],h=>
   simp only[aO]at c;obtain⟨u,e,rfl,U,rfl⟩:=c;exact mf.rep V h U
 |t::l::A,⟨d,U,Y⟩=>
   subst Y;have:=b _ _ _ U c;simp only[aO]at c;obtain⟨u,e,rfl,_,m,i,rfl,_,_⟩:=c;simp only[RV,lr];exact⟨_,rfl,this⟩
def vp(G:Nat->TI)(rs:List ResultVar)(R:AV->Prop):Exit->St->Prop
 |.normal,s|.ret,s=>lN G s rs (bx λQ=>∃r,rq s Q r/\R r)
 |_,_=>False
def Af(hT:bp P G)(t:P.follows .mixedOrders=T){f:FuncId}{c:Code}(hf:P.funcs[f]?=S fn)(hb:fn.body=S c)(A:(fn.name == "runtime.NumGoroutine")=F)
 (rs:List ResultVar)(L:fn.results=rs.toArray)(B:codeOk fn.ntmps c=T){args:List AV}(p:z args<=fn.ntmps){R:AV->Prop}
 (h:∀g,wpC (sp P) G c (bx (vp G rs R)) ⟨dA args,g,λ_=>N⟩):aF P f args R:=by
 refine⟨⟨fn,hf,by rw[hb];rfl,A⟩,λJ w vs hJ hv=>?_⟩;refine calls_of_wp hf hb ?_
 have H:∀(l:List AV)(vs:List Value),RVs J w l vs->z vs=z l:=by
  intro l
  induction l with
  |nil=>intro vs h;simp only[RVs]at h;subst h;rfl
  |cons x l o=>intro vs h;simp only[RVs]at h;obtain⟨u,q,rfl,_,h⟩:=h;simp[o q h]
 have hl:=H _ _ hv
 let m:Nat->Prop:=J
 have V:Rel ⟨w.heap.size,m⟩ fn.ntmps ⟨dA args,λ_=>0,λ_=>N⟩ (λ_=>N) {tmps:=vs.toArray++Array.replicate (fn.ntmps-vs.toArray.size) undef,defers:=[]} w:=by
  refine⟨rfl,by simp;omega,λi=>?_,λid s ho=>YC,λid K a W ho=>YC,l0 _⟩
  have av:∀(l:List AV)(vs:List Value),RVs J w l vs->∀(i:Nat)(x:AV),l[i]?=S x->∃v,vs[i]?=S v/\RV J w x v:=by
   intro l
   induction l with
   |nil=>intro vs _ i x h;simp at h
   |cons y l o=>
     intro vs h i x I;simp only[RVs]at h;obtain⟨u,q,rfl,U,Y⟩:=h;cases i with
     |zero=>simp at I;subst I;exact⟨u,rfl,U⟩
     |succ i=>simpa using o q Y i x Xl
  simp only[dA];cases I:args[i]? with
  |some x=>
    exact oo
  |none=>
    exact U9
 refine wp_mono (fe hT t c B V (h _)) (λe W n X=>?_);obtain⟨Z,E,j,bk,ht⟩:=X
 have d:vp G rs R .ret Z->∃v,(results fn W.tmps).run P n=.ok v n/\∃r,R r/\RV (Own ⟨w.heap.size,m⟩ n) n r v:=by
  intro j;obtain⟨v,Q,U,⟨r,Y,h3⟩,_,k,rfl,h4⟩:=dY hT bk L j;exact⟨_,U,r,h3,Y.rep bk h4⟩
 cases e with
 |normal=>
   obtain⟨v,U,r,Y,h3⟩:=d j;exact K1
 |ret=>
   obtain⟨v,U,r,Y,h3⟩:=d j;exact K1
 |exit id=>exact j.elim
 |goto l=>exact j.elim
 |panic ch=>exact j.elim
 |outgrown=>exact j.elim
end
@[go_sem]def SM:=x6 @lN.eq_1 (x6 @lN.eq_2 (x6 @lN.eq_3 (x6 @vp.eq_2 @rq.eq_1)))
def eG{r:Type}{s:St}{id g sz n:Nat}{cells:List C}(hg:s.gen id=g)(l:List r)(enc:r->List D)(ho:s.obj id=S cells)(k:cells=l.flatMap (λa=>(enc a).map .d))(m:∀a∈l,∀x∈enc a,ir x=x)(f:∀a∈l,z (enc a)=sz)(hl:z l=n):
  Frz s (.osl id g sz 0 n) (.sl (l.map enc)):=by
 have i:cells=(l.map enc).flatten.map .d:=by rw[k];clear m f hl k ho;induction l with|nil=>rfl|cons a l o=>simp[o]
 have u:z cells=n*sz:=by
  rw[i,j5];clear i k m ho;subst hl
  induction l with
  |nil=>simp
  |cons a l o=>
    simp only[l9,D8,j4,j6,f a a8,o (λb hb=>f b Xg)];rw[F2];omega
 refine .osl hg ho a6 W8 (λe p=>by obtain⟨a,q,rfl⟩:=G3.1 p;exact f a q) (λj=>(cells[0+j]?).getD (.d .nsl)) (λj x I=>?_) (λj x I=>?_)
 .rw[i,B9,y7,I];rfl
 .rw[i,B9,y7,I]
  simp only[z8,A2]
  have G:ir x=x:=by
   have t:=l5 I;obtain⟨e,p,c⟩:=List.mem_flatten.1 t;obtain⟨a,q,rfl⟩:=G3.1 p;exact m a q x c
  have:=Frz.d (s:=s) x
  rwa [G]at this
end
end
section
section
structure nW (O:Bs) (β:Loc) (ob:Obs) (k:Nat) (w w':World):Prop where
 size:w'.heap.size=w.heap.size
 os:w'.os=w.os/\w'.output=w.output
 same:∀b,w'.heap[b]?=w.heap[b]?\/(k<=b/\Imm O β ob w b/\(∃x,w.heap[b]?=some (.deferred x))/\∃x,w'.heap[b]?=some (.deferred x))
section
variable{P:Program}{G:Nat->TI}{O:Bs}{β:Loc}{g:Nat->Nat}{ob:Obs}{k:Nat}{w w':World}
def nW.refl:nW O β ob k w w:=⟨rfl,⟨rfl,rfl⟩,λ_=>.inl rfl⟩
def nW.trans{i:World}(h:nW O β ob k w w')(j:nW O β ob k w' i):nW O β ob k w i:=by
 refine⟨j.size.trans h.size,⟨j.os.1.trans h.os.1,j.os.2.trans h.os.2⟩,λb=>?_⟩;rcases h.same b with e|⟨l,m,n,o⟩
 .rcases j.same b with B|⟨d,a,f,c⟩
  .exact .inl (B.trans e)
  .exact .inr ⟨d,by unfold Imm at *;rw[h.size]at a;exact a,by rw[<-e];exact f,c⟩
 .rcases j.same b with B|⟨d,a,f,c⟩
  .exact .inr ⟨l,m,n,by rw[B];exact o⟩
  .exact .inr ⟨l,m,n,c⟩
def nW.cell(h:nW O β ob k w w'){a:Addr}{v:Value}(b:w.cell? a=S v):w'.cell? a=S v:=by
 rcases h.same a.block with e|⟨_,_,⟨x,e⟩,_⟩
 .rw[me e];exact b
 .simp[World.cell?,e]at b
def nW.imm(h:nW O β ob k w w'){b:Nat}(a:Imm O β ob w b):Imm O β ob w' b:=by unfold Imm at *;rw[h.size];exact a
def cr.shut{J m:Nat->Prop}{x:D}{v:Value}(h:cr J w x v)(q:∀b,J b->m b)(r:∀a v,w.cell? a=S v->w'.cell? a=S v):cr m w' x v:=by
 induction h with
 |bool b=>exact .bool b
 |int k n=>exact .int k n
 |str s=>exact .str s
 |nsl=>exact .nsl
 |nilp=>exact .nilp
 |nilf=>exact .nilf
 |nili=>exact .nili
 |nilm=>exact .nilm
 |fn f=>exact .fn f
 |yld l=>exact .yld l
 |sl0=>exact .sl0
 |sl p t c bc d V o=>exact .sl p t (λh=>q _ (c h)) bc (λi e u j x I=>r _ _ (d i e u j x I)) o
 |iptr p c d V o=>exact .iptr p (λh=>q _ (c h)) (λj x I=>r _ _ (d j x I)) o
def kF.shut(h:nW O β ob k w w'){c:PC}{v:Value}(V:kF O β g ob w c v):kF O β g ob w' c v:=by
 cases c with
 |d x=>exact cr.shut V (λ_=>h.imm) (λ_ _=>h.cell)
 |ptr id g1 off=>exact V
def aD.shut(h:nW O β ob k w w'){c:C}{v:Value}(V:aD O β g ob w c v):aD O β g ob w' c v:=by
 cases c with
 |d x=>exact cr.shut V (λ_=>h.imm) (λ_ _=>h.cell)
 |osl id g1 sz off len=>
   obtain⟨U,Y,j⟩:=V;refine⟨U,Y,λhg ho=>?_⟩;have b:=j hg ho;cases H:β id with
   |none=>rw[H]at b;exact b
   |some a=>
     rw[H]at b;obtain⟨r,l⟩:=b;refine⟨r,?_⟩;rcases l with⟨m,t,y,A⟩|l
     .refine .inl ⟨m,t,y,λarr el fr p=>?_⟩
      rcases h.same a.block with e|⟨_,_,_,⟨x,e⟩⟩
      .exact A arr el fr (by rw[<-e];exact p)
      .rw[e]at p;cases p
     .exact .inr l
 |ptr id g1 off=>exact V
 |clo f E=>
   obtain⟨vs,U,Y,j⟩:=V;exact⟨vs,U,Y,λi pc B=>let ⟨u,hu,V⟩:=j i pc B;⟨u,hu,V.shut h⟩⟩
 |mp id g1 I=>exact V
 |lsl n=>exact V
 |raw o=>exact V
def mz.shut(h:nW O β ob k w w'){cs:List C}{vs:Array Value}(V:mz O β g ob w cs vs):mz O β g ob w' cs vs:=
 ⟨V.1,λi c a=>let ⟨u,hu,V⟩:=V.2 i c a;⟨u,hu,V.shut h⟩⟩
mutual
theorem ag.shut(h:nW O β ob k w w'):(x:AV)->{v:Value}->ag O β g ob w x v->ag O β g ob w' x v
 |.one _,_,V=>by simp only[ag]at V|-;exact aD.shut h V
 |.agg _,_,V=>by simp only[ag]at V|-;obtain⟨vs,U,Y⟩:=V;exact⟨vs,U,Y.shut h⟩
 |.tup A,_,V=>by simp only[ag]at V|-;obtain⟨vs,U,Y⟩:=V;exact⟨vs,U,aO.shut h A Y⟩
 |.junk,_,_=>by simp only[ag]
 |.exact _,_,V=>by simp only[ag]at V|-;exact V
theorem aO.shut(h:nW O β ob k w w'):(x:List AV)->{v:List Value}->aO O β g ob w x v->aO O β g ob w' x v
 |[],_,V=>by simp only[aO]at V|-;exact V
 |t::A,_,V=>by simp only[aO]at V|-;obtain⟨u,a,U,Y,b⟩:=V;exact⟨u,a,U,ag.shut h t Y,aO.shut h A b⟩
end
def Rel.shut{av:Nat}{s:St}{a:Act}(V:Rel O av s β a w)(h:nW O β s.obj k w w'):Rel O av s β a w':=by
 refine⟨V.defers,V.size,λi=>ag.shut h _ (V.f i),λid b ho=>?_,V.inj,by rw[h.size];exact V.base⟩;have U:=V.obj id b ho;cases H:β id with
 |none=>rw[H]at U;exact U
 |some d=>
   rw[H]at U
   have r:w'.heap[d.block]?=w.heap[d.block]?:=by
    rcases h.same d.block with e|⟨_,e,_⟩
    .exact e
    .exact absurd rfl (e.2.2 id d WS H)
   cases l:d.spot with
   |none=>
     obtain⟨Y,arr,el,y,A,m,n,B,E⟩:=U.cells l;exact .ofCells l ⟨Y,arr,el,y,A,by rw[r];exact m,n,B,λj c J=>let ⟨v,K,V⟩:=E j c J;⟨v,K,V.shut h⟩⟩
   |some kd=>
     obtain⟨Y,⟨L,Q,m,n⟩|⟨p,o,m,n⟩⟩:=U.map l
     .exact .ofMap l ⟨Y,.inl ⟨L,Q,by rw[r];exact m,n.mono λ_ _ q=>by
       unfold jB at q|-;split
       .rename_i t
        rw[l7 t]at q;exact aD.shut h q
       .rename_i t
        rw[j8 t]at q;obtain⟨ds,vs,W,X,Z,q4⟩:=q;exact⟨ds,vs,W,X,Z,λi x I=>let ⟨u,hu,V⟩:=q4 i x I;⟨u,hu,cr.shut V (λ_=>h.imm) (λ_ _=>h.cell)⟩⟩⟩⟩
     .exact .ofMap l ⟨Y,.inr ⟨p,o,m,by rw[r];exact n⟩⟩
def Mk.put{D:Nat}{o:Obj}:∀{ds:List Deferred},Mk O β ob w k ds->(∀a∈ds,a≠{target:=.collected D,args:=#[]})->Mk O β ob (w.putObj D o) k ds
 |[],_,_=>trivial
 |d::ds,hm,bl=>by
   obtain⟨⟨E,U,Y,b,c,e⟩,V⟩:=hm;have f:E≠D:=λi=>bl d a8 (by rw[U,i]);exact⟨⟨E,U,Y,by unfold Imm at *;simpa using b,by rw[World.putObj_heap_other f];exact c,e⟩,V.put (λa j=>bl a (by simp[j]))⟩
def rv{fn:Func}{a:Array Value}{R:Ending->World->Prop}:∀{ds:List Deferred}{w:World},Mk O β ob w k ds->
  (∀t,nW O β ob k w t->∃v,(results fn a).run P t=.ok v t/\R (.returned v) t)->LeavesInM (fen N) 0 P fn a R ds .returning w
 |[],w,_,h=>h w .refl
 |d::ds,w,hm,h=>by
   obtain⟨⟨D,U,Y,c,e,i⟩,V⟩:=hm;refine⟨a8,.inl ⟨D,_,by rw[U],run_takeDeferred e,?_⟩⟩;have j:D<w.heap.size:=c.1
   have m:nW O β ob k w (w.putObj D (.deferred N)):=⟨a8,⟨rfl,rfl⟩,λb=>by
    by_cases f:b=D
    .subst f
     exact .inr ⟨Y,c,⟨_,e⟩,⟨N,World.putObj_heap_same j⟩⟩
    .exact .inl (World.putObj_heap_other f)⟩
   exact rv (V.put (λl n=>by rw[<-U];exact i l n)) (λt o=>h t (m.trans o))
end
end
section
variable{s:St}{K:St->Prop}
section
variable{P:Program}{G:Nat->TI}{O:Bs}{β:Loc}{w:World}
def HF{o:Oper}{k:Box K}{B:Nat}{x:Operand}{tys:Array TypeId}(ho:o.op=.call ⟨.builtin .unsafeSliceData,#[x],tys⟩){id g off len:Nat}(I:s.ev x=.one (.osl id g 1 off len))(hg:s.gen id=g)(f:(s.obj id).isSome=T)(hl:0<len)
 (i:K (s.put o.dst (.one (.ptr id g off)))):bu (spB P B) o s k:=by
 refine⟨λs'=>s'=s.put o.dst (.one (.ptr id g off)),λO p β a w V hd next Q j=>?_,λ_ e=>e▸i⟩;have b:=V.ev x;rw[I]at b;simp only[ag,aD]at b;obtain⟨_,l,A⟩:=b;have A:=A hg f;cases H:β id with
 |none=>rw[H]at A;have:=A.1;omega
 |some c=>
   rw[H]at A;obtain⟨m,⟨d,b,r,_⟩|⟨t,_⟩⟩:=A
   .have n:(execOp a.eval o).run P w=.ok (.value (.pointer (S ⟨c.block,c.off+off,N⟩))) w:=by
     have:=Lib.run_unsafeSliceData_row (P:=P) (w:=w) tys o.type ⟨c.block,c.off+off,N⟩ len d a6;simp[execOp,ho,resolve,invoke,b,builtin,this]
    refine fh n (j _ β _ w rfl (V.put hd ?_) (Tr.same (St.put_gen _ _ _) (St.put_obj _ _ _) rfl));simp only[ag,aD];exact⟨rfl,l,λ_ _=>⟨c,H,m,rfl⟩⟩
   .omega
def Ai(w:World)(a:Addr)(n:Nat):(w.freeze a n).heap.size=w.heap.size:=by unfold World.freeze;split<;>simp
def FQ(w:World)(a:Addr)(n:Nat):(w.freeze a n).os=w.os/\(w.freeze a n).output=w.output:=by unfold World.freeze;split<;>exact⟨rfl,rfl⟩
def yC(w:World)(a:Addr)(n:Nat){b:Nat}(c:b≠a.block):(w.freeze a n).heap[b]?=w.heap[b]?:=by
 unfold World.freeze;split
 .rfl
 .simp only[O2]
  rw[j8 (λe=>c e.symm)]
def HG{av:Nat}{a:Act}(V:Rel O av s β a w){id:Nat}{ad:Addr}(ho:(s.obj id).isSome=T)(H:β id=S ad){w':World}(bc:w'.heap.size=w.heap.size)(q:w'.os=w.os/\w'.output=w.output)(c:∀b,b≠ad.block->w'.heap[b]?=w.heap[b]?):
  Rel O av {s with obj:=upd s.obj id N} β a w'/\Tr O β s w β {s with obj:=upd s.obj id N} w':=by
 have hB:O.B<=ad.block:=by
  obtain⟨g,p⟩:=J5.1 ho;have:=V.obj id g p;rw[H]at this;exact this.block.1
 have n:∀i,(upd s.obj id N i).isSome=T->i≠id/\(s.obj i).isSome=T:=λi e=>by
  simp only[upd]at e;by_cases k:i=id
  .simp[k]at e
  .rw[j8 k]at e;exact⟨k,e⟩
 have bl:∀i W,(upd s.obj id N i).isSome=T->β i=S W->W.block≠ad.block:=λi W e an j=>(n i e).1 (V.inj i id W ad (n i e).2 ho an H j)
 have m:ft O β s.gen s.obj w β s.gen (upd s.obj id N) w':=by
  refine⟨λb j=>?_,λ_=>l0 _,λi _ e=>?_⟩
  .have d:b≠ad.block:=λt=>j.2.2 id ad ho H t.symm
   exact⟨⟨by rw[bc];exact j.1,j.2.1,λi W e=>j.2.2 i W (n i e).2⟩,c b d⟩
  .refine⟨(n i e).2,rfl,λW an u c0 v U=>?_⟩
   rw[c _ (bl i W e an)]at U;exact⟨u,c0,v,U,l0 _⟩
 refine⟨⟨V.defers,V.size,λi=>ag.keep m _ (V.f i),λi l r=>?_,λi o x y U Y=>V.inj i o x y (n i U).2 (n o Y).2,by rw[bc];exact V.base⟩,by rw[bc];exact l0 _,λb j=>c b a6,m,q⟩
 have e:(upd s.obj id N i).isSome=T:=by
  have:upd s.obj id N i=S l:=r;rw[this];rfl
 have X:s.obj i=S l:=by
  have h:=r;simp only[upd,j8 (n i e).1]at h;exact h
 exact(V.obj i l X).keep m (λW an=>c _ (bl i W e an))
def FR{o:Oper}{k:Box K}{B:Nat}{p n:Operand}{v L e:TypeId}(ho:o.op=.call ⟨.builtin .unsafeString,#[p,n],#[v,L]⟩)(Y:P.underlying v=S (.pointer e))(r:P.cellsOf e=1){id g:Nat}{l:List UInt8}
 (Z:s.ev p=.one (.ptr id g 0))(bk:s.ev n=iv .i64 (z l))(hg:s.gen id=g)(h:code g=e+1){cells:List C}(E:s.obj id=S cells)(U:cells.take (z l)=l.map λb=>.d (tO b))(hl:l≠[])(G:z l<=9223372036854775807)
 (hk:K (St.put {s with obj:=upd s.obj id N} o.dst (sv l))):bu (spB P B) o s k:=by
 refine⟨λs'=>s'=St.put {s with obj:=upd s.obj id N} o.dst (sv l),λO av β a w V hd next Q hn=>?_,λ_ e=>e▸hk⟩;have t:=V.ev p;have hw:=V.ev n;rw[Z]at t;rw[bk]at hw;simp only[ag,aD]at t hw;have hw:=hw.inv_int;obtain⟨A,H,b2,t⟩:=t.2.2 hg (by rw[E];rfl);have y:=V.obj id cells E;rw[H]at y;obtain⟨_,arr,el,lo,hi,q,⟨_,W⟩,bf,bo⟩:=y.cells b2;rw[hg,h]at W;obtain⟨J,c⟩:=W a6;have J:el=e:=Nat.add_right_cancel J;subst J
 have cv:z l<=z cells:=by
  have:=congrArg z U;simp at this;omega
 have bz:=Lib.run_unsafeString_row (P:=P) (w:=w) v L o.type el Y r A.block (arr.size) (by simp[World.shape?,q]) l hl a6 G (λj x I=>by
  have dz:=(l8.1 I).1
  have i:cells[j]?=S (.d (tO x)):=by
   have:=congrArg (λm:List C=>m[j]?) U;simp only[Hl,dz,B5,y7,I,z8]at this;exact this
  obtain⟨u,X,f⟩:=bo j _ i;simp only[aD,tO]at f;have f:=f.inv_int;rw[c,B9]at X;rw[eb,B9,eJ q,X,f])
 have b8:(execOp a.eval o).run P w=.ok (.value (.string ⟨l.toArray⟩)) (w.freeze ⟨A.block,0,N⟩ (z l)):=by
  rw[c]at t;simp[execOp,ho,resolve,invoke,t,hw,builtin,bz]
 obtain⟨r1,v⟩:=HG V (by rw[E];rfl) H (Ai w ⟨A.block,0,N⟩ (z l)) (FQ _ _ _) (λb hb=>yC w ⟨A.block,0,N⟩ (z l) hb);refine fh b8 (hn _ β _ _ rfl (r1.put hd ?_) (v.trans (Tr.same (St.put_gen _ _ _) (St.put_obj _ _ _) rfl)));simp only[ag,aD];exact .str l
end
end
end
section
attribute[local congr]ite_cc
section
variable{s:St}{k:List Nat}{R:AV->(Nat->Nat)->Obs->Prop}
def oK(p:Nat->Bool):ae s ⟨s.f,s.gen,λi=>if p i=T then N else s.obj i⟩:=by
 exact u6
def bS(p:Nat->Bool)(h:R (lM s.f k) s.gen (λi=>if p i=T then N else s.obj i)):zY k R .normal s:=⟨_,oK p,h⟩
def jb(p:Nat->Bool)(h:R (lM s.f k) s.gen (λi=>if p i=T then N else s.obj i)):zY k R .ret s:=⟨_,oK p,h⟩
@[go_sem]def SN:yp .nilIface=.one (.d .nili)/\yp .nilFunc=.one (.d .nilf):=by and_intros<;>exact A6 rfl rfl
end
end
section
section
variable{s:St}{o:Oper}{K:St->Prop}{f:FuncId}{args:Array Operand}{tys:Array TypeId}{R:AV->Prop}{k:Box K}
section
variable{P:Program}{G:Nat->TI}{O:Bs}{rd:Option Nat}{i:St->Loc->List Deferred->World->Prop}{j:fW}{l:Nat}
def aq{B:(Exit->St->Prop)->St->Prop}{b:Box B}{Q:Exit->St->Prop}{q:Box Q}(I:Nat->St->Prop)(n:Nat)(c:I n s)
 (V:∀n f g a,I n ⟨f,g,a⟩->B (lj (bx λe=>∃H d,H<n/\(spF P rd O i l j).vs e d/\I H d) q) ⟨f,g,a⟩):rj (spF P rd O i l j) b q s:=
 ⟨I,⟨n,s,ae.refl s,c⟩,λn s h=>V n s.f s.gen s.obj h⟩
def ai{I:Nat->St->Prop}{n:Nat}(H:Nat)(h:H<n)(a:I H s):∃H d,H<n/\(spF P rd O i l j).vs s d/\I H d:=⟨H,s,h,ae.refl s,a⟩
def jR(a:br O i)(ho:o.op=.call ⟨.value (.func f),args,tys⟩)
 (b:aF P f (args.toList.map s.ev) R)(hd:(args.toList.map s.ev).all fk=T)(c:∀r,R r->K (s.put o.dst r)):bu (spF P rd O i l j) o s k:=
 Ag a X2 (xq (B:=0) (k:=k) ho b hd c)
def jc(b:br O i)(ho:o.op=.call ⟨.value (.func f),args,tys⟩){R:AV->(Nat->Nat)->Obs->Prop}
 (c:jl P f (args.toList.map s.ev) s.gen s.obj R)(d:∀r a Z,R r a Z->K (St.put ⟨s.f,a,Z⟩ o.dst r)):bu (spF P rd O i l j) o s k:=
 Ag b X2 (ct (B:=0) (k:=k) ho c d)
def fg{B:Nat}{t:Nat}(ho:o.op=.call ⟨.value (.tmp t),args,tys⟩)(hf:s.f t=.one (.d (.fn f)))
 (hp:aF P f (args.toList.map s.ev) R)(hd:(args.toList.map s.ev).all fk=T)(g:∀r,R r->K (s.put o.dst r)):bu (spB P B) o s k:=by
 refine⟨λs'=>∃r,R r/\s'=s.put o.dst r,?_,λ_⟨r,V,e⟩=>e▸g r V⟩;intro O i β a w V c next Q hn;have hv:=V.f t;rw[hf]at hv;simp only[ag,aD]at hv;have hv:a.tmps.getD t undef=.func (.func f) #[] #[]:=by generalize a.tmps.getD t undef=v at hv;cases hv;rfl
 have bz:(execOp a.eval o).run P w=.ok (.enter f (args.map a.eval)) w:=by
  exact mc
 unfold Oper.wp;rw[bz];exact hM
def sD(a:br O i){t:Nat}(ho:o.op=.call ⟨.value (.tmp t),args,tys⟩)(hf:s.f t=.one (.d (.fn f)))
 (b:aF P f (args.toList.map s.ev) R)(hd:(args.toList.map s.ev).all fk=T)(c:∀r,R r->K (s.put o.dst r)):bu (spF P rd O i l j) o s k:=
 Ag a X2 (fg (B:=0) (k:=k) ho hf b hd c)
end
section
variable{an:Sp}{G:Nat->TI}
end
end
end
section
open Go.ChangeShapes Go.WideShapes Go.ChangeAt Go.RowKit
section
variable{H:Type}{enc:TypeId×Value->H}
end
end
section
section
abbrev cg:=Nat->Option Obj
def qC(X:Nat)(o:cg)(w:World):Prop:=X<w.heap.size/\∀b,b<=X->w.heap[b]?=o b
variable{o:cg}{f:FuncId}{s:St}{w:World}{R:AV->Prop}{l:St->Loc->List Deferred->World->Prop}{K:St->Prop}{X a:Nat}{P:Program}{args:List AV}{tys:Array TypeId}{k:Box K}
def qC.lt{X:Nat}(h:qC X o w):X<w.heap.size:=h.1
def qC.down(hl:X<=a)(h:qC a o w):qC X o w:=⟨F8 hl h.1,λb c=>h.2 b (C1 c hl)⟩
def tU(O:Bs)(X:Nat)(o:cg)(w:World):Prop:=(X<O.B/\∀b,b<=X->O.I b)/\qC X o w
def bP(P:Program)(X:Nat)(o:cg)(f:FuncId)(args:List AV)(R:AV->Prop):Prop:=
 yK P f/\∀(J:Nat->Prop)(w:World)(vs:List Value),qC X o w->(∀b,J b->b<w.heap.size)->RVs J w args vs->
  Calls P f vs.toArray w λe c=>∃v r,e=.returned v/\R r/\w.heap.size<=c.heap.size/\(∀b,b<w.heap.size->c.heap[b]?=w.heap[b]?)/\(c.os=w.os/\c.output=w.output)/\RV (λb=>b<c.heap.size/\(b<w.heap.size->J b\/b<=X)) c r v
def aF.toG{X:Nat}(h:aF P f args R):bP P X o f args R:=
 ⟨h.1,λJ w vs _ U Y=>(h.2 J w vs U Y).mono λ_ _⟨v,r,c,d,e,g,i,j⟩=>⟨v,r,c,d,e,g,i,RV.mono (λ_ b=>⟨⟨b.1,λhl=>.inl (b.2 hl)⟩,rfl⟩) r j⟩⟩
def Aj(P:Program)(X:Nat)(o:cg)(f:FuncId)(xs:List AV)(g:Nat->Nat)(ob:Obs)(R:AV->(Nat->Nat)->Obs->Prop):Prop:=
 yK P f/\∀(O:Bs)(j:Nat)(d:Loc)(a:Act)(h:Nat->AV)(w:World)(vs:List Value),X<O.B->tU O X o w->Rel O j ⟨h,g,ob⟩ d a w->aO O d g ob w xs vs->
  Calls P f vs.toArray w λe i=>∃v r c Z E,e=.returned v/\R r c Z/\ag O E c Z i r v/\
   (∀id b,Z id=S b->dX O E c Z i (c id) b (E id))/\(∀id K a W,(Z id).isSome=T->(Z K).isSome=T->E id=S a->E K=S W->a.block=W.block->id=K)/\
   Tr O d ⟨h,g,ob⟩ w E ⟨h,c,Z⟩ i
def FT(X:Nat)(o:cg)(O:Bs)(u:Loc)(y:St)(p:World):St->Loc->List Deferred->World->Prop:=λs β ds w=>(X<O.B/\tU O X o w)/\TG O u y p s β ds w
section
variable{P:Program}{G:Nat->TI}{O:Bs}{rd:Option Nat}{X:Nat}{o:cg}{Ψ:fW}{B0:Nat}{u:Loc}{y:St}{p:World}
def aG:br O (FT X o O u y p):=λ_ _ _ _ _ _ _ h c=>⟨⟨h.1.1,h.1.2.1,F7 h.1.2.2.1 c.size,λb d=>by rw[c.old b (F8 d h.1.1)];exact h.1.2.2.2 b d⟩,FL _ _ _ _ _ _ _ h.2 c⟩
def vv{av:Nat}{β:Loc}{a:Act}(V:Rel O av s β a w)(m:tU O X o w){b:Nat}(d:b<=X):Imm O β s.obj w b:=by
 refine⟨F8 d m.2.1,λ_=>m.1.2 b d,λid W ho H g=>?_⟩;obtain⟨c,e⟩:=J5.1 ho;have h:=V.obj id c e;rw[H]at h;have U:=h.block.1;have Y:=m.1.1;omega
def jS(a1:br O l)(m:∀s β ds w,l s β ds w->tU O X o w){op:Oper}{args:Array Operand}(ho:op.op=.call ⟨.value (.func f),args,tys⟩)
 (hp:bP P X o f (args.toList.map s.ev) R)(hd:(args.toList.map s.ev).all fk=T)(d:∀r,R r->K (s.put op.dst r)):bu (spF P rd O l B0 Ψ) op s k:=by
 refine⟨λs'=>∃r,R r/\s'=s.put op.dst r,?_,λ_⟨r,V,e⟩=>e▸d r V⟩;intro i β a ds w V A c next Q hn _;have g:aX op=T:=by simp[aX,ho]
 refine iC g ?_;unfold Oper.wp;rw[ki ho hp.1 w];simp only[Oper.upon];exact hD
def pL(a1:br O l)(m:∀s β ds w,l s β ds w->tU O X o w)(hT:bp P G){dst:Option Tmp}{t n e gi:Nat}{L:Operand}{ty:TypeId}{ps:String}{H:Array Edge}{gd:Option (Nat×Bool)}
 (g:(G t).desc=.array n e)(r:okD (G e).desc=T)(bf:gi<=X){kd:IntKind}{i:Nat}(f:s.ev L=iv kd i)(u:i<n){cs:List D}(y:∀(j:Nat)(x:D),cs[j]?=S x->lu x=T)
 (q:∀w:World,qC X o w->∀(j:Nat)(x:D),cs[j]?=S x->w.cell? ⟨gi,i*(G e).size+j,N⟩=S (dV x))(B:K (s.put dst (.one (.d (.iptr cs))))):
  bu (spF P rd O l B0 Ψ) ⟨dst,.indexAddr t (.global gi) L,ty,ps,H,gd⟩ s k:=by
 refine⟨λs'=>s'=s.put dst (.one (.d (.iptr cs))),λJ β a ds w V A hd next Q hn _=>?_,λ_ e=>e▸B⟩;refine iC rfl ?_;have c:=m _ _ _ _ A;have b:=V.ev L;rw[f]at b;simp only[ag,aD]at b;have b:=b.inv_int;have p:=(hT t (by rw[g];rfl)).desc;rw[g]at p;have E:=hT e r
 have b8:(execOp a.eval ⟨dst,.indexAddr t (.global gi) L,ty,ps,H,gd⟩).run P w=.ok (.value (.pointer (S ⟨gi,i*(G e).size,N⟩))) w:=by
  simp[execOp,b,show a.eval (.global gi)=.pointer (S ⟨gi,0,N⟩)from rfl,Instr.indexAt,asIntOf,run_underlying p,u,bN E,eb,Instr.sureAddr]
 have bk:=V.put hd (x:=.one (.d (.iptr cs))) (v:=.pointer (S ⟨gi,i*(G e).size,N⟩)) (by
  simp only[ag,aD];refine .iptr (λj=>dV (cs.getD j .nsl)) (λ_=>vv V c bf) (λj x I=>?_) (λj x I=>?_)
  .rw[q w c.2 j x I];simp[D5,I]
  .rw[show cs.getD j .nsl=x by simp[D5,I]];exact cr.of_plain (y j x I))
 exact vr
def sE(a1:br O l)(m:∀s β ds w,l s β ds w->X<O.B/\tU O X o w){op:Oper}{args:Array Operand}(ho:op.op=.call ⟨.value (.func f),args,tys⟩){R:AV->(Nat->Nat)->Obs->Prop}
 (b:Aj P X o f (args.toList.map s.ev) s.gen s.obj R)(d:∀r g' Z,R r g' Z->K (St.put ⟨s.f,g',Z⟩ op.dst r)):bu (spF P rd O l B0 Ψ) op s k:=by
 refine⟨λg=>∃r g' Z,R r g' Z/\g=St.put ⟨s.f,g',Z⟩ op.dst r,?_,λ_⟨r,g',Z,V,e⟩=>e▸d r g' Z V⟩;intro i β a ds w V A c next Q hn _;have j:aX op=T:=by simp[aX,ho]
 refine iC j ?_;unfold Oper.wp;rw[ki ho b.1 w];simp only[Oper.upon];obtain⟨n,p⟩:=m _ _ _ _ A;have:=b.2 O i β a s.f w (args.toList.map a.eval) n p V (jq V _);rw[show (args.toList.map a.eval).toArray=args.map a.eval from H6 a8]at this;refine this.mono λe w'⟨v,r,g',Z,E,he,hR,hv,U,Y,h3⟩=>?_;exact Ur
end
def LM(X:Nat)(o:cg)(O:Bs)(u:Loc)(y:St)(p:World):St->Loc->List Deferred->World->Prop:=λs β ds w=>(X<O.B/\tU O X o w)/\ds=[]/\Tr O u y p β s w
section
variable{P:Program}{G:Nat->TI}{X:Nat}{o:cg}
def aL{O:Bs}{u:Loc}{y:St}{p:World}:br O (LM X o O u y p):=λ_ _ _ _ _ _ _ h c=>⟨⟨h.1.1,h.1.2.1,F7 h.1.2.2.1 c.size,λb d=>by rw[c.old b (F8 d h.1.1)];exact h.1.2.2.2 b d⟩,h.2.1,h.2.2.trans c⟩
end
def bP.up(hl:X<=a)(h:bP P X o f args R):bP P a o f args R:=
 ⟨h.1,λJ w vs m U Y=>(h.2 J w vs (m.down hl) U Y).mono λ_ _⟨v,r,c,d,e,g,i,j⟩=>⟨v,r,c,d,e,g,i,RV.mono (λ_ b=>⟨⟨b.1,λl=>(b.2 l).imp id (λh=>C1 h hl)⟩,rfl⟩) r j⟩⟩
end
section
variable{a:Act}{c:Code}{s:St}{K:Act->Prop}{ds:List Deferred}{Q:Exit->Act->World->Prop}{k:List Item}{cs:List Frame}
section
variable{P:Program}{G:Nat->TI}{O:Bs}{w:World}{rd:Option Nat}{Φ:St->Loc->List Deferred->World->Prop}{Ψ:fW}{B:Nat}{ops:Array Oper}
def vw(b:a.defers=[])(d:Option Nat)(v:Value):(a.put d v).defers=[]:=by cases d<;>exact b
def yD{o:Oper}(b:a.defers=[])(h:o.still P a w K):o.still P a w (λW=>W.defers=[]/\K W):=by
 unfold Oper.still at *;generalize (execOp a.eval o).run P w=r at *;cases r with
 |ok n d=>
   cases n<;>simp only[Oper.stillUpon]at h|-
   case enter f args=>obtain⟨U,v,e,g⟩:=h;exact⟨U,v,e,vw b _ _,g⟩
   all_goals exact⟨h.1,vw b _ _,h.2⟩
 |halt x d=>simp only[Oper.stillUpon]at h
def oN{i:Nat}{K':Act->World->Prop}{c:Exit->Act->World->Prop}(d:a.defers=[])(j:ops.toList.all aX=T)(h:∀W,W.defers=[]->K W->K' {W with defers:=ds} w)(b:stOp P ops w i K a):
  wpOpIn (fen rd) 0 P ops c i K' {a with defers:=ds} w:=by
 unfold stOp at b;unfold wpOpIn;cases ho:ops[i]? with
 |none=>simp only[ho]at b|-;exact h _ d b
 |some o=>
   simp only[ho]at b|-
   have u:aX o=T:=x7.1 j o (by
    obtain⟨l,e⟩:=C8.1 ho;rw[<-e];exact G5 l)
   by_cases g:Region.wanted o (yielded ops a.tmps)=T
   .rw[l7 g]at b|-
    exact iC u (Oper.wp_of_still (K':=λW m=>W.defers=[]/\K' {W with defers:=ds} m) (λW f=>⟨f.1,h W f.1 f.2⟩) (yD d b))
   .rw[j8 g]at b|-
    refine⟨λ_ _=>trivial,?_⟩;rw[qy];exact h _ (vw d _ _) b
def nN{n g:Nat}{ds:List Deferred}{L:Array Bool->Act->Prop}{c:Exit->Act->World->Prop}(e:ops.toList.all aX=T)(j:∀b a,a.defers=[]->L b a->wpAnyIn (fen rd) 0 P .any ops c g b {a with defers:=ds} w):
  ∀(f:Nat)(b:Array Bool)(a:Act),a.defers=[]->wpAnyL P .any ops w n L f b a->wpAnyIn (fen rd) 0 P .any ops c (f+g) b {a with defers:=ds} w
 |0,b,a,d,h=>by rw[B9];exact j _ _ d h
 |f+1,b,a,d,h=>by
   rw[show f+1+g=(f+g)+1 by omega];exact⟨λl=>absurd l h.1,λi m=>oN d e (λW an p=>nN e j f _ W an p) (h.2 i m).2⟩
def mG{ds:List Deferred}{Q:Act->Prop}{c:Exit->Act->World->Prop}(f:ops.toList.all aX=T)(e:∀a,a.defers=[]->Q a->c .normal {a with defers:=ds} w):∀(q:Nat)(b:Array Bool)(a:Act),a.defers=[]->
  wpAnyS P .any ops w Q q b a->wpAnyIn (fen rd) 0 P .any ops c q b {a with defers:=ds} w
 |0,_,_,d,h=>⟨h.1,e _ d h.2⟩
 |q+1,_,_,d,h=>⟨λg=>e _ d (h.1 g),λi j=>oN d f (λW an=>mG f e q _ W an) (h.2 i j)⟩
def oO{b1:Fence}{n:Nat}{c:Exit->Act->World->Prop}:∀(l:List Oper)(k:Nat)(b:Array Bool)(a:Act)(w:World),(∀j,l[j]?=ops[k+j]?)->
  Region.seqB .any ops (z l) k b=T->wpListIn b1 n P ops c l a w->wpAnyIn b1 n P .any ops c (z l) b a w
 |[],_,_,_,_,_,hB,h=>⟨by simpa[Region.seqB]using hB,h⟩
 |o::l,k,b,a,w,hl,hB,h=>by
   have e:ops[k]?=S o:=by simpa using(hl 0).symm
   simp only[j6,Region.seqB,l4,s7]at hB;refine⟨λU=>(by rw[hB.1]at U;cases U),λi d=>?_⟩;rw[hB.1]at d;have f:i=k:=by simpa using d
   subst f;have g:wpOpIn b1 n P ops c i (wpListIn b1 n P ops c l) a w:=by unfold wpOpIn;simp only[e];exact h
   exact wpOpIn_mono (λW m p=>oO l (i+1) _ W m (λj=>by have:=hl (j+1);simpa[C7,Nat.add_comm 1 j]using this) hB.2 p) g
def FU{o:Oper}(d:eS G o.op=T){K:St->Prop}{k:Box K}(h:opA (spF P rd O Φ B Ψ) G o s k):opA (spB P B) G o s k:=by
 obtain⟨e,op,i,j,H,gd⟩:=o;cases op with
 |slice t x l n g=>cases g<;>first|exact h|(simp[eS]at d;done)
 |indexAddr t x L=>cases x<;>first|(simp[eS]at d;done)|exact h
 |makeFunc f=>cases f<;>first|exact h|(simp[eS]at d;done)
 |call c=>
   obtain⟨callee,args,tys⟩:=c;cases callee with
   |value f=>simp[eS]at d
   |invoke r m=>simp[eS]at d
   |builtin b=>cases b<;>first|exact h|(simp[eS]at d;done)
 |_=>first|exact h|(simp[eS]at d;done)
def gO(hT:bp P G){av:Nat}{β:Loc}{Q:Act->Prop}{K:St->Prop}{k:Box K}(c:List Oper):∀(l:List Oper){s:St}{a:Act},Rel O av s β a w->fP av l=T->l.all (eS G ·.op)=T->wpO (spF P rd O Φ B Ψ) G ops (l++c) s k->
  (∀s' W,wpO (spF P rd O Φ B Ψ) G ops c s' k->Rel O av s' β W w->Tr O β s w β s' w->Q W)->wpStill P ops w Q l a
 |[],s,a,V,_,_,h,hQ=>hQ s a h V Tr.refl
 |o::rest,s,a,V,n,hp,h,hQ=>by
   obtain⟨hd,g⟩:=kh n;simp only[C4,l4]at hp;rw[u7]at h;unfold wpO at h;unfold wpStill
   have u:∀{e:St},Rel O av e β a w->Tr O β s w β e w->opA (spF P rd O Φ B Ψ) G o e (bx λs'=>wpO (spF P rd O Φ B Ψ) G ops (rest++c) s' k)->o.still P a w (wpStill P ops w Q rest):=λ{e}i r A=>by
    obtain⟨y,Z,U,Y,E⟩:=rC hT i hp.1 (FU hp.1 A);unfold Oper.still;rw[Y w .refl];refine⟨rfl,gO hT c rest (i.put hd E) g hp.2 U (λs' W k1 k2 k3=>hQ s' W k1 k2 (r.trans (Tr.trans (Tr.same (St.put_gen _ _ _) (St.put_obj _ _ _) rfl) k3)))⟩
   cases hg:o.guard with
   |none=>
     exact U3
   |some p=>
     obtain⟨j,t⟩:=p;rw[hg]at h;simp only at h;obtain⟨d,m,h⟩:=aQ h;unfold mV at h;split at h
     .rename_i b f
      have hy:=V.yielded m f;have h:=jQ h;have bk:=V.reput f;by_cases hw:b=t
      .exact UH
      .rw[j8 hw]at h
       rw[j8 WT];have L:=bk.put hd (x:=uv) (v:=undef) cL;exact Up
     .rename_i f
      have hy:=V.yielded_u m f;rw[j8 Xo];have L:=V.put hd (x:=uv) (v:=undef) cL;exact Up
     .exact Ub
def qD(hT:bp P G)(hm:P.follows .mixedOrders=T)(u:br O Φ){av id:Nat}{β:Loc}{K:St->Prop}{k:Box K}(V:Rel O av s β a w)(A:Φ s β ds w)(x:ops.toList.all aX=T)(hd:fP av ops.toList=T)(Y:ow G ops=T)
 (h:wpO (spF P rd O Φ B Ψ) G ops ops.toList s k)(hQ:∀s' E W w',K s'->Rel O av s' E W w'->Φ s' E ds w'->Q .normal {W with defers:=ds} w')(hX:∀ch s' E W w',Ψ ch s'->Rel O av s' E W w'->Φ s' E ds w'->Q (.panic ch) {W with defers:=ds} w'):(Code.region id ops T).wpIn (fen rd) 0 P Q {a with defers:=ds} w:=by
 have b2:Rel O av s β a {w with drawn:=w.drawn+1}:=V.of_heap rfl;have af:Φ s β ds {w with drawn:=w.drawn+1}:=u _ _ _ _ _ _ _ A (Tr.same rfl rfl rfl);simp only[ow,F3,l4,O6]at Y;refine wpIn_region_any hm ?_;rcases Y with⟨v,hB⟩|⟨m,_,v,hB⟩
 .simp only[Region.lexB,l4]at hB
  refine mG (Q:=λW=>W.defers=[]->Q .normal {W with defers:=ds} {w with drawn:=w.drawn+1}) x (λW y h=>h y) _ _ _ V.defers ?_
  have I:wpStill P ops {w with drawn:=w.drawn+1} (λW=>W.defers=[]->Q .normal {W with defers:=ds} {w with drawn:=w.drawn+1}) ops.toList a:=
   gO hT [] ops.toList b2 hd v (by rw[s5];exact h) (λs' W J L U _=>hQ _ _ _ _ J L (u _ _ _ _ _ _ _ af U))
  have:=wpAnyS_lex (md:=.any) hB.1 ops.toList 0 (Array.replicate ops.size F) a a8 (by simpa using hB.2) I;exact Um
 .obtain⟨l,rfl⟩:∃l:List Oper,ops=l.toArray:=⟨ops.toList,a8⟩
  generalize bk:l.toArray.size-m=n at v hB;simp only[Region.lexTailB,l4,s7]at hB;obtain⟨⟨⟨⟨d,hn⟩,hs⟩,hc⟩,e⟩:=hB;have r:n<z l:=by simpa using hn
  have Z:z (l.take n)=n:=by simp;omega
  have dp:z (l.drop n)=l.toArray.size-n:=a8
  have f:HeadInv .any l.toArray n (Array.replicate l.toArray.size F):=
   ⟨a8,λj p _ hl=>(by rw[getD_replicate_false]at hl;cases hl),λt _ ht=>getD_in (by simpa using ht) (getD_replicate_false _ _)⟩
  obtain⟨d1,d2⟩:=tY hd n;have i:(l.drop n).all aX=T:=x7.2 λo ho=>x7.1 x o (by simpa using J7 ho)
  have I:wpStill P l.toArray {w with drawn:=w.drawn+1} (λW=>W.defers=[]->wpListIn (fen rd) 0 P l.toArray Q (l.drop n) {W with defers:=ds} {w with drawn:=w.drawn+1}) (l.take n) a:=by
   refine gO hT (l.drop n) (l.take n) b2 d1 v (by rw[F9];simpa using h) (λs' W J L U _=>?_);exact jP hT u (l.drop n) L (u _ _ _ _ _ _ _ af U) i d2 J hQ hX
  have H:=wpAnyL_lex (md:=.any) (g:=l.toArray.size-n) d hs hc hn (l.take n) 0 _ a (λj hj=>by
   have cb:j<n:=by rw[Z]at hj;exact hj
   simp[cb]) (by simpa using Z) f (by rw[Z];exact e) I
  have:=nN (c:=Q) (ds:=ds) (rd:=rd) (g:=l.toArray.size-n) x (λb W y hL=>by
   have:=oO (c:=Q) (b1:=fen rd) (n:=0) (l.drop n) n b {W with defers:=ds} {w with drawn:=w.drawn+1} (λj=>by simp[G6]) (by rw[dp];exact hL.1) (hL.2 y)
   rwa [dp]at this) _ _ _ V.defers H
  rw[Z,show n+(l.toArray.size-n)=l.toArray.size by omega]at this;exact this
def jd{P:Program}{b:Frame}{w:World}:step P (lone (b.atR a (.code (.scope c)::k)) cs w)=.next (lone (b.atR a (.code c::.inScope c::k)) cs w):=
 step_lone_go (by simp[stepG,stepG.exec,Frame.atR])
def wV{P:Program}{b:Frame}{w:World}:step P (lone (b.atR a (.inScope c::k)) cs w)=.next (lone (b.atR a k) cs w):=
 step_lone_go (by simp[stepG,stepG.exec,Frame.atR])
def CK{b1:Fence}{n:Nat}{P:Program}{w:World}(h:c.wpIn b1 n P (Exit.noGoto Q) a w):(Code.scope c).wpIn b1 n P Q a w:=by
 intro b k cs i p V;have j:(lone (b.atR a (.code (.scope c)::k)) cs w).fenced P b1:=fenced_calm p V rfl;obtain⟨e,d,f,m,g⟩:=h b (.inScope c::k) cs i p V;cases e with
 |normal=>exact⟨.normal,d,f,m,.head j jd (StepsIn.trans g (.one (fenced_calm p V rfl) wV))⟩
 |exit K=>
   have I:exitTo K (.inScope c::k)=exitTo K k:=by simp[exitTo]
   exact⟨.exit K,d,f,m,λE q=>.head j jd (g.1 E (by rw[I];exact q)),
    λbk q=>let ⟨k₁,U,Y⟩:=g.2 bk (by rw[I];exact q);⟨k₁,U,.head j jd Y⟩⟩
 |goto l=>exact m.elim
 |ret=>exact⟨_,d,f,m,.of_steps (.one j jd) g⟩
 |panic r=>exact⟨_,d,f,m,.of_steps (.one j jd) g⟩
 |outgrown=>exact⟨_,d,f,m,.of_steps (.one j jd) g⟩
def gv:Code->Bool
 |.region _ ops _=>ops.toList.all aX
 |.seq x y=>gv x&&gv y
 |.cond _ x y=>gv x&&gv y
 |.block _ c=>gv c
 |.loop c=>gv c
 |.scope c=>gv c
 |_=>T
def cB(hT:bp P G)(v:P.follows .mixedOrders=T)(r:br O Φ){av:Nat}:∀(c:Code){Q:Exit->St->Prop}{q:Box Q}{s:St}{β:Loc}{a:Act}{ds:List Deferred}{w:World},gv c=T->codeOk av c=T->Rel O av s β a w->Φ s β ds w->wpC (spF P rd O Φ B Ψ) G c q s->c.wpIn (fen rd) 0 P (En O av Φ Ψ Q) {a with defers:=ds} w
 |.skip,_,_,s,β,a,ds,_,_,_,V,A,h=>wpIn_skip ⟨s,β,a,ds,rfl,.inl h,V,A⟩
 |.label _,_,_,s,β,a,ds,_,_,_,V,A,h=>wpIn_label ⟨s,β,a,ds,rfl,.inl h,V,A⟩
 |.exit _,_,_,s,β,a,ds,_,_,_,V,A,h=>wpIn_exit ⟨s,β,a,ds,rfl,.inl h,V,A⟩
 |.goto _,_,_,s,β,a,ds,_,_,_,V,A,h=>wpIn_goto ⟨s,β,a,ds,rfl,.inl h,V,A⟩
 |.ret,_,_,s,β,a,ds,_,_,_,V,A,h=>wpIn_ret ⟨s,β,a,ds,rfl,.inl h,V,A⟩
 |.region id ops b,Q,q,s,β,a,ds,w,j,hc,V,A,h=>by
   simp only[gv]at j;cases b with
   |false=>
     have h:wpO (spF P rd O Φ B Ψ) G ops ops.toList s (bx λs'=>Q .normal s'):=h;exact wpIn_region_list (jP hT r ops.toList V A j hc h (λs' E W w' U Y h3=>⟨s',E,W,ds,rfl,.inl U,Y,h3⟩) (λch s' E W w' U Y h3=>⟨s',E,W,ds,rfl,.inr ⟨ch,rfl,U⟩,Y,h3⟩))
   |true=>
     rcases h with⟨bd,h⟩|⟨R,hR,J⟩
     .exact qD hT v r V A j hc bd h (λs' E W w' U Y h3=>⟨s',E,W,ds,rfl,.inl U,Y,h3⟩) (λch s' E W w' U Y h3=>⟨s',E,W,ds,rfl,.inr ⟨ch,rfl,U⟩,Y,h3⟩)
     .exact ts
 |.seq x y,Q,q,s,β,a,ds,w,j,hc,V,A,h=>by
   simp only[codeOk,l4]at hc;simp only[gv,l4]at j;have h:wpC (spF P rd O Φ B Ψ) G x (bx (lj (bx λs'=>wpC (spF P rd O Φ B Ψ) G y q s') q)) s:=h;refine wpIn_seq (wpIn_mono (cB hT v r x j.1 hc.1 V A h) (λe W w' L=>?_));obtain⟨s',E,a0,bc,rfl,U,Y,h3⟩:=L;rcases U with U|⟨ch,rfl,U⟩
   .cases e with
    |normal=>exact cB hT v r y j.2 hc.2 Y h3 U
    |_=>exact⟨s',E,a0,bc,rfl,.inl U,Y,h3⟩
   .exact V4
 |.cond c x y,Q,q,s,β,a,ds,w,j,hc,V,A,h=>by
   simp only[codeOk,l4]at hc;simp only[gv,l4]at j;obtain⟨b,hb,h⟩:=qz h (V.ev c);refine wpIn_cond (t:=b) hb ?_;cases b
   .exact cB hT v r y j.2 hc.2 V A h
   .exact cB hT v r x j.1 hc.1 V A h
 |.block id c,Q,q,s,β,a,ds,w,j,hc,V,A,h=>by
   have h:wpC (spF P rd O Φ B Ψ) G c (bx (jn id q)) s:=h;refine wpIn_block (wpIn_mono (cB hT v r c j hc V A h) (λe W w' L=>?_));obtain⟨s',E,a0,bc,rfl,U,Y,h3⟩:=L;rcases U with U|⟨ch,rfl,U⟩
   .cases e with
    |exit i=>
      simp only[Exit.inBlock,jn]at U|-;split at U
      .rename_i he;rw[l7 he];exact⟨s',E,a0,bc,rfl,.inl U,Y,h3⟩
      .rename_i he;rw[j8 he];exact⟨s',E,a0,bc,rfl,.inl U,Y,h3⟩
    |_=>exact⟨s',E,a0,bc,rfl,.inl U,Y,h3⟩
   .exact V4
 |.scope c,Q,q,s,β,a,ds,w,j,hc,V,A,h=>by
   have h:wpC (spF P rd O Φ B Ψ) G c (bx (rk q)) s:=h;refine CK (wpIn_mono (cB hT v r c j hc V A h) (λe W w' L=>?_));obtain⟨s',E,a0,bc,rfl,U,Y,h3⟩:=L;rcases U with U|⟨ch,rfl,U⟩
   .cases e with
    |goto l=>exact U.elim
    |_=>exact⟨s',E,a0,bc,rfl,.inl U,Y,h3⟩
   .exact V4
 |.loop c,Q,q,s,β,a,ds,w,j,hc,V,A,h=>by
   obtain⟨I,⟨n,d,bz,h0⟩,g⟩:=h;obtain⟨k,b2,u⟩:=bz O av β a w V;refine uz (λn W w'=>∃s' E a0 bc,W = {a0 with defers:=bc}/\I n s'/\Rel O av s' E a0 w'/\Φ s' E bc w') n ⟨d,k,a,ds,rfl,h0,b2,r _ _ _ _ _ _ _ A u⟩ ?_;rintro n W w' ⟨s',E,a0,bc,rfl,U,Y,h3⟩;refine wpIn_mono (cB hT v r c j hc Y h3 (g n s' U)) (λe a2 w2 L=>?_);obtain⟨s2,bl,o,cc,rfl,Z,k2,k3⟩:=L;rcases Z with Z|⟨ch,rfl,Z⟩
   .cases e with
    |normal=>
      obtain⟨H,s3,af,m,hI⟩:=Z;obtain⟨b0,bk,p⟩:=m O av bl o w2 k2;exact⟨H,af,s3,b0,o,cc,rfl,hI,bk,r _ _ _ _ _ _ _ k3 p⟩
    |_=>exact⟨s2,bl,o,cc,rfl,.inl Z,k2,k3⟩
   .exact⟨s2,bl,o,cc,rfl,.inr ⟨ch,rfl,Z⟩,k2,k3⟩
 |.rangeFunc f ps x y,Q,q,s,β,a,ds,w,j,hc,V,A,h=>by
   obtain⟨R,hR,J⟩:=h;exact ts
 |.refuse y,Q,q,s,β,a,ds,w,j,hc,V,A,h=>by
   obtain⟨R,hR,J⟩:=h;exact ts
def bh{b:Nat}{id:Nat}{ops:Array Oper}{Q:Exit->St->Prop}{q:Box Q}(d:ow G ops=T)(h:wpO (spF P rd O Φ b Ψ) G ops ops.toList s (bx λe=>Q .normal e)):ll (spF P rd O Φ b Ψ) G id ops s q:=.inl ⟨d,h⟩
end
section
variable{P:Program}{G:Nat->TI}{X:Nat}{o:cg}
def ry(B X:Nat)(o:cg)(hT:bp P G)(hm:P.follows .mixedOrders=T){f:FuncId}{fn:Func}(hf:P.funcs[f]?=S fn)(A:fn.body=S c)(hn:(fn.name == "runtime.NumGoroutine")=F)
 (rs:List ResultVar)(L:fn.results=rs.toArray)(j:gv c=T)(bd:codeOk fn.ntmps c=T){args:List AV}(p:z args<=fn.ntmps){R:AV->Prop}
 (h:∀O bo s0 w0 g,wpC (spF P N O (FT X o O bo s0 w0) B ql) G c (bx (vp G rs R)) ⟨dA args,g,λ_=>N⟩):bP P X o f args R:=by
 refine⟨⟨fn,hf,by rw[A];rfl,hn⟩,λJ w vs bs hJ hv=>?_⟩;refine jr (n:=0) (callsIn_of_wp_marks hf A trivial ?_)
 have bf:∀(l:List AV)(vs:List Value),RVs J w l vs->z vs=z l:=by
  intro l
  induction l with
  |nil=>intro vs h;simp only[RVs]at h;subst h;rfl
  |cons x l ih=>intro vs h;simp only[RVs]at h;obtain⟨u,us,rfl,_,h⟩:=h;simp[ih us h]
 have hl:=bf _ _ hv
 let m:Nat->Prop:=λb=>J b\/b<=X
 have V:Rel ⟨w.heap.size,m⟩ fn.ntmps ⟨dA args,λ_=>0,λ_=>N⟩ (λ_=>N) {tmps:=vs.toArray++Array.replicate (fn.ntmps-vs.toArray.size) undef,defers:=[]} w:=by
  refine⟨rfl,by simp;omega,λi=>?_,λid cells ho=>YC,λid K a W ho=>YC,l0 _⟩
  have av:∀(l:List AV)(vs:List Value),RVs J w l vs->∀(i:Nat)(x:AV),l[i]?=S x->∃v,vs[i]?=S v/\RV J w x v:=by
   intro l
   induction l with
   |nil=>intro vs _ i x h;simp at h
   |cons y l ih=>
     intro vs h i x I;simp only[RVs]at h;obtain⟨u,us,rfl,U,Y⟩:=h;cases i with
     |zero=>simp at I;subst I;exact⟨u,rfl,U⟩
     |succ i=>simpa using ih us Y i x Xl
  simp only[dA];cases I:args[i]? with
  |some x=>
    obtain⟨v,U,Y⟩:=av _ _ hv i x I;have af:i<z vs:=(l8.1 U).1
    have:(vs.toArray++Array.replicate (fn.ntmps-vs.toArray.size) undef).getD i undef=v:=by
     rw[x8,E9 (by simpa using af)];simp[U]
    rw[this];simp only[A2];exact RV.rep x (RV.mono (λb A=>⟨⟨hJ b A,λ_=>.inl A,λid a ho=>by cases ho⟩,rfl⟩) x Y)
  |none=>
    exact U9
 refine wpIn_mono (cB (rd:=N) (B:=B) (ds:=[]) hT hm aG c j bd V ⟨⟨bs.lt,⟨bs.lt,λb A=>.inr A⟩,bs⟩,Tr.refl,trivial⟩ (h _ _ _ w _)) (λe W w' hp=>?_);obtain⟨s',E,a0,bc,rfl,H,bk,_,ht,q⟩:=hp.plain
 have d:vp G rs R .ret s'->bodyPostM (fen N) 0 P fn (λe w'=>∃v r,e=.returned v/\R r/\w.heap.size<=w'.heap.size/\(∀b,b<w.heap.size->w'.heap[b]?=w.heap[b]?)/\(w'.os=w.os/\w'.output=w.output)/\RV (Own ⟨w.heap.size,m⟩ w') w' r v) .ret {a0 with defers:=bc} w':=by
  intro H;refine rv q (λt Z=>?_);obtain⟨v,Q,U,⟨r,Y,h3⟩,_,k,rfl,h4⟩:=dY hT (bk.shut Z) L H;refine⟨_,U,_,r,rfl,h3,by rw[Z.size];exact ht.size,λb A=>?_,⟨Z.os.1.trans ht.os.1,Z.os.2.trans ht.os.2⟩,Y.rep (bk.shut Z) h4⟩;rcases Z.same b with e|⟨e,_⟩
  .rw[e];exact ht.old b A
  .omega
 cases e with
 |normal=>exact d H
 |ret=>exact d H
 |exit id=>exact H.elim
 |goto l=>exact H.elim
 |panic ch=>exact H.elim
 |outgrown=>exact H.elim
def Aj.mono{f:FuncId}{xs:List AV}{g:Nat->Nat}{ob:Obs}{R n:AV->(Nat->Nat)->Obs->Prop}(h:Aj P X o f xs g ob R)(V:∀r g' Z,R r g' Z->n r g' Z):Aj P X o f xs g ob n:=
 ⟨h.1,λO b e a i w vs j d U Y=>(h.2 O b e a i w vs j d U Y).mono λ_ _⟨v,r,g',Z,E,l,m,p⟩=>⟨v,r,g',Z,E,l,V _ _ _ m,p⟩⟩
end
end
section
def dOf:Value->D
 |.bool b=>.bool b
 |.int k n=>.int k n
 |.string s=>.str s.data.toList
 |.slice N 0 0=>.nsl
 |.pointer N=>.nilp
 |.nilFunc=>.nilf
 |.nilIface=>.nili
 |.map N=>.nilm
 |_=>.sl []
def HQ{v:Value}(h:lu (dOf v)=T):dV (dOf v)=v:=by
 unfold dOf at h|-;split at h<;>first|(cases h;done)|rfl
def rF:Value->Bool
 |.agg _=>F
 |_=>T
def dVs:∀{l:List Value},(l.map dOf).all lu=T->l=(l.map dOf).map dV
 |[],_=>rfl
 |v::l,h=>by
   simp only[l9,C4,l4]at h;rw[l9,l9,HQ h.1,<-dVs h.2]
def PX(P:Program)(t:Nat):Option TI:=
 match P.underlying t,P.info? t with
 |some d,S i=>match i.zero with
   |some X=>
     let m:=X.cells.toList.map dOf
     bif m.all lu && z m == i.size && (ez d || rF X)then S ⟨d,i.size,i.bytes,m⟩else N
   |none=>N
 |_,_=>N
variable{P:Program}
def LP{t:Nat}{A:TI}(h:PX P t=S A):rr P t A:=by
 unfold PX at h;split at h
 .next d i hd b=>
  split at h
  .next X c=>
   simp only[cond_eq_ite]at h;split at h
   .next a=>
    cases h;simp only[l4,F3,I5]at a;obtain⟨⟨U,Y⟩,e⟩:=a;refine LF (X:=X) hd (by rw[b];simp[c]) (dVs U) U Y (e.imp id λho=>?_);have f:X.cells.toList=[X]:=by cases X<;>first|rfl|cases ho
    rw[f]at U|-;simp only[l9,v8,C4,T0,I1]at U;exact(HQ U).symm
   .cases h
  .cases h
 .cases h
def Gb{l:List (Nat×TI)}(h:(l.map λp=>PX P p.1)=l.map λp=>S p.2):bp P (Eo l):=
 wT λp a=>LP (by
  have:=List.map_inj_left.1 h p a;exact this)
end
section
abbrev Pan:=List PanicEntry->(Nat->Nat)->Obs->Prop
def Pan.on(m:Pan):fW:=λa s=>m a s.gen s.obj
variable{f:FuncId}{R:AV->(Nat->Nat)->Obs->Prop}{xs:List AV}{g:Nat->Nat}{K:St->Prop}
section
variable{P:Program}{G:Nat->TI}{O:Bs}{β:Loc}{w:World}{B:Nat}{m:Pan}{rd:Option Nat}{t:St->Loc->List Deferred->World->Prop}
def PU(O:Bs)(β:Loc)(fa:Nat->AV)(g:Nat->Nat)(ob:Obs)(w:World)(R:AV->(Nat->Nat)->Obs->Prop)(m:Pan)(e:Ending)(w':World):Prop:=
 (∃v r c Z E,e=.returned v/\R r c Z/\ag O E c Z w' r v/\
    (∀id b,Z id=S b->dX O E c Z w' (c id) b (E id))/\(∀id K a W,(Z id).isSome=T->(Z K).isSome=T->E id=S a->E K=S W->a.block=W.block->id=K)/\
    Tr O β ⟨fa,g,ob⟩ w E ⟨fa,c,Z⟩ w')\/
 (∃d c Z E,e=.panicked d/\m d c Z/\
    (∀id b,Z id=S b->dX O E c Z w' (c id) b (E id))/\(∀id K a W,(Z id).isSome=T->(Z K).isSome=T->E id=S a->E K=S W->a.block=W.block->id=K)/\
    Tr O β ⟨fa,g,ob⟩ w E ⟨fa,c,Z⟩ w')
def fv(P:Program)(f:FuncId)(xs:List AV)(g:Nat->Nat)(ob:Obs)(R:AV->(Nat->Nat)->Obs->Prop)(m:Pan):Prop:=
 yK P f/\∀(O:Bs)(c:Nat)(β:Loc)(a:Act)(b:Nat->AV)(w:World)(vs:List Value),Rel O c ⟨b,g,ob⟩ β a w->aO O β g ob w xs vs->
  Calls P f vs.toArray w (PU O β b g ob w R m)
def jl.toX{ob:Obs}(h:jl P f xs g ob R):fv P f xs g ob R m:=
 ⟨h.1,λO b β a c w vs U Y=>(h.2 O b β a c w vs U Y).mono λ_ _ q=>.inl q⟩
def fv.mono{f:FuncId}{xs:List AV}{g:Nat->Nat}{ob:Obs}{R n:AV->(Nat->Nat)->Obs->Prop}{b:Pan}(h:fv P f xs g ob R m)(V:∀r g' Z,R r g' Z->n r g' Z)(j:∀c g' Z,m c g' Z->b c g' Z):fv P f xs g ob n b:=
 ⟨h.1,λO k β a l w vs U Y=>(h.2 O k β a l w vs U Y).mono λ_ _ q=>q.imp (λ⟨v,r,g',Z,E,d,e,i⟩=>⟨v,r,g',Z,E,d,V _ _ _ e,i⟩) (λ⟨c,g',Z,E,d,e,i⟩=>⟨c,g',Z,E,d,j _ _ _ e,i⟩)⟩
def Ak(O:Bs)(a:Loc)(b:St)(c:World):St->Loc->List Deferred->World->Prop:=λs β ds w=>ds=[]/\Tr O a b c β s w
def aa{a:Loc}{b:St}{c:World}:br O (Ak O a b c):=λ_ _ _ _ _ _ _ h d=>⟨h.1,h.2.trans d⟩
def CL(B:Nat)(hT:bp P G)(t:P.follows .mixedOrders=T){fn:Func}{c:Code}(hf:P.funcs[f]?=S fn)(q:fn.body=S c)(u:(fn.name == "runtime.NumGoroutine")=F)
 (rs:List ResultVar)(L:fn.results=rs.toArray)(j:gv c=T)(x:codeOk fn.ntmps c=T)(p:z xs<=fn.ntmps){ob:Obs}
 (h:∀O y A I,wpC (spF P N O (Ak O y A I) B m.on) G c (bx (Ae G rs R)) ⟨dA xs,g,ob⟩):fv P f xs g ob R m:=by
 refine⟨⟨fn,hf,by rw[q];rfl,u⟩,λO av β a J w vs X Z=>?_⟩;refine jr (n:=0) (callsIn_of_wp hf q trivial ?_);have V:=mE (av:=fn.ntmps) p X Z;refine wpIn_mono (cB (rd:=N) (B:=B) (ds:=[]) hT t aa c j x V ⟨rfl,Tr.refl⟩ (h O β ⟨dA xs,g,ob⟩ w)) (λe W k hp=>?_);obtain⟨s',E,r,bc,rfl,b,bk,rfl,i⟩:=hp;rcases b with b|⟨s,rfl,b⟩
 .have d:Ae G rs R .ret s'->∃v,(results fn r.tmps).run P k=.ok v k/\PU O β J g ob w R m (.returned v) k:=by
   rintro⟨s2,bz,hR⟩;obtain⟨bl,o,a1⟩:=bz O fn.ntmps E r k bk;have H:=i.trans a1;obtain⟨v,Q,U,Y,h3,_⟩:=dY hT o L hR;exact⟨v,U,.inl ⟨v,_,_,_,bl,rfl,Y,h3,o.obj,o.inj,⟨H.size,H.old,H.keep,H.os⟩⟩⟩
  cases e with
  |normal=>exact⟨rfl,d b⟩
  |ret=>exact⟨rfl,d b⟩
  |exit id=>exact b.elim
  |goto l=>exact b.elim
  |panic s=>exact b.elim
  |outgrown=>exact b.elim
 .exact⟨rfl,.inr ⟨s,_,_,E,rfl,b,bk.obj,bk.inj,⟨i.size,i.old,i.keep,i.os⟩⟩⟩
def FV(a1:br O t){o:Oper}{s:St}{k:Box K}{args:Array Operand}{tys:Array TypeId}(ho:o.op=.call ⟨.value (.func f),args,tys⟩)
 (j:fv P f (args.toList.map s.ev) s.gen s.obj R m)(d:∀r g' Z,R r g' Z->K (St.put ⟨s.f,g',Z⟩ o.dst r)):bu (spF P rd O t B m.on) o s k:=by
 refine⟨λl=>∃r g' Z,R r g' Z/\l=St.put ⟨s.f,g',Z⟩ o.dst r,λn β a ds w V A c next Q hn I=>?_,λ_⟨r,g',Z,V,e⟩=>e▸d r g' Z V⟩;have p:aX o=T:=by simp[aX,ho]
 refine iC p ?_;unfold Oper.wp;rw[ki ho j.1 w];simp only[Oper.upon];have:=j.2 O n β a s.f w (args.toList.map a.eval) V (jq V _);rw[show (args.toList.map a.eval).toArray=args.map a.eval from H6 a8]at this;refine this.mono λe w' q=>?_;rcases q with⟨v,r,g',Z,E,he,hR,hv,U,Y,h3⟩|⟨u,g',Z,E,he,b,U,Y,h3⟩
 .exact Ur
 .subst he
  have d:ft O β s.gen s.obj w E g' Z w':=h3.keep;have x:Tr O β s w E ⟨s.f,g',Z⟩ w':=⟨h3.size,h3.old,d,h3.os⟩
  exact I u ⟨s.f,g',Z⟩ E a w' b ⟨V.defers,V.size,λi=>ag.keep d _ (V.f i),U,Y,C1 V.base h3.size⟩ (a1 _ _ _ _ _ _ _ A x)
def CM{m:fW}{o:Oper}{s:St}{k:Box K}{x:Operand}(ho:o.op=.panic x){v:Value}(b:∀(av:Nat)(β:Loc)(a:Act)(w:World),Rel O av s β a w->(Instr.panic (a.eval x)).run P w=.halt (.panic v) w)
 (d:m [{v,recovered:=F}] s):bu (spF P rd O t B m) o s k:=by
 refine⟨λ_=>False,λav β a ds w V A c next Q i I=>?_,λ_ h=>h.elim⟩;have e:aX o=T:=by simp[aX,ho]
 refine iC e ?_;unfold Oper.wp
 have:(execOp a.eval o).run P w=.halt (.panic v) w:=by
  simp[execOp,ho,b av β a w V,Result.andThen]
 rw[this];exact I _ s β a w d V A
end
end
section
variable{K:St->Prop}{x:Operand}
section
variable{P:Program}{O:Bs}{rd:Option Nat}{b:St->Loc->List Deferred->World->Prop}{B:Nat}{c:fW}
def vC(a1:br O b){o:Oper}{s:St}{k:Box K}{t:TypeId}(ho:o.op=.makeInterface t x){fs:Array Field}(g:P.underlying t=S (.struct fs)){kd:IntKind}{n:Int}
 (I:s.ev x=.agg [.d (.int kd n)])(i:K (s.put o.dst (.exact (.iface t (.agg #[.int kd n]))))):bu (spF P rd O b B c) o s k:=by
 refine⟨λs'=>s'=s.put o.dst (.exact (.iface t (.agg #[.int kd n]))),λp β a ds w V A hd next Q hn _=>?_,λ_ e=>e▸i⟩;refine iC X2 ?_;have f:=V.ev x;rw[I]at f;simp only[ag]at f;obtain⟨vs,U,Y,l⟩:=f;obtain⟨u,m,E⟩:=l 0 _ rfl;simp only[aD]at E;obtain rfl:=E.inv_int
 have bz:vs = #[.int kd n]:=by
  apply Array.ext_getElem?;intro j
  match j with
  |0=>rw[m];rfl
  |j+1=>rw[J0 (by rw[Y];simp),J0 a8]
 subst bz
 have b8:(execOp a.eval o).run P w=.ok (.value (.iface t (.agg #[.int kd n]))) w:=by
  simp[execOp,ho,U,Instr.makeInterface,run_underlying g]
 have bk:=V.put hd (x:=.exact (.iface t (.agg #[.int kd n]))) (v:=.iface t (.agg #[.int kd n])) (by simp only[ag]);exact vr
def vD{o:Oper}{s:St}{k:Box K}(ho:o.op=.panic x){t:TypeId}{u:Value}(I:s.ev x=.exact (.iface t u))(e:c [{v:=.iface t u,recovered:=F}] s):bu (spF P rd O b B c) o s k:=by
 refine CM ho (v:=.iface t u) (λf g a w V=>?_) e;have d:=V.ev x;rw[I]at d;simp only[ag]at d;rw[d];simp[Instr.panic]
end
end
end
section
attribute[local congr]ite_cc
section
variable{s:St}{K:St->Prop}{w:World}{a:Act}{o:Oper}{f:FuncId}{β:Loc}{tys:Array TypeId}{ds:List Deferred}{Q:Exit->Act->World->Prop}{u:Value}{l:Array (String×TypeId)}{args:Array Operand}{R:AV->(Nat->Nat)->Obs->Prop}{bf:List PC}{x:Operand}{k:Box K}
section
variable{P:Program}{G:Nat->TI}{O:Bs}{rd:Option Nat}{Φ:St->Loc->List Deferred->World->Prop}{B:Nat}{Ψ:fW}{cd:Pan}
def bX(a1:br O Φ)(ho:o.op=.call ⟨.value (.func f),args,tys⟩)
 (hp:fv P f (args.toList.map s.ev) s.gen s.obj R cd)(I:∀ch g' Z,cd ch g' Z->Ψ ch ⟨s.f,g',Z⟩)(hk:∀r g' Z,R r g' Z->K (St.put ⟨s.f,g',Z⟩ o.dst r)):bu (spF P rd O Φ B Ψ) o s k:=by
 refine⟨λd=>∃r g' Z,R r g' Z/\d=St.put ⟨s.f,g',Z⟩ o.dst r,λav β a ds w V A c next Q hn g=>?_,λ_⟨r,g',Z,V,e⟩=>e▸hk r g' Z V⟩;have j:aX o=T:=by simp[aX,ho]
 refine iC j ?_;unfold Oper.wp;rw[ki ho hp.1 w];exact S4
def ba(a1:br O Φ){t:Nat}(ho:o.op=.call ⟨.value (.tmp t),args,tys⟩)(hf:s.f t=.one (.clo f bf))
 (hp:fv P f (args.toList.map s.ev++bf.map kJ) s.gen s.obj R cd)(I:∀ch g' Z,cd ch g' Z->Ψ ch ⟨s.f,g',Z⟩)(hk:∀r g' Z,R r g' Z->K (St.put ⟨s.f,g',Z⟩ o.dst r))(bc:f<1000000:=by decide):bu (spF P rd O Φ B Ψ) o s k:=by
 refine⟨λs'=>∃r g' Z,R r g' Z/\s'=St.put ⟨s.f,g',Z⟩ o.dst r,λav β a ds w V A c next Q hn g=>?_,λ_⟨r,g',Z,V,e⟩=>e▸hk r g' Z V⟩;have b5:aX o=T:=by simp[aX,ho]
 refine iC b5 ?_;have hv:=V.f t;rw[hf]at hv;simp only[ag,aD]at hv;obtain⟨vs,c1,m,j⟩:=hv;rw[uL bc]at c1
 have bz:(execOp a.eval o).run P w=.ok (.enter f (args.map a.eval++vs)) w:=by
  exact l3
 unfold Oper.wp;rw[bz];simp only[Oper.upon];have hc:aO O β s.gen s.obj w (bf.map kJ) vs.toList:=oA (by simpa using m) (λi pc hi=>let ⟨u,U,Y⟩:=j i pc hi;⟨u,by simpa using U,Y⟩);have:=hp.2 O av β a s.f w (args.toList.map a.eval++vs.toList) V ((jq V _).append hc);rw[show (args.toList.map a.eval++vs.toList).toArray=args.map a.eval++vs from H6 a8]at this;exact gI
@[go_sem]def HH{an:Sp}{dst:Option Tmp}{ty:TypeId}{ps:String}{H:Array Edge}{gd:Option (Nat×Bool)}{t u:TypeId}{ok:Bool}:opA an G ⟨dst,.typeAssert x t u ok,ty,ps,H,gd⟩ s k=bu an ⟨dst,.typeAssert x t u ok,ty,ps,H,gd⟩ s k:=A6 rfl rfl
def yH(a1:br O Φ){t j:TypeId}(ho:o.op=.typeAssert x j t T){fs:Array Field}(m:P.underlying t=S (.struct fs)){kd:IntKind}{n:Int}
 (I:s.ev x=.exact (.iface t (.agg #[.int kd n])))(p:K (s.put o.dst (.tup [.agg [.d (.int kd n)],bv T]))):bu (spF P rd O Φ B Ψ) o s k:=by
 refine⟨λs'=>s'=s.put o.dst (.tup [.agg [.d (.int kd n)],bv T]),λr β a ds w V A hd next Q hn _=>?_,λ_ e=>e▸p⟩;refine iC X2 ?_;have b:=V.ev x;rw[I]at b;simp only[ag]at b
 have b8:(execOp a.eval o).run P w=.ok (.value (.tuple #[.agg #[.int kd n],.bool T])) w:=by
  simp[execOp,ho,b,Instr.typeAssert,run_underlying m]
 have bk:=V.put hd (x:=.tup [.agg [.d (.int kd n)],bv T]) (v:=.tuple #[.agg #[.int kd n],.bool T]) (by
  simp only[ag,aO];refine⟨[.agg #[.int kd n],.bool T],rfl,_,_,rfl,⟨#[.int kd n],rfl,rfl,λi c g=>?_⟩,_,_,rfl,?_,rfl⟩
  .match i,g with
   |0,g=>cases g;exact⟨_,rfl,by simp only[aD];exact .int _ _⟩
  .simp only[aD];exact .bool _)
 exact vr
def Ww(d:List Deferred)(O:Bs)(b:Loc)(c:St)(e:World):St->Loc->List Deferred->World->Prop:=λs β ds w=>ds=d/\Tr O b c e β s w
def sF{d:List Deferred}{b:Loc}{c:St}{e:World}:br O (Ww d O b c e):=λ_ _ _ _ _ _ _ h g=>⟨h.1,h.2.trans g⟩
def xA(hT:bp P G)(c:P.follows .mixedOrders=T)(d:br O Φ){av:Nat}{x y:Code}(j:gv x=T)(g:codeOk av x=T)(V:Rel O av s β a w)(A:Φ s β ds w)
(h:wpC (spF P rd O Φ B ql) G x (bx λe b=>e=.normal/\K b) s)(i:∀b E W bc w',K b->Rel O av b E W w'->Φ b E bc w'->y.wpIn (fen rd) 0 P Q {W with defers:=bc} w'):(Code.seq x y).wpIn (fen rd) 0 P Q {a with defers:=ds} w:=by
 refine wpIn_seq (wpIn_mono (cB hT c d x j g V A h) (λe W w' m=>?_));obtain⟨b,E,p,bc,rfl,U,Y,n⟩:=m;rcases U with⟨rfl,U⟩|⟨_,_,h⟩
 .exact i _ _ _ _ _ U Y n
 .exact Ub
def FW(hT:bp P G)(d:P.follows .mixedOrders=T)(g:br O Φ){av:Nat}{x:Code}(Ψ:fW)(K:Exit->St->Prop)(j:gv x=T)(i:codeOk av x=T)(V:Rel O av s β a w)(A:Φ s β ds w)
 (h:wpC (spF P rd O Φ B Ψ) G x (bx K) s)(m:∀e b E W bc w',(K e b\/∃c,e=.panic c/\Ψ c b)->Rel O av b E W w'->Φ b E bc w'->Q e {W with defers:=bc} w'):x.wpIn (fen rd) 0 P Q {a with defers:=ds} w:=by
 refine wpIn_mono (cB hT d g x j i V A h) (λe W w' n=>?_);obtain⟨b,E,q,bc,rfl,U,Y,p⟩:=n;exact m _ _ _ _ _ _ U Y p
def FX(hT:bp P G)(a1:br O Φ){av id t:Nat}{o1 o2:Oper}{y:Code}(b:aX o1=T)(g1:o1.guard=N)(g2:o2.guard=N)(X:∀d,o1.dst=S d->d<av)(cd:o2.dst=N)
 (cz:o2.op=.defer ⟨.value (.tmp t),#[],tys⟩)(V:Rel O av s β a w)(A:Φ s β ds w)(h:opA (spF P N O Φ B ql) G o1 s (bx λs'=>s'.f t=.one (.clo f bf)/\K s'))
 (hy:∀s' E W w' vs,K s'->Rel O av s' E W w'->Φ s' E ds w'->aO O E s'.gen s'.obj w' (bf.map kJ) vs->y.wpIn (fen N) 0 P Q {W with defers:=⟨.fn (.func f) vs.toArray,#[]⟩::ds} w')(bc:f<1000000:=by decide):(Code.seq (.region id #[o1,o2] F) y).wpIn (fen N) 0 P Q {a with defers:=ds} w:=by
 refine wpIn_seq (wpIn_region ?_);show wpOpsIn (fen N) 0 P #[o1,o2] _ [0,1] _ _;simp only[wpOpsIn,z6,y1,v7];rw[l7 (by simp[Region.wanted,g1])];refine ng hT a1 V A b X h (λs' E W w' U Y h3=>?_) (λch s' E W w' h=>h.elim);obtain⟨hc,J⟩:=U;rw[l7 (by simp[Region.wanted,g2])];have hv:=Y.f t;rw[hc]at hv;simp only[ag,aD]at hv;obtain⟨vs,c1,m,j⟩:=hv;rw[uL bc]at c1;refine⟨λ_ _=>trivial,?_⟩
 have bz:((o2.semAt (fen N).round ({W with defers:=ds}:Act).eval).run P w')=.ok (.defer ⟨.fn (.func f) vs,#[]⟩) w':=by
  rw[show (fen N).round=N from rfl,Oper.semAt_none];simp[execOp,cz,resolve,Act.eval,c1,Deferred.ofValue]
 rw[bz,Oper.uponIn_defer];simp only[cd,Act.put];exact hy s' E W w' vs.toList J Y h3 (oA (by simpa using m) (λi pc hi=>let ⟨u,U,Y⟩:=j i pc hi;⟨u,by simpa using U,Y⟩))
def uC{b t:TypeId}(hu:P.underlying b=S (.interface l)):(Op.equal b (.iface t u) .nilIface).run P w=.ok F w:=by
 exact UM
def wX{b t c:TypeId}{d:Nat}(ho:o.op=.binOp .eql b (.tmp d) (.const .nilIface) c)(e:P.underlying b=S (.interface l))(h:a.tmps.getD d undef=.iface t u):
  (execOp a.eval o).run P w=.ok (.value (.bool F)) w:=by
 have g:binOp .eql b (.iface t u) .nilIface=(do pure (.bool (<-Op.equal b (.iface t u) .nilIface))):=rfl;have i:eqGuard .eql b (.tmp d) (.const .nilIface) (.iface t u) .nilIface=pure ():=rfl;have j:a.eval (.tmp d)=.iface t u:=h;have m:a.eval (.const .nilIface)=.nilIface:=rfl;unfold execOp;simp only[ho,j,m,g,i,Sem.run_bind,Sem.run_pure,Result.andThen_ok,uC e]
def CN(hT:bp P G)(hm:P.follows .mixedOrders=T){fn fnD:Func}{av id dh bl d e:Nat}{c oE:Oper}{b:TypeId}{x y:Code}
 (hf:P.funcs[f]?=S fnD)(hb:fnD.body=S (.seq (.region id #[c] F) (.block bl (.seq (.region dh #[oE] F) (.cond (.tmp e) x y)))))(o:(fnD.name == "runtime.NumGoroutine")=F)
 (p:c.op=.call ⟨.builtin .recover,#[],#[]⟩)(hdR:c.dst=S d)(gR:c.guard=N)(q:oE.op=.binOp .eql b (.tmp d) (.const .nilIface) b)(r:oE.dst=S e)(gE:oE.guard=N)(A:d<fnD.ntmps)(n:e<fnD.ntmps)
 (L:fnD.results = #[])(j:gv y=T)(bd:codeOk fnD.ntmps y=T)(H:P.underlying b=S (.interface l)){t:TypeId}{xs:List AV}{vs:List Value}{R:Ending->World->Prop}(V:Rel O av s β a w)(hv:aO O β s.gen s.obj w xs vs)(hl:z xs<=fnD.ntmps)
 {K:(Nat->Nat)->Obs->Prop}(hy:∀bo s0 w0,wpC (spF P N O (Ak O bo s0 w0) B ql) G y (bx λQ s'=>Q=.normal/\K s'.gen s'.obj) ⟨upd (upd (dA xs) d (.exact (.iface t u))) e (bv F),s.gen,s.obj⟩)
 (hR:∀g' Z E w',K g' Z->Rel O av ⟨s.f,g',Z⟩ E a w'->Tr O β s w E ⟨s.f,g',Z⟩ w'->∃v,(results fn a.tmps).run P w'=.ok v w'/\R (.returned v) w'):
  LeavesIn (fen N) 0 P fn a.tmps R [⟨.fn (.func f) vs.toArray,#[]⟩] (.panicking [{v:=.iface t u,recovered:=F}]) w:=by
 refine leavesIn_cons (f:=f) (args:=vs.toArray) a8 (λh=>by cases h) ?_ (λ_ _=>trivial) ?_
 .exact VZ
 refine callsDIn_of_wpSIn hf hb trivial λX cs hu=>?_;apply wpSIn_seq;apply wpSIn_region;show wpOpsSIn (fen N) 0 P #[c] _ [0] _ _ _;simp only[wpOpsSIn,z6,y1];refine⟨λ_ _=>trivial,?_⟩;rw[l7 (by simp[Region.wanted,gR])];have bz:∀(a:Act)(w:World),(execOp a.eval c).run P w=.ok .recover w:=λa w=>by simp[execOp,p,resolve,invoke,builtin]
 rw[bz];simp only[recoverD,hu,hdR,Exit.thenS];refine wpSIn_of_wpIn rfl ?_;have cb:=mE (av:=fnD.ntmps) (fa:=s.f) hl V hv;have b2:=cb.put (dst:=S d) (λd' h=>by cases h;exact A) (x:=.exact (.iface t u)) (v:=.iface t u) (by simp only[ag]);refine wpIn_block (wpIn_seq (wpIn_region ?_));show wpOpsIn (fen N) 0 P #[oE] _ [0] _ _;simp only[wpOpsIn,z6,y1];rw[l7 (by simp[Region.wanted,gE])];have g:=b2.f d;simp only[St.put,upd,l7,ag]at g;refine⟨λ_ _=>trivial,?_⟩;rw[show (fen N).round=N from rfl,Oper.semAt_none];rw[wX q H g,Oper.uponIn_value];simp only[r];have b5:Rel O fnD.ntmps ⟨upd (upd (dA xs) d (.exact (.iface t u))) e (bv F),s.gen,s.obj⟩ β _ w:=b2.put (dst:=S e) (λd' h=>by cases h;exact n) (x:=bv F) (v:=.bool F) (by simp only[ag,aD,bv];exact .bool _);have k:=b5.f e;simp only[upd,l7,bv,ag,aD]at k;refine wpIn_cond (t:=F) k.inv_bool ?_;rw[j8 a7];have I:=cB (rd:=N) (B:=B) (ds:=[]) hT hm aa y j bd b5 ⟨rfl,Tr.refl⟩ (hy β ⟨upd (upd (dA xs) d (.exact (.iface t u))) e (bv F),s.gen,s.obj⟩ w);refine wpIn_mono I (λQ W w' hp=>?_);obtain⟨s',E,a0,bc,rfl,U,Y,rfl,h4⟩:=hp;rcases U with⟨rfl,U⟩|⟨_,_,h⟩
 case inr=>exact h.elim
 have hk:ft O β s.gen s.obj w E s'.gen s'.obj w':=h4.keep;have ht:Tr O β s w E ⟨s.f,s'.gen,s'.obj⟩ w':=⟨h4.size,h4.old,hk,h4.os⟩
 have J:Rel O av ⟨s.f,s'.gen,s'.obj⟩ E a w':=⟨V.defers,V.size,λi=>ag.keep hk _ (V.f i),Y.obj,Y.inj,C1 V.base h4.size⟩
 obtain⟨v,c1,m⟩:=hR _ _ _ _ U J ht;refine⟨rfl,.panicking [{v:=.iface t u,recovered:=T}],rfl,.tuple #[],by simp[results,L],?_⟩;simp only[settle,List.dropWhile_nil,LeavesIn];exact⟨v,c1,m⟩
end
end
end
section
open Go.ChangeShapes Go.WideShapes Go.ChangeAt Go.RowKit
section
variable{H:Type}{enc:TypeId×Value->H}
def oQ{C:Checked}{os:Os}{f:FuncId}{fn:Func}{s:ChangeSpec}{d:List PathCond}{c:List (String×DataW Unit)}(own:ownKnob C.prog.godebug=N)(b:os.Started)(k:C.prog.inits.idxOf? f=N)(A:C.prog.funcs[f]?=S fn)
 (g:∃(w:World)(tape:Tape)(i:Input),w.os=os/\(w.forCall tape i).Shaped C.prog/\i.vars=[]/\Input.okWide C.prog (w.forCall tape i) .any w.heap.size f i/\
    ((s.pre enc C.prog fn d F (w.forCall tape i).memory i.args/\laidMetH C.prog c (w.forCall tape i).memory)/\sizedMet enc C.prog fn (OpenSpec.ofChange s) F (w.forCall tape i).memory i.args)/\Assume.holds {} C.prog (lone (Frame.enter C.prog f i.args .normal) [] (w.forCall tape i)))
 (a:s.vars=[])(hl:laidOutB C.prog=T)(J:fn.params.toList.all (λt=>C.prog.readableRec t&&decide (t<C.prog.types.size))=T){y:TypeId}(L:fn.resultTypes = #[y])(b1:C.prog.underlying y=S .bool)
 (m:∀ds:List (DataW H),z ds=z fn.params.toList->s.fn H ds = {results:=[.lit (.bool T)],args:=ds})
 (n:∀(W:World)(base:Nat)(args:Array Value)(ds:List (DataW H))(ps:List MemPlace),laidMetH C.prog c W->(∀(j:Nat)t v,fn.params[j]?=S t->args[j]?=S v->Value.okWide C.prog W .any base t v)->DataW.TrodAll enc C.prog W 0 (λ_=>T) T fn.params.toList args.toList ds ps->(DataW.weightsEach C.prog fn.params.toList ds).all (·<=reachBytes)=T->zX C.prog f args W):
  ReturnsInHanded {} C os f .any (λw args=>(s.pre enc C.prog fn d F w args/\laidMetH C.prog c w)/\sizedMet enc C.prog fn (OpenSpec.ofChange s) F w args) (s.post enc C.prog fn F T F F):=by
 refine returnsInHanded_of_change_and (X:=λw _=>laidMetH C.prog c w) (λ_ _ _ V h=>h.of_heap V) own b k A g ?_;intro W base args ds gs u l Q E bc Y _;have r:=Q;obtain⟨p,q,K,G,rfl,eo,b5⟩:=Q;rw[a]at G;obtain⟨rfl,rfl⟩:=trodVars_none G;have B:s.plain.varTypes C.prog=[]:=by simp[ChangeSpec.plain,DataSpec.varTypes,a]
 rw[B,s5,s5]at bc;refine(n W base args ds p Y l K bc).mono λe o⟨Z,hs,U,ho⟩=>⟨_,Z,?_⟩
 have af:∀x∈p,x.block<W.heap.size:=λx I=>r.lt x Xs;have O:s.fn H (ds++[]) = {results:=[.lit (.bool T)],args:=ds}:=by rw[s5];exact m ds (tR _ _ _ _ K)
 refine⟨ds,[],p++[],[],p,[],r,?_,?_,?_,LG U ho _,λh=>by cases h⟩
 .rw[O,L]
  exact trodAll_mk1 ⟨1,by simp[DataW.trod,b1,Value.cells]⟩
 .rw[O]
  exact qk hl U _ _ _ _ J af K
 .rw[O,a]
  exact rfl
def wW{P:Program}{w:World}{X:Nat}{o:cg}(m:qC X o w){f:FuncId}{args:List AV}(h:bP P X o f args (·=bv T)){vs:List Value}(c:RVs (λb=>b<w.heap.size) w args vs):zX P f vs.toArray w:=by
 refine(h.2 _ w vs m (λ_ h=>h) c).mono λe j⟨v,r,U,Y,d,g,i,a⟩=>⟨?_,d,g,i⟩
 subst Y;simp only[RV]at a;obtain⟨x,I,V⟩:=a;cases I;cases V;exact U
end
end
section
section
def nh(an:Sp)(G:Nat->TI)(ops:Array Oper)(p:List Nat)(l:List Ent)(s:St){K:St->Prop}(_:Box K):Prop:=eU an G ops p True l s (bx λa=>True->K a)
def yE(ops:Array Oper)(o:Oper)(s:St):Prop:=match o.guard with|none=>False|some (j,w)=>∃d,((ops[j]?).bind (·.dst))=S d/\s.f d=bv (!w)
variable{ops:Array Oper}{Q:Exit->St->Prop}
section
variable{P:Program}{G:Nat->TI}{O:Bs}{w:World}{rd:Option Nat}{n:St->Loc->List Deferred->World->Prop}{t:fW}
def xy{hT:bp P G}(U:br O n){B av:Nat}{ops:Array Oper}{ds:List Deferred}{Q:Exit->Act->World->Prop}(Z:ops.toList.all aX=T)(b4:fP av ops.toList=T)(I:(Nat->Bool)->St->Prop)
 (J:∀(L:Nat->Bool)(s:St)(i:Nat)(o:Oper),I L s->ops[i]?=S o->L i=F->(∀e∈o.after.toList,Region.binds .any e=T->L e.on=T)->
    (∀j l,L j=T->ops[j]?=S l->∀e∈l.after.toList,Region.binds .any e=T->L e.on=T)->(pH ops o s/\opA (spF P rd O n B t) G o s (bx λs'=>I (upd L i T) s'))\/yE ops o s/\I (upd L i T) (s.put o.dst uv)):
  ∀(q:Nat)(b:Array Bool){s:St}{β:Loc}{a:Act}{w:World},b.size=ops.size->b.toList.count F<=q->Rel O av s β a w->n s β ds w->I (λi=>b.getD i F) s->
   (∀j l,b.getD j F=T->ops[j]?=S l->∀e∈l.after.toList,Region.binds .any e=T->b.getD e.on F=T)->
   (∀L s' E W w',I L s'->Rel O av s' E W w'->n s' E ds w'->(∃c,L=(λi=>c.getD i F)/\c.size=ops.size/\Region.ready .any ops c=[])->Q .normal {W with defers:=ds} w')->
   (∀ch s' E W w',t ch s'->Rel O av s' E W w'->n s' E ds w'->Q (.panic ch) {W with defers:=ds} w')->
   wpAnyIn (fen rd) 0 P .any ops Q q b {a with defers:=ds} w
 |0,b,s,β,a,w,bc,hc,V,A,hI,hid,hQ,X=>by
   exact l1
 |q+1,b,s,β,a,w,bc,hc,V,A,hI,hid,hQ,X=>by
   refine⟨λan=>hQ _ s β a w hI V A ⟨b,rfl,bc,an⟩,λi hi=>?_⟩;unfold Region.ready at hi;simp only[S8,E4,l4,H3]at hi;obtain⟨b8,y,m⟩:=hi;have ho:ops[i]?=S ops[i]:=A5 b8;rw[ho]at m;simp only[z8,A2,Ou,F3,H3]at m
   have bd:b[i]?=S F:=by
    exact VW
   have hL:b.getD i F=F:=by rw[x8,bd];rfl
   have f:∀e∈ops[i].after.toList,Region.binds .any e=T->b.getD e.on F=T:=λe he hb=>by
    exact T7
   have k:∀d,(ops[i]).dst=S d->d<av:=λd hd=>by
    exact UF
   have u:(λj=>(b.setIfInBounds i T).getD j F)=upd (λj=>b.getD j F) i T:=by
    funext j;exact tI
   have ad:∀s' E W w',I (upd (λj=>b.getD j F) i T) s'->Rel O av s' E W w'->n s' E ds w'->wpAnyIn (fen rd) 0 P .any ops Q q (b.setIfInBounds i T) {W with defers:=ds} w':=λs' E W w' g bk r=>by
    refine xy (hT:=hT) U Z b4 I J q (b.setIfInBounds i T) (by simpa using bc) YD bk r (by rw[u];exact g) (λj l hj H e he hb=>?_) hQ X;exact km
   unfold wpOpIn;rw[ho];simp only;rcases J _ s i ops[i] hI ho hL f hid with⟨bo,b7⟩|⟨bo,g⟩
   .have Y:Region.wanted ops[i] (yielded ops a.tmps)=T:=by
     unfold pH at bo;cases hg:(ops[i]).guard with
     |none=>simp[Region.wanted,hg]
     |some p=>
       exact T2
    rw[l7 Y];exact ng hT U V A (x7.1 Z ops[i] (G5 b8)) k b7 ad X
   .have Y:¬Region.wanted ops[i] (yielded ops a.tmps)=T:=by
     unfold yE at bo;cases hg:(ops[i]).guard with
     |none=>rw[hg]at bo;exact bo.elim
     |some p=>
       exact T2
    rw[j8 Y];have K:({a with defers:=ds}:Act).put (ops[i]).dst undef = {a.put (ops[i]).dst undef with defers:=ds}:=by cases (ops[i]).dst<;>rfl
    rw[K];exact⟨λ_ _=>trivial,ad _ β _ w g (V.put k (x:=uv) (v:=undef) cL) (U _ _ _ _ _ _ _ A (Tr.same (by rw[St.put_gen]) (by rw[St.put_obj]) rfl))⟩
def xz(hT:bp P G)(u:P.follows .mixedOrders=T)(m:br O n){B id:Nat}{s:St}{q:Box Q}(v:ops.toList.all aX=T)(bc:vh ops=T)(I:(Nat->Bool)->St->Prop)(h0:I (λ_=>F) s)
 (J:∀(L:Nat->Bool)(s:St)(i:Nat)(o:Oper),I L s->ops[i]?=S o->L i=F->(∀e∈o.after.toList,Region.binds .any e=T->L e.on=T)->
    (∀j l,L j=T->ops[j]?=S l->∀e∈l.after.toList,Region.binds .any e=T->L e.on=T)->(pH ops o s/\opA (spF P rd O n B t) G o s (bx λs'=>I (upd L i T) s'))\/yE ops o s/\I (upd L i T) (s.put o.dst uv))
 (x:∀L s',I L s'->(∀i,i<ops.size->L i=T)->Q .normal s'):ll (spF P rd O n B t) G id ops s q:=by
 refine .inr ⟨λe s'=>e=.normal/\Q .normal s',λy β a ds w X V A=>?_,λe s'⟨U,Y⟩=>U▸Y⟩;have Z:Rel O y s β a {w with drawn:=w.drawn+1}:=V.of_heap rfl;have af:n s β ds {w with drawn:=w.drawn+1}:=m _ _ _ _ _ _ _ A (Tr.same rfl rfl rfl);refine wpIn_region_any u (xy (hT:=hT) m v X I J ops.size (Array.replicate ops.size F) a8 a8 Z af ?_ (λj l c=>?_) (λL s' E W w' Y h4 h5 h6=>⟨s',E,W,ds,rfl,.inl ⟨rfl,x L s' Y Xx⟩,h4,h5⟩) (λch s' E W w' U Y h3=>⟨s',E,W,ds,rfl,.inr ⟨ch,rfl,U⟩,Y,h3⟩))
 .exact tb
 .rw[x8,D0]at c
  split at c<;>simp at c
def dS(hT:bp P G)(l:P.follows .mixedOrders=T)(m:br O n){B id:Nat}{s:St}{q:Box Q}(p:List Nat)(y:List (List Nat×List Nat×List Nat×Bool))(g:Nat)(f:ops.toList.all aX=T)(u:vl ops y g=T)(w:z p=g)(v:p.Nodup)
 (h:nh (spF P rd O n B t) G ops p (jC ops.toList y) s (bx λj=>Q .normal j)):ll (spF P rd O n B t) G id ops s q:=by
 obtain⟨U,I,Y,x,A⟩:=vn (X:=True) (Q:=Q) p y g u w v h;exact xz hT l m f U I Y (λL s i o a b c d e=>.inl (x L s i o a b c d e)) λL j a b=>A L j a b (.inr trivial)
end
section steps
variable{an:Sp}{G:Nat->TI}{ops:Array Oper}{p:List Nat}{f:Nat->AV}{g:Nat->Nat}{ob:Nat->Option (List C)}{K:St->Prop}{k:Box K}{op:Op}{ty:TypeId}{ps:String}{H:Array Edge}{gd:Option (Nat×Bool)}{rd hd:List Nat}{r:List Ent}{d:Nat}
def ay{v:AV}(hg:GdE ops ⟨⟨S d,op,ty,ps,H,gd⟩,rd,hd,[],F⟩ ⟨f,g,ob⟩)(U:∀(fa:Nat->AV)(a:Nat->Nat)(b:Nat->Option (List C))(K':St->Prop),K' ⟨upd (maskf rd f fa) d v,maskm p hd g a,maskm p hd ob b⟩->opA an G ⟨S d,op,ty,ps,H,gd⟩ ⟨maskf rd f fa,maskm p hd g a,maskm p hd ob b⟩ (bx K'))
 (Y:nh an G ops p r ⟨upd f d v,g,ob⟩ k):nh an G ops p (⟨⟨S d,op,ty,ps,H,gd⟩,rd,hd,[],F⟩::r) ⟨f,g,ob⟩ k:=by
 unfold nh at Y|-;unfold eU;exact⟨v,[],⟨rfl,λfa a b K' J=>U fa a b K' (J λ_=>trivial),hg⟩,Y⟩
def de{v:AV}{a x:Nat}{y:Option (List C)}(hg:GdE ops ⟨⟨S d,op,ty,ps,H,gd⟩,rd,hd,[a],F⟩ ⟨f,g,ob⟩)(U:∀(fa:Nat->AV)(b:Nat->Nat)(c:Nat->Option (List C))(K':St->Prop),K' ⟨upd (maskf rd f fa) d v,upd (maskm p hd g b) (p.getD a 0) x,upd (maskm p hd ob c) (p.getD a 0) y⟩->opA an G ⟨S d,op,ty,ps,H,gd⟩ ⟨maskf rd f fa,maskm p hd g b,maskm p hd ob c⟩ (bx K'))
 (Y:nh an G ops p r ⟨upd f d v,upd g (p.getD a 0) x,upd ob (p.getD a 0) y⟩ k):nh an G ops p (⟨⟨S d,op,ty,ps,H,gd⟩,rd,hd,[a],F⟩::r) ⟨f,g,ob⟩ k:=by
 unfold nh at Y|-;unfold eU;exact⟨v,[(x,y)],⟨rfl,λfa b c K' J=>U fa b c K' (J λ_=>trivial),hg⟩,Y⟩
end steps
end
section
variable{w:World}{s:St}{a:Act}{o:Oper}{l:Array (String×TypeId)}{b:TypeId}
section
variable{P:Program}{G:Nat->TI}{O:Bs}{rd:Option Nat}{Φ:St->Loc->List Deferred->World->Prop}{B:Nat}{Ψ:fW}{cd:Pan}
def CP(hT:bp P G)(i:P.follows .mixedOrders=T)(m:br O Φ){av:Nat}{x y:Code}{β:Loc}{ds:List Deferred}{Q:Exit->Act->World->Prop}(j:gv x=T)(n:codeOk av x=T)(V:Rel O av s β a w)(A:Φ s β ds w)
 {K K2:St->Prop}(h:wpC (spF P rd O Φ B ql) G x (bx λe c=>(e=.normal/\K c)\/(e=.ret/\K2 c)) s)(q:∀c E W bc w',K c->Rel O av c E W w'->Φ c E bc w'->y.wpIn (fen rd) 0 P Q {W with defers:=bc} w')
 (r:∀c E W bc w',K2 c->Rel O av c E W w'->Φ c E bc w'->Q .ret {W with defers:=bc} w'):(Code.seq x y).wpIn (fen rd) 0 P Q {a with defers:=ds} w:=by
 refine wpIn_seq (wpIn_mono (cB hT i m x j n V A h) (λe W w' t=>?_));obtain⟨c,E,u,bc,rfl,U,Y,d⟩:=t;rcases U with(⟨rfl,U⟩|⟨rfl,U⟩)|⟨_,_,h⟩
 .exact q _ _ _ _ _ U Y d
 .exact r _ _ _ _ _ U Y d
 .exact Ub
def qE(a1:br O Φ){K:St->Prop}{k:Box K}{t:Nat}{args:Array Operand}{tys:Array TypeId}(ho:o.op=.call ⟨.value (.tmp t),args,tys⟩){f:FuncId}{bf:List PC}(hf:s.f t=.one (.clo (f+1000000) bf)){R:AV->(Nat->Nat)->Obs->Prop}
 (hp:fv P f (bf.map kJ++args.toList.map s.ev) s.gen s.obj R cd)(I:∀ch g' Z,cd ch g' Z->Ψ ch ⟨s.f,g',Z⟩)(hk:∀r g' Z,R r g' Z->K (St.put ⟨s.f,g',Z⟩ o.dst r)):bu (spF P rd O Φ B Ψ) o s k:=by
 refine⟨λd=>∃r g' Z,R r g' Z/\d=St.put ⟨s.f,g',Z⟩ o.dst r,λn β a ds w V A c next Q hn g=>?_,λ_⟨r,g',Z,V,e⟩=>e▸hk r g' Z V⟩;have q:aX o=T:=by simp[aX,ho]
 refine iC q ?_;have hv:=V.f t;rw[hf]at hv;simp only[ag,aD]at hv;obtain⟨vs,c1,m,j⟩:=hv;rw[Ab f]at c1
 have bz:(execOp a.eval o).run P w=.ok (.enter f (vs++args.map a.eval)) w:=by
  exact l3
 unfold Oper.wp;rw[bz];simp only[Oper.upon];have x:aO O β s.gen s.obj w (bf.map kJ) vs.toList:=oA (by simpa using m) (λi pc y=>let ⟨u,U,Y⟩:=j i pc y;⟨u,by simpa using U,Y⟩);have:=hp.2 O n β a s.f w (vs.toList++args.toList.map a.eval) V (x.append (jq V _));rw[show (vs.toList++args.toList.map a.eval).toArray=vs++args.map a.eval from H6 a8]at this;exact gI
def wY(hu:P.underlying b=S (.interface l)):(Op.equal b .nilIface .nilIface).run P w=.ok T w:=by
 exact UM
def Al{b c:TypeId}{d:Nat}(ho:o.op=.binOp .eql b (.tmp d) (.const .nilIface) c)(e:P.underlying b=S (.interface l))(h:a.tmps.getD d undef=.nilIface):
  (execOp a.eval o).run P w=.ok (.value (.bool T)) w:=by
 have i:binOp .eql b .nilIface .nilIface=(do pure (.bool (<-Op.equal b .nilIface .nilIface))):=rfl;have j:eqGuard .eql b (.tmp d) (.const .nilIface) .nilIface .nilIface=pure ():=rfl;have m:a.eval (.tmp d)=.nilIface:=h;have n:a.eval (.const .nilIface)=.nilIface:=rfl;unfold execOp;simp only[ho,m,n,i,j,Sem.run_bind,Sem.run_pure,Result.andThen_ok,wY e]
def CQ(hT:bp P G)(hm:P.follows .mixedOrders=T){fn fnD:Func}{f:FuncId}{av id dh bl d e:Nat}{c oE:Oper}{x y:Code}
 (hf:P.funcs[f]?=S fnD)(hb:fnD.body=S (.seq (.region id #[c] F) (.block bl (.seq (.region dh #[oE] F) (.cond (.tmp e) x y)))))(o:(fnD.name == "runtime.NumGoroutine")=F)
 (p:c.op=.call ⟨.builtin .recover,#[],#[]⟩)(hdR:c.dst=S d)(gR:c.guard=N)(q:oE.op=.binOp .eql b (.tmp d) (.const .nilIface) b)(r:oE.dst=S e)(gE:oE.guard=N)(A:d<fnD.ntmps)(n:e<fnD.ntmps)
 (L:fnD.results = #[])(j:gv x=T)(bd:codeOk fnD.ntmps x=T)(H:P.underlying b=S (.interface l)){β:Loc}{xs:List AV}{vs:List Value}{R:Ending->World->Prop}(V:Rel O av s β a w)(hv:aO O β s.gen s.obj w xs vs)(hl:z xs<=fnD.ntmps)
 {K:(Nat->Nat)->Obs->Prop}(hy:∀bo s0 w0,wpC (spF P N O (Ak O bo s0 w0) B ql) G x (bx λQ u=>Q=.normal/\K u.gen u.obj) ⟨upd (upd (dA xs) d (.exact .nilIface)) e (bv T),s.gen,s.obj⟩)
 (hR:∀g' Z E w',K g' Z->Rel O av ⟨s.f,g',Z⟩ E a w'->Tr O β s w E ⟨s.f,g',Z⟩ w'->∃v,(results fn a.tmps).run P w'=.ok v w'/\R (.returned v) w'):
  LeavesIn (fen N) 0 P fn a.tmps R [⟨.fn (.func f) vs.toArray,#[]⟩] .returning w:=by
 refine leavesIn_cons (f:=f) (args:=vs.toArray) a8 (λh=>by cases h) ?_ (λ_ _=>trivial) ?_
 .exact VZ
 refine callsDIn_of_wpSIn hf hb trivial λX cs hu=>?_;apply wpSIn_seq;apply wpSIn_region;show wpOpsSIn (fen N) 0 P #[c] _ [0] _ _ _;simp only[wpOpsSIn,z6,y1];refine⟨λ_ _=>trivial,?_⟩;rw[l7 (by simp[Region.wanted,gR])];have bz:∀(a:Act)(w:World),(execOp a.eval c).run P w=.ok .recover w:=λa w=>by simp[execOp,p,resolve,invoke,builtin]
 rw[bz];simp only[recoverD,hu,hdR,Exit.thenS];refine wpSIn_of_wpIn rfl ?_;have cb:=mE (av:=fnD.ntmps) (fa:=s.f) hl V hv;have b2:=cb.put (dst:=S d) (λd' h=>by cases h;exact A) (x:=.exact .nilIface) (v:=.nilIface) (by simp only[ag]);refine wpIn_block (wpIn_seq (wpIn_region ?_));show wpOpsIn (fen N) 0 P #[oE] _ [0] _ _;simp only[wpOpsIn,z6,y1];rw[l7 (by simp[Region.wanted,gE])];have g:=b2.f d;simp only[St.put,upd,l7,ag]at g;refine⟨λ_ _=>trivial,?_⟩;rw[show (fen N).round=N from rfl,Oper.semAt_none];rw[Al q H g,Oper.uponIn_value];simp only[r];have b5:Rel O fnD.ntmps ⟨upd (upd (dA xs) d (.exact .nilIface)) e (bv T),s.gen,s.obj⟩ β _ w:=b2.put (dst:=S e) (λd' h=>by cases h;exact n) (x:=bv T) (v:=.bool T) (by simp only[ag,aD,bv];exact .bool _);have k:=b5.f e;simp only[upd,l7,bv,ag,aD]at k;refine wpIn_cond (t:=T) k.inv_bool ?_;rw[l7 a7];have I:=cB (rd:=N) (B:=B) (ds:=[]) hT hm aa x j bd b5 ⟨rfl,Tr.refl⟩ (hy β ⟨upd (upd (dA xs) d (.exact .nilIface)) e (bv T),s.gen,s.obj⟩ w);refine wpIn_mono I (λQ W w' hp=>?_);obtain⟨u,E,a0,bc,rfl,U,Y,rfl,h4⟩:=hp;rcases U with⟨rfl,U⟩|⟨_,_,h⟩
 case inr=>exact h.elim
 have hk:ft O β s.gen s.obj w E u.gen u.obj w':=h4.keep;have ht:Tr O β s w E ⟨s.f,u.gen,u.obj⟩ w':=⟨h4.size,h4.old,hk,h4.os⟩
 have J:Rel O av ⟨s.f,u.gen,u.obj⟩ E a w':=⟨V.defers,V.size,λi=>ag.keep hk _ (V.f i),Y.obj,Y.inj,C1 V.base h4.size⟩
 obtain⟨v,c1,m⟩:=hR _ _ _ _ U J ht;refine⟨rfl,.returning,by rw[<-hu],.tuple #[],by simp[results,L],?_⟩;simp only[settle,LeavesIn];exact⟨v,c1,m⟩
end
section
variable{an:Sp}{G:Nat->TI}{ops:Array Oper}{p:List Nat}{f:Nat->AV}{g:Nat->Nat}{ob:Nat->Option (List C)}{rd hd:List Nat}{K:St->Prop}{k:Box K}
def dU{ef:List Nat}(hg:GdE ops ⟨o,rd,hd,ef,T⟩ ⟨f,g,ob⟩)(h:∀K':St->Prop,(∀P,K P->K' P)->opA an G o ⟨f,g,ob⟩ (bx K')):nh an G ops p [⟨o,rd,hd,ef,T⟩] ⟨f,g,ob⟩ k:=by
 unfold nh eU;exact⟨⟨λ_=>trivial,λK' J=>h K' λP q=>J P λ_=>q⟩,hg⟩
end
end
section
def Wx(B:Nat):PC->Prop
 |.d _=>True
 |.ptr id _ _=>id<B
def nX(B:Nat):C->Prop
 |.d _=>True
 |.osl id _ _ _ _=>id<B
 |.ptr id _ _=>id<B
 |.mp id _ _=>id<B
 |.lsl _=>True
 |.raw _=>True
 |.clo _ a=>∀p∈a,Wx B p
def Wy(B:Nat)(g:Nat->Nat):PC->Prop
 |.d _=>True
 |.ptr id y _=>id<B\/y<=g id
def okC(B:Nat)(g:Nat->Nat):C->Prop
 |.d _=>True
 |.osl id y _ _ _=>id<B\/y<=g id
 |.ptr id y _=>id<B\/y<=g id
 |.mp id y _=>id<B\/y<=g id
 |.lsl _=>True
 |.raw _=>True
 |.clo _ a=>∀p∈a,Wy B g p
variable{g:Nat->Nat}{B:Nat}{w':World}{c:C}{E bl:Loc}{y g2:Nat->Nat}{ad b3:Obs}{ob:Obs}{cells:List C}{xs:List AV}{R:AV->(Nat->Nat)->Obs->Prop}
def nX.ok(h:nX B c):okC B g c:=by
 cases c with
 |osl=>exact .inl h
 |ptr=>exact .inl h
 |mp=>exact .inl h
 |clo f b=>
   intro p a;have:=h p a;cases p with
   |d=>trivial
   |ptr=>exact .inl this
 |d=>trivial
 |lsl=>trivial
 |raw=>trivial
def jT(an:List Nat)(g g':Nat->Nat):Nat->Nat:=λi=>if i∈an then g' i else g i
def fM(an:List Nat)(ob Z:Obs):Obs:=λi=>if i∈an then Z i else ob i
structure HI (B:Nat) (an:List Nat) (g:Nat->Nat) (ob:Obs) (g':Nat->Nat) (Z:Obs):Prop where
 same:∀i,i<B->i∉an->g' i=g i/\Z i=ob i
 low:∀i∈an,∀cells,Z i=some cells->∀c∈cells,nX B c
section
variable{P:Program}{G:Nat->TI}{O:Bs}{β:Loc}{w:World}
def aD.okC{B:Nat}{g:Nat->Nat}{ob:Obs}{c:C}{v:Value}(h:aD O β g ob w c v):okC B g c:=by
 cases c with
 |d=>trivial
 |osl=>exact .inr h.2.1
 |ptr=>exact .inr h.2.1
 |mp=>exact .inr h.2.1
 |lsl=>trivial
 |raw=>trivial
 |clo f j=>
   obtain⟨vs,_,Y,a⟩:=h;intro p b;obtain⟨i,e⟩:=C9 b;obtain⟨u,_,V⟩:=a i p e;cases p with
   |d=>trivial
   |ptr=>exact .inr V.2.1
def eI.okC{B:Nat}{g:Nat->Nat}{R:C->Value->Prop}(b:∀c v,R c v->Go.Am.okC B g c){kd:TypeDesc}{cs:List C}{es:List MapEntry}(h:eI R kd cs es):∀c∈cs,Go.Am.okC B g c:=by
 induction h with
 |nil=>intro c a;cases a
 |cons e U Y _ d=>
   intro c a;simp only[y9]at a;rcases a with rfl|rfl|a
   .trivial
   .exact b _ _ Y
   .exact d c a
def jB.okC{B:Nat}{g:Nat->Nat}{ob:Obs}{kd:Nat}{c:C}{v:Value}(h:jB O β g ob w kd c v):Go.Am.okC B g c:=by
 unfold jB at h;split at h
 .exact aD.okC h
 .obtain⟨ds,vs,rfl,_⟩:=h
  trivial
def dX.okC{B:Nat}{g:Nat->Nat}{ob:Obs}{e:Nat}{cells:List C}{x:Option Addr}(h:dX O β g ob w e cells x):∀c∈cells,Go.Am.okC B g c:=by
 intro c b;cases x with
 |none=>have h:cells=[]:=h;subst h;cases b
 |some a=>
   cases d:a.spot with
   |none=>
     obtain⟨_,arr,el,m,f,_,_,_,j⟩:=h.cells d;obtain⟨i,f⟩:=C9 b;obtain⟨v,_,V⟩:=j i c f;exact V.okC
   |some n=>
     obtain⟨_,⟨p,Q,_,k⟩|⟨_,o,l,_⟩⟩:=h.map d
     .exact eI.okC (λ_ _=>jB.okC) k c b
     .subst l
      simp only[C6]at b;subst b;trivial
structure Conv (O:Bs) (B:Nat) (g:Nat->Nat) (E:Loc) (y:Nat->Nat) (ad:Obs) (w':World) (bl:Loc) (g2:Nat->Nat) (b3:Obs):Prop where
 imm:∀b,Imm O E ad w' b->Imm O bl b3 w' b
 live:∀id,id<B->g2 id=y id/\((b3 id).isSome=true->(ad id).isSome=true/\bl id=E id)
 dead:∀id,¬id<B->b3 id=none/\g2 id=g id
def Conv.rep(k:Conv O B g E y ad w' bl g2 b3){v:Value}(p:okC B g c)(h:aD O E y ad w' c v):aD O bl g2 b3 w' c v:=by
 have r:∀id x,id<B\/x<=g id->x<=y id->x<=g2 id:=λid x I U=>by
  by_cases e:id<B
  .rw[(k.live id e).1];exact U
  .rw[(k.dead id e).2];exact I.resolve_left e
 have j:∀id x,g2 id=x->(b3 id).isSome=T->y id=x/\(ad id).isSome=T/\bl id=E id:=λid x I ho=>by
  by_cases e:id<B
  .exact⟨by rw[<-(k.live id e).1];exact I,(k.live id e).2 ho⟩
  .rw[(k.dead id e).1]at ho;cases ho
 cases c with
 |d x=>exact cr.mono h λb e=>⟨k.imm b e,rfl⟩
 | osl id x sz off len=>exact⟨h.1,r id x p h.2.1,λl ho=>by
    obtain⟨q,J,m⟩:=j id x l ho;rw[m];exact h.2.2 q J⟩
 | ptr id x off=>exact⟨h.1,r id x p h.2.1,λl ho=>by
    obtain⟨q,J,m⟩:=j id x l ho;rw[m];exact h.2.2 q J⟩
 | mp id x H=>exact⟨h.1,r id x p h.2.1,λl ho=>by
    obtain⟨q,J,m⟩:=j id x l ho;rw[m];exact h.2.2 q J⟩
 |lsl n=>exact h
 |raw o=>exact h.elim
 |clo f K=>
   obtain⟨vs,U,Y,t⟩:=h;refine⟨vs,U,Y,λi pc s=>?_⟩;obtain⟨u,A,V⟩:=t i pc s;refine⟨u,A,?_⟩;have a:=p pc (l5 s);cases pc with
   |d x=>exact cr.mono V λb e=>⟨k.imm b e,rfl⟩
   | ptr id x off=>exact⟨V.1,r id x a V.2.1,λl ho=>by
      obtain⟨q,J,m⟩:=j id x l ho;rw[m];exact V.2.2 q J⟩
def Conv.repM(d:Conv O B g E y ad w' bl g2 b3){kd:Nat}{v:Value}(e:okC B g c)(h:jB O E y ad w' kd c v):jB O bl g2 b3 w' kd c v:=by
 unfold jB at h|-;split
 .rename_i a
  rw[l7 a]at h;exact d.rep e h
 .rename_i a
  rw[j8 a]at h;obtain⟨ds,vs,f,j,k,l⟩:=h;exact⟨ds,vs,f,j,k,λi x I=>let ⟨u,hu,V⟩:=l i x I;⟨u,hu,cr.mono V λb m=>⟨d.imm b m,rfl⟩⟩⟩
def eI.okMono{R n:C->Value->Prop}{kd:TypeDesc}{cs:List C}{es:List MapEntry}(h:eI R kd cs es)(a:∀c∈cs,Go.Am.okC B g c)(V:∀c v,Go.Am.okC B g c->R c v->n c v):eI n kd cs es:=by
 induction h with
 |nil=>exact .nil
 |cons b U Y _ d=>exact .cons b U (V _ _ (a _ a8) Y) (d λc hc=>a c Yk)
def Conv.obj(f:Conv O B g E y ad w' bl g2 b3){e:Nat}{x:Option Addr}(i:∀c∈cells,okC B g c)(h:dX O E y ad w' e cells x):dX O bl g2 b3 w' e cells x:=by
 cases x with
 |none=>exact h
 |some a=>
   cases b:a.spot with
   |none=>
     obtain⟨U,arr,el,l,m,Y,n,d,o⟩:=h.cells b;refine .ofCells b ⟨U,arr,el,l,m,Y,n,d,λj c k=>?_⟩;obtain⟨v,p,V⟩:=o j c k;exact⟨v,p,f.rep (i c (l5 k)) V⟩
   |some u=>
     obtain⟨U,⟨q,Q,Y,d⟩|r⟩:=h.map b
     .exact .ofMap b ⟨U,.inl ⟨q,Q,Y,d.okMono i λ_ _ s t=>f.repM s t⟩⟩
     .exact .ofMap b ⟨U,.inr r⟩
def vx{av M:Nat}{an:List Nat}{fa:Nat->AV}{a0 W:Act}{s':St}{E:Loc}(X:Rel O M ⟨fa,g,ob⟩ β a0 w)(V:Rel O av s' E W w')
 {n:St}(l:n.gen=g)(m:n.obj=ob)(v:Tr O β n w E s' w')(L:∀i∈an,i<B)(hB:∀i,B<=i->ob i=N)(J:HI B an g ob s'.gen s'.obj):
  ∃bl:Loc,Conv O B g E s'.gen s'.obj w' bl (jT an g s'.gen) (fM an ob s'.obj)/\
   (∀id cells,fM an ob s'.obj id=S cells->dX O bl (jT an g s'.gen) (fM an ob s'.obj) w' (jT an g s'.gen id) cells (bl id))/\
   (∀id K a W,(fM an ob s'.obj id).isSome=T->(fM an ob s'.obj K).isSome=T->bl id=S a->bl K=S W->a.block=W.block->id=K)/\
   (∀id,(fM an ob s'.obj id).isSome=T->(s'.obj id).isSome=T/\¬B<=id/\bl id=E id)/\
   Tr O β ⟨fa,g,ob⟩ w bl ⟨fa,jT an g s'.gen,fM an ob s'.obj⟩ w':=by
 subst l m
 have f:∀id,(n.obj id).isSome=T->id<B:=λid ho=>Q5 λx=>by
  rw[hB id a6]at ho;cases ho
 have A:∀id,id∈an->jT an n.gen s'.gen id=s'.gen id/\fM an n.obj s'.obj id=s'.obj id:=λid h=>⟨l7 h,l7 h⟩
 have d:∀id,id∉an->jT an n.gen s'.gen id=n.gen id/\fM an n.obj s'.obj id=n.obj id:=λid h=>⟨j8 h,j8 h⟩
 have b1:∀id,id∉an->(n.obj id).isSome=T->s'.gen id=n.gen id/\(s'.obj id).isSome=T/\E id=β id:=λid h ho=>by
  obtain⟨t,y⟩:=J.same id (f id ho) h;have r:(s'.obj id).isSome=T:=by rw[y];exact ho
  exact⟨t,r,(v.keep.live id t r).2.1⟩
 let bl:Loc:=λid=>if id∈an then E id else β id
 have j:∀id,id∈an->bl id=E id:=λid h=>l7 h;have k:∀id,id∉an->bl id=β id:=λid h=>j8 h
 have I:∀id,(fM an n.obj s'.obj id).isSome=T->(s'.obj id).isSome=T/\¬B<=id/\bl id=E id:=λid ho=>by
  by_cases h:id∈an
  .rw[(A id h).2]at ho
   exact⟨ho,by have:=L id h;omega,j id h⟩
  .rw[(d id h).2]at ho
   obtain⟨_,y,r⟩:=b1 id h ho;exact⟨y,by have:=f id ho;omega,(k id h).trans r.symm⟩
 have bc:∀b,Imm O E s'.obj w' b->Imm O bl (fM an n.obj s'.obj) w' b:=λb p=>⟨p.1,p.2.1,λid a ho H=>by
  obtain⟨t,_,r⟩:=I id ho;exact p.2.2 id a t (by rw[<-r];exact H)⟩
 have e:Conv O B n.gen E s'.gen s'.obj w' bl (jT an n.gen s'.gen) (fM an n.obj s'.obj):=by
  refine⟨bc,λid p=>⟨?_,λho=>⟨(I id ho).1,(I id ho).2.2⟩⟩,λid p=>?_⟩
  .by_cases h:id∈an
   .exact(A id h).1
   .rw[(d id h).1,(J.same id p h).1]
  .have h:id∉an:=λh=>p (L id h)
   exact⟨by rw[(d id h).2];exact hB id a6,(d id h).1⟩
 refine⟨bl,e,λid cells x=>?_,λQ u Z a2 U Y e1 e2 p=>?_,I,v.size,v.old,⟨λb p=>⟨bc b (v.imm b p).1,(v.imm b p).2⟩,λid=>?_,λid hg ho=>?_⟩,v.os⟩
 .by_cases h:id∈an
  .rw[(A id h).1,j id h]
   rw[(A id h).2]at x;exact e.obj (λc o=>(J.low id h cells x c o).ok) (V.obj id cells x)
  .rw[(d id h).1,k id h]
   rw[(d id h).2]at x;have ho:(n.obj id).isSome=T:=by rw[x];rfl
   obtain⟨t,y,r⟩:=b1 id h ho;have U:=V.obj id cells (by rw[(J.same id (f id ho) h).2];exact x);rw[t,r]at U;exact e.obj (λc o=>(X.obj id cells x).okC c o) U
 .obtain⟨p1,_,p3⟩:=I Q U
  obtain⟨p4,_,p6⟩:=I u Y;exact V.inj Q u Z a2 p1 p4 (by rw[<-p3];exact e1) (by rw[<-p6];exact e2) p
 .show n.gen id<=jT an n.gen s'.gen id
  by_cases h:id∈an
  .rw[(A id h).1];exact v.gen id
  .rw[(d id h).1];exact l0 _
 .change jT an n.gen s'.gen id=n.gen id at hg
  change (fM an n.obj s'.obj id).isSome=T at ho;by_cases h:id∈an
  .rw[(A id h).1]at hg
   rw[(A id h).2]at ho;obtain⟨t,y,r⟩:=v.keep.live id hg ho;exact⟨t,(j id h).trans y,r⟩
  .rw[(d id h).2]at ho
   obtain⟨t,y,r⟩:=b1 id h ho;exact⟨ho,k id h,(v.keep.live id t y).2.2⟩
def fT.repL{B av:Nat}{s:St}{a:Act}{Z:Obs}(J:∀id,(Z id).isSome=T->(s.obj id).isSome=T/\¬B<=id)(V:Rel O av s β a w){g':Nat->Nat}{E:Loc}(H:∀id,(Z id).isSome=T->E id=β id):
  ∀{A d:List AV}{vs:List Value},fT B s A d->aO O β s.gen s.obj w A vs->aO O E g' Z w d vs
 |[],d,vs,h,b=>by simp only[fT]at h;subst h;simp only[aO]at b|-;exact b
 |t::A,d,vs,h,b=>by
   simp only[fT]at h;obtain⟨r,q,rfl,U,Y⟩:=h;simp only[aO]at b|-;obtain⟨u,f,e,i,j⟩:=b;exact⟨u,f,e,U.rep J V i H,fT.repL J V H Y j⟩
def bD(B:Nat)(an:List Nat)(g:Nat->Nat)(ob:Obs)(R:AV->(Nat->Nat)->Obs->Prop)(s:St)(Q:List AV):Prop:=HI B an g ob s.gen s.obj/\∃q,fT B s Q q/\R (pack q) (jT an g s.gen) (fM an ob s.obj)
def FY(G:Nat->TI)(rs:List ResultVar)(B:Nat)(an:List Nat)(g:Nat->Nat)(ob:Obs)(R:AV->(Nat->Nat)->Obs->Prop):Exit->St->Prop
 |.normal,s|.ret,s=>∃a,ae s a/\lN G a rs (bx λQ=>bD B an g ob R a Q)
 |_,_=>False
def HJ(B:Nat)(an:List Nat)(g:Nat->Nat)(ob:Obs)(X:Pan):fW:=λa s=>HI B an g ob s.gen s.obj/\X a (jT an g s.gen) (fM an ob s.obj)
def CO(B:Nat)(an:List Nat)(hT:bp P G)(Z:P.follows .mixedOrders=T){f:FuncId}{fn:Func}{c:Code}(hf:P.funcs[f]?=S fn)(I:fn.body=S c)(hn:(fn.name == "runtime.NumGoroutine")=F)
 (rs:List ResultVar)(L:fn.results=rs.toArray)(j:gv c=T)(bd:codeOk fn.ntmps c=T)(p:z xs<=fn.ntmps){X:Pan}
 (J:∀i∈an,i<B)(hB:∀i,B<=i->ob i=N)
 (h:∀O bo s0 w0,wpC (spF P N O (Ak O bo s0 w0) B (HJ B an g ob X)) G c (bx (FY G rs B an g ob R)) ⟨dA xs,g,ob⟩):fv P f xs g ob R X:=by
 refine⟨⟨fn,hf,by rw[I];rfl,hn⟩,λO av β a fa w vs r hv=>?_⟩;refine jr (n:=0) (callsIn_of_wp hf I trivial ?_);have V:=mE (av:=fn.ntmps) p r hv;refine wpIn_mono (cB (rd:=N) (B:=B) (ds:=[]) hT Z aa c j bd V ⟨rfl,Tr.refl⟩ (h O β ⟨dA xs,g,ob⟩ w)) (λe W w' hp=>?_);obtain⟨s',E,a0,bc,rfl,m,bk,rfl,K⟩:=hp;rcases m with m|⟨Y,rfl,s,hX⟩
 .have d:FY G rs B an g ob R .ret s'->∃v,(results fn a0.tmps).run P w'=.ok v w'/\PU O β fa g ob w R X (.returned v) w':=by
   rintro⟨s2,bz,hR⟩;obtain⟨bl,t,a1⟩:=bz O fn.ntmps E a0 w' bk;have H:=K.trans a1;obtain⟨v,Q,U,⟨s,q,eo,b⟩,h3,k,rfl,h4⟩:=dY hT t L hR;obtain⟨u,b1,x,y,o,A⟩:=vx (a0:=a) (fa:=fa) r t rfl rfl H J hB s;refine⟨lr k,U,.inl ⟨lr k,_,_,_,u,rfl,b,vo (eo.repL (λid ho=>⟨(o id ho).1,(o id ho).2.1⟩) t (λid ho=>(o id ho).2.2) h4),x,y,A⟩⟩
  cases e with
  |normal=>exact⟨rfl,d m⟩
  |ret=>exact⟨rfl,d m⟩
  |exit id=>exact m.elim
  |goto l=>exact m.elim
  |panic Y=>exact m.elim
  |outgrown=>exact m.elim
 .obtain⟨u,b1,x,y,o,A⟩:=vx (a0:=a) (fa:=fa) r bk rfl rfl K J hB s
  exact⟨rfl,.inr ⟨Y,_,_,u,rfl,hX,x,y,A⟩⟩
def fv.toR{f:FuncId}(h:fv P f xs g ob R (λ_ _ _=>False)):jl P f xs g ob R:=
 ⟨h.1,λO b β a d w vs U Y=>(h.2 O b β a d w vs U Y).mono λ_ _ q=>q.elim id λ⟨_,_,_,_,_,h,_⟩=>h.elim⟩
def HK{t:Nat}{g g':Nat->Nat}(h:g' t=g t):jT [t] g g'=g:=by
 funext i;simp only[jT,C6];split
 .rename_i e;subst e;exact h
 .rfl
def HL{t:Nat}{ob Z:Obs}:fM [t] ob Z=upd ob t (Z t):=by
 funext i;simp only[fM,C6,upd];split
 .rename_i e;subst e;rfl
 .rfl
def HM{g g':Nat->Nat}:jT [] g g'=g:=by funext i;simp[jT]
def HN{ob Z:Obs}:fM [] ob Z=ob:=by funext i;simp[fM]
def fN{k:Type}{P:Nat->Prop}{s:St}{id g sz n:Nat}(o:P id)(hg:s.gen id=g)(l:List k)(enc:k->List D)(ho:s.obj id=S cells)(m:cells=l.flatMap (λa=>(enc a).map .d))(bc:∀a∈l,z (enc a)=sz)(f:z l=n):
  iB P s (.osl id g sz 0 n) (.sl (l.map enc)):=by
 have i:(l.map enc).flatten.map C.d=cells:=by rw[m,List.flatMap_def,List.map_flatten,P6];rfl
 have p:z (l.map enc).flatten=n*sz:=by
  rw[<-f];clear ho m f i
  induction l with
  |nil=>simp
  |cons a l q=>simp only[l9,D8,j4,j6,bc a a8,q (λb hb=>bc b Xg),F2];omega
 refine .osl o hg ho (by rw[<-i,j5,p];omega) (by simpa using f) (λe r=>by obtain⟨a,t,rfl⟩:=G3.1 r;exact bc a t) (λj=>.d ((l.map enc).flatten.getD j default)) (λj x I=>?_) (λj x I=>?_)
 .rw[B9,<-i,y7,I]
  simp[List.getD,I]
 .simp only[List.getD,I,A2]
  exact .d x
end
end
section
section
variable{P:Program}{G:Nat->TI}{O:Bs}{β:Loc}{w:World}
end
section
variable{P:Program}{G:Nat->TI}{O:Bs}{w:World}{rd:Option Nat}{m:St->Loc->List Deferred->World->Prop}{n:fW}
def TH(ops:Array Oper):Bool:=ops.toList.any fal
def kU(X:Prop)(hT:bp P G)(t:P.follows .mixedOrders=T)(u:br O m){B id:Nat}{ops:Array Oper}{s:St}{Q:Exit->St->Prop}{q:Box Q}(p:List Nat)(y:List (List Nat×List Nat×List Nat×Bool))(g:Nat)(f:ops.toList.all aX=T)(j:(vl ops y g&&TH ops)=T)(w:z p=g)(x:p.Nodup)
 (h:eU (spF P rd O m B n) G ops p X (jC ops.toList y) s (bx λl=>X->Q .normal l)):ll (spF P rd O m B n) G id ops s q:=by
 rw[l4]at j;obtain⟨U,I,Y,A,E⟩:=vn (Q:=Q) p y g j.1 w x h;refine xz hT t u f U I Y (λL s i o a b c d e=>.inl (A L s i o a b c d e)) (λL l J V=>E L l J V ?_);obtain⟨o,ho,W⟩:=O6.1 j.2;obtain⟨i,Z⟩:=C9 ho;exact .inl ⟨i,o,by simpa using Z,W⟩
end
variable{v:AV}{y:Option (List C)}
section steps
variable{an:Sp}{G:Nat->TI}{ops:Array Oper}{p:List Nat}{X:Prop}{f:Nat->AV}{g:Nat->Nat}{ob:Nat->Option (List C)}{K:St->Prop}{k:Box K}{op:Op}{ty:TypeId}{ps:String}{H:Array Edge}{gd:Option (Nat×Bool)}{rd hd:List Nat}{r:List Ent}{d:Nat}
def bY(hf:fal ⟨S d,op,ty,ps,H,gd⟩=F)(hg:GdE ops ⟨⟨S d,op,ty,ps,H,gd⟩,rd,hd,[],F⟩ ⟨f,g,ob⟩)(U:∀(fa:Nat->AV)(a:Nat->Nat)(b:Nat->Option (List C))(K':St->Prop),K' ⟨upd (maskf rd f fa) d v,maskm p hd g a,maskm p hd ob b⟩->opA an G ⟨S d,op,ty,ps,H,gd⟩ ⟨maskf rd f fa,maskm p hd g a,maskm p hd ob b⟩ (bx K'))
 (Y:eU an G ops p X r ⟨upd f d v,g,ob⟩ k):eU an G ops p X (⟨⟨S d,op,ty,ps,H,gd⟩,rd,hd,[],F⟩::r) ⟨f,g,ob⟩ k:=by
 unfold eU;exact⟨v,[],⟨rfl,λfa a b K' J=>U fa a b K' (J λh=>by rw[hf]at h;cases h),hg⟩,Y⟩
def kg{a x:Nat}(hf:fal ⟨S d,op,ty,ps,H,gd⟩=F)(hg:GdE ops ⟨⟨S d,op,ty,ps,H,gd⟩,rd,hd,[a],F⟩ ⟨f,g,ob⟩)(U:∀(fa:Nat->AV)(b:Nat->Nat)(c:Nat->Option (List C))(K':St->Prop),K' ⟨upd (maskf rd f fa) d v,upd (maskm p hd g b) (p.getD a 0) x,upd (maskm p hd ob c) (p.getD a 0) y⟩->opA an G ⟨S d,op,ty,ps,H,gd⟩ ⟨maskf rd f fa,maskm p hd g b,maskm p hd ob c⟩ (bx K'))
 (Y:eU an G ops p X r ⟨upd f d v,upd g (p.getD a 0) x,upd ob (p.getD a 0) y⟩ k):eU an G ops p X (⟨⟨S d,op,ty,ps,H,gd⟩,rd,hd,[a],F⟩::r) ⟨f,g,ob⟩ k:=by
 unfold eU;exact⟨v,[(x,y)],⟨rfl,λfa b c K' J=>U fa b c K' (J λh=>by rw[hf]at h;cases h),hg⟩,Y⟩
def kV{a:Nat}(hg:GdE ops ⟨⟨S d,op,ty,ps,H,gd⟩,rd,hd,[a],F⟩ ⟨f,g,ob⟩)(hv:p.getD a 0∉hd.map (λb=>p.getD b 0))(U:∀(fa:Nat->AV)(m:Nat->Nat)(n:Nat->Option (List C))(K':St->Prop),(X->K' ⟨upd (maskf rd f fa) d v,maskm p hd g m,upd (maskm p hd ob n) (p.getD a 0) y⟩)->opA an G ⟨S d,op,ty,ps,H,gd⟩ ⟨maskf rd f fa,maskm p hd g m,maskm p hd ob n⟩ (bx K'))
 (Y:eU an G ops p X r ⟨upd f d v,g,upd ob (p.getD a 0) y⟩ k):eU an G ops p X (⟨⟨S d,op,ty,ps,H,gd⟩,rd,hd,[a],F⟩::r) ⟨f,g,ob⟩ k:=by
 have c:∀(o:Type)(h:Nat->o)(i:Nat),upd h i (h i)=h:=λo h i=>by funext j;simp only[upd];split<;>simp_all
 have l:∀m:Nat->Nat,maskm p hd g m (p.getD a 0)=g (p.getD a 0):=λm=>by
  clear U Y hg
  induction hd with
  |nil=>rfl
  |cons b I ih=>
    exact VY
 unfold eU;refine⟨v,[(g (p.getD a 0),y)],⟨rfl,λfa m n K' J=>U fa m n K' (λq=>?_),hg⟩,?_⟩
 .have e:mD p ⟨⟨S d,op,ty,ps,H,gd⟩,rd,hd,[a],F⟩ v [(g (p.getD a 0),y)] ⟨maskf rd f fa,maskm p hd g m,maskm p hd ob n⟩=⟨upd (maskf rd f fa) d v,maskm p hd g m,upd (maskm p hd ob n) (p.getD a 0) y⟩:=by
   simp only[mD,yz,setm,l9,v8];rw[<-l m,c]
  rw[<-e];exact J λ_=>q
 .have e:mD p ⟨⟨S d,op,ty,ps,H,gd⟩,rd,hd,[a],F⟩ v [(g (p.getD a 0),y)] ⟨f,g,ob⟩=⟨upd f d v,g,upd ob (p.getD a 0) y⟩:=by
   simp only[mD,yz,setm,l9,v8];rw[c]
  rw[e];exact Y
def kW{o:Oper}{ef:List Nat}(hf:fal o=F)(hg:GdE ops ⟨o,rd,hd,ef,T⟩ ⟨f,g,ob⟩)(h:∀K':St->Prop,(∀P,K P->K' P)->opA an G o ⟨f,g,ob⟩ (bx K')):eU an G ops p X [⟨o,rd,hd,ef,T⟩] ⟨f,g,ob⟩ k:=by
 unfold eU;exact⟨⟨λa=>(by rw[hf]at a;cases a),h⟩,hg⟩
end steps
end
end
section
attribute[local congr]ite_cc
section
section
variable{P:Program}{O:Bs}{rd:Option Nat}{B0:Nat}{Ψ:fW}{op:Oper}{s:St}{K:St->Prop}{k:Box K}{f:FuncId}{args:Array Operand}{tys:Array TypeId}{R:AV->Prop}{bo:Loc}{s0:St}{w0:World}
def bT(ho:op.op=.call ⟨.value (.func f),args,tys⟩)(hp:aF P f (args.toList.map s.ev) R)(hk:∀r,R r->K (s.put op.dst r))(hd:(args.toList.map s.ev).all fk=T:=by simp only[go_sem];rfl):bu (sp P) op s k:=
 fY ho hp hd hk
def cK{X:Nat}{o:cg}(ho:op.op=.call ⟨.value (.func f),args,tys⟩)(hp:bP P X o f (args.toList.map s.ev) R)(hk:∀r,R r->K (s.put op.dst r))(hd:(args.toList.map s.ev).all fk=T:=by simp only[go_sem];rfl):bu (spF P rd O (FT X o O bo s0 w0) B0 Ψ) op s k:=
 jS aG (λ_ _ _ _ h=>h.1.2) ho hp hd hk
def jU{X:Nat}{o:cg}(ho:op.op=.call ⟨.value (.func f),args,tys⟩)(hp:aF P f (args.toList.map s.ev) R)(hk:∀r,R r->K (s.put op.dst r))(hd:(args.toList.map s.ev).all fk=T:=by simp only[go_sem];rfl):bu (spF P rd O (FT X o O bo s0 w0) B0 Ψ) op s k:=
 jR aG ho hp hd hk
def Wz(ho:op.op=.call ⟨.value (.func f),args,tys⟩)(hp:aF P f (args.toList.map s.ev) R)(hk:∀r,R r->K (s.put op.dst r))(hd:(args.toList.map s.ev).all fk=T:=by simp only[go_sem];rfl):bu (spF P rd O (Ak O bo s0 w0) B0 Ψ) op s k:=
 jR aa ho hp hd hk
end
end
end
end Go.Am
namespace Go.Proofs.YtednjibjomfhfaaGreatDoor
section
open Go Go.Am
attribute[local congr]ite_cc
section
def ti3:TI:=⟨.int .i64,1,8,[.int .i64 0]⟩
def ti4:TI:=⟨.bool,1,1,[.bool F]⟩
def ti5:TI:=⟨.int .u8,1,1,[.int .u8 0]⟩
def ti9:TI:=⟨.string,1,16,[.str []]⟩
def TO:TI:=⟨.interface #[],1,16,[.nili]⟩
def Qe:TI:=⟨.slice 9,1,24,[.nsl]⟩
def Qf:TI:=⟨.slice 45,1,24,[.nsl]⟩
def Qg:TI:=⟨.slice 60,1,24,[.nsl]⟩
def LV:TI:=⟨.struct #[⟨ "Vars",22,0,F,"","",0⟩,⟨ "Arrays",23,1,F,"","",24⟩,⟨ "Funcs",24,2,F,"","",48⟩],3,72,[.nsl,.nsl,.nsl]⟩
def Qh:TI:=⟨.slice 57,1,24,[.nsl]⟩
def LW:TI:=⟨.struct #[⟨ "Code",34,0,F,"","",0⟩,⟨ "Data",3,1,F,"","",24⟩],2,32,[.nsl,.int .i64 0]⟩
def LX:TI:=⟨.struct #[⟨ "End",3,0,F,"","",0⟩,⟨ "Out",9,1,F,"","",8⟩,⟨ "Steps",3,2,F,"","",24⟩],3,32,[.int .i64 0,.str [],.int .i64 0]⟩
def TP:TI:=⟨.func #[26] #[36,30] F,1,8,[.nilf]⟩
def Ic:TI:=⟨.struct #[⟨ "Name",9,0,F,"","",0⟩,⟨ "Size",3,1,F,"","",16⟩],2,24,[.str [],.int .i64 0]⟩
def LY:TI:=⟨.pointer 51,1,8,[.nilp]⟩
def Qi:TI:=⟨.slice 5,1,24,[.nsl]⟩
def Ie:TI:=⟨.struct #[⟨ "addr",48,0,F,"","strings",0⟩,⟨ "buf",49,1,F,"","strings",8⟩],2,32,[.nilp,.nsl]⟩
def LZ:TI:=⟨.struct #[⟨ "text",51,0,F,"","seedcorn/syntax",0⟩],2,32,[.nilp,.nsl]⟩
def Ma:TI:=⟨.int .u32,1,4,[.int .u32 0]⟩
def Qj:TI:=⟨.slice 100,1,24,[.nsl]⟩
def Ig:TI:=⟨.struct #[⟨ "Name",9,0,F,"","",0⟩,⟨ "Params",22,1,F,"","",16⟩,⟨ "Locals",22,2,F,"","",40⟩,⟨ "Word",4,3,F,"","",64⟩,⟨ "Body",58,4,F,"","",72⟩],5,96,[.str [],.nsl,.nsl,.bool F,.nsl]⟩
def TQ:TI:=⟨.func #[36] #[9,30] F,1,8,[.nilf]⟩
def Qk:TI:=⟨.array 16 57,16,64,[.int .u32 0,.int .u32 0,.int .u32 0,.int .u32 0,.int .u32 0,.int .u32 0,.int .u32 0,.int .u32 0,.int .u32 0,.int .u32 0,.int .u32 0,.int .u32 0,.int .u32 0,.int .u32 0,.int .u32 0,.int .u32 0]⟩
def Mb:TI:=⟨.struct #[⟨ "PC",3,0,F,"","",0⟩,⟨ "Reg",70,1,F,"","",8⟩,⟨ "Mem",34,17,F,"","",72⟩,⟨ "Read",3,18,F,"","",96⟩,⟨ "Out",9,19,F,"","",104⟩,⟨ "Steps",3,20,F,"","",120⟩,⟨ "End",3,21,F,"","",128⟩],22,136,[.int .i64 0,.int .u32 0,.int .u32 0,.int .u32 0,.int .u32 0,.int .u32 0,.int .u32 0,.int .u32 0,.int .u32 0,.int .u32 0,.int .u32 0,.int .u32 0,.int .u32 0,.int .u32 0,.int .u32 0,.int .u32 0,.int .u32 0,.nsl,.int .i64 0,.str [],.int .i64 0,.int .i64 0]⟩
def Ql:TI:=⟨.slice 123,1,24,[.nsl]⟩
def Mc:TI:=⟨.struct #[⟨ "Words",3,0,F,"","",0⟩,⟨ "Funcs",75,1,F,"","",8⟩],2,32,[.int .i64 0,.nsl]⟩
def Qm:TI:=⟨.slice 141,1,24,[.nsl]⟩
def Md:TI:=⟨.struct #[⟨ "Words",3,0,F,"","",0⟩,⟨ "Funcs",82,1,F,"","",8⟩],2,32,[.int .i64 0,.nsl]⟩
def TR:TI:=⟨.func #[77] #[36,30] F,1,8,[.nilf]⟩
def TS:TI:=⟨.pointer 53,1,8,[.nilp]⟩
def Me:TI:=⟨.int .u64,1,8,[.int .u64 0]⟩
def Qn:TI:=⟨.slice 187,1,24,[.nsl]⟩
def Ih:TI:=⟨.struct #[⟨ "Kind",3,0,F,"","",0⟩,⟨ "Name",9,1,F,"","",8⟩,⟨ "E",98,2,F,"","",24⟩,⟨ "Then",58,3,F,"","",48⟩,⟨ "Else",58,4,F,"","",72⟩],5,96,[.int .i64 0,.str [],.nsl,.nsl,.nsl]⟩
def OP:TI:=⟨.pointer 5,1,8,[.nilp]⟩
def OQ:TI:=⟨.pointer 156,1,8,[.nilp]⟩
def OR:TI:=⟨.func #[105] #[] F,1,8,[.nilf]⟩
def Eu:TI:=⟨.slice 3,1,24,[.nsl]⟩
def Ii:TI:=⟨.map 9 119,1,8,[.nilm]⟩
def Ev:TI:=⟨.struct #[⟨ "outside",113,0,F,"","seedcorn/core",0⟩,⟨ "inside",113,1,F,"","seedcorn/core",8⟩],2,16,[.nilm,.nilm]⟩
def Ew:TI:=⟨.struct #[⟨ "slot",3,0,F,"","seedcorn/core",0⟩,⟨ "size",3,1,F,"","seedcorn/core",8⟩],2,16,[.int .i64 0,.int .i64 0]⟩
def Ij:TI:=⟨.slice 173,1,24,[.nsl]⟩
def AG:TI:=⟨.struct #[⟨ "Params",3,0,F,"","",0⟩,⟨ "Slots",3,1,F,"","",8⟩,⟨ "First",3,2,F,"","",16⟩,⟨ "Word",4,3,F,"","",24⟩,⟨ "Body",120,4,F,"","",32⟩],5,56,[.int .i64 0,.int .i64 0,.int .i64 0,.bool F,.nsl]⟩
def Ik:TI:=⟨.slice 110,1,24,[.nsl]⟩
def Ey:TI:=⟨.struct #[⟨ "depths",124,0,F,"","seedcorn/emit",0⟩,⟨ "back",110,1,F,"","seedcorn/emit",24⟩,⟨ "base",110,2,F,"","seedcorn/emit",48⟩,⟨ "data",3,3,F,"","seedcorn/emit",72⟩],4,80,[.nsl,.nsl,.nsl,.int .i64 0]⟩
def OS:TI:=⟨.pointer 132,1,8,[.nilp]⟩
def Il:TI:=⟨.slice 135,1,24,[.nsl]⟩
def Im:TI:=⟨.slice 181,1,24,[.nsl]⟩
def Ez:TI:=⟨.struct #[⟨ "s",84,0,F,"","seedcorn/emit",0⟩,⟨ "plan",126,2,F,"","seedcorn/emit",32⟩,⟨ "code",129,6,F,"","seedcorn/emit",112⟩,⟨ "entry",110,7,F,"","seedcorn/emit",136⟩,⟨ "places",124,8,F,"","seedcorn/emit",160⟩,⟨ "holes",130,9,F,"","seedcorn/emit",184⟩,⟨ "f",3,10,F,"","seedcorn/emit",208⟩,⟨ "depth",3,11,F,"","seedcorn/emit",216⟩],12,224,[.int .i64 0,.nsl,.nsl,.nsl,.nsl,.int .i64 0,.nsl,.nsl,.nsl,.nsl,.int .i64 0,.int .i64 0]⟩
def AH:TI:=⟨.struct #[⟨ "Op",3,0,F,"","",0⟩,⟨ "A",3,1,F,"","",8⟩,⟨ "B",3,2,F,"","",16⟩,⟨ "C",3,3,F,"","",24⟩],4,32,[.int .i64 0,.int .i64 0,.int .i64 0,.int .i64 0]⟩
def Io:TI:=⟨.slice 252,1,24,[.nsl]⟩
def AI:TI:=⟨.struct #[⟨ "Params",3,0,F,"","",0⟩,⟨ "Slots",3,1,F,"","",8⟩,⟨ "First",3,2,F,"","",16⟩,⟨ "Word",4,3,F,"","",24⟩,⟨ "Code",138,4,F,"","",32⟩],5,56,[.int .i64 0,.int .i64 0,.int .i64 0,.bool F,.nsl]⟩
def Ip:TI:=⟨.func #[98] #[] F,1,8,[.nilf]⟩
def Iq:TI:=⟨.slice 159,1,24,[.nsl]⟩
def EA:TI:=⟨.struct #[⟨ "at",3,0,F,"","seedcorn/parse",0⟩],1,8,[.int .i64 0]⟩
def EB:TI:=⟨.struct #[⟨ "tokens",150,0,F,"","seedcorn/parse",0⟩,⟨ "next",3,1,F,"","seedcorn/parse",24⟩,⟨ "end",3,2,F,"","seedcorn/parse",32⟩],3,40,[.nsl,.int .i64 0,.int .i64 0]⟩
def AJ:TI:=⟨.struct #[⟨ "Kind",3,0,F,"","",0⟩,⟨ "Text",9,1,F,"","",8⟩,⟨ "Num",57,2,F,"","",24⟩,⟨ "At",3,3,F,"","",32⟩],4,40,[.int .i64 0,.str [],.int .u32 0,.int .i64 0]⟩
def Ir:TI:=⟨.slice 4,1,24,[.nsl]⟩
def EC:TI:=⟨.struct #[⟨ "s",72,0,F,"","seedcorn/seedcornref10",0⟩,⟨ "out",49,22,F,"","seedcorn/seedcornref10",136⟩,⟨ "code",129,23,F,"","seedcorn/seedcornref10",160⟩,⟨ "ok",164,24,F,"","seedcorn/seedcornref10",184⟩,⟨ "words",34,25,F,"","seedcorn/seedcornref10",208⟩,⟨ "in",9,26,F,"","seedcorn/seedcornref10",232⟩,⟨ "counts",110,27,F,"","seedcorn/seedcornref10",248⟩],28,272,[.int .i64 0,.int .u32 0,.int .u32 0,.int .u32 0,.int .u32 0,.int .u32 0,.int .u32 0,.int .u32 0,.int .u32 0,.int .u32 0,.int .u32 0,.int .u32 0,.int .u32 0,.int .u32 0,.int .u32 0,.int .u32 0,.int .u32 0,.nsl,.int .i64 0,.str [],.int .i64 0,.int .i64 0,.nsl,.nsl,.nsl,.nsl,.str [],.nsl]⟩
def Is:TI:=⟨.slice 246,1,24,[.nsl]⟩
def AK:TI:=⟨.struct #[⟨ "Kind",3,0,F,"","",0⟩,⟨ "Slot",3,1,F,"","",8⟩,⟨ "Size",3,2,F,"","",16⟩,⟨ "E",170,3,F,"","",24⟩,⟨ "Then",120,4,F,"","",48⟩,⟨ "Else",120,5,F,"","",72⟩],6,96,[.int .i64 0,.int .i64 0,.int .i64 0,.nsl,.nsl,.nsl]⟩
def It:TI:=⟨.map 3 255,1,8,[.nilm]⟩
def AL:TI:=⟨.struct #[⟨ "at",3,0,F,"","seedcorn/emit",0⟩,⟨ "f",3,1,F,"","seedcorn/emit",8⟩,⟨ "place",3,2,F,"","seedcorn/emit",16⟩],3,24,[.int .i64 0,.int .i64 0,.int .i64 0]⟩
def ED:TI:=⟨.struct #[⟨ "word",4,0,F,"","seedcorn/lower",0⟩,⟨ "code",138,1,F,"","seedcorn/lower",8⟩],2,32,[.bool F,.nsl]⟩
def AM:TI:=⟨.struct #[⟨ "Kind",3,0,F,"","",0⟩,⟨ "Op",3,1,F,"","",8⟩,⟨ "Num",57,2,F,"","",16⟩,⟨ "Name",9,3,F,"","",24⟩,⟨ "Kids",98,4,F,"","",40⟩],5,64,[.int .i64 0,.int .i64 0,.int .u32 0,.str [],.nsl]⟩
def Iu:TI:=⟨.slice 196,1,24,[.nsl]⟩
def AN:TI:=⟨.struct #[⟨ "Name",9,0,F,"","",0⟩,⟨ "As",3,1,F,"","",16⟩,⟨ "Of",3,2,F,"","",24⟩],3,32,[.str [],.int .i64 0,.int .i64 0]⟩
def OT:TI:=⟨.unsafePointer,1,8,[.nilp]⟩
def OU:TI:=⟨.array 24 5,24,24,[.int .u8 0,.int .u8 0,.int .u8 0,.int .u8 0,.int .u8 0,.int .u8 0,.int .u8 0,.int .u8 0,.int .u8 0,.int .u8 0,.int .u8 0,.int .u8 0,.int .u8 0,.int .u8 0,.int .u8 0,.int .u8 0,.int .u8 0,.int .u8 0,.int .u8 0,.int .u8 0,.int .u8 0,.int .u8 0,.int .u8 0,.int .u8 0]⟩
def OV:TI:=⟨.func #[5] #[4] F,1,8,[.nilf]⟩
def OW:TI:=⟨.pointer 168,1,8,[.nilp]⟩
def Iv:TI:=⟨.map 9 237,1,8,[.nilm]⟩
def EE:TI:=⟨.struct #[⟨ "outside",227,0,F,"","seedcorn/scope",0⟩,⟨ "inside",227,1,F,"","seedcorn/scope",8⟩],2,16,[.nilm,.nilm]⟩
def EF:TI:=⟨.struct #[⟨ "kind",3,0,F,"","seedcorn/scope",0⟩,⟨ "name",9,1,F,"","seedcorn/scope",8⟩,⟨ "arguments",3,2,F,"","seedcorn/scope",24⟩],3,32,[.int .i64 0,.str [],.int .i64 0]⟩
def EG:TI:=⟨.struct #[⟨ "kind",3,0,F,"","seedcorn/scope",0⟩,⟨ "number",3,1,F,"","seedcorn/scope",8⟩],2,16,[.int .i64 0,.int .i64 0]⟩
def Iw:TI:=⟨.func #[235] #[] F,1,8,[.nilf]⟩
def OX:TI:=⟨.pointer 290,1,8,[.nilp]⟩
def AO:TI:=⟨.struct #[⟨ "Kind",3,0,F,"","",0⟩,⟨ "Op",3,1,F,"","",8⟩,⟨ "Num",57,2,F,"","",16⟩,⟨ "Slot",3,3,F,"","",24⟩,⟨ "Size",3,4,F,"","",32⟩,⟨ "Kids",170,5,F,"","",40⟩],6,64,[.int .i64 0,.int .i64 0,.int .u32 0,.int .i64 0,.int .i64 0,.nsl]⟩
def EH:TI:=⟨.struct #[⟨ "items",110,0,F,"","seedcorn/stack",0⟩],1,24,[.nsl]⟩
def AP:TI:=⟨.struct #[⟨ "Op",3,0,F,"","",0⟩,⟨ "A",3,1,F,"","",8⟩,⟨ "B",3,2,F,"","",16⟩,⟨ "N",57,3,F,"","",24⟩],4,32,[.int .i64 0,.int .i64 0,.int .i64 0,.int .u32 0]⟩
def Ix:TI:=⟨.func #[128,252] #[] F,1,8,[.nilf]⟩
def EI:TI:=⟨.struct #[⟨ "name",9,0,F,"","seedcorn/inst",0⟩,⟨ "a",4,1,F,"","seedcorn/inst",16⟩,⟨ "b",4,2,F,"","seedcorn/inst",17⟩,⟨ "c",3,3,F,"","seedcorn/inst",24⟩],4,32,[.str [],.bool F,.bool F,.int .i64 0]⟩
def Iy:TI:=⟨.pointer 184,1,8,[.nilp]⟩
def OY:TI:=⟨.pointer 173,1,8,[.nilp]⟩
def OZ:TI:=⟨.array 20 97,20,160,[.int .u64 0,.int .u64 0,.int .u64 0,.int .u64 0,.int .u64 0,.int .u64 0,.int .u64 0,.int .u64 0,.int .u64 0,.int .u64 0,.int .u64 0,.int .u64 0,.int .u64 0,.int .u64 0,.int .u64 0,.int .u64 0,.int .u64 0,.int .u64 0,.int .u64 0,.int .u64 0]⟩
def Pa:TI:=⟨.array 24 9,24,384,[.str [],.str [],.str [],.str [],.str [],.str [],.str [],.str [],.str [],.str [],.str [],.str [],.str [],.str [],.str [],.str [],.str [],.str [],.str [],.str [],.str [],.str [],.str [],.str []]⟩
def Iz:TI:=⟨.func #[58] #[] F,1,8,[.nilf]⟩
def IA:TI:=⟨.map 9 60,1,8,[.nilm]⟩
def IB:TI:=⟨.func #[187] #[3] F,1,8,[.nilf]⟩
def IC:TI:=⟨.array 10 287,10,80,[.nilf,.nilf,.nilf,.nilf,.nilf,.nilf,.nilf,.nilf,.nilf,.nilf]⟩
def EJ:TI:=⟨.struct #[⟨ "funcs",286,0,F,"","seedcorn/typing",0⟩,⟨ "ask",288,1,F,"","seedcorn/typing",8⟩],11,88,[.nilm,.nilf,.nilf,.nilf,.nilf,.nilf,.nilf,.nilf,.nilf,.nilf,.nilf]⟩
def Pb:TI:=⟨.pointer 248,1,8,[.nilp]⟩
def Pd:TI:=⟨.pointer 246,1,8,[.nilp]⟩
def Pe:TI:=⟨.array 12 9,12,192,[.str [],.str [],.str [],.str [],.str [],.str [],.str [],.str [],.str [],.str [],.str [],.str []]⟩
def Pf:TI:=⟨.array 10 9,10,160,[.str [],.str [],.str [],.str [],.str [],.str [],.str [],.str [],.str [],.str []]⟩
def Pg:TI:=⟨.array 32 5,32,32,[.int .u8 0,.int .u8 0,.int .u8 0,.int .u8 0,.int .u8 0,.int .u8 0,.int .u8 0,.int .u8 0,.int .u8 0,.int .u8 0,.int .u8 0,.int .u8 0,.int .u8 0,.int .u8 0,.int .u8 0,.int .u8 0,.int .u8 0,.int .u8 0,.int .u8 0,.int .u8 0,.int .u8 0,.int .u8 0,.int .u8 0,.int .u8 0,.int .u8 0,.int .u8 0,.int .u8 0,.int .u8 0,.int .u8 0,.int .u8 0,.int .u8 0,.int .u8 0]⟩
def Tt:Nat->TI:=Eo [(3,ti3),(4,ti4),(5,ti5),(9,ti9),(20,TO),(22,Qe),(23,Qf),(24,Qg),(25,LV),(26,LV),(30,ti3),(34,Qh),(35,LW),(36,LW),(39,LX),(40,LX),(43,TP),(44,Ic),(45,Ic),(48,LY),(49,Qi),(50,Ie),(51,Ie),(52,LZ),(53,LZ),(57,Ma),(58,Qj),(59,Ig),(60,Ig),(68,TQ),(70,Qk),(71,Mb),(72,Mb),(75,Ql),(76,Mc),(77,Mc),(82,Qm),(83,Md),(84,Md),(86,TR),(90,TS),(97,Me),(98,Qn),(99,Ih),(100,Ih),(102,OP),(105,OQ),(107,OR),(110,Eu),(113,Ii),(116,Ev),(117,Ev),(118,Ew),(119,Ew),(120,Ij),(122,AG),(123,AG),(124,Ik),(125,Ey),(126,Ey),(128,OS),(129,Il),(130,Im),(131,Ez),(132,Ez),(134,AH),(135,AH),(138,Io),(140,AI),(141,AI),(149,Ip),(150,Iq),(153,EA),(154,EA),(155,EB),(156,EB),(158,AJ),(159,AJ),(163,Me),(164,Ir),(167,EC),(168,EC),(170,Is),(172,AK),(173,AK),(176,It),(180,AL),(181,AL),(183,ED),(184,ED),(186,AM),(187,AM),(191,Iu),(195,AN),(196,AN),(200,OT),(204,OU),(212,OV),(221,OW),(227,Iv),(231,EE),(232,EE),(234,EF),(235,EF),(236,EG),(237,EG),(239,Iw),(240,OX),(245,AO),(246,AO),(247,EH),(248,EH),(251,AP),(252,AP),(255,Ix),(258,EI),(259,EI),(262,Iy),(264,OY),(272,OZ),(276,Pa),(285,Iz),(286,IA),(287,IB),(288,IC),(289,EJ),(290,EJ),(292,Pb),(294,Pd),(298,Pe),(301,Pf),(306,Pg)]
def aR:bp Tryz.prog Tt:=Gb c8
def TT:rr Tryz.prog 48 LY:=aR 48 rfl
def WB:rr Tryz.prog 51 Ie:=aR 51 rfl
attribute [go_sem] ti3 ti4 ti5 ti9 TO Qe Qf Qg LV Qh LW LX TP Ic LY Qi Ie LZ Ma Qj Ig TQ Qk Mb Ql Mc Qm Md TR TS Me Qn Ih OP OQ OR Eu Ii Ev Ew Ij AG Ik Ey OS Il Im Ez AH Io AI Ip Iq EA EB AJ Ir EC Is AK It AL ED AM Iu AN OT OU OV OW Iv EE EF EG Iw OX AO EH AP Ix EI Iy OY OZ Pa Iz IA IB IC EJ Pb Pd Pe Pf Pg
def mixed:Tryz.prog.follows .mixedOrders=T:=c8
@[go_sem]def Ys:Tt 3=ti3/\Tt 4=ti4/\Tt 5=ti5/\Tt 9=ti9/\dQ Tt 9=F/\Tt 22=Qe/\bq Tt 22=ti9/\dQ Tt 22=T/\Tt 23=Qf/\bq Tt 23=Ic/\dQ Tt 23=T/\Tt 24=Qg/\bq Tt 24=Ig/\dQ Tt 24=T/\Tt 26=LV/\iz Tt 26=T/\Tt 30=ti3/\Tt 34=Qh/\bq Tt 34=Ma/\dQ Tt 34=T/\Tt 36=LW/\iz Tt 36=T/\Tt 40=LX/\iz Tt 40=T/\Tt 45=Ic/\iz Tt 45=T/\Tt 48=LY/\Tt 49=Qi/\bq Tt 49=ti5/\dQ Tt 49=T/\Tt 51=Ie/\Tt 53=LZ/\Tt 57=Ma/\Tt 58=Qj/\bq Tt 58=Ih/\dQ Tt 58=T/\Tt 60=Ig/\Tt 70=Qk/\dQ Tt 70=F/\Tt 72=Mb/\iz Tt 72=T/\Tt 75=Ql/\bq Tt 75=AG/\dQ Tt 75=T/\Tt 77=Mc/\iz Tt 77=T/\Tt 82=Qm/\bq Tt 82=AI/\dQ Tt 82=T/\Tt 84=Md/\iz Tt 84=T/\Tt 97=Me/\Tt 98=Qn/\bq Tt 98=AM/\dQ Tt 98=T/\Tt 100=Ih/\iz Tt 100=T/\Tt 110=Eu/\bq Tt 110=ti3/\dQ Tt 110=T/\Tt 113=Ii/\Tt 117=Ev/\iz Tt 117=T/\Tt 119=Ew/\iz Tt 119=T/\Tt 120=Ij/\bq Tt 120=AK/\dQ Tt 120=T/\Tt 123=AG/\iz Tt 123=T/\Tt 124=Ik/\bq Tt 124=Eu/\dQ Tt 124=T/\Tt 126=Ey/\iz Tt 126=T/\Tt 129=Il/\bq Tt 129=AH/\dQ Tt 129=T/\Tt 130=Im/\bq Tt 130=AL/\dQ Tt 130=T/\Tt 132=Ez/\iz Tt 132=T/\Tt 135=AH/\iz Tt 135=T/\Tt 138=Io/\bq Tt 138=AP/\dQ Tt 138=T/\Tt 141=AI/\iz Tt 141=T/\Tt 149=Ip/\Tt 150=Iq/\bq Tt 150=AJ/\dQ Tt 150=T/\Tt 154=EA/\iz Tt 154=T/\Tt 156=EB/\iz Tt 156=T/\Tt 159=AJ/\iz Tt 159=T/\Tt 164=Ir/\bq Tt 164=ti4/\dQ Tt 164=T/\Tt 168=EC/\iz Tt 168=T/\Tt 170=Is/\bq Tt 170=AO/\dQ Tt 170=T/\Tt 173=AK/\iz Tt 173=T/\Tt 176=It/\Tt 181=AL/\iz Tt 181=T/\Tt 184=ED/\iz Tt 184=T/\Tt 187=AM/\iz Tt 187=T/\Tt 191=Iu/\bq Tt 191=AN/\dQ Tt 191=T/\Tt 196=AN/\iz Tt 196=T/\Tt 227=Iv/\Tt 232=EE/\iz Tt 232=T/\Tt 235=EF/\iz Tt 235=T/\Tt 237=EG/\iz Tt 237=T/\Tt 239=Iw/\Tt 246=AO/\iz Tt 246=T/\Tt 248=EH/\Tt 252=AP/\iz Tt 252=T/\Tt 255=Ix/\Tt 259=EI/\iz Tt 259=T/\Tt 262=Iy/\Tt 285=Iz/\Tt 286=IA/\Tt 287=IB/\Tt 288=IC/\dQ Tt 288=F/\Tt 290=EJ/\iz Tt 290=T:=by and_intros<;>exact A6 rfl rfl
variable{f:FuncId}{fn:Func}{c:Code}{xs:List AV}{R:AV->Prop}{g:Nat->Nat}{ob:Obs}
def hdG{X:Nat}{o:cg}(hf:Tryz.prog.funcs[f]?=S fn)(hb:fn.body=S c)(rs:List ResultVar)(h:∀O bo s0 w0 g,wpC (spF Tryz.prog N O (FT X o O bo s0 w0) 0 ql) Tt c (bx (vp Tt rs R)) ⟨dA xs,g,λ_=>N⟩)(hn:(fn.name == "runtime.NumGoroutine")=F:=by rfl)(L:fn.results=rs.toArray:=by rfl)(j:gv c=T:=by kernel_rfl)(bd:codeOk fn.ntmps c=T:=by kernel_rfl)(p:Nat.ble (z xs) fn.ntmps=T:=by kernel_rfl):bP Tryz.prog X o f xs R:=ry 0 X o aR mixed hf hb hn rs L j bd (H2 p) h
def hdM(B:Nat)(an:List Nat)(hf:Tryz.prog.funcs[f]?=S fn)(hb:fn.body=S c)(rs:List ResultVar){R:AV->(Nat->Nat)->Obs->Prop}{X:Pan}(hS:∀i∈an,i<B)(hB:∀i,B<=i->ob i=N)(h:∀O bo s0 w0,wpC (spF Tryz.prog N O (Ak O bo s0 w0) B (HJ B an g ob X)) Tt c (bx (FY Tt rs B an g ob R)) ⟨dA xs,g,ob⟩)(hn:(fn.name == "runtime.NumGoroutine")=F:=by rfl)(L:fn.results=rs.toArray:=by rfl)(j:gv c=T:=by kernel_rfl)(bd:codeOk fn.ntmps c=T:=by kernel_rfl)(p:Nat.ble (z xs) fn.ntmps=T:=by kernel_rfl):fv Tryz.prog f xs g ob R X:=CO B an aR mixed hf hb hn rs L j bd (H2 p) hS hB h
def hdX(B:Nat)(hf:Tryz.prog.funcs[f]?=S fn)(hb:fn.body=S c)(rs:List ResultVar){R:AV->(Nat->Nat)->Obs->Prop}{X:Pan}(h:∀O bo s0 w0,wpC (spF Tryz.prog N O (Ak O bo s0 w0) B X.on) Tt c (bx (Ae Tt rs R)) ⟨dA xs,g,ob⟩)(hn:(fn.name == "runtime.NumGoroutine")=F:=by rfl)(L:fn.results=rs.toArray:=by rfl)(j:gv c=T:=by kernel_rfl)(bd:codeOk fn.ntmps c=T:=by kernel_rfl)(p:Nat.ble (z xs) fn.ntmps=T:=by kernel_rfl):fv Tryz.prog f xs g ob R X:=CL B aR mixed hf hb hn rs L j bd (H2 p) h
def hdR(hf:Tryz.prog.funcs[f]?=S fn)(hb:fn.body=S c)(rs:List ResultVar)(h:∀g,wpC (sp Tryz.prog) Tt c (bx (vp Tt rs R)) ⟨dA xs,g,λ_=>N⟩)(hn:(fn.name == "runtime.NumGoroutine")=F:=by rfl)(L:fn.results=rs.toArray:=by rfl)(bd:codeOk fn.ntmps c=T:=by kernel_rfl)(p:Nat.ble (z xs) fn.ntmps=T:=by kernel_rfl):aF Tryz.prog f xs R:=Af aR mixed hf hb hn rs L bd (H2 p) h
def hdP(hf:Tryz.prog.funcs[f]?=S fn)(hb:fn.body=S c)(rs:List Nat)(h:∀g,wpC (sp Tryz.prog) Tt c (bx (CV rs R)) ⟨dA xs,g,λ_=>N⟩)(hn:(fn.name == "runtime.NumGoroutine")=F:=by rfl)(L:fn.results=(rs.map ResultVar.tmp).toArray:=by rfl)(bd:codeOk fn.ntmps c=T:=by kernel_rfl)(p:Nat.ble (z xs) fn.ntmps=T:=by kernel_rfl):aF Tryz.prog f xs R:=CW aR mixed hf hb hn rs L bd (H2 p) h
def hdF(B:Nat)(hf:Tryz.prog.funcs[f]?=S fn)(hb:fn.body=S c)(rs:List Nat){R:AV->(Nat->Nat)->Obs->Prop}(h:wpC (spB Tryz.prog B) Tt c (bx (zY rs R)) ⟨dA xs,g,ob⟩)(hn:(fn.name == "runtime.NumGoroutine")=F:=by rfl)(L:fn.results=(rs.map ResultVar.tmp).toArray:=by rfl)(bd:codeOk fn.ntmps c=T:=by kernel_rfl)(p:Nat.ble (z xs) fn.ntmps=T:=by kernel_rfl):jl Tryz.prog f xs g ob R:=FI B aR mixed hf hb hn rs L bd (H2 p) h
end
end
end Go.Proofs.YtednjibjomfhfaaGreatDoor
namespace Go.Asm
section
abbrev Str:=List UInt8
def wht(c:UInt8):Bool:=c==32||c==9
def small(c:UInt8):Bool:=decide (97<=c.toNat)&&decide (c.toNat<=122)
def letter(c:UInt8):Bool:=small c||(decide (65<=c.toNat)&&decide (c.toNat<=90))
def digit(c:UInt8):Bool:=decide (48<=c.toNat)&&decide (c.toNat<=57)
def dP(c:UInt8):Bool:=letter c||digit c||c==95
def Cw(n:Nat)(c:UInt8):Nat:=10*n+(c.toNat-48)
def gK(s:Str):Nat:=s.foldl Cw 0
def names:List Str:=[[108,105],[108,117,105],[109,111,118],[97,100,100],[115,117,98],[109,117,108],[100,105,118],[109,111,100],[97,110,100],[111,114],[120,111,114],[115,104,108],[115,104,114],[108,116],[101,113],[108,100],[115,116],
 [106,109,112],[106,122],[106,110,122],[99,97,108,108],[114,101,116],[103,101,116],[112,117,116],[99,104,107],[104,97,108,116],[108,100,99]]
def shape(op:Nat):Bool×Bool×Nat:=
 if op=1\/op=2\/op=19\/op=20\/op=21\/op=25 then(T,F,1)
 else if op=3 then(T,T,0)
 else if 4<=op/\op<=15 then(T,T,2)
 else if op=16\/op=17\/op=27 then(T,T,1)
 else if op=18 then(F,F,1)
 else if op=22\/op=23\/op=24 then(T,F,0)
 else(F,F,0)
def word(op a b c:Nat):Nat:=op*16777216+a*1048576+b*65536+c
end
end Go.Asm
namespace Go.Proofs.YtednjibjomfhfaaGreatDoor
section
open Go Go.Am Go.Asm
section
def getq{a:Type}{l:List a}{k:Nat}(h:k<z l):∃x,l[k]?=S x:=⟨_,y8 h⟩
variable{c d:UInt8}
def TM(h:(c.toNat:Int)=(d.toNat:Int)):c=d:=P0.1 a6
def qn(h:c≠d):¬(c.toNat:Int)=(d.toNat:Int):=λe=>h (TM e)
def vM{c:UInt8}:letter c=T↔(97<=c.toNat/\c.toNat<=122)\/(65<=c.toNat/\c.toNat<=90):=by simp[letter,small]
def sN{c:UInt8}:digit c=T↔48<=c.toNat/\c.toNat<=57:=by simp[digit]
end
end
section
open Go Go.Am Go.Asm
attribute[local congr]ite_cc
def preB(p s:Str):Bool:=decide (s.take (z p)=p)
def AD(s p:Str):aF Tryz.prog 183 [sv s,sv p] (·=bv (preB p s)):=by
 refine hdP Tryz.func183 rfl [4] λg=>?_;simp only[go_sem];refine⟨λh=>?_,λh=>?_⟩
 .exact⟨L5 _,a6,rfl⟩
 .have:¬s.take (z p)=p:=λe=>by
   have:=congrArg z e;simp only[C2]at this;omega
  simp[preB,this]
def strs(l:List Str):D:=.sl (l.map λw=>[.str w])
end
section
open Go Go.Am Go.Asm
def rG{s:St}{id g n:Nat}{L:List Str}(hg:s.gen id=g)(ho:s.obj id=S (L.map λw=>.d (.str w)))(b:n=z L):Frz s (.osl id g 1 0 n) (strs L):=by
 subst b;exact rm hg ho L (λw=>.str w) (λ_=>rfl) rfl (λj a h=>by simp[h]) a8
end
end Go.Proofs.YtednjibjomfhfaaGreatDoor
namespace Go.Proofs
section
open Go.Shelf Go.RowKit Go.Lib
section
variable{P:Program}{k:Ren}
end
section
variable{P:Program}{k:Ren}
end
end
section
open Go.Shelf
end
end Go.Proofs
namespace Go.Proofs.YtednjibjomfhfaaGreatDoor
section
open Go Go.Am Go.Asm
end
section
open Go Go.Am Go.Asm
attribute[local congr]ite_cc
def nameOf(op:Nat):Str:=match op with|0=>[]|k+1=>names.getD k []
def vP(op:Nat):AV:=.agg [.d (.str (nameOf op)),.d (.bool (Asm.shape op).1),.d (.bool (Asm.shape op).2.1),.d (.int .i64 ((Asm.shape op).2.2:Nat))]
def AF{op:Nat}(h:op=0\/28<=op):vP op=.agg [.d (.str []),.d (.bool F),.d (.bool F),.d (.int .i64 0)]:=by
 rcases h with rfl|h
 .rfl
 .have U:nameOf op=[]:=by
   exact UI
  have Y:Asm.shape op=(F,F,0):=by
   unfold Asm.shape
   repeat rw[j8 (by omega)]
  unfold vP;rw[U,Y];rfl
def vQ{s:St}{n:Str}{a b:Bool}{c:Int}:mf s (.agg [.d (.str n),.d (.bool a),.d (.bool b),.d (.int .i64 c)]) (.agg [.d (.str n),.d (.bool a),.d (.bool b),.d (.int .i64 c)]):=by
 refine⟨[.str n,.bool a,.bool b,.int .i64 c],rfl,λi c e=>?_,rfl⟩
 match i,e with
 |0,e=>cases e;exact⟨_,rfl,.d _⟩
 |1,e=>cases e;exact⟨_,rfl,.d _⟩
 |2,e=>cases e;exact⟨_,rfl,.d _⟩
 |3,e=>cases e;exact⟨_,rfl,.d _⟩
def xK(op:Int):aF Tryz.prog 165 [iv .i64 op] (·=vP op.toNat):=by
 refine hdR Tryz.func165 rfl [.cell 2 259] λg=>?_;simp only[go_sem]
 repeat' (first|refine x6 (λh=>?_) (λh=>?_)|fail)
 all_goals first
  | (subst h
     exact⟨_,vQ,rfl⟩)
  | (have e:op.toNat=0\/28<=op.toNat:=a6
     refine⟨_,vQ,?_⟩;rw[AF e])
def kB(op:Nat):Bool:=decide (1<=op)&&decide (op<=27)
def Gh(op:Nat):(decide (¬nameOf op=[]))=kB op:=by
 unfold kB;by_cases h:op<=27
 .have:∀k,k<=27->decide (¬nameOf k=[])=(decide (1<=k)&&decide (k<=27)):=a7
  exact this op h
 .have U:nameOf op=[]:=by
   exact UI
  simp[U,h]
def LR(op:Int):aF Tryz.prog 164 [iv .i64 op] (·=bv (kB op.toNat)):=by
 refine hdP Tryz.func164 rfl [2] λg=>?_;simp only[go_sem];refine bT rfl (by simp only[go_sem];exact xK op) ?_;rintro _ rfl;unfold vP;simp only[go_sem];rw[<-Gh]
def inW(v i:Int)(b:Bool):Bool:=if b=T then decide (0<=v) && decide (v<=i)else decide (v=0)
def vR(v i:Int)(b:Bool):aF Tryz.prog 166 [iv .i64 v,iv .i64 i,bv b] (·=bv (inW v i b)):=by
 refine hdP Tryz.func166 rfl [6] λg=>?_;exact U7
def rH(op:Nat):Int:=if (Asm.shape op).2.2=2 then 15 else 65535
def fA(op a b c:Int):Bool:=kB op.toNat&&(inW a 15 (Asm.shape op.toNat).1&&(inW b 15 (Asm.shape op.toNat).2.1&&inW c (rH op.toNat) (decide ((Asm.shape op.toNat).2.2≠0))))
def qp(op a b c:Int):AV:=.agg [.d (.int .i64 op),.d (.int .i64 a),.d (.int .i64 b),.d (.int .i64 c)]
def LS(op a b c:Int):aF Tryz.prog 93 [qp op a b c] (·=bv (fA op a b c)):=by
 refine hdP Tryz.func93 rfl [2] λg=>?_;unfold qp;simp only[go_sem];refine bT rfl (by simp only[go_sem];exact LR op) ?_;rintro _ rfl;cases hk:kB op.toNat
 .simp only[go_sem]
  simp[fA,hk]
 simp only[go_sem];refine bT rfl (by simp only[go_sem];exact xK op) ?_;rintro _ rfl;have e:fA op a b c=(inW a 15 (Asm.shape op.toNat).1&&(inW b 15 (Asm.shape op.toNat).2.1&&inW c (rH op.toNat) (decide ((Asm.shape op.toNat).2.2≠0)))):=by unfold fA;rw[hk,w7]
 rw[e];unfold vP rH;generalize (Asm.shape op.toNat).1=p;generalize (Asm.shape op.toNat).2.1=q;generalize (Asm.shape op.toNat).2.2=r
 have i:decide (¬((r:Nat):Int)=0)=decide (r≠0):=by
  have:(((r:Nat):Int)=0)=(r=0):=by apply propext;omega
  simp only[this,ne_eq]
 by_cases V:r=2
 case' pos=>
  have d:((r:Nat):Int)=2:=a6;rw[l7 V];simp only[go_sem,d]
 case' neg=>
  have d:¬((r:Nat):Int)=2:=a6;rw[j8 V];simp only[go_sem,d]
 all_goals
  refine bT rfl (by simp only[go_sem];exact vR a 15 p) ?_;rintro _ rfl;cases U:inW a 15 p
  .simp only[go_sem]
   try simp
  simp only[go_sem];refine bT rfl (by simp only[go_sem];exact vR b 15 q) ?_;rintro _ rfl;cases Y:inW b 15 q
  .simp only[go_sem]
   try simp
  simp only[go_sem,i];refine bT rfl (by simp only[go_sem,i];exact vR c _ _) ?_;rintro _ rfl;simp only[go_sem]
  first|done|(subst V;simp;done)|simp
def Qd(x y:Nat)(I:x<4294967296)(a:y<4294967296):(BitVec.ofInt 32 (x:Int) |||BitVec.ofInt 32 (y:Int)).toNat=x |||y:=by
 rw[BitVec.toNat_or]
 have h:∀n:Nat,n<4294967296->(BitVec.ofInt 32 (n:Int)).toNat=n:=λn b=>by
  rw[Q3];omega
 rw[h x I,h y a]
def wrapN(n:Nat)(h:n<4294967296):IntKind.u32.wrap (n:Int)=n:=by rw[IntKind.wrap_u32];omega
def Ia(a b k:Nat)(h:b<2^k):(a*2^k) |||b=a*2^k+b:=by
 rw[SJ,Nat.two_pow_add_eq_or_of_lt h]
def LU(o a b c:Nat)(U:o<=27)(Y:a<=15)(i:b<=15)(j:c<=65535):IntKind.u32.wrap
   ((BitVec.ofInt 32
        (IntKind.u32.wrap
          ((BitVec.ofInt 32
               (IntKind.u32.wrap
                 ((BitVec.ofInt 32 (IntKind.u32.wrap ((o:Int)*2^min 24 32)) |||
                     BitVec.ofInt 32 (IntKind.u32.wrap ((a:Int)*2^min 20 32))).toNat:Int)) |||
              BitVec.ofInt 32 (IntKind.u32.wrap ((b:Int)*2^min 16 32))).toNat:Int)) |||
       BitVec.ofInt 32 (c:Int)).toNat:Int)=(word o a b c:Nat):=by
 have d:((o:Int)*2^min 24 32)=((o*2^24:Nat):Int):=by rw[N8];rfl
 have f:((a:Int)*2^min 20 32)=((a*2^20:Nat):Int):=by rw[N8];rfl
 have g:((b:Int)*2^min 16 32)=((b*2^16:Nat):Int):=by rw[N8];rfl
 rw[d,f,g,wrapN (o*2^24) a6,wrapN (a*2^20) a6,wrapN (b*2^16) a6,Qd (o*2^24) (a*2^20) a6 a6,Ia o (a*2^20) 24 a6,
  wrapN (o*2^24+a*2^20) a6,Qd (o*2^24+a*2^20) (b*2^16) a6 a6,
  show o*2^24+a*2^20=(o*16+a)*2^20 by omega,Ia (o*16+a) (b*2^16) 20 a6,wrapN ((o*16+a)*2^20+b*2^16) a6,Qd ((o*16+a)*2^20+b*2^16) c a6 a6,
  show (o*16+a)*2^20+b*2^16=((o*16+a)*16+b)*2^16 by omega,Ia ((o*16+a)*16+b) c 16 a6,wrapN (((o*16+a)*16+b)*2^16+c) a6]
 have e:((o*16+a)*16+b)*2^16+c=word o a b c:=by unfold word;omega
 rw[e]
def xf{op a b c:Int}(h:fA op a b c=T):1<=op/\op<=27/\0<=a/\a<=15/\0<=b/\b<=15/\0<=c/\c<=65535:=by
 unfold fA at h;simp only[l4]at h;obtain⟨U,Y,e,f⟩:=h
 have E:∀{v m:Int}{p:Bool},0<=m->inW v m p=T->0<=v/\v<=m:=by
  intro v m p g d;unfold inW at d;split at d
  .simpa using d
  .have:v=0:=by simpa using d
   omega
 have Y:=E a7 Y;have e:=E a7 e;have g:0<=rH op.toNat/\rH op.toNat<=65535:=by unfold rH;split<;>decide
 have f:=E g.1 f;simp only[kB,l4,s7]at U;omega
def Ib(op a b c:Int):aF Tryz.prog 55 [qp op a b c] (·=if fA op a b c=T then .tup [iv .u32 (word op.toNat a.toNat b.toNat c.toNat:Nat),iv .i64 0]else .tup [iv .u32 0,iv .i64 1]):=by
 refine hdP Tryz.func55 rfl [2,3] λg=>?_;unfold qp;simp only[go_sem];refine bT rfl (by simp only[go_sem];exact LS op a b c) ?_;rintro _ rfl;cases hk:fA op a b c
 .simp only[go_sem]
  try rfl
 obtain⟨b1,m,B,d,e,f,h,i⟩:=xf hk;have P:IntKind.u32.wrap op=op:=by rw[IntKind.wrap_u32]<;>omega
 have j:IntKind.u32.wrap a=a:=by rw[IntKind.wrap_u32]<;>omega
 have l:IntKind.u32.wrap b=b:=by rw[IntKind.wrap_u32]<;>omega
 have w4:IntKind.u32.wrap c=c:=by rw[IntKind.wrap_u32]<;>omega
 simp only[go_sem,P,j,l,w4];obtain⟨o,rfl⟩:∃n:Nat,op=n:=⟨op.toNat,a6⟩
 obtain⟨a,rfl⟩:∃n:Nat,a=n:=⟨a.toNat,a6⟩
 obtain⟨b,rfl⟩:∃n:Nat,b=n:=⟨b.toNat,a6⟩
 obtain⟨c,rfl⟩:∃n:Nat,c=n:=⟨c.toNat,a6⟩
 simp only[B6];exact LU o a b c a6 a6 a6 a6
end
section
open Go Go.Am Go.Asm
def su(s:Str)(c:UInt8):gK (s++[c])=10*gK s+(c.toNat-48):=by simp[gK,Cw]
def Gi{s:Str}{k:Nat}{c:UInt8}(h:s[k]?=S c):gK (s.take (k+1))=10*gK (s.take k)+(c.toNat-48):=by
 rw[B4,h];exact su _ _
end
section
open Go Go.RowKit Go.Shelf
end
end Go.Proofs.YtednjibjomfhfaaGreatDoor
namespace Go.Am
section
def vS{P:Program}{X:Nat}{o:cg}{f:FuncId}{args:List AV}(hf:yK P f)(a:(args.all λx=>match x with|.one c=>jo c|_=>F)=T){r:AV}(V:ea r=T)
 (h:∀w:World,qC X o w->Calls P f (args.map nK).toArray w λe w'=>e=.returned (nK r)/\w.heap.size<=w'.heap.size/\(∀b,b<w.heap.size->w'.heap[b]?=w.heap[b]?)/\(w'.os=w.os/\w'.output=w.output)):bP P X o f args (·=r):=by
 refine⟨hf,λJ w vs m l d=>?_⟩
 have bz:vs=args.map nK:=by
  clear h hf
  induction args generalizing vs with
  |nil=>simp only[RVs]at d;exact d
  |cons x xs g=>
    simp only[RVs]at d;obtain⟨u,i,rfl,U,Y⟩:=d;simp only[C4,l4]at a;rw[l9,<-g a.2 i Y];congr 1;cases x with
    |one c=>
      simp only[RV,RVc]at U;obtain⟨x,rfl,U⟩:=U;simp only[nK,scC];exact cr.scalar a.1 U
    |_=>simp at a
 rw[bz];refine(h w m).mono λe w'⟨j,U,Y,k⟩=>⟨_,r,j,rfl,U,Y,k,?_⟩
 exact xr V
end
end Go.Am
namespace Go.Proofs.YtednjibjomfhfaaGreatDoor
section
open Go Go.Am Go.Asm
def sP:∀l:List UInt8,u8s (l.map λb=>.d (.int .u8 (b.toNat:Nat)))=S (l.map λb=>((b.toNat:Nat):Int))
 |[]=>rfl
 |b::l=>by
   have a:=sP l;simp only[l9,u8s]at a|-;rw[a];rfl
def kj{s:St}(x:D):mf s (.one (.d x)) (.one (.d (ir x))):=⟨_,.d x,rfl⟩
end
end Go.Proofs.YtednjibjomfhfaaGreatDoor
namespace Go.Src
section
open Go.Asm (Str digit letter dP gK)
structure Tok where
 kind:Nat
 text:Str
 num:Nat
 place:Nat
 deriving DecidableEq
def gW:List Str:=[[118,97,114],[97,114,114,97,121],[102,117,110,99],[119,111,114,100],[105,102],[101,108,115,101],[119,104,105,108,101],[114,101,116,117,114,110],[112,117,116],[103,101,116]]
def nD:List Str:=[[60,60],[62,62],[61,61],[38,38],[124,124],[40],[41],[123],[125],[91],[93],[59],[44],[61],[43],[45],[42],[47],[37],[38],[124],[94],[60],[33]]
inductive R (α:Type) where
 |ok (a:α)
 |err (e:Nat)
def firstT(s:Str):R (Nat×Str×Nat):=
 match s with
 |[]=>.err 3
 |c::_=>
   if digit c=T then(if 4294967295<gK (s.takeWhile digit)then .err 2 else .ok (2,s.takeWhile digit,gK (s.takeWhile digit)))
   else if c=39 then
    (match s with
     |_::x::y::_=>if y=39/\32<=x.toNat/\x.toNat<=126/\x≠39/\x≠92 then .ok (2,[c,x,y],x.toNat)else .err 3
     | _=>.err 3)
   else if letter c=T then
    (if 20<z (s.takeWhile dP)then .err 2 else if (s.takeWhile dP)∈gW then .ok (3,s.takeWhile dP,0)else .ok (1,s.takeWhile dP,0))
   else match nD.find? (λt=>t.isPrefixOf s)with
    |some t=>.ok (4,t,0)
    |none=>.err 3
def jH:Nat->Nat->Str->R (List Tok)×Nat
 |0,_,_=>(.ok [],0)
 |_+1,_,[]=>(.ok [],0)
 |n+1,k,c::r=>
   if c=32\/c=9\/c=10 then jH n (k+1) r
   else if c=47/\r.head?=S 47 then jH n (k+z ((c::r).takeWhile (· != 10))) ((c::r).dropWhile (· != 10))
   else match firstT (c::r)with
    |.err e=>(.err e,k)
    |.ok (a,t,v)=>match jH n (k+z t) ((c::r).drop (z t))with
      |(.ok l,p)=>(.ok (⟨a,t,v,k⟩::l),p)
      |(.err e,p)=>(.err e,p)
def qT(s:Str):List Tok×Nat×Nat:=
 if 20000<z s then([],0,2)
 else match jH (z s+1) 0 s with
  |(.ok l,_)=>(l,0,0)
  |(.err e,p)=>([],p,e)
inductive Ex where
 |mk (kind op num:Int) (name:Str) (kids:List Ex)
inductive Stm where
 |mk (kind:Int) (name:Str) (e:List Ex) (th el:List Stm)
structure Fn where
 name:Str
 params:List Str
 locals:List Str
 word:Bool
 body:List Stm
structure Prog where
 vars:List Str
 arrays:List (Str×Int)
 funcs:List Fn
def qt(s:Str):Int×Int×Nat:=
 if s=[124,124]then(9,0,1)else if s=[38,38]then(8,0,2)else if s=[61,61]then(6,15,3)else if s=[60]then(6,14,4)
 else if s=[124]then(6,10,5)else if s=[94]then(6,11,5)else if s=[38]then(6,9,6)else if s=[60,60]then(6,12,7)else if s=[62,62]then(6,13,7)
 else if s=[43]then(6,4,8)else if s=[45]then(6,5,8)else if s=[42]then(6,6,9)else if s=[47]then(6,7,9)else if s=[37]then(6,8,9)else(0,0,0)
def cP:Str:=[40]
def bt:Str:=[41]
def ck:Str:=[44]
def bO:Str:=[59]
end
end Go.Src
namespace Go.Proofs.YtednjibjomfhfaaGreatDoor
section
open Go Go.Am Go.Asm
attribute[local congr]ite_cc
def mO(c:UInt8):aF Tryz.prog 184 [iv .u8 c.toNat] (·=bv (digit c)):=by
 refine hdP Tryz.func184 rfl [2] λg=>?_;simp only[go_sem];have e:=@sN c;cases a:digit c<;>rw[a]at e<;>simp at e<;>((repeat' (first|refine⟨?_,?_⟩|intro _))<;>(first|rfl|(exfalso;omega)|(simp;omega)))
def pX(c:UInt8):aF Tryz.prog 187 [iv .u8 c.toNat] (·=bv (letter c)):=by
 refine hdP Tryz.func187 rfl [2] λg=>?_;simp only[go_sem];have e:=@vM c;cases a:letter c<;>rw[a]at e<;>simp at e<;>((repeat' (first|refine⟨?_,?_⟩|intro _))<;>(first|rfl|(exfalso;omega)|(simp;omega)))
def NF(c:UInt8):aF Tryz.prog 118 [iv .u8 c.toNat] (·=bv (c != 10)):=by
 refine hdP Tryz.func118 rfl [2] λg=>?_;by_cases h:c=10
 .subst h
  have a:(((10:UInt8).toNat:Nat):Int)=10:=rfl;simp only[go_sem,a];rfl
 .have a:¬((c.toNat:Nat):Int)=10:=qn (d:=10) h
  have hb:(c != 10)=T:=by simpa using h
  simp only[go_sem,a,hb]
def xY(c:UInt8):aF Tryz.prog 189 [iv .u8 c.toNat] (·=bv (dP c)):=by
 refine hdP Tryz.func189 rfl [2] λg=>?_;simp only[go_sem];refine bT rfl (by simp only[go_sem];exact pX c) ?_;rintro _ rfl;unfold dP;cases hl:letter c
 .simp only[go_sem]
  refine bT rfl (by simp only[go_sem];exact mO c) ?_;rintro _ rfl;cases hd:digit c
  .by_cases h:c=95
   .subst h
    have a:(((95:UInt8).toNat:Nat):Int)=95:=rfl;simp only[go_sem,a];rfl
   .have a:¬((c.toNat:Nat):Int)=95:=qn (d:=95) h
    have hb:(c==95)=F:=by simpa using h
    simp only[go_sem,a,hb,Bool.or_false]
  .simp only[go_sem,Bool.or_true,Bool.true_or]
 .simp only[go_sem,Bool.true_or]
def nA{p:UInt8->Bool}:∀{s:Str}{k:Nat},(s.take k).all p=T->(s[k]?).all (λc=>!p c)=T->s.takeWhile p=s.take k
 |[],k,_,_=>by simp
 |a::s,0,_,h=>by
   simp only[y1,Option.all_some,H3]at h;simp[h]
 |a::s,k+1,U,Y=>by
   simp only[C5,C4,l4]at U;rw[v7]at Y;rw[G0,l7 U.1,C5,nA U.2 Y]
def uV{f:FuncId}{p:UInt8->Bool}(m:∀c,aF Tryz.prog f [iv .u8 c.toNat] (·=bv (p c)))(s:Str)(t:z s<=1000000000):aF Tryz.prog 117 [sv s,.one (.d (.fn f))] (·=sv (s.takeWhile p)):=by
 refine hdP Tryz.func117 rfl [4] λg=>?_;simp only[go_sem];refine fj (λn K=>∃k:Nat,n+k=z s/\K.f 0=sv s/\K.f 1=.one (.d (.fn f))/\K.f 5=iv .i64 k/\(s.take k).all p=T) (z s) ?_ ?_
 .refine⟨0,a6,?_⟩
  simp only[go_sem];rfl
 rintro n fs g u ⟨k,v,a,b,e,i⟩;simp only at a b e;have o:=ab (k:=k) a6;have an:(0:Int)<=(k:Int):=a6;by_cases r:k<z s
 .obtain⟨c,j⟩:=getq r
  have H:(k:Int)<(z s:Int):=a6;simp only[go_sem,a,b,e,H,j,an];refine fg (f:=f) rfl (by simp only[go_sem,b]) (by simp only[go_sem];exact m c) Wt ?_;rintro _ rfl;cases q:p c
  .have l:=nA (p:=p) i (by rw[j];simp[q])
   simp only[go_sem,a,e];refine⟨a6,a6,?_⟩;rw[l]
   try rfl
  .simp only[go_sem,e,o]
   refine cZ (n-1) a6 ⟨k+1,a6,?_⟩;simp only[go_sem,a,b];rw[B4,j];simp[i,q]
 .obtain rfl:k=z s:=a6
  have H:¬(z s:Int)<(z s:Int):=a6;have l:=nA (p:=p) i (by rw[E0 (l0 _)];rfl);rw[l,F0];simp only[go_sem,a,b,e,H];exact⟨a6,a6⟩
def Bx{s t:Str}:t.isPrefixOf s=decide (z t<=z s/\s.take (z t)=t):=by
 rw[N7,N1,s7];constructor
 .rintro⟨r,rfl⟩;exact⟨a8,a8⟩
 .rintro⟨U,Y⟩;exact⟨s.drop (z t),(congrArg (· ++ s.drop (z t)) Y.symm).trans (F9 _ _)⟩
def JI(s p:Str):preB p s=p.isPrefixOf s:=by
 rw[Bx];unfold preB;rw[decide_eq_decide];constructor
 .intro h
  have:=congrArg z h;rw[C2]at this;exact⟨a6,h⟩
 .exact λh=>h.2
def ui(s t:Str):aF Tryz.prog 116 [sv s,sv t] (·=bv (t.isPrefixOf s)):=by
 refine hdP Tryz.func116 rfl [4] λg=>?_;simp only[go_sem];refine bT rfl (by simp only[go_sem];exact AD s t) ?_;rintro _ rfl;simp only[go_sem,JI]
def NG{s:St}{c:C}{x:D}(h:Frz s c x):mf s (.one c) (.one (.d x)):=⟨_,h,rfl⟩
def nB(t:Src.Tok):List D:=[.int .i64 (t.kind:Nat),.str t.text,.int .u32 (t.num:Nat),.int .i64 (t.place:Nat)]
def qg(t:Src.Tok):AV:=.agg ((nB t).map .d)
def rF:Src.R (Nat×Str×Nat)->AV
 |.ok (k,t,v)=>.tup [qg ⟨k,t,v,0⟩,iv .i64 0]
 |.err e=>.tup [qg ⟨0,[],0,0⟩,iv .i64 (e:Nat)]
def ew{s:St}{k v e:Nat}{t:Str}:rq s [.agg [.d (.int .i64 (k:Nat)),.d (.str t),.d (.int .u32 (v:Nat)),.d (.int .i64 0)],iv .i64 (e:Nat)] (.tup [qg ⟨k,t,v,0⟩,iv .i64 (e:Nat)]):=by
 refine⟨_,⟨_,_,rfl,⟨[.int .i64 (k:Nat),.str t,.int .u32 (v:Nat),.int .i64 0],rfl,λi c r=>?_,rfl⟩,_,_,rfl,kj _,rfl⟩,rfl⟩
 match i,r with
 |0,r=>cases r;exact⟨_,rfl,.d _⟩
 |1,r=>cases r;exact⟨_,rfl,.d _⟩
 |2,r=>cases r;exact⟨_,rfl,.d _⟩
 |3,r=>cases r;exact⟨_,rfl,.d _⟩
def NH(c:UInt8)(n:Nat):n<=Cw n c:=by unfold Cw;omega
def GH(s:Str)(k:Nat):gK (s.take k)<=gK s:=by
 have h:∀(l:Str)(n:Nat),n<=l.foldl Cw n:=λl=>by
  induction l with
  |nil=>intro n;exact l0 _
  |cons c l a=>intro n;exact C1 (NH c n) (a _)
 conv=>rhs;rw[<-F9 k s]
 unfold gK;rw[List.foldl_append];exact h _ _
def DE(s:Str)(E:z s<=1000000000)(hd:s.all digit=T):aF Tryz.prog 185 [sv s] (·=rF (if 4294967295<gK s then .err 2 else .ok (2,s,gK s))):=by
 refine hdR Tryz.func185 rfl [.cell 2 159,.tmp 3] λg=>?_;simp only[go_sem];refine fj (λn K=>∃k:Nat,n+k=z s/\K.f 0=sv s/\K.f 2=.one (.ptr 2 (nxC 160 (g 2)) 0)/\K.gen 2=nxC 160 (g 2)/\K.obj 2=S [.d (.int .i64 0),.d (.str []),.d (.int .u32 0),.d (.int .i64 0)]/\K.f 4=iv .u64 (gK (s.take k):Nat)/\K.f 5=iv .i64 k/\gK (s.take k)<=4294967295) (z s) ?_ ?_
 .refine⟨0,a6,?_⟩
  simp only[go_sem];exact⟨rfl,a7⟩
 rintro n f G I ⟨k,J,i,j,l,m,o,r,y⟩;simp only at i j l m o r;have A:=ab (k:=k) a6;have an:(0:Int)<=(k:Int):=a6;by_cases B:k<z s
 .obtain⟨c,u⟩:=getq B
  have H:(k:Int)<(z s:Int):=a6;have bl:=Gi u;have a:=GH s (k+1);have b:=sN.1 (x7.1 hd c (l5 u));have P:IntKind.u64.wrap ((gK (s.take k):Int)*10)=((gK (s.take k)*10:Nat):Int):=by rw[IntKind.wrap_u64];omega
  have w:IntKind.u8.wrap ((c.toNat:Int)-48)=((c.toNat-48:Nat):Int):=by rw[IntKind.wrap_u8];omega
  have x:IntKind.u64.wrap ((c.toNat-48:Nat):Int)=((c.toNat-48:Nat):Int):=by rw[IntKind.wrap_u64];omega
  have w4:IntKind.u64.wrap (((gK (s.take k)*10:Nat):Int)+((c.toNat-48:Nat):Int))=(gK (s.take (k+1)):Int):=by rw[IntKind.wrap_u64,bl];omega
  by_cases q:4294967295<gK (s.take (k+1))
  .have bz:(4294967295:Int)<(gK (s.take (k+1)):Int):=a6
   rw[l7 a6];simp only[go_sem,i,j,l,m,o,r,H,an,u,P,w,x,w4,bz];exact⟨_,ew (k:=0) (v:=0) (e:=2),rfl⟩
  .have bz:¬(4294967295:Int)<(gK (s.take (k+1)):Int):=a6
   simp only[go_sem,i,j,l,m,o,r,H,an,u,P,w,x,w4,bz,A];refine cZ (n-1) a6 ⟨k+1,a6,?_⟩;simp only[go_sem,i,j,l,m];omega
 .obtain rfl:k=z s:=a6
  have H:¬(z s:Int)<(z s:Int):=a6;rw[s6 (l0 _)]at o y;have t:IntKind.u32.wrap (gK s:Int)=(gK s:Int):=by rw[IntKind.wrap_u32];omega
  rw[j8 a6];simp only[go_sem,i,j,l,m,o,r,H,t];exact⟨_,ew (k:=2) (e:=0),rfl⟩
def uj:Str->Src.R (Nat×Str×Nat)
 |c::x::y::_=>if y=39/\32<=x.toNat/\x.toNat<=126/\x≠39/\x≠92 then .ok (2,[c,x,y],x.toNat)else .err 3
 |_=>.err 3
def JL(s:Str):aF Tryz.prog 186 [sv s] (·=rF (uj s)):=by
 refine hdR Tryz.func186 rfl [.cell 2 159,.tmp 3] λg=>?_;by_cases u:z s<3
 .have m:(z s:Int)<3:=a6
  have hb:uj s=.err 3:=by
   match s,u with
   |[],_=>rfl
   |[_],_=>rfl
   |[_,_],_=>rfl
   |_::_::_::_,h=>simp at h;omega
  rw[hb];simp only[go_sem,m];exact K4
 obtain⟨c,x,y,r,rfl⟩:∃c x y r,s=c::x::y::r:=by
  match s,u with
  |c::x::y::r,_=>exact⟨c,x,y,r,rfl⟩
  |[],h=>simp at h
  |[_],h=>simp at h
  |[_,_],h=>simp at h
 have m:¬(z (c::x::y::r):Int)<3:=a6;have Y:(c::x::y::r)[2]?=S y:=rfl;have U:(c::x::y::r)[1]?=S x:=rfl;have w:(c::x::y::r).take 3=[c,x,y]:=rfl;have f:3<=z (c::x::y::r):=a8;rw[show uj (c::x::y::r)=(if y=39/\32<=x.toNat/\x.toNat<=126/\x≠39/\x≠92 then .ok (2,[c,x,y],x.toNat)else .err 3)from rfl];generalize (c::x::y::r)=s at m Y U w f;by_cases n:y=39
 case neg=>
  have a:¬((y.toNat:Nat):Int)=39:=qn (d:=39) n;rw[j8 (λh=>n h.1)];simp only[go_sem,m,Y,a];exact K4
 have a:((y.toNat:Nat):Int)=39:=by rw[n];rfl
 by_cases A:32<=x.toNat
 case neg=>
  have b:((x.toNat:Nat):Int)<32:=a6;rw[j8 (λh=>A h.2.1)];simp only[go_sem,m,Y,U,a,b];exact K4
 have b:¬((x.toNat:Nat):Int)<32:=a6;by_cases B:x.toNat<=126
 case neg=>
  have i:(126:Int)<((x.toNat:Nat):Int):=a6;rw[j8 (λh=>B h.2.2.1)];simp only[go_sem,m,Y,U,a,b,i];exact K4
 have i:¬(126:Int)<((x.toNat:Nat):Int):=a6;by_cases o:x=39
 .have j:((x.toNat:Nat):Int)=39:=by rw[o];rfl
  rw[j8 (λh=>h.2.2.2.1 o)];simp only[go_sem,m,Y,U,a,b,i,j];exact K4
 have j:¬((x.toNat:Nat):Int)=39:=qn (d:=39) o;by_cases q:x=92
 .have l:((x.toNat:Nat):Int)=92:=by rw[q];rfl
  rw[j8 (λh=>h.2.2.2.2 q)];simp only[go_sem,m,Y,U,a,b,i,j,l];exact K4
 have l:¬((x.toNat:Nat):Int)=92:=qn (d:=92) q;rw[l7 ⟨n,A,B,o,q⟩];have t:IntKind.u32.wrap ((x.toNat:Nat):Int)=((x.toNat:Nat):Int):=by have:=x.toNat_lt;rw[IntKind.wrap_u32];omega
 simp only[go_sem,m,Y,U,a,b,i,j,l];refine cA b9 ?_;simp only[go_sem,U,t,B1,w];exact⟨f,_,ew (k:=2) (e:=0),rfl⟩
end
end Go.Proofs.YtednjibjomfhfaaGreatDoor
namespace Go.Am
section
section
section
variable{P:Program}{G:Nat->TI}{O:Bs}{β:Loc}{g:Nat->Nat}{ob:Obs}{k:Nat}{w w':World}
end
end
end
end Go.Am
namespace Go.Proofs.YtednjibjomfhfaaGreatDoor
section
open Go Go.Am Go.Asm
attribute[local congr]ite_cc
def kC(o:cg):Prop:=∀w:World,qC 4 o w->(∀(i:Nat)t,Src.gW[i]?=S t->w.cell? ⟨4,i,N⟩=S (.string ⟨t.toArray⟩))/\(∀(i:Nat)t,Src.nD[i]?=S t->w.cell? ⟨2,i,N⟩=S (.string ⟨t.toArray⟩))
def BB{o:cg}(ho:kC o)(s:Str):bP Tryz.prog 4 o 191 [sv s] (·=bv (decide (s∈Src.gW))):=by
 refine hdG Tryz.func191 rfl [.tmp 2] λO bo s0 w0 g=>?_;have r:z Src.gW=10:=rfl;simp only[go_sem];refine aq (λn K=>∃k:Nat,n+k=10/\K.f 0=sv s/\K.f 4=iv .i64 k/\s∉Src.gW.take k) 10 ?_ ?_
 .refine⟨0,rfl,?_⟩
  simp only[go_sem];simp
 rintro n f y A ⟨k,B,a,b,u⟩;simp only at a b;have m:=ab (k:=k) a6;by_cases v:k<10
 .have H:(k:Int)<10:=a6
  obtain⟨t,q⟩:=getq (l:=Src.gW) (k:=k) a6;simp only[go_sem,a,b,H]
  refine pL aG (λs G ds w h=>h.1.2) aR (n:=10) (e:=9) rfl rfl a7 (kd:=.i64) (i:=k) (by simp only[go_sem,b]) v (cs:=[.str t]) (λj x I=>by match j,I with|0,I=>cases I;rfl) (λw m j x I=>by
   match j,I with
   | 0,I=>cases I;rw[show k*(Tt 9).size+0=k from by show k*1+0=k;omega];exact(ho w m).1 k t q) ?_
  by_cases d:t=s
  .have E:s∈Src.gW:=d▸l5 q
   simp only[go_sem,a,d];exact(B3 E).symm
  .simp only[go_sem,a,b,d,m]
   refine ai (n-1) a6 ⟨k+1,a6,?_⟩;simp only[go_sem,a];rw[B4,q];simp[u,A9 d]
 .obtain rfl:k=10:=a6
  rw[s6 (by rw[r];decide)]at u;simp only[go_sem,a,b,show ¬((10:Nat):Int)<10 by decide];exact(z7 u).symm
def uk(s:Str):Src.R (Nat×Str×Nat):=if 20<z s then .err 2 else if s∈Src.gW then .ok (3,s,0)else .ok (1,s,0)
def JM{o:cg}(ho:kC o)(s:Str):bP Tryz.prog 4 o 188 [sv s] (·=rF (uk s)):=by
 refine hdG Tryz.func188 rfl [.cell 2 159,.tmp 3] λO bo s0 w0 g=>?_;unfold uk;by_cases b:20<z s
 .have a:(20:Int)<(z s:Int):=a6
  rw[l7 b];simp only[go_sem,a,fK];exact⟨_,ew (k:=0) (v:=0) (e:=2),rfl⟩
 have a:¬(20:Int)<(z s:Int):=a6;rw[j8 b];simp only[go_sem,a];refine cK rfl (by simp only[go_sem];exact BB ho s) ?_;rintro _ rfl;by_cases E:s∈Src.gW
 .rw[l7 E,B3 E]
  simp only[go_sem,fK];exact⟨_,ew (k:=3) (v:=0) (e:=0),rfl⟩
 .rw[j8 E,z7 E]
  simp only[go_sem,fK];exact⟨_,ew (k:=1) (v:=0) (e:=0),rfl⟩
end
end Go.Proofs.YtednjibjomfhfaaGreatDoor
