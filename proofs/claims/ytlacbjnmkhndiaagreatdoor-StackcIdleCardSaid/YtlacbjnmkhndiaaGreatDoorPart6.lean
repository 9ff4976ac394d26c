/- A part of the proof; no conditions. -/
import Derived.Test.YtlacbjnmkhndiaaGreatDoorPart5
import Derived.RangeFuncSeq
import Derived.Below
import Derived.Lib.UnsafeStr
import Derived.Laws.Externs
import Derived.Handed
import Derived.Lay
import Derived.LaidMore
import Derived.SevenTiedAt
import Derived.Stop.Joined
import Derived.KernelRfl
import Derived.DefersIn
import Derived.RecoverIn
import Derived.Test.YtlacbjnmkhndiaaGreatDoorProg
import Derived.Lib.Bytealg
import Derived.Shelf.Strings.IndexAnyAll
import Derived.Laws.RangeAny
import Derived.WalkMore
import Derived.Shelf.RegionOpenPlain
import Derived.BigQuiet
import Derived.Laws.Runes
import Derived.Shelf.Small.Utf8
import Derived.Lib.QuoteLoop
import Derived.Lib.TrimU
import Derived.Lib.OthersKept
import Derived.Shelf.Strings.SlTrimAscii
import Derived.Shelf.Strings.Runes
set_option linter.unusedSimpArgs false
set_option linter.unusedVariables false
set_option linter.defProp false
open List renaming length -> z
open Option renaming some -> S, none -> N
open Bool renaming true -> T, false -> F
set_option maxHeartbeats 64000000
set_option maxRecDepth 100000
namespace Go.Am
section
section
variable{B B' id:Nat}{ops:Array Oper}{Q:Exit->St->Prop}
section
variable{P:Program}{E:Nat->TI}{O:Bs}{w:World}{rd:Option Nat}{n:St->Loc->List Deferred->World->Prop}{t:fT}
def xw{hT:bu P E}(a6:bp O n){B al:Nat}{ops:Array Oper}{ds:List Deferred}{Q:Exit->Act->World->Prop}(ad:ops.toList.all aW=T)(hg:ops.toList.all (λo=>o.guard.isNone)=T)(ar:fX al ops.toList=T)(I:(Nat->Bool)->St->Prop)
 (J:∀(L:Nat->Bool)(s:St)(i:Nat)(o:Oper),I L s->ops[i]?=S o->L i=F->(∀e∈o.after.toList,Region.binds .any e=T->L e.on=T)->
    (∀j g,L j=T->ops[j]?=S g->∀e∈g.after.toList,Region.binds .any e=T->L e.on=T)->opA (spB P B) E o s (bx λW=>I (upd L i T) W)):
  ∀(q:Nat)(b:Array Bool){s:St}{β:Loc}{a:Act}{w:World},b.size=ops.size->b.toList.count F<=q->Rel O al s β a w->n s β ds w->I (λi=>b.getD i F) s->
   (∀j g,b.getD j F=T->ops[j]?=S g->∀e∈g.after.toList,Region.binds .any e=T->b.getD e.on F=T)->
   (∀L W A t G,I L W->Rel O al W A t G->n W A ds G->(∃c,L=(λi=>c.getD i F)/\c.size=ops.size/\Region.ready .any ops c=[])->Q .normal {t with defers:=ds} G)->
   wpAnyIn (fen rd) 0 P .any ops Q q b {a with defers:=ds} w
 |0,b,s,β,a,w,az,Z,V,X,hI,hid,hQ=>by
   exact k9
 |q+1,b,s,β,a,w,az,Z,V,X,hI,hid,hQ=>by
   refine⟨λb7=>hQ _ s β a w hI V X ⟨b,rfl,az,b7⟩,λi hi=>?_⟩;unfold Region.ready at hi;simp only[U7,D4,s5,J1]at hi;obtain⟨b3,y,m⟩:=hi;have ho:ops[i]?=S ops[i]:=B8 b3;rw[ho]at m;simp only[A3,A6,P5,H9,J1]at m
   have l:b[i]?=S F:=by
    exact W6
   have U:b.getD i F=F:=by rw[z7,l];rfl
   have f:∀e∈ops[i].after.toList,Region.binds .any e=T->b.getD e.on F=T:=λe he hb=>by
    exact S1
   have Y:(ops[i]).guard=N:=by
    have:=x9.1 hg ops[i] (H3 b3);exact Vt
   have k:∀d,(ops[i]).dst=S d->d<al:=λd hd=>by
    exact VQ
   have v:aW ops[i]=T:=x9.1 ad ops[i] (H3 b3);unfold wpOpIn;rw[ho];simp only;rw[l9 (by simp[Region.wanted,Y])]
   have u:(λj=>(b.setIfInBounds i T).getD j F)=upd (λj=>b.getD j F) i T:=by
    funext j;exact so
   refine iG v (mN hT V k (J _ s i ops[i] hI ho U f hid) (λW A t G r x p=>⟨x.defers,?_⟩));refine xw (hT:=hT) a6 ad hg ar I J q (b.setIfInBounds i T) (by simpa using az) (by have:=count_set l;omega) x (a6 _ _ _ _ _ _ _ X p) (by rw[u];exact r) (λj g hj H e he hb=>?_) hQ;exact iE
def sF(hT:bu P E)(l:P.follows .mixedOrders=T)(a6:bp O n){s:St}{q:Box Q}(ad:ops.toList.all aW=T)(k:(ops.toList.all (λo=>o.guard.isNone)&&ve ops)=T)(I:(Nat->Bool)->St->Prop)(h0:I (λ_=>F) s)
 (J:∀(L:Nat->Bool)(s:St)(i:Nat)(o:Oper),I L s->ops[i]?=S o->L i=F->(∀e∈o.after.toList,Region.binds .any e=T->L e.on=T)->
    (∀j g,L j=T->ops[j]?=S g->∀e∈g.after.toList,Region.binds .any e=T->L e.on=T)->opA (spB P B) E o s (bx λW=>I (upd L i T) W))
 (m:∀L W,I L W->(∀i,i<ops.size->L i=T)->Q .normal W):ly (spF P rd O n B' t) E id ops s q:=by
 rw[s5]at k;obtain⟨hg,K⟩:=k;refine .inr ⟨λe W=>e=.normal/\Q .normal W,λal β a ds w Z V X=>?_,λe W⟨U,d⟩=>U▸d⟩;have p:Rel O al s β a {w with drawn:=w.drawn+1}:=V.of_heap rfl;have c:n s β ds {w with drawn:=w.drawn+1}:=a6 _ _ _ _ _ _ _ X (Tr.same rfl rfl rfl);refine wpIn_region_any l (xw (hT:=hT) a6 ad hg Z I J ops.size (Array.replicate ops.size F) a8 a8 p c ?_ (λj g f=>?_) (λL W A r G d u v h6=>⟨W,A,r,ds,rfl,.inl ⟨rfl,m L W d Y8⟩,u,v⟩))
 .exact qo
 .rw[z7,F0]at f
  split at f<;>simp at f
def pP(hT:bu P E)(a:P.follows .mixedOrders=T)(a6:bp O n){s:St}{q:Box Q}(p:List Nat)(y:List (List Nat×List Nat×List Nat×Bool))(l:Nat)(f:ops.toList.all aW=T)(b:DY ops y l=T)(w:z p=l)(ad:p.Nodup)
 (h:jQ (spB P B) E p (jO ops.toList y) s (bx λW=>Q .normal W)):ly (spF P rd O n B' t) E id ops s q:=by
 obtain⟨U,I,c,d,e⟩:=Ea (Q:=Q) p y l b w ad h;exact sF hT a a6 f U I c d e
end
end
section
section
variable{P:Program}{E:Nat->TI}{O:Bs}{w:World}
def oQ{al:Nat}{xs:List AV}{vs:List Value}{g:Nat->Nat}{ob:Obs}{β:Loc}{fa:Nat->AV}{M:Nat}{a:Act}(m:z xs<=al)(b:Rel O M ⟨fa,g,ob⟩ β a w)(c:aS O β g ob w xs vs):
  Rel O al ⟨dE xs,g,ob⟩ β {tmps:=vs.toArray++Array.replicate (al-vs.toArray.size) undef,defers:=[]} w:=by
 have hl:=c.len;refine⟨rfl,by simp;omega,λi=>?_,b.obj,b.inj,b.base⟩;simp only[dE];cases I:xs[i]? with
 |some x=>
   obtain⟨v,U,d⟩:=c.get I;have e:i<z vs:=(l6.1 U).1
   have:(vs.toArray++Array.replicate (al-vs.toArray.size) undef).getD i undef=v:=by
    rw[z7,G1 (by simpa using e)];simp[U]
   rw[this];simpa only[A6]using d
 |none=>
   have f:z xs<=i:=by simpa using I
   have:(vs.toArray++Array.replicate (al-vs.toArray.size) undef).getD i undef=undef:=by
    rw[z7,H6 XH];simp[F0];split<;>rfl
   rw[this];exact cZ
end
end
section
def Mk(O:Bs)(β:Loc)(ob:Obs)(w:World)(k:Nat):List Deferred->Prop
 |[]=>True
 |d::ds=>(∃D,d = {target:=.collected D,args:=#[]}/\k<=D/\Imm O β ob w D/\w.heap[D]?=S (.deferred (S []))/\∀a∈ds,a≠d)/\Mk O β ob w k ds
def Uw(O:Bs)(b:Loc)(c:St)(a:World):St->Loc->List Deferred->World->Prop:=λs β ds w=>Tr O b c a β s w/\Mk O β s.obj w a.heap.size ds
def Mk.keep{O:Bs}{β A:Loc}{s W:St}{w G:World}(h:Tr O β s w A W G){k:Nat}:∀{ds:List Deferred},Mk O β s.obj w k ds->Mk O A W.obj G k ds
 |[],_=>trivial
 |d::ds,hm=>by
   obtain⟨⟨D,U,b,a,c,e⟩,V⟩:=hm;exact⟨⟨D,U,b,(h.imm D a).1,by rw[(h.imm D a).2];exact c,e⟩,Mk.keep h V⟩
def FF{O:Bs}{b:Loc}{c:St}{d:World}:bp O (Uw O b c d):=λ_ _ _ _ _ _ _ h a=>⟨h.1.trans a,h.2.keep a⟩
section
variable{P:Program}{E:Nat->TI}{O:Bs}{β:Loc}{w:World}
end
end
section
section
variable{P:Program}{E:Nat->TI}{O:Bs}{β:Loc}{w:World}
end
end
section
variable{cells:List C}
section
variable{P:Program}{E:Nat->TI}{O:Bs}{β:Loc}{w:World}
def St.claimAt(s:St)(o b j sz:Nat)(cells:List C):St:=⟨s.f,upd s.gen b (s.gen b+1),upd (upd s.obj o (S (cells.set j (.osl b (s.gen b+1) sz 0 0)))) b (S [])⟩
def zP{s:St}{t o b j sz:Nat}(G:(∃off,s.f t=.one (.ptr o (s.gen o) off))\/∃sz off len,s.f t=.one (.osl o (s.gen o) sz off len))(ho:s.obj o=S cells)(Q:cells[j]?=S (.d .nsl))(n1:o≠b):ai s (s.claimAt o b j sz cells):=by
 intro O al β a w V
 let A:Loc:=λi=>if i=b then N else β i
 have y:∀i,i≠b->((s.claimAt o b j sz cells).obj i).isSome=T->(s.obj i).isSome=T:=λi n u=>by
  simp only[St.claimAt,upd,j9 n]at u;by_cases J:i=o
  .subst J;rw[ho];rfl
  .rwa [j9 J]at u
 have q:fE O β s.gen s.obj w A (s.claimAt o b j sz cells).gen (s.claimAt o b j sz cells).obj w:=by
  refine⟨λx I=>⟨⟨I.1,I.2.1,λi W u r=>?_⟩,rfl⟩,λi=>?_,λi hg u=>?_⟩
  .by_cases n:i=b
   .simp[A,n]at r
   .simp only[A,j9 n]at r
    exact I.2.2 i W (y i n u) r
  .simp only[St.claimAt,upd];split
   .rename_i e;subst e;omega
   .omega
  .by_cases n:i=b
   .subst n;simp[St.claimAt,upd]at hg
   .exact⟨y i n u,by simp[A,n],λW _ arr el fr h=>⟨arr,el,fr,h,l8 _⟩⟩
 have g:∀B,β o=S B->B.spot=N:=λB r=>by
  have hv:=V.f t;rcases G with⟨off,G⟩|⟨sz,off,len,G⟩
  .rw[G]at hv
   simp only[ak,aK]at hv;obtain⟨W,U,K,_⟩:=hv.2.2 trivial ZD;rw[r]at U;cases U;exact K
  .rw[G]at hv
   simp only[ak]at hv;exact(ig hv rfl ZD).spot B r
 refine⟨A,⟨V.defers,V.size,λi=>ak.keep q _ (V.f i),λi l m=>?_,λY Z a1 a2 l1 l2 b1 b2 hb=>?_,V.base⟩,l8 _,λ_ _=>rfl,q,rfl,rfl⟩
 .by_cases n:i=b
  .subst n
   simp only[St.claimAt,upd,B5,w7]at m;subst m;simp only[A,B5];rfl
  .by_cases J:i=o
   .subst J
    simp only[St.claimAt,upd,j9 n,B5,w7]at m;subst m;have L:=V.obj i cells ho;have bs:A i=β i:=by simp[A,n1]
    rw[bs];cases r:β i with
    |none=>rw[r]at L;have:cells=[]:=L;subst this;simp at Q
    |some B=>
      rw[r]at L;obtain⟨g1,arr,el,H,u,g2,g3,g4,g5⟩:=L.cells (g B r);refine .ofCells (g B r) ⟨g1,arr,el,H,u,g2,by simpa[St.claimAt,upd,n]using g3,by simpa using g4,λk c hk=>?_⟩;by_cases p:k=j
      .subst p
       have af:=(l6.1 Q).1;rw[U2 af]at hk;cases hk;obtain⟨v,hv,X⟩:=g5 k _ Q;simp only[aK]at X;obtain rfl:=X.inv_nsl;refine⟨_,hv,rfl,by simp[St.claimAt,upd],λ_ _=>?_⟩;simp only[A,B5];exact⟨rfl,rfl⟩
      .exact W2
   .simp only[St.claimAt,upd,j9 n,j9 J]at m
    have:=(V.obj i l m).keep q (λ_ _=>rfl);simpa[A,n,St.claimAt,upd]using this
 .have U:Y≠b:=λe=>by simp[A,e]at b1
  have K:Z≠b:=λe=>by simp[A,e]at b2
  simp only[A,j9 U]at b1;simp only[A,j9 K]at b2;exact V.inj Y Z a1 a2 (y Y U l1) (y Z K l2) b1 b2 hb
def eP{s:St}{t o b j sz off:Nat}(a:s.f t=.one (.ptr o (s.gen o) off))(ho:s.obj o=S cells)(c:cells[j]?=S (.d .nsl))(e:o≠b):ai s (s.claimAt o b j sz cells):=
 zP (.inl ⟨off,a⟩) ho c e
end
end
end
section
attribute[local congr]ite_cc
section
variable{fn:Func}{g:Nat->Nat}
section
variable{P:Program}{E:Nat->TI}{O:Bs}{β:Loc}{w:World}
def mH(E:Nat->TI)(s:St):List ResultVar->{K:List AV->Prop}->Box K->Prop
 |[],K,_=>K []
 |.tmp t::r,K,_=>mH E s r (bx λvs=>K (s.f t::vs))
 |.cell a ty::r,K,_=>uX (E ty) s (s.f a) (bx λv=>mH E s r (bx λvs=>K (v::vs)))
def oO(hT:bu P E){al:Nat}{s:St}{a:Act}(V:Rel O al s β a w):
  ∀(rs:List ResultVar){K:List AV->Prop}{k:Box K},mH E s rs k->∃vs j,(∀g:ResultVar->Sem Value,(∀t,g (.tmp t)=pure (a.tmps.getD t undef))->(∀x t,g (.cell x t)=do loadVar t (<-asAddr (a.tmps.getD x undef)))->(rs.mapM g).run P w=.ok vs w)/\K j/\aS O β s.gen s.obj w j vs
 |[],K,k,h=>⟨[],[],λ_ _ _=>by simp,h,by simp only[aS]⟩
 |.tmp t::r,K,k,h=>by
   obtain⟨vs,j,U,d,e⟩:=oO hT V r h;refine⟨_::vs,_::j,λg hg c=>?_,d,by simp only[aS];exact⟨_,_,rfl,V.f t,e⟩⟩;simp only[P8,Sem.run_bind,hg,Sem.run_pure,Result.andThen_ok,U g hg c]
 |.cell x ty::r,K,k,h=>by
   unfold mH at h;obtain⟨y,Y,J,bz,b⟩:=tS hT V h (V.f x);obtain⟨vs,j,U,d,e⟩:=oO hT V r J;refine⟨Y::vs,y::j,λg hg c=>?_,d,by simp only[aS];exact⟨_,_,rfl,b,e⟩⟩;have hl:=bz w .refl
   have l:(g (.cell x ty)).run P w=.ok Y w:=by
    rw[c];unfold Instr.loadAt at hl;cases i:a.tmps.getD x undef with
    |pointer p=>
      rw[i]at hl;cases p with
      |some p=>simpa[Instr.sureAddr,asAddr]using hl
      |none=>simp[Instr.sureAddr]at hl
    |_=>rw[i]at hl;simp[Instr.sureAddr]at hl
   simp only[P8,Sem.run_bind,l,Sem.run_pure,Result.andThen_ok,U g hg c]
def pack:List AV->AV
 |[t]=>t
 |a=>.tup a
def mI:List Value->Value
 |[v]=>v
 |vs=>.tuple vs.toArray
def zQ{ob:Obs}:∀{j:List AV}{vs:List Value},aS O β g ob w j vs->ak O β g ob w (pack j) (mI vs)
 |[],vs,h=>by simp only[aS]at h;subst h;simp only[pack,mI,ak,aS];exact⟨[],rfl,rfl⟩
 |[t],vs,h=>by simp only[aS]at h;obtain⟨u,a,rfl,U,rfl⟩:=h;exact U
 |t::d::e,vs,h=>by
   have b:=h;simp only[aS]at h;obtain⟨u,a,rfl,U,f,c,rfl,i,k⟩:=h;simp only[pack,mI,ak];exact⟨_,rfl,b⟩
def fj(hT:bu P E){al:Nat}{s:St}{a:Act}(V:Rel O al s β a w){rs:List ResultVar}(c:fn.results=rs.toArray){K:List AV->Prop}{k:Box K}(h:mH E s rs k):
  ∃v j,(results fn a.tmps).run P w=.ok v w/\K j/\ak O β s.gen s.obj w (pack j) v/\∃vs,v=mI vs/\aS O β s.gen s.obj w j vs:=by
 obtain⟨vs,j,U,d,b⟩:=oO hT V rs h;refine⟨mI vs,j,?_,d,zQ b,vs,rfl,b⟩;unfold results;simp only[c,TR,Sem.run_bind,Sem.run_map];rw[U _ (λ_=>rfl) (λ_ _=>rfl)];simp only[Result.andThen_ok,Sem.run_pure]
 match vs with
 |[]=>simp[mI]
 |[t]=>simp[mI]
 |t::e::f=>simp[mI]
def zR(E:Nat->TI)(rs:List ResultVar)(R:AV->(Nat->Nat)->Obs->Prop):Exit->St->Prop
 |.normal,s|.ret,s=>∃W,ai s W/\mH E W rs (bx λj=>R (pack j) W.gen W.obj)
 |_,_=>False
def Qv(B:Nat)(hT:bu P E)(H:P.follows .mixedOrders=T){f:FuncId}{c:Code}(hf:P.funcs[f]?=S fn)(t:fn.body=S c)(K:(fn.name == "runtime.NumGoroutine")=F)
 (rs:List ResultVar)(X:fn.results=rs.toArray)(Z:codeOk fn.ntmps c=T){xs:List AV}(m:z xs<=fn.ntmps){ob:Obs}{R:AV->(Nat->Nat)->Obs->Prop}
 (h:wpC (spB P B) E c (bx (zR E rs R)) ⟨dE xs,g,ob⟩):gY P f xs g ob R:=by
 refine⟨⟨fn,hf,by rw[t];rfl,K⟩,λO al β a u w vs p hv=>?_⟩;refine calls_of_wp hf t ?_;have hl:=hv.len
 have V:Rel O fn.ntmps ⟨dE xs,g,ob⟩ β {tmps:=vs.toArray++Array.replicate (fn.ntmps-vs.toArray.size) undef,defers:=[]} w:=by
  refine⟨rfl,by simp;omega,λi=>?_,p.obj,p.inj,p.base⟩;simp only[dE];cases I:xs[i]? with
  |some x=>
    exact kb
  |none=>
    exact W4
 refine wp_mono (fc (B:=B) hT H c Z V h) (λe n G hp=>?_);obtain⟨W,A,d,s,ht⟩:=hp
 have k:zR E rs R .ret W->∃v,(results fn n.tmps).run P G=.ok v G/\∃y r o Y A,Ending.returned v=.returned y/\R r o Y/\ak O A o Y G r y/\
   (∀id b,Y id=S b->dt O A o Y G (o id) b (A id))/\(∀id L a n,(Y id).isSome=T->(Y L).isSome=T->A id=S a->A L=S n->a.block=n.block->id=L)/\
   Tr O β ⟨u,g,ob⟩ w A ⟨u,o,Y⟩ G:=by
  rintro⟨s2,b8,hR⟩;obtain⟨ad,Q,q⟩:=b8 O fn.ntmps A n G s;have J:=ht.trans q;obtain⟨v,j,U,h2,h3,_⟩:=fj hT Q X hR;exact⟨v,U,v,_,_,_,ad,rfl,h2,h3,Q.obj,Q.inj,⟨J.size,J.old,J.keep,J.os⟩⟩
 cases e with
 |normal=>exact⟨s.defers,k d⟩
 |ret=>exact⟨s.defers,k d⟩
 |exit id=>exact d.elim
 |goto l=>exact d.elim
 |panic ch=>exact d.elim
 |outgrown=>exact d.elim
def ry(s:St):List AV->AV->Prop
 |[t],r=>lW s t r
 |b,r=>∃a,dU s b a/\r=.tup a
def ry.rep{al:Nat}{s:St}{a:Act}(V:Rel O al s β a w):∀{ts:List AV}{r:AV}{vs:List Value},ry s ts r->aS O β s.gen s.obj w ts vs->RV (Own O w) w r (mI vs):=by
 have b:∀(ts e:List AV)(vs:List Value),dU s ts e->aS O β s.gen s.obj w ts vs->RVs (Own O w) w e vs:=by
  intro ts
  induction ts with
  |nil=>intro e vs h d;simp only[dU]at h;simp only[aS]at d;subst h d;simp only[RVs]
  |cons t ts j=>
    intro e vs h d;simp only[dU]at h;simp only[aS]at d;obtain⟨r,o,rfl,U,f⟩:=h;obtain⟨u,i,rfl,k,l⟩:=d;simp only[RVs];exact⟨_,_,rfl,U.rep V k,j _ _ f l⟩
 intro ts r vs h d
 match ts,h with
 |[],⟨e,U,f⟩=>
   subst f;have:=b _ _ _ U d;simp only[aS]at d;subst d;simp only[RV,mI];exact⟨_,rfl,this⟩
 |[t],h=>
   simp only[aS]at d;obtain⟨u,i,rfl,U,rfl⟩:=d;exact lW.rep V h U
 |t::m::ts,⟨e,U,f⟩=>
   subst f;have:=b _ _ _ U d;simp only[aS]at d;obtain⟨u,i,rfl,_,n,c,rfl,_,_⟩:=d;simp only[RV,mI];exact⟨_,rfl,this⟩
def vm(E:Nat->TI)(rs:List ResultVar)(R:AV->Prop):Exit->St->Prop
 |.normal,s|.ret,s=>mH E s rs (bx λj=>∃r,ry s j r/\R r)
 |_,_=>False
def zS(hT:bu P E)(t:P.follows .mixedOrders=T){f:FuncId}{c:Code}(hf:P.funcs[f]?=S fn)(hb:fn.body=S c)(B:(fn.name == "runtime.NumGoroutine")=F)
 (rs:List ResultVar)(H:fn.results=rs.toArray)(Q:codeOk fn.ntmps c=T){args:List AV}(m:z args<=fn.ntmps){R:AV->Prop}
 (h:∀g,wpC (sp P) E c (bx (vm E rs R)) ⟨dE args,g,λ_=>N⟩):aJ P f args R:=by
 refine⟨⟨fn,hf,by rw[hb];rfl,B⟩,λJ w vs hJ hv=>?_⟩;refine calls_of_wp hf hb ?_
 have X:∀(l:List AV)(vs:List Value),RVs J w l vs->z vs=z l:=by
  intro l
  induction l with
  |nil=>intro vs h;simp only[RVs]at h;subst h;rfl
  |cons x l o=>intro vs h;simp only[RVs]at h;obtain⟨u,p,rfl,_,h⟩:=h;simp[o p h]
 have hl:=X _ _ hv
 let K:Nat->Prop:=J
 have V:Rel ⟨w.heap.size,K⟩ fn.ntmps ⟨dE args,λ_=>0,λ_=>N⟩ (λ_=>N) {tmps:=vs.toArray++Array.replicate (fn.ntmps-vs.toArray.size) undef,defers:=[]} w:=by
  refine⟨rfl,by simp;omega,λi=>?_,λid q ho=>ZV,λid L a s ho=>ZV,l8 _⟩
  have al:∀(l:List AV)(vs:List Value),RVs J w l vs->∀(i:Nat)(x:AV),l[i]?=S x->∃v,vs[i]?=S v/\RV J w x v:=by
   intro l
   induction l with
   |nil=>intro vs _ i x h;simp at h
   |cons y l o=>
     intro vs h i x I;simp only[RVs]at h;obtain⟨u,p,rfl,U,h2⟩:=h;cases i with
     |zero=>simp at I;subst I;exact⟨u,rfl,U⟩
     |succ i=>simpa using o p h2 i x YT
  simp only[dE];cases I:args[i]? with
  |some x=>
    exact nf
  |none=>
    exact W1
 refine wp_mono (fc hT t c Q V (h _)) (λe s G Y=>?_);obtain⟨W,A,n,bf,ht⟩:=Y
 have k:vm E rs R .ret W->∃v,(results fn s.tmps).run P G=.ok v G/\∃r,R r/\RV (Own ⟨w.heap.size,K⟩ G) G r v:=by
  intro n;obtain⟨v,j,U,⟨r,h2,h3⟩,_,d,rfl,Z⟩:=fj hT bf H n;exact⟨_,U,r,h3,h2.rep bf Z⟩
 cases e with
 |normal=>
   obtain⟨v,U,r,h2,h3⟩:=k n;exact x3
 |ret=>
   obtain⟨v,U,r,h2,h3⟩:=k n;exact x3
 |exit id=>exact n.elim
 |goto l=>exact n.elim
 |panic ch=>exact n.elim
 |outgrown=>exact n.elim
end
@[go_sem]def TG:=A4 @mH.eq_1 (A4 @mH.eq_2 (A4 @mH.eq_3 (A4 @vm.eq_2 @ry.eq_1)))
def eu{A:Type}{s:St}{id g sz n:Nat}{cells:List C}(hg:s.gen id=g)(l:List A)(enc:A->List D)(ho:s.obj id=S cells)(Z:cells=l.flatMap (λa=>(enc a).map .d))(k:∀a∈l,∀x∈enc a,iC x=x)(f:∀a∈l,z (enc a)=sz)(hl:z l=n):
  Frz s (.osl id g sz 0 n) (.sl (l.map enc)):=by
 have i:cells=(l.map enc).flatten.map .d:=by rw[Z];clear k f hl Z ho;induction l with|nil=>rfl|cons a l m=>simp[m]
 have r:z cells=n*sz:=by
  rw[i,j7];clear i Z k ho;subst hl
  induction l with
  |nil=>simp
  |cons a l m=>
    simp only[s6,E7,j8,l4,f a a8,m (λb hb=>f b ZU)];rw[F1];omega
 refine .osl hg ho a7 YO (λe o=>by obtain⟨a,p,rfl⟩:=D6.1 o;exact f a p) (λj=>(cells[0+j]?).getD (.d .nsl)) (λj x I=>?_) (λj x I=>?_)
 .rw[i,C5,w9,I];rfl
 .rw[i,C5,w9,I]
  simp only[A3,A6]
  have W:iC x=x:=by
   have q:=l7 I;obtain⟨e,o,c⟩:=List.mem_flatten.1 q;obtain⟨a,p,rfl⟩:=D6.1 o;exact k a p x c
  have:=Frz.d (s:=s) x
  rwa [W]at this
end
end
section
section
structure oe (O:Bs) (β:Loc) (ob:Obs) (k:Nat) (w G:World):Prop where
 size:G.heap.size=w.heap.size
 os:G.os=w.os/\G.output=w.output
 same:∀b,G.heap[b]?=w.heap[b]?\/(k<=b/\Imm O β ob w b/\(∃x,w.heap[b]?=some (.deferred x))/\∃x,G.heap[b]?=some (.deferred x))
section
variable{P:Program}{E:Nat->TI}{O:Bs}{β:Loc}{g:Nat->Nat}{ob:Obs}{k:Nat}{w G:World}
def oe.refl:oe O β ob k w w:=⟨rfl,⟨rfl,rfl⟩,λ_=>.inl rfl⟩
def oe.trans{H:World}(h:oe O β ob k w G)(q:oe O β ob k G H):oe O β ob k w H:=by
 refine⟨q.size.trans h.size,⟨q.os.1.trans h.os.1,q.os.2.trans h.os.2⟩,λb=>?_⟩;rcases h.same b with e|⟨i,j,l,m⟩
 .rcases q.same b with f|⟨n,d,c,a⟩
  .exact .inl (f.trans e)
  .exact .inr ⟨n,by unfold Imm at *;rw[h.size]at d;exact d,by rw[<-e];exact c,a⟩
 .rcases q.same b with f|⟨n,d,c,a⟩
  .exact .inr ⟨i,j,l,by rw[f];exact m⟩
  .exact .inr ⟨i,j,l,a⟩
def oe.cell(h:oe O β ob k w G){a:Addr}{v:Value}(Z:w.cell? a=S v):G.cell? a=S v:=by
 rcases h.same a.block with e|⟨_,_,⟨x,e⟩,_⟩
 .rw[mn e];exact Z
 .simp[World.cell?,e]at Z
def oe.imm(h:oe O β ob k w G){b:Nat}(a:Imm O β ob w b):Imm O β ob G b:=by unfold Imm at *;rw[h.size];exact a
def cD.shut{J K:Nat->Prop}{x:D}{v:Value}(h:cD J w x v)(o:∀b,J b->K b)(Z:∀a v,w.cell? a=S v->G.cell? a=S v):cD K G x v:=by
 induction h with
 |bool b=>exact .bool b
 |int k n=>exact .int k n
 |str s=>exact .str s
 |nsl=>exact .nsl
 |nilp=>exact .nilp
 |nilf=>exact .nilf
 |nili=>exact .nili
 |nilm=>exact .nilm
 |fn f=>exact .fn f
 |yld l=>exact .yld l
 |sl0=>exact .sl0
 |sl A p c az d V m=>exact .sl A p (λh=>o _ (c h)) az (λi e q j x I=>Z _ _ (d i e q j x I)) m
 |iptr A c d V m=>exact .iptr A (λh=>o _ (c h)) (λj x I=>Z _ _ (d j x I)) m
def kP.shut(h:oe O β ob k w G){c:PC}{v:Value}(V:kP O β g ob w c v):kP O β g ob G c v:=by
 cases c with
 |d x=>exact cD.shut V (λ_=>h.imm) (λ_ _=>h.cell)
 |ptr id g1 off=>exact V
def aK.shut(h:oe O β ob k w G){c:C}{v:Value}(V:aK O β g ob w c v):aK O β g ob G c v:=by
 cases c with
 |d x=>exact cD.shut V (λ_=>h.imm) (λ_ _=>h.cell)
 |osl id g1 sz off len=>
   obtain⟨U,j,l⟩:=V;refine⟨U,j,λhg ho=>?_⟩;have b:=l hg ho;cases t:β id with
   |none=>rw[t]at b;exact b
   |some a=>
     rw[t]at b;obtain⟨y,m⟩:=b;refine⟨y,?_⟩;rcases m with⟨p,A,B,H⟩|m
     .refine .inl ⟨p,A,B,λarr el fr r=>?_⟩
      rcases h.same a.block with e|⟨_,_,_,⟨x,e⟩⟩
      .exact H arr el fr (by rw[<-e];exact r)
      .rw[e]at r;cases r
     .exact .inr m
 |ptr id g1 off=>exact V
 |clo f q=>
   obtain⟨vs,U,j,l⟩:=V;exact⟨vs,U,j,λi pc I=>let ⟨u,hu,V⟩:=l i pc I;⟨u,hu,V.shut h⟩⟩
 |mp id g1 J=>exact V
 |lsl n=>exact V
 |raw o=>exact V
def mD.shut(h:oe O β ob k w G){cs:List C}{vs:Array Value}(V:mD O β g ob w cs vs):mD O β g ob G cs vs:=
 ⟨V.1,λi c Z=>let ⟨u,hu,V⟩:=V.2 i c Z;⟨u,hu,V.shut h⟩⟩
mutual
theorem ak.shut(h:oe O β ob k w G):(x:AV)->{v:Value}->ak O β g ob w x v->ak O β g ob G x v
 |.one _,_,V=>by simp only[ak]at V|-;exact aK.shut h V
 |.agg _,_,V=>by simp only[ak]at V|-;obtain⟨vs,U,a⟩:=V;exact⟨vs,U,a.shut h⟩
 |.tup b,_,V=>by simp only[ak]at V|-;obtain⟨vs,U,a⟩:=V;exact⟨vs,U,aS.shut h b a⟩
 |.junk,_,_=>by simp only[ak]
 |.exact _,_,V=>by simp only[ak]at V|-;exact V
theorem aS.shut(h:oe O β ob k w G):(x:List AV)->{v:List Value}->aS O β g ob w x v->aS O β g ob G x v
 |[],_,V=>by simp only[aS]at V|-;exact V
 |t::a,_,V=>by simp only[aS]at V|-;obtain⟨u,b,U,c,d⟩:=V;exact⟨u,b,U,ak.shut h t c,aS.shut h a d⟩
end
def Rel.shut{al:Nat}{s:St}{a:Act}(V:Rel O al s β a w)(h:oe O β s.obj k w G):Rel O al s β a G:=by
 refine⟨V.defers,V.size,λi=>ak.shut h _ (V.f i),λid b ho=>?_,V.inj,by rw[h.size];exact V.base⟩;have U:=V.obj id b ho;cases A:β id with
 |none=>rw[A]at U;exact U
 |some d=>
   rw[A]at U
   have B:G.heap[d.block]?=w.heap[d.block]?:=by
    rcases h.same d.block with e|⟨_,e,_⟩
    .exact e
    .exact absurd rfl (e.2.2 id d Yv A)
   cases l:d.spot with
   |none=>
     obtain⟨y,arr,el,H,K,m,t,L,Q⟩:=U.cells l;exact .ofCells l ⟨y,arr,el,H,K,by rw[B];exact m,t,L,λj c Z=>let ⟨v,X,V⟩:=Q j c Z;⟨v,X,V.shut h⟩⟩
   |some kd=>
     obtain⟨y,⟨Y,p,m,t⟩|⟨r,o,m,t⟩⟩:=U.map l
     .exact .ofMap l ⟨y,.inl ⟨Y,p,by rw[B];exact m,t.mono λ_ _ q=>by
       unfold jN at q|-;split
       .rename_i J
        rw[l9 J]at q;exact aK.shut h q
       .rename_i J
        rw[j9 J]at q;obtain⟨ds,vs,q1,q2,q3,q4⟩:=q;exact⟨ds,vs,q1,q2,q3,λi x I=>let ⟨u,hu,V⟩:=q4 i x I;⟨u,hu,cD.shut V (λ_=>h.imm) (λ_ _=>h.cell)⟩⟩⟩⟩
     .exact .ofMap l ⟨y,.inr ⟨r,o,m,by rw[B];exact t⟩⟩
def Mk.put{D:Nat}{o:Obj}:∀{ds:List Deferred},Mk O β ob w k ds->(∀a∈ds,a≠{target:=.collected D,args:=#[]})->Mk O β ob (w.putObj D o) k ds
 |[],_,_=>trivial
 |d::ds,hm,b=>by
   obtain⟨⟨E,U,c,e,f,i⟩,V⟩:=hm;have j:E≠D:=λl=>b d a8 (by rw[U,l]);exact⟨⟨E,U,c,by unfold Imm at *;simpa using e,by rw[World.putObj_heap_other j];exact f,i⟩,V.put (λa m=>b a (by simp[m]))⟩
def rA{fn:Func}{a:Array Value}{R:Ending->World->Prop}:∀{ds:List Deferred}{w:World},Mk O β ob w k ds->
  (∀t,oe O β ob k w t->∃v,(results fn a).run P t=.ok v t/\R (.returned v) t)->LeavesInM (fen N) 0 P fn a R ds .returning w
 |[],w,_,h=>h w .refl
 |d::ds,w,hm,h=>by
   obtain⟨⟨D,U,i,c,e,j⟩,V⟩:=hm;refine⟨a8,.inl ⟨D,_,by rw[U],run_takeDeferred e,?_⟩⟩;have l:D<w.heap.size:=c.1
   have p:oe O β ob k w (w.putObj D (.deferred N)):=⟨a8,⟨rfl,rfl⟩,λb=>by
    by_cases f:b=D
    .subst f
     exact .inr ⟨i,c,⟨_,e⟩,⟨N,World.putObj_heap_same l⟩⟩
    .exact .inl (World.putObj_heap_other f)⟩
   exact rA (V.put (λm n=>by rw[<-U];exact j m n)) (λt o=>h t (p.trans o))
end
end
section
section
variable{P:Program}{E:Nat->TI}{O:Bs}{β:Loc}{w:World}
end
end
end
section
attribute[local congr]ite_cc
section
variable{s:St}{d:List Nat}{R:AV->(Nat->Nat)->Obs->Prop}
def oU(p:Nat->Bool):ai s ⟨s.f,s.gen,λi=>if p i=T then N else s.obj i⟩:=by
 exact tI
def bY(p:Nat->Bool)(h:R (nP s.f d) s.gen (λi=>if p i=T then N else s.obj i)):zK d R .normal s:=⟨_,oU p,h⟩
def jq(p:Nat->Bool)(h:R (nP s.f d) s.gen (λi=>if p i=T then N else s.obj i)):zK d R .ret s:=⟨_,oU p,h⟩
@[go_sem]def TH:zB .nilFunc=.one (.d .nilf):=B9 rfl rfl
end
end
section
section
variable{s:St}{o:Oper}{K:St->Prop}{f:FuncId}{args:Array Operand}{tys:Array TypeId}{R:AV->Prop}{k:Box K}
section
variable{P:Program}{E:Nat->TI}{O:Bs}{rd:Option Nat}{i:St->Loc->List Deferred->World->Prop}{l:fT}{m:Nat}
def aG{B:(Exit->St->Prop)->St->Prop}{b:Box B}{Q:Exit->St->Prop}{q:Box Q}(I:Nat->St->Prop)(n:Nat)(c:I n s)
 (V:∀n f g a,I n ⟨f,g,a⟩->B (jD (bx λW=>∃j d,j<n/\(spF P rd O i m l).vs W d/\I j d) q) ⟨f,g,a⟩):oF (spF P rd O i m l) b q s:=
 ⟨I,⟨n,s,ai.refl s,c⟩,λn s e=>V n s.f s.gen s.obj e⟩
def ao{I:Nat->St->Prop}{n:Nat}(j:Nat)(h:j<n)(a:I j s):∃j d,j<n/\(spF P rd O i m l).vs s d/\I j d:=⟨j,s,h,ai.refl s,a⟩
def jb(a6:bp O i)(ho:o.op=.call ⟨.value (.func f),args,tys⟩)
 (a:aJ P f (args.toList.map s.ev) R)(hd:(args.toList.map s.ev).all fk=T)(b:∀r,R r->K (s.put o.dst r)):bC (spF P rd O i m l) o s k:=
 xu a6 Y7 (xr (B:=0) (k:=k) ho a hd b)
def dA(a6:bp O i)(ho:o.op=.call ⟨.value (.func f),args,tys⟩){R:AV->(Nat->Nat)->Obs->Prop}
 (b:gY P f (args.toList.map s.ev) s.gen s.obj R)(c:∀r a Y,R r a Y->K (St.put ⟨s.f,a,Y⟩ o.dst r)):bC (spF P rd O i m l) o s k:=
 xu a6 Y7 (cJ (B:=0) (k:=k) ho b c)
def zU{B:Nat}{t:Nat}(ho:o.op=.call ⟨.value (.tmp t),args,tys⟩)(hf:s.f t=.one (.d (.fn f)))
 (hp:aJ P f (args.toList.map s.ev) R)(hd:(args.toList.map s.ev).all fk=T)(g:∀r,R r->K (s.put o.dst r)):bC (spB P B) o s k:=by
 refine⟨λW=>∃r,R r/\W=s.put o.dst r,?_,λ_⟨r,V,e⟩=>e▸g r V⟩;intro O al β a w V c next Q hn;have hv:=V.f t;rw[hf]at hv;simp only[ak,aK]at hv;have hv:a.tmps.getD t undef=.func (.func f) #[] #[]:=by generalize a.tmps.getD t undef=v at hv;cases hv;rfl
 have bz:(execOp a.eval o).run P w=.ok (.enter f (args.map a.eval)) w:=by
  exact k7
 unfold Oper.wp;rw[bz];exact hO
def sI(a6:bp O i){t:Nat}(ho:o.op=.call ⟨.value (.tmp t),args,tys⟩)(hf:s.f t=.one (.d (.fn f)))
 (a:aJ P f (args.toList.map s.ev) R)(hd:(args.toList.map s.ev).all fk=T)(b:∀r,R r->K (s.put o.dst r)):bC (spF P rd O i m l) o s k:=
 xu a6 Y7 (zU (B:=0) (k:=k) ho hf a hd b)
def Cq(a6:bp O i)(ho:o.op=.call ⟨.value (.func f),args,tys⟩){xs:List AV}
 (I:dU s (args.toList.map s.ev) xs)(a:aJ P f xs R)(hd:∀r,R r->dS r=T)(b:∀r,R r->K (s.put o.dst r)):bC (spF P rd O i m l) o s k:=
 xu a6 Y7 (sD (k:=k) ho I a hd b)
end
section
variable{ar:Sp}{E:Nat->TI}
end
end
end
section
open Go.ChangeShapes Go.WideShapes Go.ChangeAt Go.RowKit
section
variable{H:Type}{enc:TypeId×Value->H}
end
end
section
section
abbrev cT:=Nat->Option Obj
def uB(q:Nat)(o:cT)(w:World):Prop:=q<w.heap.size/\∀b,b<=q->w.heap[b]?=o b
variable{o:cT}{f:FuncId}{s:St}{w:World}{R:AV->Prop}{l:St->Loc->List Deferred->World->Prop}{K:St->Prop}{q a:Nat}{P:Program}{args:List AV}{tys:Array TypeId}{k:Box K}
def uB.lt{q:Nat}(h:uB q o w):q<w.heap.size:=h.1
def uB.down(hl:q<=a)(h:uB a o w):uB q o w:=⟨G9 hl h.1,λb c=>h.2 b (D0 c hl)⟩
def tU(O:Bs)(q:Nat)(o:cT)(w:World):Prop:=(q<O.B/\∀b,b<=q->O.I b)/\uB q o w
def ck(P:Program)(q:Nat)(o:cT)(f:FuncId)(args:List AV)(R:AV->Prop):Prop:=
 FW P f/\∀(J:Nat->Prop)(w:World)(vs:List Value),uB q o w->(∀b,J b->b<w.heap.size)->RVs J w args vs->
  Calls P f vs.toArray w λe G=>∃v r,e=.returned v/\R r/\w.heap.size<=G.heap.size/\(∀b,b<w.heap.size->G.heap[b]?=w.heap[b]?)/\(G.os=w.os/\G.output=w.output)/\RV (λb=>b<G.heap.size/\(b<w.heap.size->J b\/b<=q)) G r v
def aJ.toG{q:Nat}(h:aJ P f args R):ck P q o f args R:=
 ⟨h.1,λJ w vs _ U c=>(h.2 J w vs U c).mono λ_ _⟨v,r,d,e,g,i,j,l⟩=>⟨v,r,d,e,g,i,j,RV.mono (λ_ b=>⟨⟨b.1,λhl=>.inl (b.2 hl)⟩,rfl⟩) r l⟩⟩
def HG(P:Program)(q:Nat)(o:cT)(f:FuncId)(xs:List AV)(g:Nat->Nat)(ob:Obs)(R:AV->(Nat->Nat)->Obs->Prop):Prop:=
 FW P f/\∀(O:Bs)(al:Nat)(d:Loc)(a:Act)(h:Nat->AV)(w:World)(vs:List Value),q<O.B->tU O q o w->Rel O al ⟨h,g,ob⟩ d a w->aS O d g ob w xs vs->
  Calls P f vs.toArray w λe G=>∃v r c Y A,e=.returned v/\R r c Y/\ak O A c Y G r v/\
   (∀id b,Y id=S b->dt O A c Y G (c id) b (A id))/\(∀id L a i,(Y id).isSome=T->(Y L).isSome=T->A id=S a->A L=S i->a.block=i.block->id=L)/\
   Tr O d ⟨h,g,ob⟩ w A ⟨h,c,Y⟩ G
def HH(q:Nat)(o:cT)(O:Bs)(u:Loc)(y:St)(p:World):St->Loc->List Deferred->World->Prop:=λs β ds w=>(q<O.B/\tU O q o w)/\Uw O u y p s β ds w
section
variable{P:Program}{E:Nat->TI}{O:Bs}{rd:Option Nat}{q:Nat}{o:cT}{H:fT}{B0:Nat}{u:Loc}{y:St}{p:World}
def aL:bp O (HH q o O u y p):=λ_ _ _ _ _ _ _ h c=>⟨⟨h.1.1,h.1.2.1,H4 h.1.2.2.1 c.size,λb d=>by rw[c.old b (G9 d h.1.1)];exact h.1.2.2.2 b d⟩,FF _ _ _ _ _ _ _ h.2 c⟩
def vt{al:Nat}{β:Loc}{a:Act}(V:Rel O al s β a w)(d:tU O q o w){b:Nat}(e:b<=q):Imm O β s.obj w b:=by
 refine⟨G9 e d.2.1,λ_=>d.1.2 b e,λid i ho g j=>?_⟩;obtain⟨c,Z⟩:=M9.1 ho;have h:=V.obj id c Z;rw[g]at h;have U:=h.block.1;have l:=d.1.1;omega
def kc(a6:bp O l)(hG:∀s β ds w,l s β ds w->tU O q o w){op:Oper}{args:Array Operand}(ho:op.op=.call ⟨.value (.func f),args,tys⟩)
 (hp:ck P q o f (args.toList.map s.ev) R)(hd:(args.toList.map s.ev).all fk=T)(d:∀r,R r->K (s.put op.dst r)):bC (spF P rd O l B0 H) op s k:=by
 refine⟨λW=>∃r,R r/\W=s.put op.dst r,?_,λ_⟨r,V,e⟩=>e▸d r V⟩;intro al β a ds w V X c next Q hn _;have g:aW op=T:=by simp[aW,ho]
 refine iG g ?_;unfold Oper.wp;rw[ky ho hp.1 w];simp only[Oper.upon];exact hx
def sJ(a6:bp O l)(u:∀s β ds w,l s β ds w->tU O q o w)(hT:bu P E){dst:Option Tmp}{t n e gi:Nat}{g:Operand}{ty:TypeId}{ps:String}{p:Array Edge}{gd:Option (Nat×Bool)}
 (r:(E t).desc=.array n e)(y:okD (E e).desc=T)(A:gi<=q){kd:IntKind}{i:Nat}(c:s.ev g=iv kd i)(B:i<n){cs:List D}(b6:∀(j:Nat)(x:D),cs[j]?=S x->lB x=T)
 (m:∀w:World,uB q o w->∀(j:Nat)(x:D),cs[j]?=S x->w.cell? ⟨gi,i*(E e).size+j,N⟩=S (dV x))(U:K (s.put dst (.one (.d (.iptr cs))))):
  bC (spF P rd O l B0 H) ⟨dst,.indexAddr t (.global gi) g,ty,ps,p,gd⟩ s k:=by
 refine⟨λW=>W=s.put dst (.one (.d (.iptr cs))),λal β a ds w V X hd next Q hn _=>?_,λ_ e=>e▸U⟩;refine iG rfl ?_;have b:=u _ _ _ _ X;have J:=V.ev g;rw[c]at J;simp only[ak,aK]at J;have J:=J.inv_int;have L:=(hT t (by rw[r];rfl)).desc;rw[r]at L;have Y:=hT e y
 have b3:(execOp a.eval ⟨dst,.indexAddr t (.global gi) g,ty,ps,p,gd⟩).run P w=.ok (.value (.pointer (S ⟨gi,i*(E e).size,N⟩))) w:=by
  simp[execOp,J,show a.eval (.global gi)=.pointer (S ⟨gi,0,N⟩)from rfl,Instr.indexAt,asIntOf,run_underlying L,B,bQ Y,ew,Instr.sureAddr]
 have bf:=V.put hd (x:=.one (.d (.iptr cs))) (v:=.pointer (S ⟨gi,i*(E e).size,N⟩)) (by
  simp only[ak,aK];refine .iptr (λj=>dV (cs.getD j .nsl)) (λ_=>vt V b A) (λj x I=>?_) (λj x I=>?_)
  .rw[m w b.2 j x I];simp[E6,I]
  .rw[show cs.getD j .nsl=x by simp[E6,I]];exact cD.of_plain (b6 j x I))
 exact uo
def FK(a6:bp O l)(d:∀s β ds w,l s β ds w->q<O.B/\tU O q o w){op:Oper}{args:Array Operand}(ho:op.op=.call ⟨.value (.func f),args,tys⟩){R:AV->(Nat->Nat)->Obs->Prop}
 (b:HG P q o f (args.toList.map s.ev) s.gen s.obj R)(g:∀r g' Y,R r g' Y->K (St.put ⟨s.f,g',Y⟩ op.dst r)):bC (spF P rd O l B0 H) op s k:=by
 refine⟨λW=>∃r g' Y,R r g' Y/\W=St.put ⟨s.f,g',Y⟩ op.dst r,?_,λ_⟨r,g',Y,V,e⟩=>e▸g r g' Y V⟩;intro al β a ds w V X c next Q hn _;have i:aW op=T:=by simp[aW,ho]
 refine iG i ?_;unfold Oper.wp;rw[ky ho b.1 w];simp only[Oper.upon];obtain⟨bz,j⟩:=d _ _ _ _ X;have:=b.2 O al β a s.f w (args.toList.map a.eval) bz j V (jF V _);rw[show (args.toList.map a.eval).toArray=args.map a.eval from J7 a8]at this;refine this.mono λe G⟨v,r,g',Y,A,he,hR,hv,U,h2,h3⟩=>?_;exact VF
end
def XV(q:Nat)(o:cT)(O:Bs)(u:Loc)(y:St)(p:World):St->Loc->List Deferred->World->Prop:=λs β ds w=>(q<O.B/\tU O q o w)/\ds=[]/\Tr O u y p β s w
section
variable{P:Program}{E:Nat->TI}{q:Nat}{o:cT}
def mJ{O:Bs}{u:Loc}{y:St}{p:World}:bp O (XV q o O u y p):=λ_ _ _ _ _ _ _ h c=>⟨⟨h.1.1,h.1.2.1,H4 h.1.2.2.1 c.size,λb d=>by rw[c.old b (G9 d h.1.1)];exact h.1.2.2.2 b d⟩,h.2.1,h.2.2.trans c⟩
end
def ck.up(hl:q<=a)(h:ck P q o f args R):ck P a o f args R:=
 ⟨h.1,λJ w vs c U d=>(h.2 J w vs (c.down hl) U d).mono λ_ _⟨v,r,e,g,i,j,l,m⟩=>⟨v,r,e,g,i,j,l,RV.mono (λ_ b=>⟨⟨b.1,λn=>(b.2 n).imp id (λh=>D0 h hl)⟩,rfl⟩) r m⟩⟩
end
section
variable{a:Act}{c:Code}{s:St}{K:Act->Prop}{ds:List Deferred}{Q:Exit->Act->World->Prop}{k:List Item}{cs:List Frame}
section
variable{P:Program}{E:Nat->TI}{O:Bs}{w:World}{rd:Option Nat}{Φ:St->Loc->List Deferred->World->Prop}{Ψ:fT}{B:Nat}{ops:Array Oper}
def vu(b:a.defers=[])(d:Option Nat)(v:Value):(a.put d v).defers=[]:=by cases d<;>exact b
def yF{o:Oper}(b:a.defers=[])(h:o.still P a w K):o.still P a w (λd=>d.defers=[]/\K d):=by
 unfold Oper.still at *;generalize (execOp a.eval o).run P w=r at *;cases r with
 |ok n G=>
   cases n<;>simp only[Oper.stillUpon]at h|-
   case enter f args=>obtain⟨U,v,Z,e⟩:=h;exact⟨U,v,Z,vu b _ _,e⟩
   all_goals exact⟨h.1,vu b _ _,h.2⟩
 |halt x G=>simp only[Oper.stillUpon]at h
def oV{i:Nat}{K':Act->World->Prop}{d:Exit->Act->World->Prop}(g:a.defers=[])(ad:ops.toList.all aW=T)(h:∀b,b.defers=[]->K b->K' {b with defers:=ds} w)(f:stOp P ops w i K a):
  wpOpIn (fen rd) 0 P ops d i K' {a with defers:=ds} w:=by
 unfold stOp at f;unfold wpOpIn;cases ho:ops[i]? with
 |none=>simp only[ho]at f|-;exact h _ g f
 |some o=>
   simp only[ho]at f|-
   have u:aW o=T:=x9.1 ad o (by
    obtain⟨m,e⟩:=E5.1 ho;rw[<-e];exact H3 m)
   by_cases l:Region.wanted o (yielded ops a.tmps)=T
   .rw[l9 l]at f|-
    exact iG u (Oper.wp_of_still (K':=λb G=>b.defers=[]/\K' {b with defers:=ds} G) (λb j=>⟨j.1,h b j.1 j.2⟩) (yF g f))
   .rw[j9 l]at f|-
    refine⟨λ_ _=>trivial,?_⟩;rw[qF];exact h _ (vu g _ _) f
def nS{n g:Nat}{ds:List Deferred}{L:Array Bool->Act->Prop}{d:Exit->Act->World->Prop}(ad:ops.toList.all aW=T)(j:∀b a,a.defers=[]->L b a->wpAnyIn (fen rd) 0 P .any ops d g b {a with defers:=ds} w):
  ∀(f:Nat)(b:Array Bool)(a:Act),a.defers=[]->wpAnyL P .any ops w n L f b a->wpAnyIn (fen rd) 0 P .any ops d (f+g) b {a with defers:=ds} w
 |0,b,a,e,h=>by rw[C5];exact j _ _ e h
 |f+1,b,a,e,h=>by
   rw[show f+1+g=(f+g)+1 by omega];exact⟨λl=>absurd l h.1,λi m=>oV e ad (λp r q=>nS ad j f _ p r q) (h.2 i m).2⟩
def mK{ds:List Deferred}{Q:Act->Prop}{d:Exit->Act->World->Prop}(ad:ops.toList.all aW=T)(f:∀a,a.defers=[]->Q a->d .normal {a with defers:=ds} w):∀(q:Nat)(b:Array Bool)(a:Act),a.defers=[]->
  wpAnyS P .any ops w Q q b a->wpAnyIn (fen rd) 0 P .any ops d q b {a with defers:=ds} w
 |0,_,_,e,h=>⟨h.1,f _ e h.2⟩
 |q+1,_,_,e,h=>⟨λg=>f _ e (h.1 g),λi j=>oV e ad (λl m=>mK ad f q _ l m) (h.2 i j)⟩
def oX{b6:Fence}{n:Nat}{d:Exit->Act->World->Prop}:∀(l:List Oper)(k:Nat)(b:Array Bool)(a:Act)(w:World),(∀j,l[j]?=ops[k+j]?)->
  Region.seqB .any ops (z l) k b=T->wpListIn b6 n P ops d l a w->wpAnyIn b6 n P .any ops d (z l) b a w
 |[],_,_,_,_,_,hB,h=>⟨by simpa[Region.seqB]using hB,h⟩
 |o::l,k,b,a,w,hl,hB,h=>by
   have f:ops[k]?=S o:=by simpa using(hl 0).symm
   simp only[l4,Region.seqB,s5,B4]at hB;refine⟨λU=>(by rw[hB.1]at U;cases U),λi e=>?_⟩;rw[hB.1]at e;have g:i=k:=by simpa using e
   subst g;have m:wpOpIn b6 n P ops d i (wpListIn b6 n P ops d l) a w:=by unfold wpOpIn;simp only[f];exact h
   exact wpOpIn_mono (λp G q=>oX l (i+1) _ p G (λj=>by have:=hl (j+1);simpa[C2,U4 1 j]using this) hB.2 q) m
def FL{o:Oper}(d:eL E o.op=T){K:St->Prop}{k:Box K}(h:opA (spF P rd O Φ B Ψ) E o s k):opA (spB P B) E o s k:=by
 obtain⟨g,op,ty,j,l,gd⟩:=o;cases op with
 |slice t x H n i=>cases i<;>first|exact h|(simp[eL]at d;done)
 |indexAddr t x p=>cases x<;>first|(simp[eL]at d;done)|exact h
 |makeFunc f=>cases f<;>first|exact h|(simp[eL]at d;done)
 |call c=>
   obtain⟨callee,e,tys⟩:=c;cases callee with
   |value f=>simp[eL]at d
   |invoke r m=>simp[eL]at d
   |builtin b=>cases b<;>first|exact h|(simp[eL]at d;done)
 |_=>first|exact h|(simp[eL]at d;done)
def ij(hT:bu P E){al:Nat}{β:Loc}{Q:Act->Prop}{K:St->Prop}{k:Box K}(c:List Oper):∀(l:List Oper){s:St}{a:Act},Rel O al s β a w->fX al l=T->l.all (eL E ·.op)=T->wpO (spF P rd O Φ B Ψ) E ops (l++c) s k->
  (∀W e,wpO (spF P rd O Φ B Ψ) E ops c W k->Rel O al W β e w->Tr O β s w β W w->Q e)->wpStill P ops w Q l a
 |[],s,a,V,_,_,h,hQ=>hQ s a h V Tr.refl
 |o::rest,s,a,V,ar,hp,h,hQ=>by
   obtain⟨hd,g⟩:=kx ar;simp only[E9,s5]at hp;rw[C6]at h;unfold wpO at h;unfold wpStill
   have u:∀{f:St},Rel O al f β a w->Tr O β s w β f w->opA (spF P rd O Φ B Ψ) E o f (bx λW=>wpO (spF P rd O Φ B Ψ) E ops (rest++c) W k)->o.still P a w (wpStill P ops w Q rest):=λ{f}m J A=>by
    obtain⟨y,Y,U,H,I⟩:=rF hT m hp.1 (FL hp.1 A);unfold Oper.still;rw[H w .refl];refine⟨rfl,ij hT c rest (m.put hd I) g hp.2 U (λW e k1 k2 k3=>hQ W e k1 k2 (J.trans (Tr.trans (Tr.same (St.put_gen _ _ _) (St.put_obj _ _ _) rfl) k3)))⟩
   cases hg:o.guard with
   |none=>
     exact V5
   |some p=>
     obtain⟨j,t⟩:=p;rw[hg]at h;simp only at h;obtain⟨d,r,h⟩:=aU h;unfold mZ at h;split at h
     .rename_i b i
      have hy:=V.yielded r i;have h:=ka h;have bf:=V.reput i;by_cases hw:b=t
      .exact VU
      .rw[j9 hw]at h
       rw[j9 Yw];have Z:=bf.put hd (x:=uv) (v:=undef) cZ;exact VD
     .rename_i i
      have hy:=V.yielded_u r i;rw[j9 YX];have Z:=V.put hd (x:=uv) (v:=undef) cZ;exact VD
     .exact Vs
def qJ(hT:bu P E)(hm:P.follows .mixedOrders=T)(a6:bp O Φ){al id:Nat}{β:Loc}{K:St->Prop}{k:Box K}(V:Rel O al s β a w)(X:Φ s β ds w)(ad:ops.toList.all aW=T)(hd:fX al ops.toList=T)(U:oz E ops=T)
 (h:wpO (spF P rd O Φ B Ψ) E ops ops.toList s k)(hQ:∀W A r G,K W->Rel O al W A r G->Φ W A ds G->Q .normal {r with defers:=ds} G)(hX:∀ch W A r G,Ψ ch W->Rel O al W A r G->Φ W A ds G->Q (.panic ch) {r with defers:=ds} G):(Code.region id ops T).wpIn (fen rd) 0 P Q {a with defers:=ds} w:=by
 have b1:Rel O al s β a {w with drawn:=w.drawn+1}:=V.of_heap rfl;have c:Φ s β ds {w with drawn:=w.drawn+1}:=a6 _ _ _ _ _ _ _ X (Tr.same rfl rfl rfl);simp only[oz,H9,s5,Q1]at U;refine wpIn_region_any hm ?_;rcases U with⟨u,hB⟩|⟨m,_,u,hB⟩
 .simp only[Region.lexB,s5]at hB
  refine mK (Q:=λr=>r.defers=[]->Q .normal {r with defers:=ds} {w with drawn:=w.drawn+1}) ad (λr v h=>h v) _ _ _ V.defers ?_
  have x:wpStill P ops {w with drawn:=w.drawn+1} (λr=>r.defers=[]->Q .normal {r with defers:=ds} {w with drawn:=w.drawn+1}) ops.toList a:=
   ij hT [] ops.toList b1 hd u (by rw[s9];exact h) (λW r y I L _=>hQ _ _ _ _ y I (a6 _ _ _ _ _ _ _ c L))
  have:=wpAnyS_lex (md:=.any) hB.1 ops.toList 0 (Array.replicate ops.size F) a a8 (by simpa using hB.2) x;exact Vt
 .obtain⟨l,rfl⟩:∃l:List Oper,ops=l.toArray:=⟨ops.toList,a8⟩
  generalize bk:l.toArray.size-m=n at u hB;simp only[Region.lexTailB,s5,B4]at hB;obtain⟨⟨⟨⟨e,hn⟩,hs⟩,Z⟩,f⟩:=hB;have J:n<z l:=by simpa using hn
  have Y:z (l.take n)=n:=by simp;omega
  have c7:z (l.drop n)=l.toArray.size-n:=a8
  have i:HeadInv .any l.toArray n (Array.replicate l.toArray.size F):=
   ⟨a8,λj q _ hl=>(by rw[getD_replicate_false]at hl;cases hl),λt _ ht=>getD_in (by simpa using ht) (getD_replicate_false _ _)⟩
  obtain⟨d1,d2⟩:=tX hd n;have p:(l.drop n).all aW=T:=x9.2 λo ho=>x9.1 ad o (by simpa using M7 ho)
  have x:wpStill P l.toArray {w with drawn:=w.drawn+1} (λr=>r.defers=[]->wpListIn (fen rd) 0 P l.toArray Q (l.drop n) {r with defers:=ds} {w with drawn:=w.drawn+1}) (l.take n) a:=by
   refine ij hT (l.drop n) (l.take n) b1 d1 u (by rw[H7];simpa using h) (λW r y I L _=>?_);exact jZ hT a6 (l.drop n) I (a6 _ _ _ _ _ _ _ c L) p d2 y hQ hX
  have H:=wpAnyL_lex (md:=.any) (g:=l.toArray.size-n) e hs Z hn (l.take n) 0 _ a (λj hj=>by
   have cm:j<n:=by rw[Y]at hj;exact hj
   simp[cm]) (by simpa using Y) i (by rw[Y];exact f) x
  have:=nS (d:=Q) (ds:=ds) (rd:=rd) (g:=l.toArray.size-n) ad (λb r v hL=>by
   have:=oX (d:=Q) (b6:=fen rd) (n:=0) (l.drop n) n b {r with defers:=ds} {w with drawn:=w.drawn+1} (λj=>by simp[H5]) (by rw[c7];exact hL.1) (hL.2 v)
   rwa [c7]at this) _ _ _ V.defers H
  rw[Y,show n+(l.toArray.size-n)=l.toArray.size by omega]at this;exact this
def jr{P:Program}{b:Frame}{w:World}:step P (lone (b.atR a (.code (.scope c)::k)) cs w)=.next (lone (b.atR a (.code c::.inScope c::k)) cs w):=
 step_lone_go (by simp[stepG,stepG.exec,Frame.atR])
def wX{P:Program}{b:Frame}{w:World}:step P (lone (b.atR a (.inScope c::k)) cs w)=.next (lone (b.atR a k) cs w):=
 step_lone_go (by simp[stepG,stepG.exec,Frame.atR])
def Cr{b6:Fence}{n:Nat}{P:Program}{w:World}(h:c.wpIn b6 n P (Exit.noGoto Q) a w):(Code.scope c).wpIn b6 n P Q a w:=by
 intro b k cs i p V;have j:(lone (b.atR a (.code (.scope c)::k)) cs w).fenced P b6:=fenced_calm p V rfl;obtain⟨e,d,f,m,g⟩:=h b (.inScope c::k) cs i p V;cases e with
 |normal=>exact⟨.normal,d,f,m,.head j jr (StepsIn.trans g (.one (fenced_calm p V rfl) wX))⟩
 |exit L=>
   have I:exitTo L (.inScope c::k)=exitTo L k:=by simp[exitTo]
   exact⟨.exit L,d,f,m,λt r=>.head j jr (g.1 t (by rw[I];exact r)),
    λu r=>let ⟨k₁,U,v⟩:=g.2 u (by rw[I];exact r);⟨k₁,U,.head j jr v⟩⟩
 |goto l=>exact m.elim
 |ret=>exact⟨_,d,f,m,.of_steps (.one j jr) g⟩
 |panic x=>exact⟨_,d,f,m,.of_steps (.one j jr) g⟩
 |outgrown=>exact⟨_,d,f,m,.of_steps (.one j jr) g⟩
def iN:Code->Bool
 |.region _ ops _=>ops.toList.all aW
 |.seq x y=>iN x&&iN y
 |.cond _ x y=>iN x&&iN y
 |.block _ c=>iN c
 |.loop c=>iN c
 |.scope c=>iN c
 |_=>T
def cX(hT:bu P E)(Y:P.follows .mixedOrders=T)(a6:bp O Φ){al:Nat}:∀(c:Code){Q:Exit->St->Prop}{q:Box Q}{s:St}{β:Loc}{a:Act}{ds:List Deferred}{w:World},iN c=T->codeOk al c=T->Rel O al s β a w->Φ s β ds w->wpC (spF P rd O Φ B Ψ) E c q s->c.wpIn (fen rd) 0 P (Eb O al Φ Ψ Q) {a with defers:=ds} w
 |.skip,_,_,s,β,a,ds,_,_,_,V,X,h=>wpIn_skip ⟨s,β,a,ds,rfl,.inl h,V,X⟩
 |.label _,_,_,s,β,a,ds,_,_,_,V,X,h=>wpIn_label ⟨s,β,a,ds,rfl,.inl h,V,X⟩
 |.exit _,_,_,s,β,a,ds,_,_,_,V,X,h=>wpIn_exit ⟨s,β,a,ds,rfl,.inl h,V,X⟩
 |.goto _,_,_,s,β,a,ds,_,_,_,V,X,h=>wpIn_goto ⟨s,β,a,ds,rfl,.inl h,V,X⟩
 |.ret,_,_,s,β,a,ds,_,_,_,V,X,h=>wpIn_ret ⟨s,β,a,ds,rfl,.inl h,V,X⟩
 |.region id ops b,Q,q,s,β,a,ds,w,p,Z,V,X,h=>by
   simp only[iN]at p;cases b with
   |false=>
     have h:wpO (spF P rd O Φ B Ψ) E ops ops.toList s (bx λW=>Q .normal W):=h;exact wpIn_region_list (jZ hT a6 ops.toList V X p Z h (λW A a' G U h2 h3=>⟨W,A,a',ds,rfl,.inl U,h2,h3⟩) (λch W A a' G U h2 h3=>⟨W,A,a',ds,rfl,.inr ⟨ch,rfl,U⟩,h2,h3⟩))
   |true=>
     rcases h with⟨an,h⟩|⟨R,hR,J⟩
     .exact qJ hT Y a6 V X p Z an h (λW A a' G U h2 h3=>⟨W,A,a',ds,rfl,.inl U,h2,h3⟩) (λch W A a' G U h2 h3=>⟨W,A,a',ds,rfl,.inr ⟨ch,rfl,U⟩,h2,h3⟩)
     .exact sr
 |.seq x y,Q,q,s,β,a,ds,w,p,Z,V,X,h=>by
   simp only[codeOk,s5]at Z;simp only[iN,s5]at p;have h:wpC (spF P rd O Φ B Ψ) E x (bx (jD (bx λW=>wpC (spF P rd O Φ B Ψ) E y q W) q)) s:=h;refine wpIn_seq (wpIn_mono (cX hT Y a6 x p.1 Z.1 V X h) (λe a' G hp=>?_));obtain⟨W,A,a0,H,rfl,U,h2,h3⟩:=hp;rcases U with U|⟨ch,rfl,U⟩
   .cases e with
    |normal=>exact cX hT Y a6 y p.2 Z.2 h2 h3 U
    |_=>exact⟨W,A,a0,H,rfl,.inl U,h2,h3⟩
   .exact Xv
 |.cond c x y,Q,q,s,β,a,ds,w,p,Z,V,X,h=>by
   simp only[codeOk,s5]at Z;simp only[iN,s5]at p;obtain⟨b,hb,h⟩:=qG h (V.ev c);refine wpIn_cond (t:=b) hb ?_;cases b
   .exact cX hT Y a6 y p.2 Z.2 V X h
   .exact cX hT Y a6 x p.1 Z.1 V X h
 |.block id c,Q,q,s,β,a,ds,w,p,Z,V,X,h=>by
   have h:wpC (spF P rd O Φ B Ψ) E c (bx (jE id q)) s:=h;refine wpIn_block (wpIn_mono (cX hT Y a6 c p Z V X h) (λe a' G hp=>?_));obtain⟨W,A,a0,H,rfl,U,h2,h3⟩:=hp;rcases U with U|⟨ch,rfl,U⟩
   .cases e with
    |exit i=>
      simp only[Exit.inBlock,jE]at U|-;split at U
      .rename_i he;rw[l9 he];exact⟨W,A,a0,H,rfl,.inl U,h2,h3⟩
      .rename_i he;rw[j9 he];exact⟨W,A,a0,H,rfl,.inl U,h2,h3⟩
    |_=>exact⟨W,A,a0,H,rfl,.inl U,h2,h3⟩
   .exact Xv
 |.scope c,Q,q,s,β,a,ds,w,p,Z,V,X,h=>by
   have h:wpC (spF P rd O Φ B Ψ) E c (bx (rq q)) s:=h;refine Cr (wpIn_mono (cX hT Y a6 c p Z V X h) (λe a' G hp=>?_));obtain⟨W,A,a0,H,rfl,U,h2,h3⟩:=hp;rcases U with U|⟨ch,rfl,U⟩
   .cases e with
    |goto l=>exact U.elim
    |_=>exact⟨W,A,a0,H,rfl,.inl U,h2,h3⟩
   .exact Xv
 |.loop c,Q,q,s,β,a,ds,w,p,Z,V,X,h=>by
   obtain⟨I,⟨n,d,b8,h0⟩,g⟩:=h;obtain⟨k,b1,u⟩:=b8 O al β a w V;refine uy (λn a' G=>∃W A a0 H,a' = {a0 with defers:=H}/\I n W/\Rel O al W A a0 G/\Φ W A H G) n ⟨d,k,a,ds,rfl,h0,b1,a6 _ _ _ _ _ _ _ X u⟩ ?_;rintro n a' G ⟨W,A,a0,H,rfl,U,h2,h3⟩;refine wpIn_mono (cX hT Y a6 c p Z h2 h3 (g n W U)) (λe a2 w2 hp=>?_);obtain⟨s2,ad,o,az,rfl,k1,k2,k3⟩:=hp;rcases k1 with k1|⟨ch,rfl,k1⟩
   .cases e with
    |normal=>
      obtain⟨j,s3,af,m,hI⟩:=k1;obtain⟨r,L,v⟩:=m O al ad o w2 k2;exact⟨j,af,s3,r,o,az,rfl,hI,L,a6 _ _ _ _ _ _ _ k3 v⟩
    |_=>exact⟨s2,ad,o,az,rfl,.inl k1,k2,k3⟩
   .exact⟨s2,ad,o,az,rfl,.inr ⟨ch,rfl,k1⟩,k2,k3⟩
 |.rangeFunc f ps x y,Q,q,s,β,a,ds,w,p,Z,V,X,h=>by
   obtain⟨R,hR,J⟩:=h;exact sr
 |.refuse y,Q,q,s,β,a,ds,w,p,Z,V,X,h=>by
   obtain⟨R,hR,J⟩:=h;exact sr
def aP{b:Nat}{id:Nat}{ops:Array Oper}{Q:Exit->St->Prop}{q:Box Q}(d:oz E ops=T)(h:wpO (spF P rd O Φ b Ψ) E ops ops.toList s (bx λW=>Q .normal W)):ly (spF P rd O Φ b Ψ) E id ops s q:=.inl ⟨d,h⟩
end
section
variable{P:Program}{E:Nat->TI}{q:Nat}{o:cT}
def rB(B q:Nat)(o:cT)(hT:bu P E)(hm:P.follows .mixedOrders=T){f:FuncId}{fn:Func}(hf:P.funcs[f]?=S fn)(X:fn.body=S c)(hn:(fn.name == "runtime.NumGoroutine")=F)
 (rs:List ResultVar)(a1:fn.results=rs.toArray)(p:iN c=T)(an:codeOk fn.ntmps c=T){args:List AV}(m:z args<=fn.ntmps){R:AV->Prop}
 (h:∀O bn s0 w0 g,wpC (spF P N O (HH q o O bn s0 w0) B vn) E c (bx (vm E rs R)) ⟨dE args,g,λ_=>N⟩):ck P q o f args R:=by
 refine⟨⟨fn,hf,by rw[X];rfl,hn⟩,λJ w vs Z hJ hv=>?_⟩;refine kU (n:=0) (callsIn_of_wp_marks hf X trivial ?_)
 have bd:∀(l:List AV)(vs:List Value),RVs J w l vs->z vs=z l:=by
  intro l
  induction l with
  |nil=>intro vs h;simp only[RVs]at h;subst h;rfl
  |cons x l ih=>intro vs h;simp only[RVs]at h;obtain⟨u,us,rfl,_,h⟩:=h;simp[ih us h]
 have hl:=bd _ _ hv
 let K:Nat->Prop:=λb=>J b\/b<=q
 have V:Rel ⟨w.heap.size,K⟩ fn.ntmps ⟨dE args,λ_=>0,λ_=>N⟩ (λ_=>N) {tmps:=vs.toArray++Array.replicate (fn.ntmps-vs.toArray.size) undef,defers:=[]} w:=by
  refine⟨rfl,by simp;omega,λi=>?_,λid cells ho=>ZV,λid L a a' ho=>ZV,l8 _⟩
  have al:∀(l:List AV)(vs:List Value),RVs J w l vs->∀(i:Nat)(x:AV),l[i]?=S x->∃v,vs[i]?=S v/\RV J w x v:=by
   intro l
   induction l with
   |nil=>intro vs _ i x h;simp at h
   |cons y l ih=>
     intro vs h i x I;simp only[RVs]at h;obtain⟨u,us,rfl,U,h2⟩:=h;cases i with
     |zero=>simp at I;subst I;exact⟨u,rfl,U⟩
     |succ i=>simpa using ih us h2 i x YT
  simp only[dE];cases I:args[i]? with
  |some x=>
    obtain⟨v,U,h2⟩:=al _ _ hv i x I;have af:i<z vs:=(l6.1 U).1
    have:(vs.toArray++Array.replicate (fn.ntmps-vs.toArray.size) undef).getD i undef=v:=by
     rw[z7,G1 (by simpa using af)];simp[U]
    rw[this];simp only[A6];exact RV.rep x (RV.mono (λb X=>⟨⟨hJ b X,λ_=>.inl X,λid a ho=>by cases ho⟩,rfl⟩) x h2)
  |none=>
    exact W1
 refine wpIn_mono (cX (rd:=N) (B:=B) (ds:=[]) hT hm aL c p an V ⟨⟨Z.lt,⟨Z.lt,λb X=>.inr X⟩,Z⟩,Tr.refl,trivial⟩ (h _ _ _ w _)) (λe a' G hp=>?_);obtain⟨W,A,a0,H,rfl,Y,bf,_,ht,s⟩:=hp.plain
 have k:vm E rs R .ret W->bodyPostM (fen N) 0 P fn (λe G=>∃v r,e=.returned v/\R r/\w.heap.size<=G.heap.size/\(∀b,b<w.heap.size->G.heap[b]?=w.heap[b]?)/\(G.os=w.os/\G.output=w.output)/\RV (Own ⟨w.heap.size,K⟩ G) G r v) .ret {a0 with defers:=H} G:=by
  intro Y;refine rA s (λt h5=>?_);obtain⟨v,j,U,⟨r,h2,h3⟩,_,d,rfl,h4⟩:=fj hT (bf.shut h5) a1 Y;refine⟨_,U,_,r,rfl,h3,by rw[h5.size];exact ht.size,λb X=>?_,⟨h5.os.1.trans ht.os.1,h5.os.2.trans ht.os.2⟩,h2.rep (bf.shut h5) h4⟩;rcases h5.same b with e|⟨e,_⟩
  .rw[e];exact ht.old b X
  .omega
 cases e with
 |normal=>exact k Y
 |ret=>exact k Y
 |exit id=>exact Y.elim
 |goto l=>exact Y.elim
 |panic ch=>exact Y.elim
 |outgrown=>exact Y.elim
def HG.mono{f:FuncId}{xs:List AV}{g:Nat->Nat}{ob:Obs}{R t:AV->(Nat->Nat)->Obs->Prop}(h:HG P q o f xs g ob R)(V:∀r g' Y,R r g' Y->t r g' Y):HG P q o f xs g ob t:=
 ⟨h.1,λO al b a d w vs e l U i=>(h.2 O al b a d w vs e l U i).mono λ_ _⟨v,r,g',Y,A,j,m,n⟩=>⟨v,r,g',Y,A,j,V _ _ _ m,n⟩⟩
end
end
section
def dOf:Value->D
 |.bool b=>.bool b
 |.int k n=>.int k n
 |.string s=>.str s.data.toList
 |.slice N 0 0=>.nsl
 |.pointer N=>.nilp
 |.nilFunc=>.nilf
 |.nilIface=>.nili
 |.map N=>.nilm
 |_=>.sl []
def HP{v:Value}(h:lB (dOf v)=T):dV (dOf v)=v:=by
 unfold dOf at h|-;split at h<;>first|(cases h;done)|rfl
def rH:Value->Bool
 |.agg _=>F
 |_=>T
def dVs:∀{l:List Value},(l.map dOf).all lB=T->l=(l.map dOf).map dV
 |[],_=>rfl
 |v::l,h=>by
   simp only[s6,E9,s5]at h;rw[s6,s6,HP h.1,<-dVs h.2]
def QB(P:Program)(t:Nat):Option TI:=
 match P.underlying t,P.info? t with
 |some d,S i=>match i.zero with
   |some X=>
     let f:=X.cells.toList.map dOf
     bif f.all lB && z f == i.size && (ed d || rH X)then S ⟨d,i.size,i.bytes,f⟩else N
   |none=>N
 |_,_=>N
variable{P:Program}
def Mc{t:Nat}{B:TI}(h:QB P t=S B):uz P t B:=by
 unfold QB at h;split at h
 .next d i hd a=>
  split at h
  .next X b=>
   simp only[cond_eq_ite]at h;split at h
   .next Z=>
    cases h;simp only[s5,H9,I7]at Z;obtain⟨⟨U,c⟩,e⟩:=Z;refine LS (X:=X) hd (by rw[a];simp[b]) (dVs U) U c (e.imp id λho=>?_);have m:X.cells.toList=[X]:=by cases X<;>first|rfl|cases ho
    rw[m]at U|-;simp only[s6,x7,E9,Vn,K8]at U;exact(HP U).symm
   .cases h
  .cases h
 .cases h
def FX{l:List (Nat×TI)}(h:(l.map λp=>QB P p.1)=l.map λp=>S p.2):bu P (Ec l):=
 wV λp a=>Mc (by
  have:=List.map_inj_left.1 h p a;exact this)
end
section
abbrev Pan:=List PanicEntry->(Nat->Nat)->Obs->Prop
def Pan.on(d:Pan):fT:=λa s=>d a s.gen s.obj
variable{R:AV->(Nat->Nat)->Obs->Prop}{K:St->Prop}
section
variable{P:Program}{E:Nat->TI}{O:Bs}{β:Loc}{w:World}{B:Nat}{d:Pan}{rd:Option Nat}{u:St->Loc->List Deferred->World->Prop}
def Qx(O:Bs)(β:Loc)(fa:Nat->AV)(g:Nat->Nat)(ob:Obs)(w:World)(R:AV->(Nat->Nat)->Obs->Prop)(d:Pan)(e:Ending)(G:World):Prop:=
 (∃v r c Y A,e=.returned v/\R r c Y/\ak O A c Y G r v/\
    (∀id b,Y id=S b->dt O A c Y G (c id) b (A id))/\(∀id L a f,(Y id).isSome=T->(Y L).isSome=T->A id=S a->A L=S f->a.block=f.block->id=L)/\
    Tr O β ⟨fa,g,ob⟩ w A ⟨fa,c,Y⟩ G)\/
 (∃h c Y A,e=.panicked h/\d h c Y/\
    (∀id b,Y id=S b->dt O A c Y G (c id) b (A id))/\(∀id L a f,(Y id).isSome=T->(Y L).isSome=T->A id=S a->A L=S f->a.block=f.block->id=L)/\
    Tr O β ⟨fa,g,ob⟩ w A ⟨fa,c,Y⟩ G)
def dj(P:Program)(f:FuncId)(xs:List AV)(g:Nat->Nat)(ob:Obs)(R:AV->(Nat->Nat)->Obs->Prop)(d:Pan):Prop:=
 FW P f/\∀(O:Bs)(al:Nat)(β:Loc)(a:Act)(b:Nat->AV)(w:World)(vs:List Value),Rel O al ⟨b,g,ob⟩ β a w->aS O β g ob w xs vs->
  Calls P f vs.toArray w (Qx O β b g ob w R d)
def dj.mono{f:FuncId}{xs:List AV}{g:Nat->Nat}{ob:Obs}{R t:AV->(Nat->Nat)->Obs->Prop}{b:Pan}(h:dj P f xs g ob R d)(V:∀r g' Y,R r g' Y->t r g' Y)(k:∀c g' Y,d c g' Y->b c g' Y):dj P f xs g ob t b:=
 ⟨h.1,λO al β a l w vs U m=>(h.2 O al β a l w vs U m).mono λ_ _ q=>q.imp (λ⟨v,r,g',Y,A,e,i,j⟩=>⟨v,r,g',Y,A,e,V _ _ _ i,j⟩) (λ⟨c,g',Y,A,e,i,j⟩=>⟨c,g',Y,A,e,k _ _ _ i,j⟩)⟩
def zV(O:Bs)(a:Loc)(b:St)(c:World):St->Loc->List Deferred->World->Prop:=λs β ds w=>ds=[]/\Tr O a b c β s w
def aa{a:Loc}{b:St}{c:World}:bp O (zV O a b c):=λ_ _ _ _ _ _ _ h d=>⟨h.1,h.2.trans d⟩
def Cs(B:Nat)(hT:bu P E)(u:P.follows .mixedOrders=T){f:FuncId}{fn:Func}{c:Code}(hf:P.funcs[f]?=S fn)(r:fn.body=S c)(x:(fn.name == "runtime.NumGoroutine")=F)
 (rs:List ResultVar)(y:fn.results=rs.toArray)(p:iN c=T)(I:codeOk fn.ntmps c=T){xs:List AV}(m:z xs<=fn.ntmps){g:Nat->Nat}{ob:Obs}
 (h:∀O L X Y,wpC (spF P N O (zV O L X Y) B d.on) E c (bx (zR E rs R)) ⟨dE xs,g,ob⟩):dj P f xs g ob R d:=by
 refine⟨⟨fn,hf,by rw[r];rfl,x⟩,λO al β a Z w vs b2 hv=>?_⟩;refine kU (n:=0) (callsIn_of_wp hf r trivial ?_);have V:=oQ (al:=fn.ntmps) m b2 hv;refine wpIn_mono (cX (rd:=N) (B:=B) (ds:=[]) hT u aa c p I V ⟨rfl,Tr.refl⟩ (h O β ⟨dE xs,g,ob⟩ w)) (λe a' G hp=>?_);obtain⟨W,A,s,H,rfl,b,o,rfl,i⟩:=hp;rcases b with b|⟨t,rfl,b⟩
 .have k:zR E rs R .ret W->∃v,(results fn s.tmps).run P G=.ok v G/\Qx O β Z g ob w R d (.returned v) G:=by
   rintro⟨s2,b8,hR⟩;obtain⟨ad,Q,q⟩:=b8 O fn.ntmps A s G o;have J:=i.trans q;obtain⟨v,j,U,h2,h3,_⟩:=fj hT Q y hR;exact⟨v,U,.inl ⟨v,_,_,_,ad,rfl,h2,h3,Q.obj,Q.inj,⟨J.size,J.old,J.keep,J.os⟩⟩⟩
  cases e with
  |normal=>exact⟨rfl,k b⟩
  |ret=>exact⟨rfl,k b⟩
  |exit id=>exact b.elim
  |goto l=>exact b.elim
  |panic t=>exact b.elim
  |outgrown=>exact b.elim
 .exact⟨rfl,.inr ⟨t,_,_,A,rfl,b,o.obj,o.inj,⟨i.size,i.old,i.keep,i.os⟩⟩⟩
def FM(a6:bp O u){o:Oper}{s:St}{k:Box K}{f:FuncId}{args:Array Operand}{tys:Array TypeId}(ho:o.op=.call ⟨.value (.func f),args,tys⟩)
 (j:dj P f (args.toList.map s.ev) s.gen s.obj R d)(g:∀r g' Y,R r g' Y->K (St.put ⟨s.f,g',Y⟩ o.dst r)):bC (spF P rd O u B d.on) o s k:=by
 refine⟨λW=>∃r g' Y,R r g' Y/\W=St.put ⟨s.f,g',Y⟩ o.dst r,λal β a ds w V X c next Q hn I=>?_,λ_⟨r,g',Y,V,e⟩=>e▸g r g' Y V⟩;have l:aW o=T:=by simp[aW,ho]
 refine iG l ?_;unfold Oper.wp;rw[ky ho j.1 w];simp only[Oper.upon];have:=j.2 O al β a s.f w (args.toList.map a.eval) V (jF V _);rw[show (args.toList.map a.eval).toArray=args.map a.eval from J7 a8]at this;refine this.mono λe G m=>?_;rcases m with⟨v,r,g',Y,A,he,hR,hv,U,h2,h3⟩|⟨n,g',Y,A,he,b,U,h2,h3⟩
 .exact VF
 .subst he
  have g:fE O β s.gen s.obj w A g' Y G:=h3.keep;have p:Tr O β s w A ⟨s.f,g',Y⟩ G:=⟨h3.size,h3.old,g,h3.os⟩
  exact I n ⟨s.f,g',Y⟩ A a G b ⟨V.defers,V.size,λi=>ak.keep g _ (V.f i),U,h2,D0 V.base h3.size⟩ (a6 _ _ _ _ _ _ _ X p)
def Ct{d:fT}{o:Oper}{s:St}{k:Box K}{x:Operand}(ho:o.op=.panic x){v:Value}(b:∀(al:Nat)(β:Loc)(a:Act)(w:World),Rel O al s β a w->(Instr.panic (a.eval x)).run P w=.halt (.panic v) w)
 (e:d [{v,recovered:=F}] s):bC (spF P rd O u B d) o s k:=by
 refine⟨λ_=>False,λal β a ds w V X c next Q g I=>?_,λ_ h=>h.elim⟩;have f:aW o=T:=by simp[aW,ho]
 refine iG f ?_;unfold Oper.wp
 have:(execOp a.eval o).run P w=.halt (.panic v) w:=by
  simp[execOp,ho,b al β a w V,Result.andThen]
 rw[this];exact I _ s β a w e V X
end
end
section
variable{K:St->Prop}{x:Operand}
section
variable{P:Program}{O:Bs}{rd:Option Nat}{b:St->Loc->List Deferred->World->Prop}{B:Nat}{c:fT}
def vz(a6:bp O b){o:Oper}{s:St}{k:Box K}{t:TypeId}(ho:o.op=.makeInterface t x){fs:Array Field}(L:P.underlying t=S (.struct fs)){kd:IntKind}{n:Int}
 (I:s.ev x=.agg [.d (.int kd n)])(g:K (s.put o.dst (.exact (.iface t (.agg #[.int kd n]))))):bC (spF P rd O b B c) o s k:=by
 refine⟨λW=>W=s.put o.dst (.exact (.iface t (.agg #[.int kd n]))),λal β a ds w V X hd next Q hn _=>?_,λ_ e=>e▸g⟩;refine iG Y7 ?_;have f:=V.ev x;rw[I]at f;simp only[ak]at f;obtain⟨vs,U,i,l⟩:=f;obtain⟨u,m,J⟩:=l 0 _ rfl;simp only[aK]at J;obtain rfl:=J.inv_int
 have p:vs = #[.int kd n]:=by
  apply Array.ext_getElem?;intro j
  match j with
  |0=>rw[m];rfl
  |j+1=>rw[LQ (by rw[i];simp),LQ a8]
 subst p
 have b3:(execOp a.eval o).run P w=.ok (.value (.iface t (.agg #[.int kd n]))) w:=by
  simp[execOp,ho,U,Instr.makeInterface,run_underlying L]
 have bf:=V.put hd (x:=.exact (.iface t (.agg #[.int kd n]))) (v:=.iface t (.agg #[.int kd n])) (by simp only[ak]);exact uo
def vA{o:Oper}{s:St}{k:Box K}(ho:o.op=.panic x){t:TypeId}{u:Value}(I:s.ev x=.exact (.iface t u))(e:c [{v:=.iface t u,recovered:=F}] s):bC (spF P rd O b B c) o s k:=by
 refine Ct ho (v:=.iface t u) (λal f a w V=>?_) e;have d:=V.ev x;rw[I]at d;simp only[ak]at d;rw[d];simp[Instr.panic]
end
end
end
section
attribute[local congr]ite_cc
section
variable{s:St}{K:St->Prop}{w:World}{a:Act}{o:Oper}{f:FuncId}{β:Loc}{tys:Array TypeId}{ds:List Deferred}{Q:Exit->Act->World->Prop}{u:Value}{l:Array (String×TypeId)}{args:Array Operand}{R:AV->(Nat->Nat)->Obs->Prop}{q:List PC}{x:Operand}{k:Box K}
section
variable{P:Program}{E:Nat->TI}{O:Bs}{rd:Option Nat}{Φ:St->Loc->List Deferred->World->Prop}{B:Nat}{Ψ:fT}{L:Pan}
def cH(a6:bp O Φ)(ho:o.op=.call ⟨.value (.func f),args,tys⟩)
 (hp:dj P f (args.toList.map s.ev) s.gen s.obj R L)(I:∀ch g' Y,L ch g' Y->Ψ ch ⟨s.f,g',Y⟩)(hk:∀r g' Y,R r g' Y->K (St.put ⟨s.f,g',Y⟩ o.dst r)):bC (spF P rd O Φ B Ψ) o s k:=by
 refine⟨λW=>∃r g' Y,R r g' Y/\W=St.put ⟨s.f,g',Y⟩ o.dst r,λal β a ds w V X c next Q hn g=>?_,λ_⟨r,g',Y,V,e⟩=>e▸hk r g' Y V⟩;have d:aW o=T:=by simp[aW,ho]
 refine iG d ?_;unfold Oper.wp;rw[ky ho hp.1 w];exact K6
def aY(a6:bp O Φ){t:Nat}(ho:o.op=.call ⟨.value (.tmp t),args,tys⟩)(hf:s.f t=.one (.clo f q))
 (hp:dj P f (args.toList.map s.ev++q.map kT) s.gen s.obj R L)(I:∀ch g' Y,L ch g' Y->Ψ ch ⟨s.f,g',Y⟩)(hk:∀r g' Y,R r g' Y->K (St.put ⟨s.f,g',Y⟩ o.dst r))(az:f<1000000:=by decide):bC (spF P rd O Φ B Ψ) o s k:=by
 refine⟨λW=>∃r g' Y,R r g' Y/\W=St.put ⟨s.f,g',Y⟩ o.dst r,λal β a ds w V X c next Q hn g=>?_,λ_⟨r,g',Y,V,e⟩=>e▸hk r g' Y V⟩;have ad:aW o=T:=by simp[aW,ho]
 refine iG ad ?_;have hv:=V.f t;rw[hf]at hv;simp only[ak,aK]at hv;obtain⟨vs,cx,m,j⟩:=hv;rw[uI az]at cx
 have bz:(execOp a.eval o).run P w=.ok (.enter f (args.map a.eval++vs)) w:=by
  exact k6
 unfold Oper.wp;rw[bz];simp only[Oper.upon];have Z:aS O β s.gen s.obj w (q.map kT) vs.toList:=oJ ZL (λi pc hi=>let ⟨u,U,h2⟩:=j i pc hi;⟨u,by simpa using U,h2⟩);have:=hp.2 O al β a s.f w (args.toList.map a.eval++vs.toList) V ((jF V _).append Z);rw[show (args.toList.map a.eval++vs.toList).toArray=args.map a.eval++vs from J7 a8]at this;exact gH
@[go_sem]def HI{ar:Sp}{dst:Option Tmp}{ty:TypeId}{ps:String}{b:Array Edge}{gd:Option (Nat×Bool)}{t u:TypeId}{ok:Bool}:opA ar E ⟨dst,.typeAssert x t u ok,ty,ps,b,gd⟩ s k=bC ar ⟨dst,.typeAssert x t u ok,ty,ps,b,gd⟩ s k:=B9 rfl rfl
def yJ(a6:bp O Φ){t t0:TypeId}(ho:o.op=.typeAssert x t0 t T){fs:Array Field}(L:P.underlying t=S (.struct fs)){kd:IntKind}{n:Int}
 (I:s.ev x=.exact (.iface t (.agg #[.int kd n])))(j:K (s.put o.dst (.tup [.agg [.d (.int kd n)],bv T]))):bC (spF P rd O Φ B Ψ) o s k:=by
 refine⟨λW=>W=s.put o.dst (.tup [.agg [.d (.int kd n)],bv T]),λal β a ds w V X hd next Q hn _=>?_,λ_ e=>e▸j⟩;refine iG Y7 ?_;have b:=V.ev x;rw[I]at b;simp only[ak]at b
 have b3:(execOp a.eval o).run P w=.ok (.value (.tuple #[.agg #[.int kd n],.bool T])) w:=by
  simp[execOp,ho,b,Instr.typeAssert,run_underlying L]
 have bf:=V.put hd (x:=.tup [.agg [.d (.int kd n)],bv T]) (v:=.tuple #[.agg #[.int kd n],.bool T]) (by
  simp only[ak,aS];refine⟨[.agg #[.int kd n],.bool T],rfl,_,_,rfl,⟨#[.int kd n],rfl,rfl,λi c g=>?_⟩,_,_,rfl,?_,rfl⟩
  .match i,g with
   |0,g=>cases g;exact⟨_,rfl,by simp only[aK];exact .int _ _⟩
  .simp only[aK];exact .bool _)
 exact uo
def XW(d:List Deferred)(O:Bs)(b:Loc)(c:St)(e:World):St->Loc->List Deferred->World->Prop:=λs β ds w=>ds=d/\Tr O b c e β s w
def xA{d:List Deferred}{b:Loc}{c:St}{e:World}:bp O (XW d O b c e):=λ_ _ _ _ _ _ _ h g=>⟨h.1,h.2.trans g⟩
def sL(hT:bu P E)(c:P.follows .mixedOrders=T)(a6:bp O Φ){al:Nat}{x y:Code}(p:iN x=T)(Z:codeOk al x=T)(V:Rel O al s β a w)(X:Φ s β ds w)
(h:wpC (spF P rd O Φ B vn) E x (bx λe W=>e=.normal/\K W) s)(d:∀W A b H G,K W->Rel O al W A b G->Φ W A H G->y.wpIn (fen rd) 0 P Q {b with defers:=H} G):(Code.seq x y).wpIn (fen rd) 0 P Q {a with defers:=ds} w:=by
 refine wpIn_seq (wpIn_mono (cX hT c a6 x p Z V X h) (λe b G g=>?_));obtain⟨W,A,m,H,rfl,U,i,j⟩:=g;rcases U with⟨rfl,U⟩|⟨_,_,h⟩
 .exact d _ _ _ _ _ U i j
 .exact Vs
def FN(hT:bu P E)(d:P.follows .mixedOrders=T)(a6:bp O Φ){al:Nat}{x:Code}(Ψ:fT)(K:Exit->St->Prop)(p:iN x=T)(Z:codeOk al x=T)(V:Rel O al s β a w)(X:Φ s β ds w)
 (h:wpC (spF P rd O Φ B Ψ) E x (bx K) s)(g:∀e W A b H G,(K e W\/∃c,e=.panic c/\Ψ c W)->Rel O al W A b G->Φ W A H G->Q e {b with defers:=H} G):x.wpIn (fen rd) 0 P Q {a with defers:=ds} w:=by
 refine wpIn_mono (cX hT d a6 x p Z V X h) (λe b G i=>?_);obtain⟨W,A,n,H,rfl,U,j,m⟩:=i;exact g _ _ _ _ _ _ U j m
def FO(hT:bu P E)(a6:bp O Φ){al id t:Nat}{o1 o2:Oper}{y:Code}(b:aW o1=T)(g1:o1.guard=N)(g2:o2.guard=N)(an:∀d,o1.dst=S d->d<al)(av:o2.dst=N)
 (cv:o2.op=.defer ⟨.value (.tmp t),#[],tys⟩)(V:Rel O al s β a w)(X:Φ s β ds w)(h:opA (spF P N O Φ B vn) E o1 s (bx λW=>W.f t=.one (.clo f q)/\K W))
 (hy:∀W A a' G vs,K W->Rel O al W A a' G->Φ W A ds G->aS O A W.gen W.obj G (q.map kT) vs->y.wpIn (fen N) 0 P Q {a' with defers:=⟨.fn (.func f) vs.toArray,#[]⟩::ds} G)(az:f<1000000:=by decide):(Code.seq (.region id #[o1,o2] F) y).wpIn (fen N) 0 P Q {a with defers:=ds} w:=by
 refine wpIn_seq (wpIn_region ?_);show wpOpsIn (fen N) 0 P #[o1,o2] _ [0,1] _ _;simp only[wpOpsIn,y7,w8,u7];rw[l9 (by simp[Region.wanted,g1])];refine np hT a6 V X b an h (λW A a' G U h2 h3=>?_) (λch W A a' G h=>h.elim);obtain⟨Z,J⟩:=U;rw[l9 (by simp[Region.wanted,g2])];have hv:=h2.f t;rw[Z]at hv;simp only[ak,aK]at hv;obtain⟨vs,cx,m,j⟩:=hv;rw[uI az]at cx;refine⟨λ_ _=>trivial,?_⟩
 have bz:((o2.semAt (fen N).round ({a' with defers:=ds}:Act).eval).run P G)=.ok (.defer ⟨.fn (.func f) vs,#[]⟩) G:=by
  rw[show (fen N).round=N from rfl,Oper.semAt_none];simp[execOp,cv,resolve,Act.eval,cx,Deferred.ofValue]
 rw[bz,Oper.uponIn_defer];simp only[av,Act.put];exact hy W A a' G vs.toList J h2 h3 (oJ ZL (λi pc hi=>let ⟨u,U,h2⟩:=j i pc hi;⟨u,by simpa using U,h2⟩))
def uD{b t:TypeId}(L:P.underlying b=S (.interface l)):(Op.equal b (.iface t u) .nilIface).run P w=.ok F w:=by
 exact V0
def wZ{b t c:TypeId}{d:Nat}(ho:o.op=.binOp .eql b (.tmp d) (.const .nilIface) c)(L:P.underlying b=S (.interface l))(h:a.tmps.getD d undef=.iface t u):
  (execOp a.eval o).run P w=.ok (.value (.bool F)) w:=by
 have e:binOp .eql b (.iface t u) .nilIface=(do pure (.bool (<-Op.equal b (.iface t u) .nilIface))):=rfl;have g:eqGuard .eql b (.tmp d) (.const .nilIface) (.iface t u) .nilIface=pure ():=rfl;have i:a.eval (.tmp d)=.iface t u:=h;have j:a.eval (.const .nilIface)=.nilIface:=rfl;unfold execOp;simp only[ho,i,j,e,g,Sem.run_bind,Sem.run_pure,Result.andThen_ok,uD L]
def Cu(hT:bu P E)(hm:P.follows .mixedOrders=T){fn fnD:Func}{al id bs bl d e:Nat}{c oE:Oper}{b:TypeId}{x y:Code}
 (hf:P.funcs[f]?=S fnD)(hb:fnD.body=S (.seq (.region id #[c] F) (.block bl (.seq (.region bs #[oE] F) (.cond (.tmp e) x y)))))(k:(fnD.name == "runtime.NumGoroutine")=F)
 (n:c.op=.call ⟨.builtin .recover,#[],#[]⟩)(hdR:c.dst=S d)(gR:c.guard=N)(o:oE.op=.binOp .eql b (.tmp d) (.const .nilIface) b)(q:oE.dst=S e)(gE:oE.guard=N)(r:d<fnD.ntmps)(ca:e<fnD.ntmps)
 (a1:fnD.results = #[])(p:iN y=T)(an:codeOk fnD.ntmps y=T)(I:P.underlying b=S (.interface l)){t:TypeId}{xs:List AV}{vs:List Value}{R:Ending->World->Prop}(V:Rel O al s β a w)(hv:aS O β s.gen s.obj w xs vs)(hl:z xs<=fnD.ntmps)
 {K:(Nat->Nat)->Obs->Prop}(hy:∀bn s0 w0,wpC (spF P N O (zV O bn s0 w0) B vn) E y (bx λZ W=>Z=.normal/\K W.gen W.obj) ⟨upd (upd (dE xs) d (.exact (.iface t u))) e (bv F),s.gen,s.obj⟩)
 (hR:∀g' Y A G,K g' Y->Rel O al ⟨s.f,g',Y⟩ A a G->Tr O β s w A ⟨s.f,g',Y⟩ G->∃v,(results fn a.tmps).run P G=.ok v G/\R (.returned v) G):
  LeavesIn (fen N) 0 P fn a.tmps R [⟨.fn (.func f) vs.toArray,#[]⟩] (.panicking [{v:=.iface t u,recovered:=F}]) w:=by
 refine leavesIn_cons (f:=f) (args:=vs.toArray) a8 (λh=>by cases h) ?_ (λ_ _=>trivial) ?_
 .exact Xc
 refine callsDIn_of_wpSIn hf hb trivial λad cs L=>?_;apply wpSIn_seq;apply wpSIn_region;show wpOpsSIn (fen N) 0 P #[c] _ [0] _ _ _;simp only[wpOpsSIn,y7,w8];refine⟨λ_ _=>trivial,?_⟩;rw[l9 (by simp[Region.wanted,gR])];have bz:∀(a:Act)(w:World),(execOp a.eval c).run P w=.ok .recover w:=λa w=>by simp[execOp,n,resolve,invoke,builtin]
 rw[bz];simp only[recoverD,L,hdR,Exit.thenS];refine wpSIn_of_wpIn rfl ?_;have b2:=oQ (al:=fnD.ntmps) (fa:=s.f) hl V hv;have b1:=b2.put (dst:=S d) (λd' h=>by cases h;exact r) (x:=.exact (.iface t u)) (v:=.iface t u) (by simp only[ak]);refine wpIn_block (wpIn_seq (wpIn_region ?_));show wpOpsIn (fen N) 0 P #[oE] _ [0] _ _;simp only[wpOpsIn,y7,w8];rw[l9 (by simp[Region.wanted,gE])];have g:=b1.f d;simp only[St.put,upd,l9,ak]at g;refine⟨λ_ _=>trivial,?_⟩;rw[show (fen N).round=N from rfl,Oper.semAt_none];rw[wZ o I g,Oper.uponIn_value];simp only[q];have Q:Rel O fnD.ntmps ⟨upd (upd (dE xs) d (.exact (.iface t u))) e (bv F),s.gen,s.obj⟩ β _ w:=b1.put (dst:=S e) (λd' h=>by cases h;exact ca) (x:=bv F) (v:=.bool F) (by simp only[ak,aK,bv];exact .bool _);have j:=Q.f e;simp only[upd,l9,bv,ak,aK]at j;refine wpIn_cond (t:=F) j.inv_bool ?_;rw[j9 b9];have J:=cX (rd:=N) (B:=B) (ds:=[]) hT hm aa y p an Q ⟨rfl,Tr.refl⟩ (hy β ⟨upd (upd (dE xs) d (.exact (.iface t u))) e (bv F),s.gen,s.obj⟩ w);refine wpIn_mono J (λZ a' G hp=>?_);obtain⟨W,A,a0,H,rfl,U,h2,rfl,h4⟩:=hp;rcases U with⟨rfl,U⟩|⟨_,_,h⟩
 case inr=>exact h.elim
 have hk:fE O β s.gen s.obj w A W.gen W.obj G:=h4.keep;have ht:Tr O β s w A ⟨s.f,W.gen,W.obj⟩ G:=⟨h4.size,h4.old,hk,h4.os⟩
 have X:Rel O al ⟨s.f,W.gen,W.obj⟩ A a G:=⟨V.defers,V.size,λi=>ak.keep hk _ (V.f i),h2.obj,h2.inj,D0 V.base h4.size⟩
 obtain⟨v,cx,m⟩:=hR _ _ _ _ U X ht;refine⟨rfl,.panicking [{v:=.iface t u,recovered:=T}],rfl,.tuple #[],by simp[results,a1],?_⟩;simp only[settle,List.dropWhile_nil,LeavesIn];exact⟨v,cx,m⟩
end
end
end
section
open Go.ChangeShapes Go.WideShapes Go.ChangeAt Go.RowKit
section
variable{H:Type}{enc:TypeId×Value->H}
def oY{C:Checked}{os:Os}{f:FuncId}{fn:Func}{s:ChangeSpec}{d:List PathCond}{b:List (String×DataW Unit)}(own:ownKnob C.prog.godebug=N)(c:os.Started)(m:C.prog.inits.idxOf? f=N)(E:C.prog.funcs[f]?=S fn)
 (k:∃(w:World)(tape:Tape)(i:Input),w.os=os/\(w.forCall tape i).Shaped C.prog/\i.vars=[]/\Input.okWide C.prog (w.forCall tape i) .any w.heap.size f i/\
    ((s.pre enc C.prog fn d F (w.forCall tape i).memory i.args/\laidMetH C.prog b (w.forCall tape i).memory)/\sizedMet enc C.prog fn (OpenSpec.ofChange s) F (w.forCall tape i).memory i.args)/\Assume.holds {} C.prog (lone (Frame.enter C.prog f i.args .normal) [] (w.forCall tape i)))
 (a:s.vars=[])(hl:laidOutB C.prog=T)(g:fn.params.toList.all (λt=>C.prog.readableRec t&&decide (t<C.prog.types.size))=T){y:TypeId}(O:fn.resultTypes = #[y])(U:C.prog.underlying y=S .bool)
 (n:∀ds:List (DataW H),z ds=z fn.params.toList->s.fn H ds = {results:=[.lit (.bool T)],args:=ds})
 (o:∀(W:World)(base:Nat)(args:Array Value)(ds:List (DataW H))(ps:List MemPlace),laidMetH C.prog b W->(∀(j:Nat)t v,fn.params[j]?=S t->args[j]?=S v->Value.okWide C.prog W .any base t v)->DataW.TrodAll enc C.prog W 0 (λ_=>T) T fn.params.toList args.toList ds ps->(DataW.weightsEach C.prog fn.params.toList ds).all (·<=reachBytes)=T->zJ C.prog f args W):
  ReturnsInHanded {} C os f .any (λw args=>(s.pre enc C.prog fn d F w args/\laidMetH C.prog b w)/\sizedMet enc C.prog fn (OpenSpec.ofChange s) F w args) (s.post enc C.prog fn F T F F):=by
 refine returnsInHanded_of_change_and (X:=λw _=>laidMetH C.prog b w) (λ_ _ _ V h=>h.of_heap V) own c m E k ?_;intro W base args ds gs u l hW G az hX _;have r:=hW;obtain⟨p,q,J,Q,rfl,dc,ad⟩:=hW;rw[a]at Q;obtain⟨rfl,rfl⟩:=trodVars_none Q;have B:s.plain.varTypes C.prog=[]:=by simp[ChangeSpec.plain,DataSpec.varTypes,a]
 rw[B,s9,s9]at az;refine(o W base args ds p hX l J az).mono λe A⟨Y,hs,L,ho⟩=>⟨_,Y,?_⟩
 have Z:∀x∈p,x.block<W.heap.size:=λx I=>r.lt x YN;have K:s.fn H (ds++[]) = {results:=[.lit (.bool T)],args:=ds}:=by rw[s9];exact n ds (tQ _ _ _ _ J)
 refine⟨ds,[],p++[],[],p,[],r,?_,?_,?_,LU L ho _,λh=>by cases h⟩
 .rw[K,O]
  exact trodAll_mk1 ⟨1,by simp[DataW.trod,U,Value.cells]⟩
 .rw[K]
  exact qu hl L _ _ _ _ g Z J
 .rw[K,a]
  exact rfl
def wY{P:Program}{w:World}{q:Nat}{o:cT}(c:uB q o w){f:FuncId}{args:List AV}(h:ck P q o f args (·=bv T)){vs:List Value}(d:RVs (λb=>b<w.heap.size) w args vs):zJ P f vs.toArray w:=by
 refine(h.2 _ w vs c (λ_ h=>h) d).mono λe G⟨v,r,U,g,i,j,k,a⟩=>⟨?_,i,j,k⟩
 subst g;simp only[RV]at a;obtain⟨x,I,V⟩:=a;cases I;cases V;exact U
end
end
section
section
def nq(ar:Sp)(E:Nat->TI)(ops:Array Oper)(p:List Nat)(l:List Ent)(s:St){K:St->Prop}(_:Box K):Prop:=eO ar E ops p True l s (bx λW=>True->K W)
def yG(ops:Array Oper)(o:Oper)(s:St):Prop:=match o.guard with|none=>False|some (j,w)=>∃d,((ops[j]?).bind (·.dst))=S d/\s.f d=bv (!w)
variable{ops:Array Oper}{Q:Exit->St->Prop}
section
variable{P:Program}{E:Nat->TI}{O:Bs}{w:World}{rd:Option Nat}{n:St->Loc->List Deferred->World->Prop}{t:fT}
def xz{hT:bu P E}(a6:bp O n){B al:Nat}{ops:Array Oper}{ds:List Deferred}{Q:Exit->Act->World->Prop}(ad:ops.toList.all aW=T)(ar:fX al ops.toList=T)(I:(Nat->Bool)->St->Prop)
 (J:∀(L:Nat->Bool)(s:St)(i:Nat)(o:Oper),I L s->ops[i]?=S o->L i=F->(∀e∈o.after.toList,Region.binds .any e=T->L e.on=T)->
    (∀j g,L j=T->ops[j]?=S g->∀e∈g.after.toList,Region.binds .any e=T->L e.on=T)->(pN ops o s/\opA (spF P rd O n B t) E o s (bx λW=>I (upd L i T) W))\/yG ops o s/\I (upd L i T) (s.put o.dst uv)):
  ∀(q:Nat)(b:Array Bool){s:St}{β:Loc}{a:Act}{w:World},b.size=ops.size->b.toList.count F<=q->Rel O al s β a w->n s β ds w->I (λi=>b.getD i F) s->
   (∀j g,b.getD j F=T->ops[j]?=S g->∀e∈g.after.toList,Region.binds .any e=T->b.getD e.on F=T)->
   (∀L W A a' G,I L W->Rel O al W A a' G->n W A ds G->(∃c,L=(λi=>c.getD i F)/\c.size=ops.size/\Region.ready .any ops c=[])->Q .normal {a' with defers:=ds} G)->
   (∀ch W A a' G,t ch W->Rel O al W A a' G->n W A ds G->Q (.panic ch) {a' with defers:=ds} G)->
   wpAnyIn (fen rd) 0 P .any ops Q q b {a with defers:=ds} w
 |0,b,s,β,a,w,az,Z,V,X,hI,hid,hQ,hX=>by
   exact k9
 |q+1,b,s,β,a,w,az,Z,V,X,hI,hid,hQ,hX=>by
   refine⟨λb7=>hQ _ s β a w hI V X ⟨b,rfl,az,b7⟩,λi hi=>?_⟩;unfold Region.ready at hi;simp only[U7,D4,s5,J1]at hi;obtain⟨b3,y,m⟩:=hi;have ho:ops[i]?=S ops[i]:=B8 b3;rw[ho]at m;simp only[A3,A6,P5,H9,J1]at m
   have l:b[i]?=S F:=by
    exact W6
   have hL:b.getD i F=F:=by rw[z7,l];rfl
   have f:∀e∈ops[i].after.toList,Region.binds .any e=T->b.getD e.on F=T:=λe he hb=>by
    exact S1
   have k:∀d,(ops[i]).dst=S d->d<al:=λd hd=>by
    exact VQ
   have u:(λj=>(b.setIfInBounds i T).getD j F)=upd (λj=>b.getD j F) i T:=by
    funext j;exact so
   have av:∀W A a' G,I (upd (λj=>b.getD j F) i T) W->Rel O al W A a' G->n W A ds G->wpAnyIn (fen rd) 0 P .any ops Q q (b.setIfInBounds i T) {a' with defers:=ds} G:=λW A a' G r bf Y=>by
    refine xz (hT:=hT) a6 ad ar I J q (b.setIfInBounds i T) (by simpa using az) (by have:=count_set l;omega) bf Y (by rw[u];exact r) (λj g hj H e he hb=>?_) hQ hX;exact iE
   unfold wpOpIn;rw[ho];simp only;rcases J _ s i ops[i] hI ho hL f hid with⟨cb,b0⟩|⟨cb,r⟩
   .have an:Region.wanted ops[i] (yielded ops a.tmps)=T:=by
     unfold pN at cb;cases hg:(ops[i]).guard with
     |none=>simp[Region.wanted,hg]
     |some p=>
       exact Mo
    rw[l9 an];exact np hT a6 V X (x9.1 ad ops[i] (H3 b3)) k b0 av hX
   .have an:¬Region.wanted ops[i] (yielded ops a.tmps)=T:=by
     unfold yG at cb;cases hg:(ops[i]).guard with
     |none=>rw[hg]at cb;exact cb.elim
     |some p=>
       exact Mo
    rw[j9 an];have U:({a with defers:=ds}:Act).put (ops[i]).dst undef = {a.put (ops[i]).dst undef with defers:=ds}:=by cases (ops[i]).dst<;>rfl
    rw[U];exact⟨λ_ _=>trivial,av _ β _ w r (V.put k (x:=uv) (v:=undef) cZ) (a6 _ _ _ _ _ _ _ X (Tr.same (by rw[St.put_gen]) (by rw[St.put_obj]) rfl))⟩
def sK(hT:bu P E)(v:P.follows .mixedOrders=T)(a6:bp O n){B id:Nat}{s:St}{q:Box Q}(ad:ops.toList.all aW=T)(K:ve ops=T)(I:(Nat->Bool)->St->Prop)(h0:I (λ_=>F) s)
 (J:∀(L:Nat->Bool)(s:St)(i:Nat)(o:Oper),I L s->ops[i]?=S o->L i=F->(∀e∈o.after.toList,Region.binds .any e=T->L e.on=T)->
    (∀j g,L j=T->ops[j]?=S g->∀e∈g.after.toList,Region.binds .any e=T->L e.on=T)->(pN ops o s/\opA (spF P rd O n B t) E o s (bx λW=>I (upd L i T) W))\/yG ops o s/\I (upd L i T) (s.put o.dst uv))
 (x:∀L W,I L W->(∀i,i<ops.size->L i=T)->Q .normal W):ly (spF P rd O n B t) E id ops s q:=by
 refine .inr ⟨λe W=>e=.normal/\Q .normal W,λal β a ds w Z V X=>?_,λe W⟨U,l⟩=>U▸l⟩;have y:Rel O al s β a {w with drawn:=w.drawn+1}:=V.of_heap rfl;have c:n s β ds {w with drawn:=w.drawn+1}:=a6 _ _ _ _ _ _ _ X (Tr.same rfl rfl rfl);refine wpIn_region_any v (xz (hT:=hT) a6 ad Z I J ops.size (Array.replicate ops.size F) a8 a8 y c ?_ (λj g m=>?_) (λL W A u G l H Y h6=>⟨W,A,u,ds,rfl,.inl ⟨rfl,x L W l Y8⟩,H,Y⟩) (λch W A u G U l h3=>⟨W,A,u,ds,rfl,.inr ⟨ch,rfl,U⟩,l,h3⟩))
 .exact qo
 .rw[z7,F0]at m
  split at m<;>simp at m
def cB(hT:bu P E)(j:P.follows .mixedOrders=T)(a6:bp O n){B id:Nat}{s:St}{q:Box Q}(p:List Nat)(y:List (List Nat×List Nat×List Nat×Bool))(l:Nat)(f:ops.toList.all aW=T)(m:vh ops y l=T)(w:z p=l)(ad:p.Nodup)
 (h:nq (spF P rd O n B t) E ops p (jO ops.toList y) s (bx λW=>Q .normal W)):ly (spF P rd O n B t) E id ops s q:=by
 obtain⟨U,I,u,v,x⟩:=vk (X:=True) (Q:=Q) p y l m w ad h;exact sK hT j a6 f U I u (λL s i o a b c d e=>.inl (v L s i o a b c d e)) λL W a b=>x L W a b (.inr trivial)
end
section steps
variable{ar:Sp}{E:Nat->TI}{ops:Array Oper}{p:List Nat}{f:Nat->AV}{g:Nat->Nat}{ob:Nat->Option (List C)}{K:St->Prop}{k:Box K}{op:Op}{ty:TypeId}{ps:String}{af:Array Edge}{gd:Option (Nat×Bool)}{rd hd:List Nat}{r:List Ent}{d:Nat}
def aw{v:AV}(hg:GdE ops ⟨⟨S d,op,ty,ps,af,gd⟩,rd,hd,[],F⟩ ⟨f,g,ob⟩)(U:∀(fa:Nat->AV)(ga:Nat->Nat)(a:Nat->Option (List C))(K':St->Prop),K' ⟨upd (maskf rd f fa) d v,maskm p hd g ga,maskm p hd ob a⟩->opA ar E ⟨S d,op,ty,ps,af,gd⟩ ⟨maskf rd f fa,maskm p hd g ga,maskm p hd ob a⟩ (bx K'))
 (b:nq ar E ops p r ⟨upd f d v,g,ob⟩ k):nq ar E ops p (⟨⟨S d,op,ty,ps,af,gd⟩,rd,hd,[],F⟩::r) ⟨f,g,ob⟩ k:=by
 unfold nq at b|-;unfold eO;exact⟨v,[],⟨rfl,λfa ga a K' J=>U fa ga a K' (J λ_=>trivial),hg⟩,b⟩
def bV{v:AV}{a x:Nat}{y:Option (List C)}(hg:GdE ops ⟨⟨S d,op,ty,ps,af,gd⟩,rd,hd,[a],F⟩ ⟨f,g,ob⟩)(U:∀(fa:Nat->AV)(ga:Nat->Nat)(b:Nat->Option (List C))(K':St->Prop),K' ⟨upd (maskf rd f fa) d v,upd (maskm p hd g ga) (p.getD a 0) x,upd (maskm p hd ob b) (p.getD a 0) y⟩->opA ar E ⟨S d,op,ty,ps,af,gd⟩ ⟨maskf rd f fa,maskm p hd g ga,maskm p hd ob b⟩ (bx K'))
 (c:nq ar E ops p r ⟨upd f d v,upd g (p.getD a 0) x,upd ob (p.getD a 0) y⟩ k):nq ar E ops p (⟨⟨S d,op,ty,ps,af,gd⟩,rd,hd,[a],F⟩::r) ⟨f,g,ob⟩ k:=by
 unfold nq at c|-;unfold eO;exact⟨v,[(x,y)],⟨rfl,λfa ga b K' J=>U fa ga b K' (J λ_=>trivial),hg⟩,c⟩
end steps
end
section
variable{o:Oper}{w:World}{l:Array (String×TypeId)}{b:TypeId}
section
variable{P:Program}{E:Nat->TI}{O:Bs}{rd:Option Nat}{Φ:St->Loc->List Deferred->World->Prop}{B:Nat}{Ψ:fT}{L:Pan}
def Cv(a6:bp O Φ){s:St}{K:St->Prop}{k:Box K}{t:Nat}{args:Array Operand}{tys:Array TypeId}(ho:o.op=.call ⟨.value (.tmp t),args,tys⟩){f:FuncId}{q:List PC}(hf:s.f t=.one (.clo (f+1000000) q)){R:AV->(Nat->Nat)->Obs->Prop}
 (hp:dj P f (q.map kT++args.toList.map s.ev) s.gen s.obj R L)(I:∀ch g' Y,L ch g' Y->Ψ ch ⟨s.f,g',Y⟩)(hk:∀r g' Y,R r g' Y->K (St.put ⟨s.f,g',Y⟩ o.dst r)):bC (spF P rd O Φ B Ψ) o s k:=by
 refine⟨λW=>∃r g' Y,R r g' Y/\W=St.put ⟨s.f,g',Y⟩ o.dst r,λal β a ds w V X c next Q hn g=>?_,λ_⟨r,g',Y,V,e⟩=>e▸hk r g' Y V⟩;have d:aW o=T:=by simp[aW,ho]
 refine iG d ?_;have hv:=V.f t;rw[hf]at hv;simp only[ak,aK]at hv;obtain⟨vs,cx,m,j⟩:=hv;rw[zN f]at cx
 have bz:(execOp a.eval o).run P w=.ok (.enter f (vs++args.map a.eval)) w:=by
  exact k6
 unfold Oper.wp;rw[bz];simp only[Oper.upon];have Z:aS O β s.gen s.obj w (q.map kT) vs.toList:=oJ ZL (λi pc n=>let ⟨u,U,h2⟩:=j i pc n;⟨u,by simpa using U,h2⟩);have:=hp.2 O al β a s.f w (vs.toList++args.toList.map a.eval) V (Z.append (jF V _));rw[show (vs.toList++args.toList.map a.eval).toArray=vs++args.map a.eval from J7 a8]at this;exact gH
def xa(L:P.underlying b=S (.interface l)):(Op.equal b .nilIface .nilIface).run P w=.ok T w:=by
 exact V0
def Aa{b c:TypeId}{d:Nat}{a:Act}(ho:o.op=.binOp .eql b (.tmp d) (.const .nilIface) c)(L:P.underlying b=S (.interface l))(h:a.tmps.getD d undef=.nilIface):
  (execOp a.eval o).run P w=.ok (.value (.bool T)) w:=by
 have e:binOp .eql b .nilIface .nilIface=(do pure (.bool (<-Op.equal b .nilIface .nilIface))):=rfl;have i:eqGuard .eql b (.tmp d) (.const .nilIface) .nilIface .nilIface=pure ():=rfl;have j:a.eval (.tmp d)=.nilIface:=h;have m:a.eval (.const .nilIface)=.nilIface:=rfl;unfold execOp;simp only[ho,j,m,e,i,Sem.run_bind,Sem.run_pure,Result.andThen_ok,xa L]
def Cw(hT:bu P E)(hm:P.follows .mixedOrders=T){fn fnD:Func}{f:FuncId}{al id bs bl d e:Nat}{c oE:Oper}{x y:Code}
 (hf:P.funcs[f]?=S fnD)(hb:fnD.body=S (.seq (.region id #[c] F) (.block bl (.seq (.region bs #[oE] F) (.cond (.tmp e) x y)))))(k:(fnD.name == "runtime.NumGoroutine")=F)
 (n:c.op=.call ⟨.builtin .recover,#[],#[]⟩)(hdR:c.dst=S d)(gR:c.guard=N)(o:oE.op=.binOp .eql b (.tmp d) (.const .nilIface) b)(q:oE.dst=S e)(gE:oE.guard=N)(r:d<fnD.ntmps)(ca:e<fnD.ntmps)
 (a1:fnD.results = #[])(p:iN x=T)(an:codeOk fnD.ntmps x=T)(I:P.underlying b=S (.interface l)){s:St}{β:Loc}{a:Act}{xs:List AV}{vs:List Value}{R:Ending->World->Prop}(V:Rel O al s β a w)(hv:aS O β s.gen s.obj w xs vs)(hl:z xs<=fnD.ntmps)
 {K:(Nat->Nat)->Obs->Prop}(hy:∀bn s0 w0,wpC (spF P N O (zV O bn s0 w0) B vn) E x (bx λZ W=>Z=.normal/\K W.gen W.obj) ⟨upd (upd (dE xs) d (.exact .nilIface)) e (bv T),s.gen,s.obj⟩)
 (hR:∀g' Y A G,K g' Y->Rel O al ⟨s.f,g',Y⟩ A a G->Tr O β s w A ⟨s.f,g',Y⟩ G->∃v,(results fn a.tmps).run P G=.ok v G/\R (.returned v) G):
  LeavesIn (fen N) 0 P fn a.tmps R [⟨.fn (.func f) vs.toArray,#[]⟩] .returning w:=by
 refine leavesIn_cons (f:=f) (args:=vs.toArray) a8 (λh=>by cases h) ?_ (λ_ _=>trivial) ?_
 .exact Xc
 refine callsDIn_of_wpSIn hf hb trivial λad cs L=>?_;apply wpSIn_seq;apply wpSIn_region;show wpOpsSIn (fen N) 0 P #[c] _ [0] _ _ _;simp only[wpOpsSIn,y7,w8];refine⟨λ_ _=>trivial,?_⟩;rw[l9 (by simp[Region.wanted,gR])];have bz:∀(a:Act)(w:World),(execOp a.eval c).run P w=.ok .recover w:=λa w=>by simp[execOp,n,resolve,invoke,builtin]
 rw[bz];simp only[recoverD,L,hdR,Exit.thenS];refine wpSIn_of_wpIn rfl ?_;have b2:=oQ (al:=fnD.ntmps) (fa:=s.f) hl V hv;have b1:=b2.put (dst:=S d) (λd' h=>by cases h;exact r) (x:=.exact .nilIface) (v:=.nilIface) (by simp only[ak]);refine wpIn_block (wpIn_seq (wpIn_region ?_));show wpOpsIn (fen N) 0 P #[oE] _ [0] _ _;simp only[wpOpsIn,y7,w8];rw[l9 (by simp[Region.wanted,gE])];have g:=b1.f d;simp only[St.put,upd,l9,ak]at g;refine⟨λ_ _=>trivial,?_⟩;rw[show (fen N).round=N from rfl,Oper.semAt_none];rw[Aa o I g,Oper.uponIn_value];simp only[q];have Q:Rel O fnD.ntmps ⟨upd (upd (dE xs) d (.exact .nilIface)) e (bv T),s.gen,s.obj⟩ β _ w:=b1.put (dst:=S e) (λd' h=>by cases h;exact ca) (x:=bv T) (v:=.bool T) (by simp only[ak,aK,bv];exact .bool _);have j:=Q.f e;simp only[upd,l9,bv,ak,aK]at j;refine wpIn_cond (t:=T) j.inv_bool ?_;rw[l9 b9];have J:=cX (rd:=N) (B:=B) (ds:=[]) hT hm aa x p an Q ⟨rfl,Tr.refl⟩ (hy β ⟨upd (upd (dE xs) d (.exact .nilIface)) e (bv T),s.gen,s.obj⟩ w);refine wpIn_mono J (λZ a' G hp=>?_);obtain⟨W,A,a0,H,rfl,U,h2,rfl,u⟩:=hp;rcases U with⟨rfl,U⟩|⟨_,_,h⟩
 case inr=>exact h.elim
 have hk:fE O β s.gen s.obj w A W.gen W.obj G:=u.keep;have ht:Tr O β s w A ⟨s.f,W.gen,W.obj⟩ G:=⟨u.size,u.old,hk,u.os⟩
 have X:Rel O al ⟨s.f,W.gen,W.obj⟩ A a G:=⟨V.defers,V.size,λi=>ak.keep hk _ (V.f i),h2.obj,h2.inj,D0 V.base u.size⟩
 obtain⟨v,cx,m⟩:=hR _ _ _ _ U X ht;refine⟨rfl,.returning,by rw[<-L],.tuple #[],by simp[results,a1],?_⟩;simp only[settle,LeavesIn];exact⟨v,cx,m⟩
end
section
variable{ar:Sp}{E:Nat->TI}{ops:Array Oper}{p:List Nat}{f:Nat->AV}{g:Nat->Nat}{ob:Nat->Option (List C)}{rd hd:List Nat}{K:St->Prop}{k:Box K}
def cC{ef:List Nat}(hg:GdE ops ⟨o,rd,hd,ef,T⟩ ⟨f,g,ob⟩)(h:∀K':St->Prop,(∀B,K B->K' B)->opA ar E o ⟨f,g,ob⟩ (bx K')):nq ar E ops p [⟨o,rd,hd,ef,T⟩] ⟨f,g,ob⟩ k:=by
 unfold nq eO;exact⟨⟨λ_=>trivial,λK' J=>h K' λB q=>J B λ_=>q⟩,hg⟩
end
end
section
def XX(B:Nat):PC->Prop
 |.d _=>True
 |.ptr id _ _=>id<B
def lV(B:Nat):C->Prop
 |.d _=>True
 |.osl id _ _ _ _=>id<B
 |.ptr id _ _=>id<B
 |.mp id _ _=>id<B
 |.lsl _=>True
 |.raw _=>True
 |.clo _ q=>∀p∈q,XX B p
def XY(B:Nat)(g:Nat->Nat):PC->Prop
 |.d _=>True
 |.ptr id K _=>id<B\/K<=g id
def okC(B:Nat)(g:Nat->Nat):C->Prop
 |.d _=>True
 |.osl id K _ _ _=>id<B\/K<=g id
 |.ptr id K _=>id<B\/K<=g id
 |.mp id K _=>id<B\/K<=g id
 |.lsl _=>True
 |.raw _=>True
 |.clo _ q=>∀p∈q,XY B g p
variable{g:Nat->Nat}{B:Nat}{G:World}{c:C}{A ad:Loc}{K g2:Nat->Nat}{av bo:Obs}{ob:Obs}{cells:List C}{xs:List AV}{R:AV->(Nat->Nat)->Obs->Prop}
def lV.ok(h:lV B c):okC B g c:=by
 cases c with
 |osl=>exact .inl h
 |ptr=>exact .inl h
 |mp=>exact .inl h
 |clo f q=>
   intro p a;have:=h p a;cases p with
   |d=>trivial
   |ptr=>exact .inl this
 |d=>trivial
 |lsl=>trivial
 |raw=>trivial
def jP(ar:List Nat)(g g':Nat->Nat):Nat->Nat:=λi=>if i∈ar then g' i else g i
def fN(ar:List Nat)(ob Y:Obs):Obs:=λi=>if i∈ar then Y i else ob i
structure HJ (B:Nat) (ar:List Nat) (g:Nat->Nat) (ob:Obs) (g':Nat->Nat) (Y:Obs):Prop where
 same:∀i,i<B->i∉ar->g' i=g i/\Y i=ob i
 low:∀i∈ar,∀cells,Y i=some cells->∀c∈cells,lV B c
section
variable{P:Program}{E:Nat->TI}{O:Bs}{β:Loc}{w:World}
def aK.okC{B:Nat}{g:Nat->Nat}{ob:Obs}{c:C}{v:Value}(h:aK O β g ob w c v):okC B g c:=by
 cases c with
 |d=>trivial
 |osl=>exact .inr h.2.1
 |ptr=>exact .inr h.2.1
 |mp=>exact .inr h.2.1
 |lsl=>trivial
 |raw=>trivial
 |clo f q=>
   obtain⟨vs,_,j,a⟩:=h;intro p b;obtain⟨i,e⟩:=D9 b;obtain⟨u,_,V⟩:=a i p e;cases p with
   |d=>trivial
   |ptr=>exact .inr V.2.1
def eA.okC{B:Nat}{g:Nat->Nat}{R:C->Value->Prop}(a:∀c v,R c v->Go.Am.okC B g c){kd:TypeDesc}{cs:List C}{es:List MapEntry}(h:eA R kd cs es):∀c∈cs,Go.Am.okC B g c:=by
 induction h with
 |nil=>intro c Z;cases Z
 |cons e U b _ d=>
   intro c Z;simp only[A0]at Z;rcases Z with rfl|rfl|Z
   .trivial
   .exact a _ _ b
   .exact d c Z
def jN.okC{B:Nat}{g:Nat->Nat}{ob:Obs}{kd:Nat}{c:C}{v:Value}(h:jN O β g ob w kd c v):Go.Am.okC B g c:=by
 unfold jN at h;split at h
 .exact aK.okC h
 .obtain⟨ds,vs,rfl,_⟩:=h
  trivial
def dt.okC{B:Nat}{g:Nat->Nat}{ob:Obs}{e:Nat}{cells:List C}{x:Option Addr}(h:dt O β g ob w e cells x):∀c∈cells,Go.Am.okC B g c:=by
 intro c Z;cases x with
 |none=>have h:cells=[]:=h;subst h;cases Z
 |some a=>
   cases b:a.spot with
   |none=>
     obtain⟨_,arr,el,H,d,_,_,_,f⟩:=h.cells b;obtain⟨i,d⟩:=D9 Z;obtain⟨v,_,V⟩:=f i c d;exact V.okC
   |some l=>
     obtain⟨_,⟨m,p,_,j⟩|⟨_,o,k,_⟩⟩:=h.map b
     .exact eA.okC (λ_ _=>jN.okC) j c Z
     .subst k
      simp only[E3]at Z;subst Z;trivial
structure Conv (O:Bs) (B:Nat) (g:Nat->Nat) (A:Loc) (K:Nat->Nat) (av:Obs) (G:World) (ad:Loc) (g2:Nat->Nat) (bo:Obs):Prop where
 imm:∀b,Imm O A av G b->Imm O ad bo G b
 live:∀id,id<B->g2 id=K id/\((bo id).isSome=true->(av id).isSome=true/\ad id=A id)
 dead:∀id,¬id<B->bo id=none/\g2 id=g id
def Conv.rep(Z:Conv O B g A K av G ad g2 bo){v:Value}(l:okC B g c)(h:aK O A K av G c v):aK O ad g2 bo G c v:=by
 have m:∀id x,id<B\/x<=g id->x<=K id->x<=g2 id:=λid x I U=>by
  by_cases e:id<B
  .rw[(Z.live id e).1];exact U
  .rw[(Z.dead id e).2];exact I.resolve_left e
 have j:∀id x,g2 id=x->(bo id).isSome=T->K id=x/\(av id).isSome=T/\ad id=A id:=λid x I ho=>by
  by_cases e:id<B
  .exact⟨by rw[<-(Z.live id e).1];exact I,(Z.live id e).2 ho⟩
  .rw[(Z.dead id e).1]at ho;cases ho
 cases c with
 |d x=>exact cD.mono h λb e=>⟨Z.imm b e,rfl⟩
 | osl id x sz off len=>exact⟨h.1,m id x l h.2.1,λk ho=>by
    obtain⟨l1,l2,y⟩:=j id x k ho;rw[y];exact h.2.2 l1 l2⟩
 | ptr id x off=>exact⟨h.1,m id x l h.2.1,λk ho=>by
    obtain⟨l1,l2,y⟩:=j id x k ho;rw[y];exact h.2.2 l1 l2⟩
 | mp id x t=>exact⟨h.1,m id x l h.2.1,λk ho=>by
    obtain⟨l1,l2,y⟩:=j id x k ho;rw[y];exact h.2.2 l1 l2⟩
 |lsl n=>exact h
 |raw o=>exact h.elim
 |clo f q=>
   obtain⟨vs,U,r,s⟩:=h;refine⟨vs,U,r,λi pc p=>?_⟩;obtain⟨u,L,V⟩:=s i pc p;refine⟨u,L,?_⟩;have a:=l pc (l7 p);cases pc with
   |d x=>exact cD.mono V λb e=>⟨Z.imm b e,rfl⟩
   | ptr id x off=>exact⟨V.1,m id x a V.2.1,λk ho=>by
      obtain⟨l1,l2,y⟩:=j id x k ho;rw[y];exact V.2.2 l1 l2⟩
def Conv.repM(Z:Conv O B g A K av G ad g2 bo){kd:Nat}{v:Value}(d:okC B g c)(h:jN O A K av G kd c v):jN O ad g2 bo G kd c v:=by
 unfold jN at h|-;split
 .rename_i a
  rw[l9 a]at h;exact Z.rep d h
 .rename_i a
  rw[j9 a]at h;obtain⟨ds,vs,e,f,j,k⟩:=h;exact⟨ds,vs,e,f,j,λi x I=>let ⟨u,hu,V⟩:=k i x I;⟨u,hu,cD.mono V λb l=>⟨Z.imm b l,rfl⟩⟩⟩
def eA.okMono{R t:C->Value->Prop}{kd:TypeDesc}{cs:List C}{es:List MapEntry}(h:eA R kd cs es)(a:∀c∈cs,Go.Am.okC B g c)(V:∀c v,Go.Am.okC B g c->R c v->t c v):eA t kd cs es:=by
 induction h with
 |nil=>exact .nil
 |cons b U d _ e=>exact .cons b U (V _ _ (a _ a8) d) (e λc Z=>a c (by simp[Z]))
def Conv.obj(Z:Conv O B g A K av G ad g2 bo){e:Nat}{x:Option Addr}(i:∀c∈cells,okC B g c)(h:dt O A K av G e cells x):dt O ad g2 bo G e cells x:=by
 cases x with
 |none=>exact h
 |some a=>
   cases b:a.spot with
   |none=>
     obtain⟨U,arr,el,H,l,d,m,f,n⟩:=h.cells b;refine .ofCells b ⟨U,arr,el,H,l,d,m,f,λj c k=>?_⟩;obtain⟨v,o,V⟩:=n j c k;exact⟨v,o,Z.rep (i c (l7 k)) V⟩
   |some t=>
     obtain⟨U,⟨q,p,d,f⟩|az⟩:=h.map b
     .exact .ofMap b ⟨U,.inl ⟨q,p,d,f.okMono i λ_ _ r s=>Z.repM r s⟩⟩
     .exact .ofMap b ⟨U,.inr az⟩
def zW{al M:Nat}{ar:List Nat}{fa:Nat->AV}{a0 x:Act}{W:St}{A:Loc}(X:Rel O M ⟨fa,g,ob⟩ β a0 w)(V:Rel O al W A x G)
 {o:St}(l:o.gen=g)(m:o.obj=ob)(u:Tr O β o w A W G)(I:∀i∈ar,i<B)(hB:∀i,B<=i->ob i=N)(y:HJ B ar g ob W.gen W.obj):
  ∃ad:Loc,Conv O B g A W.gen W.obj G ad (jP ar g W.gen) (fN ar ob W.obj)/\
   (∀id cells,fN ar ob W.obj id=S cells->dt O ad (jP ar g W.gen) (fN ar ob W.obj) G (jP ar g W.gen id) cells (ad id))/\
   (∀id L a x,(fN ar ob W.obj id).isSome=T->(fN ar ob W.obj L).isSome=T->ad id=S a->ad L=S x->a.block=x.block->id=L)/\
   (∀id,(fN ar ob W.obj id).isSome=T->(W.obj id).isSome=T/\¬B<=id/\ad id=A id)/\
   Tr O β ⟨fa,g,ob⟩ w ad ⟨fa,jP ar g W.gen,fN ar ob W.obj⟩ G:=by
 subst l m
 have j:∀id,(o.obj id).isSome=T->id<B:=λid ho=>Tf λZ=>by
  rw[hB id a7]at ho;cases ho
 have t:∀id,id∈ar->jP ar o.gen W.gen id=W.gen id/\fN ar o.obj W.obj id=W.obj id:=λid h=>⟨l9 h,l9 h⟩
 have d:∀id,id∉ar->jP ar o.gen W.gen id=o.gen id/\fN ar o.obj W.obj id=o.obj id:=λid h=>⟨j9 h,j9 h⟩
 have H:∀id,id∉ar->(o.obj id).isSome=T->W.gen id=o.gen id/\(W.obj id).isSome=T/\A id=β id:=λid h ho=>by
  obtain⟨r,v⟩:=y.same id (j id ho) h;have q:(W.obj id).isSome=T:=by rw[v];exact ho
  exact⟨r,q,(u.keep.live id r q).2.1⟩
 let ad:Loc:=λid=>if id∈ar then A id else β id
 have f:∀id,id∈ar->ad id=A id:=λid h=>l9 h;have k:∀id,id∉ar->ad id=β id:=λid h=>j9 h
 have bs:∀id,(fN ar o.obj W.obj id).isSome=T->(W.obj id).isSome=T/\¬B<=id/\ad id=A id:=λid ho=>by
  by_cases h:id∈ar
  .rw[(t id h).2]at ho
   exact⟨ho,by have:=I id h;omega,f id h⟩
  .rw[(d id h).2]at ho
   obtain⟨_,v,q⟩:=H id h ho;exact⟨v,by have:=j id ho;omega,(k id h).trans q.symm⟩
 have J:∀b,Imm O A W.obj G b->Imm O ad (fN ar o.obj W.obj) G b:=λb p=>⟨p.1,p.2.1,λid a ho av=>by
  obtain⟨r,_,q⟩:=bs id ho;exact p.2.2 id a r (by rw[<-q];exact av)⟩
 have e:Conv O B o.gen A W.gen W.obj G ad (jP ar o.gen W.gen) (fN ar o.obj W.obj):=by
  refine⟨J,λid p=>⟨?_,λho=>⟨(bs id ho).1,(bs id ho).2.2⟩⟩,λid p=>?_⟩
  .by_cases h:id∈ar
   .exact(t id h).1
   .rw[(d id h).1,(y.same id p h).1]
  .have h:id∉ar:=λh=>p (I id h)
   exact⟨by rw[(d id h).2];exact hB id a7,(d id h).1⟩
 refine⟨ad,e,λid cells Z=>?_,λK Q Y a2 U h2 e1 e2 p=>?_,bs,u.size,u.old,⟨λb p=>⟨J b (u.imm b p).1,(u.imm b p).2⟩,λid=>?_,λid hg ho=>?_⟩,u.os⟩
 .by_cases h:id∈ar
  .rw[(t id h).1,f id h]
   rw[(t id h).2]at Z;exact e.obj (λc E=>(y.low id h cells Z c E).ok) (V.obj id cells Z)
  .rw[(d id h).1,k id h]
   rw[(d id h).2]at Z;have ho:(o.obj id).isSome=T:=by rw[Z];rfl
   obtain⟨r,v,q⟩:=H id h ho;have U:=V.obj id cells (by rw[(y.same id (j id ho) h).2];exact Z);rw[r,q]at U;exact e.obj (λc E=>(X.obj id cells Z).okC c E) U
 .obtain⟨p1,_,p3⟩:=bs K U
  obtain⟨p4,_,p6⟩:=bs Q h2;exact V.inj K Q Y a2 p1 p4 (by rw[<-p3];exact e1) (by rw[<-p6];exact e2) p
 .show o.gen id<=jP ar o.gen W.gen id
  by_cases h:id∈ar
  .rw[(t id h).1];exact u.gen id
  .rw[(d id h).1];exact l8 _
 .change jP ar o.gen W.gen id=o.gen id at hg
  change (fN ar o.obj W.obj id).isSome=T at ho;by_cases h:id∈ar
  .rw[(t id h).1]at hg
   rw[(t id h).2]at ho;obtain⟨r,v,q⟩:=u.keep.live id hg ho;exact⟨r,(f id h).trans v,q⟩
  .rw[(d id h).2]at ho
   obtain⟨r,v,q⟩:=H id h ho;exact⟨ho,k id h,(u.keep.live id r v).2.2⟩
def eH.repL{B al:Nat}{s:St}{a:Act}{Y:Obs}(n:∀id,(Y id).isSome=T->(s.obj id).isSome=T/\¬B<=id)(V:Rel O al s β a w){g':Nat->Nat}{A:Loc}(av:∀id,(Y id).isSome=T->A id=β id):
  ∀{f d:List AV}{vs:List Value},eH B s f d->aS O β s.gen s.obj w f vs->aS O A g' Y w d vs
 |[],d,vs,h,b=>by simp only[eH]at h;subst h;simp only[aS]at b|-;exact b
 |t::f,d,vs,h,b=>by
   simp only[eH]at h;obtain⟨r,o,rfl,U,i⟩:=h;simp only[aS]at b|-;obtain⟨u,j,e,k,l⟩:=b;exact⟨u,j,e,U.rep n V k av,eH.repL n V av i l⟩
def bB(B:Nat)(ar:List Nat)(g:Nat->Nat)(ob:Obs)(R:AV->(Nat->Nat)->Obs->Prop)(s:St)(j:List AV):Prop:=HJ B ar g ob s.gen s.obj/\∃o,eH B s j o/\R (pack o) (jP ar g s.gen) (fN ar ob s.obj)
def Qy(E:Nat->TI)(rs:List ResultVar)(B:Nat)(ar:List Nat)(g:Nat->Nat)(ob:Obs)(R:AV->(Nat->Nat)->Obs->Prop):Exit->St->Prop
 |.normal,s|.ret,s=>∃W,ai s W/\mH E W rs (bx λj=>bB B ar g ob R W j)
 |_,_=>False
def HK(B:Nat)(ar:List Nat)(g:Nat->Nat)(ob:Obs)(X:Pan):fT:=λa s=>HJ B ar g ob s.gen s.obj/\X a (jP ar g s.gen) (fN ar ob s.obj)
def bZ(B:Nat)(ar:List Nat)(hT:bu P E)(hm:P.follows .mixedOrders=T){f:FuncId}{fn:Func}{c:Code}(hf:P.funcs[f]?=S fn)(L:fn.body=S c)(hn:(fn.name == "runtime.NumGoroutine")=F)
 (rs:List ResultVar)(a1:fn.results=rs.toArray)(p:iN c=T)(an:codeOk fn.ntmps c=T)(m:z xs<=fn.ntmps){X:Pan}
 (Y:∀i∈ar,i<B)(hB:∀i,B<=i->ob i=N)
 (h:∀O bn s0 w0,wpC (spF P N O (zV O bn s0 w0) B (HK B ar g ob X)) E c (bx (Qy E rs B ar g ob R)) ⟨dE xs,g,ob⟩):dj P f xs g ob R X:=by
 refine⟨⟨fn,hf,by rw[L];rfl,hn⟩,λO al β a fa w vs u hv=>?_⟩;refine kU (n:=0) (callsIn_of_wp hf L trivial ?_);have V:=oQ (al:=fn.ntmps) m u hv;refine wpIn_mono (cX (rd:=N) (B:=B) (ds:=[]) hT hm aa c p an V ⟨rfl,Tr.refl⟩ (h O β ⟨dE xs,g,ob⟩ w)) (λe a' G hp=>?_);obtain⟨W,A,a0,H,rfl,s,Z,rfl,ht⟩:=hp;rcases s with s|⟨ch,rfl,x,hX⟩
 .have k:Qy E rs B ar g ob R .ret W->∃v,(results fn a0.tmps).run P G=.ok v G/\Qx O β fa g ob w R X (.returned v) G:=by
   rintro⟨s2,b8,hR⟩;obtain⟨ad,Q,q⟩:=b8 O fn.ntmps A a0 G Z;have J:=ht.trans q;obtain⟨v,j,U,⟨x,o,dc,b⟩,h3,d,rfl,h4⟩:=fj hT Q a1 hR;obtain⟨r,c4,y,I,t,K⟩:=zW (a0:=a) (fa:=fa) u Q rfl rfl J Y hB x;refine⟨mI d,U,.inl ⟨mI d,_,_,_,r,rfl,b,zQ (dc.repL (λid ho=>⟨(t id ho).1,(t id ho).2.1⟩) Q (λid ho=>(t id ho).2.2) h4),y,I,K⟩⟩
  cases e with
  |normal=>exact⟨rfl,k s⟩
  |ret=>exact⟨rfl,k s⟩
  |exit id=>exact s.elim
  |goto l=>exact s.elim
  |panic ch=>exact s.elim
  |outgrown=>exact s.elim
 .obtain⟨r,c4,y,I,t,K⟩:=zW (a0:=a) (fa:=fa) u Z rfl rfl ht Y hB x
  exact⟨rfl,.inr ⟨ch,_,_,r,rfl,hX,y,I,K⟩⟩
def dj.toR{f:FuncId}(h:dj P f xs g ob R (λ_ _ _=>False)):gY P f xs g ob R:=
 ⟨h.1,λO al β a b w vs U d=>(h.2 O al β a b w vs U d).mono λ_ _ q=>q.elim id λ⟨_,_,_,_,_,h,_⟩=>h.elim⟩
def HL{t:Nat}{g g':Nat->Nat}(h:g' t=g t):jP [t] g g'=g:=by
 funext i;simp only[jP,E3];split
 .rename_i e;subst e;exact h
 .rfl
def HM{t:Nat}{ob Y:Obs}:fN [t] ob Y=upd ob t (Y t):=by
 funext i;simp only[fN,E3,upd];split
 .rename_i e;subst e;rfl
 .rfl
def zX{g g':Nat->Nat}:jP [] g g'=g:=by funext i;simp[jP]
def zY{ob Y:Obs}:fN [] ob Y=ob:=by funext i;simp[fN]
def jc{A:Type}{P:Nat->Prop}{s:St}{id g sz n:Nat}(k:P id)(hg:s.gen id=g)(l:List A)(enc:A->List D)(ho:s.obj id=S cells)(Z:cells=l.flatMap (λa=>(enc a).map .d))(az:∀a∈l,z (enc a)=sz)(f:z l=n):
  iz P s (.osl id g sz 0 n) (.sl (l.map enc)):=by
 have i:(l.map enc).flatten.map C.d=cells:=by rw[Z,List.flatMap_def,List.map_flatten,Qf];rfl
 have m:z (l.map enc).flatten=n*sz:=by
  rw[<-f];clear ho Z f i
  induction l with
  |nil=>simp
  |cons a l o=>simp only[s6,E7,j8,l4,az a a8,o (λb hb=>az b ZU),F1];omega
 refine .osl k hg ho (by rw[<-i,j7,m];omega) (by simpa using f) (λe p=>by obtain⟨a,q,rfl⟩:=D6.1 p;exact az a q) (λj=>.d ((l.map enc).flatten.getD j default)) (λj x I=>?_) (λj x I=>?_)
 .rw[C5,<-i,w9,I]
  simp[List.getD,I]
 .simp only[List.getD,I,A6]
  exact .d x
end
end
section
section
variable{P:Program}{E:Nat->TI}{O:Bs}{β:Loc}{w:World}
end
section
variable{P:Program}{E:Nat->TI}{O:Bs}{w:World}{rd:Option Nat}{n:St->Loc->List Deferred->World->Prop}{t:fT}
def Ux(ops:Array Oper):Bool:=ops.toList.any fal
def FP(X:Prop)(hT:bu P E)(m:P.follows .mixedOrders=T)(a6:bp O n){B id:Nat}{ops:Array Oper}{s:St}{Q:Exit->St->Prop}{q:Box Q}(p:List Nat)(y:List (List Nat×List Nat×List Nat×Bool))(l:Nat)(f:ops.toList.all aW=T)(j:(vh ops y l&&Ux ops)=T)(w:z p=l)(ad:p.Nodup)
 (h:eO (spF P rd O n B t) E ops p X (jO ops.toList y) s (bx λW=>X->Q .normal W)):ly (spF P rd O n B t) E id ops s q:=by
 rw[s5]at j;obtain⟨U,I,u,x,A⟩:=vk (Q:=Q) p y l j.1 w ad h;refine sK hT m a6 f U I u (λL s i o a b c d e=>.inl (x L s i o a b c d e)) (λL W G H=>A L W G H ?_);obtain⟨o,ho,J⟩:=Q1.1 j.2;obtain⟨i,V⟩:=D9 ho;exact .inl ⟨i,o,by simpa using V,J⟩
end
variable{v:AV}{y:Option (List C)}
section steps
variable{ar:Sp}{E:Nat->TI}{ops:Array Oper}{p:List Nat}{X:Prop}{f:Nat->AV}{g:Nat->Nat}{ob:Nat->Option (List C)}{K:St->Prop}{k:Box K}{op:Op}{ty:TypeId}{ps:String}{m:Array Edge}{gd:Option (Nat×Bool)}{rd hd:List Nat}{r:List Ent}{d:Nat}
def pU(hf:fal ⟨S d,op,ty,ps,m,gd⟩=F)(hg:GdE ops ⟨⟨S d,op,ty,ps,m,gd⟩,rd,hd,[],F⟩ ⟨f,g,ob⟩)(U:∀(fa:Nat->AV)(ga:Nat->Nat)(a:Nat->Option (List C))(K':St->Prop),K' ⟨upd (maskf rd f fa) d v,maskm p hd g ga,maskm p hd ob a⟩->opA ar E ⟨S d,op,ty,ps,m,gd⟩ ⟨maskf rd f fa,maskm p hd g ga,maskm p hd ob a⟩ (bx K'))
 (b:eO ar E ops p X r ⟨upd f d v,g,ob⟩ k):eO ar E ops p X (⟨⟨S d,op,ty,ps,m,gd⟩,rd,hd,[],F⟩::r) ⟨f,g,ob⟩ k:=by
 unfold eO;exact⟨v,[],⟨rfl,λfa ga a K' J=>U fa ga a K' (J λh=>by rw[hf]at h;cases h),hg⟩,b⟩
def zZ{a x:Nat}(hf:fal ⟨S d,op,ty,ps,m,gd⟩=F)(hg:GdE ops ⟨⟨S d,op,ty,ps,m,gd⟩,rd,hd,[a],F⟩ ⟨f,g,ob⟩)(U:∀(fa:Nat->AV)(ga:Nat->Nat)(b:Nat->Option (List C))(K':St->Prop),K' ⟨upd (maskf rd f fa) d v,upd (maskm p hd g ga) (p.getD a 0) x,upd (maskm p hd ob b) (p.getD a 0) y⟩->opA ar E ⟨S d,op,ty,ps,m,gd⟩ ⟨maskf rd f fa,maskm p hd g ga,maskm p hd ob b⟩ (bx K'))
 (c:eO ar E ops p X r ⟨upd f d v,upd g (p.getD a 0) x,upd ob (p.getD a 0) y⟩ k):eO ar E ops p X (⟨⟨S d,op,ty,ps,m,gd⟩,rd,hd,[a],F⟩::r) ⟨f,g,ob⟩ k:=by
 unfold eO;exact⟨v,[(x,y)],⟨rfl,λfa ga b K' J=>U fa ga b K' (J λh=>by rw[hf]at h;cases h),hg⟩,c⟩
def FQ{a:Nat}(hg:GdE ops ⟨⟨S d,op,ty,ps,m,gd⟩,rd,hd,[a],F⟩ ⟨f,g,ob⟩)(hv:p.getD a 0∉hd.map (λb=>p.getD b 0))(U:∀(fa:Nat->AV)(ga:Nat->Nat)(n:Nat->Option (List C))(K':St->Prop),(X->K' ⟨upd (maskf rd f fa) d v,maskm p hd g ga,upd (maskm p hd ob n) (p.getD a 0) y⟩)->opA ar E ⟨S d,op,ty,ps,m,gd⟩ ⟨maskf rd f fa,maskm p hd g ga,maskm p hd ob n⟩ (bx K'))
 (o:eO ar E ops p X r ⟨upd f d v,g,upd ob (p.getD a 0) y⟩ k):eO ar E ops p X (⟨⟨S d,op,ty,ps,m,gd⟩,rd,hd,[a],F⟩::r) ⟨f,g,ob⟩ k:=by
 have c:∀(A:Type)(h:Nat->A)(i:Nat),upd h i (h i)=h:=λA h i=>by funext j;simp only[upd];split<;>simp_all
 have l:∀ga:Nat->Nat,maskm p hd g ga (p.getD a 0)=g (p.getD a 0):=λga=>by
  clear U o hg
  induction hd with
  |nil=>rfl
  |cons b bs ih=>
    exact W9
 unfold eO;refine⟨v,[(g (p.getD a 0),y)],⟨rfl,λfa ga n K' J=>U fa ga n K' (λq=>?_),hg⟩,?_⟩
 .have e:mG p ⟨⟨S d,op,ty,ps,m,gd⟩,rd,hd,[a],F⟩ v [(g (p.getD a 0),y)] ⟨maskf rd f fa,maskm p hd g ga,maskm p hd ob n⟩=⟨upd (maskf rd f fa) d v,maskm p hd g ga,upd (maskm p hd ob n) (p.getD a 0) y⟩:=by
   simp only[mG,yC,setm,s6,x7];rw[<-l ga,c]
  rw[<-e];exact J λ_=>q
 .have e:mG p ⟨⟨S d,op,ty,ps,m,gd⟩,rd,hd,[a],F⟩ v [(g (p.getD a 0),y)] ⟨f,g,ob⟩=⟨upd f d v,g,upd ob (p.getD a 0) y⟩:=by
   simp only[mG,yC,setm,s6,x7];rw[c]
  rw[e];exact o
def FR{o:Oper}{ef:List Nat}(hf:fal o=F)(hg:GdE ops ⟨o,rd,hd,ef,T⟩ ⟨f,g,ob⟩)(h:∀K':St->Prop,(∀B,K B->K' B)->opA ar E o ⟨f,g,ob⟩ (bx K')):eO ar E ops p X [⟨o,rd,hd,ef,T⟩] ⟨f,g,ob⟩ k:=by
 unfold eO;exact⟨⟨λq=>(by rw[hf]at q;cases q),h⟩,hg⟩
end steps
end
end
section
attribute[local congr]ite_cc
section
section
variable{P:Program}{O:Bs}{rd:Option Nat}{B0:Nat}{Ψ:fT}{op:Oper}{s:St}{K:St->Prop}{k:Box K}{f:FuncId}{args:Array Operand}{tys:Array TypeId}{R:AV->Prop}{bn:Loc}{s0:St}{w0:World}
def cg(ho:op.op=.call ⟨.value (.func f),args,tys⟩)(hp:aJ P f (args.toList.map s.ev) R)(hk:∀r,R r->K (s.put op.dst r))(hd:(args.toList.map s.ev).all fk=T:=by simp only[go_sem];rfl):bC (sp P) op s k:=
 gw ho hp hd hk
def cU{q:Nat}{o:cT}(ho:op.op=.call ⟨.value (.func f),args,tys⟩)(hp:ck P q o f (args.toList.map s.ev) R)(hk:∀r,R r->K (s.put op.dst r))(hd:(args.toList.map s.ev).all fk=T:=by simp only[go_sem];rfl):bC (spF P rd O (HH q o O bn s0 w0) B0 Ψ) op s k:=
 kc aL (λ_ _ _ _ h=>h.1.2) ho hp hd hk
def jd{q:Nat}{o:cT}(ho:op.op=.call ⟨.value (.func f),args,tys⟩)(hp:aJ P f (args.toList.map s.ev) R)(hk:∀r,R r->K (s.put op.dst r))(hd:(args.toList.map s.ev).all fk=T:=by simp only[go_sem];rfl):bC (spF P rd O (HH q o O bn s0 w0) B0 Ψ) op s k:=
 jb aL ho hp hd hk
def FU(ho:op.op=.call ⟨.value (.func f),args,tys⟩)(hp:aJ P f (args.toList.map s.ev) R)(hk:∀r,R r->K (s.put op.dst r))(hd:(args.toList.map s.ev).all fk=T:=by simp only[go_sem];rfl):bC (spF P rd O (zV O bn s0 w0) B0 Ψ) op s k:=
 jb aa ho hp hd hk
end
end
end
end Go.Am
namespace Go.Proofs.YtlacbjnmkhndiaaGreatDoor
section
open Go Go.Am
attribute[local congr]ite_cc
section
def ti3:TI:=⟨.int .i64,1,8,[.int .i64 0]⟩
def ti4:TI:=⟨.bool,1,1,[.bool F]⟩
def ti5:TI:=⟨.int .u8,1,1,[.int .u8 0]⟩
def ti9:TI:=⟨.string,1,16,[.str []]⟩
def Vb:TI:=⟨.interface #[],1,16,[.nili]⟩
def QW:TI:=⟨.slice 9,1,24,[.nsl]⟩
def QX:TI:=⟨.slice 57,1,24,[.nsl]⟩
def QY:TI:=⟨.slice 47,1,24,[.nsl]⟩
def MA:TI:=⟨.struct #[⟨ "Vars",22,0,F,"","",0⟩,⟨ "Arrays",23,1,F,"","",24⟩,⟨ "Funcs",24,2,F,"","",48⟩],3,72,[.nsl,.nsl,.nsl]⟩
def MB:TI:=⟨.slice 39,1,24,[.nsl]⟩
def MC:TI:=⟨.struct #[⟨ "Code",29,0,F,"","",0⟩,⟨ "Data",3,1,F,"","",24⟩],2,32,[.nsl,.int .i64 0]⟩
def Vc:TI:=⟨.func #[26] #[31,32] F,1,8,[.nilf]⟩
def MD:TI:=⟨.int .u32,1,4,[.int .u32 0]⟩
def QZ:TI:=⟨.slice 42,1,24,[.nsl]⟩
def IC:TI:=⟨.struct #[⟨ "Kind",3,0,F,"","",0⟩,⟨ "Op",3,1,F,"","",8⟩,⟨ "Num",39,2,F,"","",16⟩,⟨ "Name",9,3,F,"","",24⟩,⟨ "Kids",40,4,F,"","",40⟩],5,64,[.int .i64 0,.int .i64 0,.int .u32 0,.str [],.nsl]⟩
def Ra:TI:=⟨.slice 45,1,24,[.nsl]⟩
def ID:TI:=⟨.struct #[⟨ "Kind",3,0,F,"","",0⟩,⟨ "Name",9,1,F,"","",8⟩,⟨ "E",40,2,F,"","",24⟩,⟨ "Then",43,3,F,"","",48⟩,⟨ "Else",43,4,F,"","",72⟩],5,96,[.int .i64 0,.str [],.nsl,.nsl,.nsl]⟩
def IE:TI:=⟨.struct #[⟨ "Name",9,0,F,"","",0⟩,⟨ "Params",22,1,F,"","",16⟩,⟨ "Locals",22,2,F,"","",40⟩,⟨ "Word",4,3,F,"","",64⟩,⟨ "Body",43,4,F,"","",72⟩],5,96,[.str [],.nsl,.nsl,.bool F,.nsl]⟩
def ME:TI:=⟨.struct #[⟨ "End",3,0,F,"","",0⟩,⟨ "Out",9,1,F,"","",8⟩,⟨ "Steps",3,2,F,"","",24⟩],3,32,[.int .i64 0,.str [],.int .i64 0]⟩
def IF:TI:=⟨.struct #[⟨ "Name",9,0,F,"","",0⟩,⟨ "Size",3,1,F,"","",16⟩],2,24,[.str [],.int .i64 0]⟩
def Rb:TI:=⟨.slice 107,1,24,[.nsl]⟩
def MF:TI:=⟨.struct #[⟨ "Words",3,0,F,"","",0⟩,⟨ "Funcs",60,1,F,"","",8⟩],2,32,[.int .i64 0,.nsl]⟩
def Rc:TI:=⟨.slice 126,1,24,[.nsl]⟩
def MG:TI:=⟨.struct #[⟨ "Words",3,0,F,"","",0⟩,⟨ "Funcs",67,1,F,"","",8⟩],2,32,[.int .i64 0,.nsl]⟩
def Vd:TI:=⟨.func #[62] #[31,32] F,1,8,[.nilf]⟩
def Rd:TI:=⟨.slice 79,1,24,[.nsl]⟩
def IG:TI:=⟨.struct #[⟨ "Name",9,0,F,"","",0⟩,⟨ "As",3,1,F,"","",16⟩,⟨ "Of",3,2,F,"","",24⟩],3,32,[.str [],.int .i64 0,.int .i64 0]⟩
def Ve:TI:=⟨.func #[31] #[9,32] F,1,8,[.nilf]⟩
def Re:TI:=⟨.array 16 39,16,64,[.int .u32 0,.int .u32 0,.int .u32 0,.int .u32 0,.int .u32 0,.int .u32 0,.int .u32 0,.int .u32 0,.int .u32 0,.int .u32 0,.int .u32 0,.int .u32 0,.int .u32 0,.int .u32 0,.int .u32 0,.int .u32 0]⟩
def MH:TI:=⟨.struct #[⟨ "PC",3,0,F,"","",0⟩,⟨ "Reg",89,1,F,"","",8⟩,⟨ "Mem",29,17,F,"","",72⟩,⟨ "Read",3,18,F,"","",96⟩,⟨ "Out",9,19,F,"","",104⟩,⟨ "Steps",3,20,F,"","",120⟩,⟨ "End",3,21,F,"","",128⟩],22,136,[.int .i64 0,.int .u32 0,.int .u32 0,.int .u32 0,.int .u32 0,.int .u32 0,.int .u32 0,.int .u32 0,.int .u32 0,.int .u32 0,.int .u32 0,.int .u32 0,.int .u32 0,.int .u32 0,.int .u32 0,.int .u32 0,.int .u32 0,.nsl,.int .i64 0,.str [],.int .i64 0,.int .i64 0]⟩
def Rf:TI:=⟨.map 9 103,1,8,[.nilm]⟩
def Ep:TI:=⟨.struct #[⟨ "outside",97,0,F,"","seedcorn/core",0⟩,⟨ "inside",97,1,F,"","seedcorn/core",8⟩],2,16,[.nilm,.nilm]⟩
def Er:TI:=⟨.struct #[⟨ "slot",3,0,F,"","seedcorn/core",0⟩,⟨ "size",3,1,F,"","seedcorn/core",8⟩],2,16,[.int .i64 0,.int .i64 0]⟩
def IH:TI:=⟨.slice 152,1,24,[.nsl]⟩
def AI:TI:=⟨.struct #[⟨ "Params",3,0,F,"","",0⟩,⟨ "Slots",3,1,F,"","",8⟩,⟨ "First",3,2,F,"","",16⟩,⟨ "Word",4,3,F,"","",24⟩,⟨ "Body",104,4,F,"","",32⟩],5,56,[.int .i64 0,.int .i64 0,.int .i64 0,.bool F,.nsl]⟩
def II:TI:=⟨.slice 109,1,24,[.nsl]⟩
def Es:TI:=⟨.slice 3,1,24,[.nsl]⟩
def Et:TI:=⟨.struct #[⟨ "depths",108,0,F,"","seedcorn/emit",0⟩,⟨ "back",109,1,F,"","seedcorn/emit",24⟩,⟨ "base",109,2,F,"","seedcorn/emit",48⟩,⟨ "data",3,3,F,"","seedcorn/emit",72⟩],4,80,[.nsl,.nsl,.nsl,.int .i64 0]⟩
def PF:TI:=⟨.pointer 117,1,8,[.nilp]⟩
def IJ:TI:=⟨.slice 120,1,24,[.nsl]⟩
def IK:TI:=⟨.slice 160,1,24,[.nsl]⟩
def Eu:TI:=⟨.struct #[⟨ "s",69,0,F,"","seedcorn/emit",0⟩,⟨ "plan",111,2,F,"","seedcorn/emit",32⟩,⟨ "code",114,6,F,"","seedcorn/emit",112⟩,⟨ "entry",109,7,F,"","seedcorn/emit",136⟩,⟨ "places",108,8,F,"","seedcorn/emit",160⟩,⟨ "holes",115,9,F,"","seedcorn/emit",184⟩,⟨ "f",3,10,F,"","seedcorn/emit",208⟩,⟨ "depth",3,11,F,"","seedcorn/emit",216⟩],12,224,[.int .i64 0,.nsl,.nsl,.nsl,.nsl,.int .i64 0,.nsl,.nsl,.nsl,.nsl,.int .i64 0,.int .i64 0]⟩
def AJ:TI:=⟨.struct #[⟨ "Op",3,0,F,"","",0⟩,⟨ "A",3,1,F,"","",8⟩,⟨ "B",3,2,F,"","",16⟩,⟨ "C",3,3,F,"","",24⟩],4,32,[.int .i64 0,.int .i64 0,.int .i64 0,.int .i64 0]⟩
def IL:TI:=⟨.slice 221,1,24,[.nsl]⟩
def AK:TI:=⟨.struct #[⟨ "Params",3,0,F,"","",0⟩,⟨ "Slots",3,1,F,"","",8⟩,⟨ "First",3,2,F,"","",16⟩,⟨ "Word",4,3,F,"","",24⟩,⟨ "Code",123,4,F,"","",32⟩],5,56,[.int .i64 0,.int .i64 0,.int .i64 0,.bool F,.nsl]⟩
def PG:TI:=⟨.pointer 131,1,8,[.nilp]⟩
def IM:TI:=⟨.slice 29,1,24,[.nsl]⟩
def IN:TI:=⟨.slice 5,1,24,[.nsl]⟩
def Ev:TI:=⟨.struct #[⟨ "P",26,0,F,"","",0⟩,⟨ "In",9,3,F,"","",72⟩,⟨ "Fuel",3,4,F,"","",88⟩,⟨ "Vars",29,5,F,"","",96⟩,⟨ "Arrays",128,6,F,"","",120⟩,⟨ "Out",129,7,F,"","",144⟩,⟨ "Read",3,8,F,"","",168⟩,⟨ "Ticks",3,9,F,"","",176⟩,⟨ "End",3,10,F,"","",184⟩],11,192,[.nsl,.nsl,.nsl,.str [],.int .i64 0,.nsl,.nsl,.nsl,.int .i64 0,.int .i64 0,.int .i64 0]⟩
def PH:TI:=⟨.pointer 176,1,8,[.nilp]⟩
def PI:TI:=⟨.func #[136] #[] F,1,8,[.nilf]⟩
def IP:TI:=⟨.slice 213,1,24,[.nsl]⟩
def AL:TI:=⟨.struct #[⟨ "Kind",3,0,F,"","",0⟩,⟨ "Slot",3,1,F,"","",8⟩,⟨ "Size",3,2,F,"","",16⟩,⟨ "E",149,3,F,"","",24⟩,⟨ "Then",104,4,F,"","",48⟩,⟨ "Else",104,5,F,"","",72⟩],6,96,[.int .i64 0,.int .i64 0,.int .i64 0,.nsl,.nsl,.nsl]⟩
def IQ:TI:=⟨.map 3 225,1,8,[.nilm]⟩
def AM:TI:=⟨.struct #[⟨ "at",3,0,F,"","seedcorn/emit",0⟩,⟨ "f",3,1,F,"","seedcorn/emit",8⟩,⟨ "place",3,2,F,"","seedcorn/emit",16⟩],3,24,[.int .i64 0,.int .i64 0,.int .i64 0]⟩
def Ew:TI:=⟨.struct #[⟨ "word",4,0,F,"","seedcorn/lower",0⟩,⟨ "code",123,1,F,"","seedcorn/lower",8⟩],2,32,[.bool F,.nsl]⟩
def PJ:TI:=⟨.pointer 168,1,8,[.nilp]⟩
def Ey:TI:=⟨.struct #[⟨ "f",3,0,F,"","seedcorn/seedcornref18",0⟩,⟨ "words",29,1,F,"","seedcorn/seedcornref18",8⟩,⟨ "back",4,2,F,"","seedcorn/seedcornref18",32⟩,⟨ "value",39,3,F,"","seedcorn/seedcornref18",36⟩],4,40,[.int .i64 0,.nsl,.bool F,.int .u32 0]⟩
def IS:TI:=⟨.slice 179,1,24,[.nsl]⟩
def Ez:TI:=⟨.struct #[⟨ "at",3,0,F,"","seedcorn/parse",0⟩],1,8,[.int .i64 0]⟩
def EA:TI:=⟨.struct #[⟨ "tokens",170,0,F,"","seedcorn/parse",0⟩,⟨ "next",3,1,F,"","seedcorn/parse",24⟩,⟨ "end",3,2,F,"","seedcorn/parse",32⟩],3,40,[.nsl,.int .i64 0,.int .i64 0]⟩
def AN:TI:=⟨.struct #[⟨ "Kind",3,0,F,"","",0⟩,⟨ "Text",9,1,F,"","",8⟩,⟨ "Num",39,2,F,"","",24⟩,⟨ "At",3,3,F,"","",32⟩],4,40,[.int .i64 0,.str [],.int .u32 0,.int .i64 0]⟩
def IT:TI:=⟨.slice 4,1,24,[.nsl]⟩
def EB:TI:=⟨.struct #[⟨ "s",91,0,F,"","seedcorn/seedcornref10",0⟩,⟨ "out",129,22,F,"","seedcorn/seedcornref10",136⟩,⟨ "code",114,23,F,"","seedcorn/seedcornref10",160⟩,⟨ "ok",183,24,F,"","seedcorn/seedcornref10",184⟩,⟨ "words",29,25,F,"","seedcorn/seedcornref10",208⟩,⟨ "in",9,26,F,"","seedcorn/seedcornref10",232⟩,⟨ "counts",109,27,F,"","seedcorn/seedcornref10",248⟩],28,272,[.int .i64 0,.int .u32 0,.int .u32 0,.int .u32 0,.int .u32 0,.int .u32 0,.int .u32 0,.int .u32 0,.int .u32 0,.int .u32 0,.int .u32 0,.int .u32 0,.int .u32 0,.int .u32 0,.int .u32 0,.int .u32 0,.int .u32 0,.nsl,.int .i64 0,.str [],.int .i64 0,.int .i64 0,.nsl,.nsl,.nsl,.nsl,.str [],.nsl]⟩
def IU:TI:=⟨.map 9 204,1,8,[.nilm]⟩
def EC:TI:=⟨.struct #[⟨ "outside",194,0,F,"","seedcorn/scope",0⟩,⟨ "inside",194,1,F,"","seedcorn/scope",8⟩],2,16,[.nilm,.nilm]⟩
def ED:TI:=⟨.struct #[⟨ "kind",3,0,F,"","seedcorn/scope",0⟩,⟨ "name",9,1,F,"","seedcorn/scope",8⟩,⟨ "arguments",3,2,F,"","seedcorn/scope",24⟩],3,32,[.int .i64 0,.str [],.int .i64 0]⟩
def EE:TI:=⟨.struct #[⟨ "kind",3,0,F,"","seedcorn/scope",0⟩,⟨ "number",3,1,F,"","seedcorn/scope",8⟩],2,16,[.int .i64 0,.int .i64 0]⟩
def IV:TI:=⟨.func #[202] #[] F,1,8,[.nilf]⟩
def PK:TI:=⟨.pointer 265,1,8,[.nilp]⟩
def AO:TI:=⟨.struct #[⟨ "Kind",3,0,F,"","",0⟩,⟨ "Op",3,1,F,"","",8⟩,⟨ "Num",39,2,F,"","",16⟩,⟨ "Slot",3,3,F,"","",24⟩,⟨ "Size",3,4,F,"","",32⟩,⟨ "Kids",149,5,F,"","",40⟩],6,64,[.int .i64 0,.int .i64 0,.int .u32 0,.int .i64 0,.int .i64 0,.nsl]⟩
def EF:TI:=⟨.struct #[⟨ "items",109,0,F,"","seedcorn/stack",0⟩],1,24,[.nsl]⟩
def AP:TI:=⟨.struct #[⟨ "Op",3,0,F,"","",0⟩,⟨ "A",3,1,F,"","",8⟩,⟨ "B",3,2,F,"","",16⟩,⟨ "N",39,3,F,"","",24⟩],4,32,[.int .i64 0,.int .i64 0,.int .i64 0,.int .u32 0]⟩
def IW:TI:=⟨.func #[113,221] #[] F,1,8,[.nilf]⟩
def EG:TI:=⟨.struct #[⟨ "name",9,0,F,"","seedcorn/inst",0⟩,⟨ "a",4,1,F,"","seedcorn/inst",16⟩,⟨ "b",4,2,F,"","seedcorn/inst",17⟩,⟨ "c",3,3,F,"","seedcorn/inst",24⟩],4,32,[.str [],.bool F,.bool F,.int .i64 0]⟩
def IX:TI:=⟨.pointer 164,1,8,[.nilp]⟩
def PL:TI:=⟨.pointer 152,1,8,[.nilp]⟩
def PM:TI:=⟨.func #[5] #[4] F,1,8,[.nilf]⟩
def PN:TI:=⟨.pointer 187,1,8,[.nilp]⟩
def IY:TI:=⟨.int .u64,1,8,[.int .u64 0]⟩
def IZ:TI:=⟨.func #[43] #[] F,1,8,[.nilf]⟩
def Ja:TI:=⟨.func #[40] #[] F,1,8,[.nilf]⟩
def Jb:TI:=⟨.map 9 47,1,8,[.nilm]⟩
def Jc:TI:=⟨.func #[42] #[3] F,1,8,[.nilf]⟩
def Jd:TI:=⟨.array 10 262,10,80,[.nilf,.nilf,.nilf,.nilf,.nilf,.nilf,.nilf,.nilf,.nilf,.nilf]⟩
def EH:TI:=⟨.struct #[⟨ "funcs",261,0,F,"","seedcorn/typing",0⟩,⟨ "ask",263,1,F,"","seedcorn/typing",8⟩],11,88,[.nilm,.nilf,.nilf,.nilf,.nilf,.nilf,.nilf,.nilf,.nilf,.nilf,.nilf]⟩
def PO:TI:=⟨.pointer 215,1,8,[.nilp]⟩
def PQ:TI:=⟨.pointer 213,1,8,[.nilp]⟩
def PS:TI:=⟨.array 24 9,24,384,[.str [],.str [],.str [],.str [],.str [],.str [],.str [],.str [],.str [],.str [],.str [],.str [],.str [],.str [],.str [],.str [],.str [],.str [],.str [],.str [],.str [],.str [],.str [],.str []]⟩
def PT:TI:=⟨.array 10 9,10,160,[.str [],.str [],.str [],.str [],.str [],.str [],.str [],.str [],.str [],.str []]⟩
def Tt:Nat->TI:=Ec [(3,ti3),(4,ti4),(5,ti5),(9,ti9),(20,Vb),(22,QW),(23,QX),(24,QY),(25,MA),(26,MA),(29,MB),(30,MC),(31,MC),(32,ti3),(34,Vc),(39,MD),(40,QZ),(41,IC),(42,IC),(43,Ra),(44,ID),(45,ID),(46,IE),(47,IE),(52,ME),(53,ME),(56,IF),(57,IF),(60,Rb),(61,MF),(62,MF),(67,Rc),(68,MG),(69,MG),(71,Vd),(76,Rd),(78,IG),(79,IG),(87,Ve),(89,Re),(90,MH),(91,MH),(97,Rf),(100,Ep),(101,Ep),(102,Er),(103,Er),(104,IH),(106,AI),(107,AI),(108,II),(109,Es),(110,Et),(111,Et),(113,PF),(114,IJ),(115,IK),(116,Eu),(117,Eu),(119,AJ),(120,AJ),(123,IL),(125,AK),(126,AK),(127,PG),(128,IM),(129,IN),(130,Ev),(131,Ev),(136,PH),(138,PI),(149,IP),(151,AL),(152,AL),(155,IQ),(159,AM),(160,AM),(163,Ew),(164,Ew),(166,PJ),(167,Ey),(168,Ey),(170,IS),(173,Ez),(174,Ez),(175,EA),(176,EA),(178,AN),(179,AN),(183,IT),(186,EB),(187,EB),(194,IU),(198,EC),(199,EC),(201,ED),(202,ED),(203,EE),(204,EE),(206,IV),(207,PK),(212,AO),(213,AO),(214,EF),(215,EF),(220,AP),(221,AP),(225,IW),(228,EG),(229,EG),(232,IX),(234,PL),(239,PM),(248,PN),(251,IY),(259,IZ),(260,Ja),(261,Jb),(262,Jc),(263,Jd),(264,EH),(265,EH),(268,PO),(271,PQ),(275,PS),(283,PT)]
def aO:bu Tryz.prog Tt:=FX j0
attribute [go_sem] ti3 ti4 ti5 ti9 Vb QW QX QY MA MB MC Vc MD QZ IC Ra ID IE ME IF Rb MF Rc MG Vd Rd IG Ve Re MH Rf Ep Er IH AI II Es Et PF IJ IK Eu AJ IL AK PG IM IN Ev PH PI IP AL IQ AM Ew PJ Ey IS Ez EA AN IT EB IU EC ED EE IV PK AO EF AP IW EG IX PL PM PN IY IZ Ja Jb Jc Jd EH PO PQ PS PT
def mixed:Tryz.prog.follows .mixedOrders=T:=j0
@[go_sem]def aab:Tt 3=ti3/\Tt 4=ti4/\Tt 5=ti5/\Tt 9=ti9/\dI Tt 9=F/\Tt 22=QW/\bh Tt 22=ti9/\dI Tt 22=T/\Tt 23=QX/\bh Tt 23=IF/\dI Tt 23=T/\Tt 24=QY/\bh Tt 24=IE/\dI Tt 24=T/\Tt 26=MA/\gU Tt 26=T/\Tt 29=MB/\bh Tt 29=MD/\dI Tt 29=T/\Tt 31=MC/\gU Tt 31=T/\Tt 32=ti3/\Tt 39=MD/\Tt 40=QZ/\bh Tt 40=IC/\dI Tt 40=T/\Tt 42=IC/\gU Tt 42=T/\Tt 43=Ra/\bh Tt 43=ID/\dI Tt 43=T/\Tt 45=ID/\gU Tt 45=T/\Tt 47=IE/\gU Tt 47=T/\Tt 53=ME/\gU Tt 53=T/\Tt 57=IF/\Tt 60=Rb/\bh Tt 60=AI/\dI Tt 60=T/\Tt 62=MF/\gU Tt 62=T/\Tt 67=Rc/\bh Tt 67=AK/\dI Tt 67=T/\Tt 69=MG/\gU Tt 69=T/\Tt 76=Rd/\bh Tt 76=IG/\dI Tt 76=T/\Tt 79=IG/\gU Tt 79=T/\Tt 89=Re/\dI Tt 89=F/\Tt 91=MH/\gU Tt 91=T/\Tt 97=Rf/\Tt 101=Ep/\gU Tt 101=T/\Tt 103=Er/\gU Tt 103=T/\Tt 104=IH/\bh Tt 104=AL/\dI Tt 104=T/\Tt 107=AI/\gU Tt 107=T/\Tt 108=II/\bh Tt 108=Es/\dI Tt 108=T/\Tt 109=Es/\bh Tt 109=ti3/\dI Tt 109=T/\Tt 111=Et/\gU Tt 111=T/\Tt 114=IJ/\bh Tt 114=AJ/\dI Tt 114=T/\Tt 115=IK/\bh Tt 115=AM/\dI Tt 115=T/\Tt 117=Eu/\gU Tt 117=T/\Tt 120=AJ/\gU Tt 120=T/\Tt 123=IL/\bh Tt 123=AP/\dI Tt 123=T/\Tt 126=AK/\gU Tt 126=T/\Tt 128=IM/\bh Tt 128=MB/\dI Tt 128=T/\Tt 129=IN/\bh Tt 129=ti5/\dI Tt 129=T/\Tt 131=Ev/\gU Tt 131=T/\Tt 149=IP/\bh Tt 149=AO/\dI Tt 149=T/\Tt 152=AL/\gU Tt 152=T/\Tt 155=IQ/\Tt 160=AM/\gU Tt 160=T/\Tt 164=Ew/\gU Tt 164=T/\Tt 168=Ey/\gU Tt 168=T/\Tt 170=IS/\bh Tt 170=AN/\dI Tt 170=T/\Tt 174=Ez/\gU Tt 174=T/\Tt 176=EA/\gU Tt 176=T/\Tt 179=AN/\gU Tt 179=T/\Tt 183=IT/\bh Tt 183=ti4/\dI Tt 183=T/\Tt 187=EB/\gU Tt 187=T/\Tt 194=IU/\Tt 199=EC/\gU Tt 199=T/\Tt 202=ED/\gU Tt 202=T/\Tt 204=EE/\gU Tt 204=T/\Tt 206=IV/\Tt 213=AO/\gU Tt 213=T/\Tt 215=EF/\Tt 221=AP/\gU Tt 221=T/\Tt 225=IW/\Tt 229=EG/\gU Tt 229=T/\Tt 232=IX/\Tt 251=IY/\Tt 259=IZ/\Tt 260=Ja/\Tt 261=Jb/\Tt 262=Jc/\Tt 263=Jd/\dI Tt 263=F/\Tt 265=EH/\gU Tt 265=T:=by and_intros<;>exact B9 rfl rfl
variable{f:FuncId}{fn:Func}{c:Code}{xs:List AV}{R:AV->Prop}{g:Nat->Nat}{ob:Obs}
def hdG{q:Nat}{o:cT}(hf:Tryz.prog.funcs[f]?=S fn)(hb:fn.body=S c)(rs:List ResultVar)(h:∀O bn s0 w0 g,wpC (spF Tryz.prog N O (HH q o O bn s0 w0) 0 vn) Tt c (bx (vm Tt rs R)) ⟨dE xs,g,λ_=>N⟩)(hn:(fn.name == "runtime.NumGoroutine")=F:=by rfl)(a1:fn.results=rs.toArray:=by rfl)(p:iN c=T:=by kernel_rfl)(an:codeOk fn.ntmps c=T:=by kernel_rfl)(m:Nat.ble (z xs) fn.ntmps=T:=by kernel_rfl):ck Tryz.prog q o f xs R:=rB 0 q o aO mixed hf hb hn rs a1 p an (J9 m) h
def hdM(B:Nat)(ar:List Nat)(hf:Tryz.prog.funcs[f]?=S fn)(hb:fn.body=S c)(rs:List ResultVar){R:AV->(Nat->Nat)->Obs->Prop}{X:Pan}(hS:∀i∈ar,i<B)(hB:∀i,B<=i->ob i=N)(h:∀O bn s0 w0,wpC (spF Tryz.prog N O (zV O bn s0 w0) B (HK B ar g ob X)) Tt c (bx (Qy Tt rs B ar g ob R)) ⟨dE xs,g,ob⟩)(hn:(fn.name == "runtime.NumGoroutine")=F:=by rfl)(a1:fn.results=rs.toArray:=by rfl)(p:iN c=T:=by kernel_rfl)(an:codeOk fn.ntmps c=T:=by kernel_rfl)(m:Nat.ble (z xs) fn.ntmps=T:=by kernel_rfl):dj Tryz.prog f xs g ob R X:=bZ B ar aO mixed hf hb hn rs a1 p an (J9 m) hS hB h
def hdX(B:Nat)(hf:Tryz.prog.funcs[f]?=S fn)(hb:fn.body=S c)(rs:List ResultVar){R:AV->(Nat->Nat)->Obs->Prop}{X:Pan}(h:∀O bn s0 w0,wpC (spF Tryz.prog N O (zV O bn s0 w0) B X.on) Tt c (bx (zR Tt rs R)) ⟨dE xs,g,ob⟩)(hn:(fn.name == "runtime.NumGoroutine")=F:=by rfl)(a1:fn.results=rs.toArray:=by rfl)(p:iN c=T:=by kernel_rfl)(an:codeOk fn.ntmps c=T:=by kernel_rfl)(m:Nat.ble (z xs) fn.ntmps=T:=by kernel_rfl):dj Tryz.prog f xs g ob R X:=Cs B aO mixed hf hb hn rs a1 p an (J9 m) h
def hdR(hf:Tryz.prog.funcs[f]?=S fn)(hb:fn.body=S c)(rs:List ResultVar)(h:∀g,wpC (sp Tryz.prog) Tt c (bx (vm Tt rs R)) ⟨dE xs,g,λ_=>N⟩)(hn:(fn.name == "runtime.NumGoroutine")=F:=by rfl)(a1:fn.results=rs.toArray:=by rfl)(an:codeOk fn.ntmps c=T:=by kernel_rfl)(m:Nat.ble (z xs) fn.ntmps=T:=by kernel_rfl):aJ Tryz.prog f xs R:=zS aO mixed hf hb hn rs a1 an (J9 m) h
def hdP(hf:Tryz.prog.funcs[f]?=S fn)(hb:fn.body=S c)(rs:List Nat)(h:∀g,wpC (sp Tryz.prog) Tt c (bx (CC rs R)) ⟨dE xs,g,λ_=>N⟩)(hn:(fn.name == "runtime.NumGoroutine")=F:=by rfl)(a1:fn.results=(rs.map ResultVar.tmp).toArray:=by rfl)(an:codeOk fn.ntmps c=T:=by kernel_rfl)(m:Nat.ble (z xs) fn.ntmps=T:=by kernel_rfl):aJ Tryz.prog f xs R:=CD aO mixed hf hb hn rs a1 an (J9 m) h
def hdF(B:Nat)(hf:Tryz.prog.funcs[f]?=S fn)(hb:fn.body=S c)(rs:List Nat){R:AV->(Nat->Nat)->Obs->Prop}(h:wpC (spB Tryz.prog B) Tt c (bx (zK rs R)) ⟨dE xs,g,ob⟩)(hn:(fn.name == "runtime.NumGoroutine")=F:=by rfl)(a1:fn.results=(rs.map ResultVar.tmp).toArray:=by rfl)(an:codeOk fn.ntmps c=T:=by kernel_rfl)(m:Nat.ble (z xs) fn.ntmps=T:=by kernel_rfl):gY Tryz.prog f xs g ob R:=FA B aO mixed hf hb hn rs a1 an (J9 m) h
end
end
end Go.Proofs.YtlacbjnmkhndiaaGreatDoor
namespace Go.Asm
section
abbrev Str:=List UInt8
def small(c:UInt8):Bool:=decide (97<=c.toNat)&&decide (c.toNat<=122)
def letter(c:UInt8):Bool:=small c||(decide (65<=c.toNat)&&decide (c.toNat<=90))
def digit(c:UInt8):Bool:=decide (48<=c.toNat)&&decide (c.toNat<=57)
def eG(c:UInt8):Bool:=letter c||digit c||c==95
def Hh(n:Nat)(c:UInt8):Nat:=10*n+(c.toNat-48)
def jC(s:Str):Nat:=s.foldl Hh 0
def names:List Str:=[[108,105],[108,117,105],[109,111,118],[97,100,100],[115,117,98],[109,117,108],[100,105,118],[109,111,100],[97,110,100],[111,114],[120,111,114],[115,104,108],[115,104,114],[108,116],[101,113],[108,100],[115,116],
 [106,109,112],[106,122],[106,110,122],[99,97,108,108],[114,101,116],[103,101,116],[112,117,116],[99,104,107],[104,97,108,116],[108,100,99]]
def shape(op:Nat):Bool×Bool×Nat:=
 if op=1\/op=2\/op=19\/op=20\/op=21\/op=25 then(T,F,1)
 else if op=3 then(T,T,0)
 else if 4<=op/\op<=15 then(T,T,2)
 else if op=16\/op=17\/op=27 then(T,T,1)
 else if op=18 then(F,F,1)
 else if op=22\/op=23\/op=24 then(T,F,0)
 else(F,F,0)
def word(op a b c:Nat):Nat:=op*16777216+a*1048576+b*65536+c
end
end Go.Asm
namespace Go.Proofs.YtlacbjnmkhndiaaGreatDoor
section
open Go Go.Am Go.Asm
section
def getq{A:Type}{l:List A}{k:Nat}(h:k<z l):∃x,l[k]?=S x:=⟨_,v8 h⟩
variable{c d:UInt8}
def UZ(h:(c.toNat:Int)=(d.toNat:Int)):c=d:=Q9.1 a7
def qw(h:c≠d):¬(c.toNat:Int)=(d.toNat:Int):=λe=>h (UZ e)
def vR{c:UInt8}:letter c=T↔(97<=c.toNat/\c.toNat<=122)\/(65<=c.toNat/\c.toNat<=90):=by simp[letter,small]
def ta{c:UInt8}:digit c=T↔48<=c.toNat/\c.toNat<=57:=by simp[digit]
end
end
section
open Go Go.Am Go.Asm
attribute[local congr]ite_cc
def preB(p s:Str):Bool:=decide (s.take (z p)=p)
def AF(s p:Str):aJ Tryz.prog 181 [sv s,sv p] (·=bv (preB p s)):=by
 refine hdP Tryz.func181 rfl [4] λg=>?_;simp only[go_sem];refine⟨λh=>?_,λh=>?_⟩
 .exact⟨L1 _,a7,rfl⟩
 .have:¬s.take (z p)=p:=λe=>by
   have:=congrArg z e;simp only[D3]at this;omega
  simp[preB,this]
def strs(l:List Str):D:=.sl (l.map λw=>[.str w])
end
section
open Go Go.Am Go.Asm
def jI(t:Nat)(p:List Nat)(L:List Str)(K:St):Prop:=(K.f t=.one (.d .nsl)/\L=[])\/∃id∈p,K.f t=dL id (K.gen id) 1 0 (z L)/\K.obj id=S (L.map λw=>bF w)
def pn{s:St}{id g n:Nat}{L:List Str}(hg:s.gen id=g)(ho:s.obj id=S (L.map λw=>bF w))(b:n=z L):Frz s (.osl id g 1 0 n) (strs L):=by
 subst b;exact rr hg ho L (λw=>.str w) (λ_=>rfl) rfl (λj a h=>by simp[h]) a8
end
end Go.Proofs.YtlacbjnmkhndiaaGreatDoor
namespace Go.Proofs
section
open Go.Shelf Go.RowKit Go.Lib
section
variable{P:Program}{a:Ren}
end
section
variable{P:Program}{a:Ren}
end
end
section
open Go.Shelf
end
end Go.Proofs
namespace Go.Proofs.YtlacbjnmkhndiaaGreatDoor
section
open Go Go.Am Go.Asm
end
section
open Go Go.Am Go.Asm
attribute[local congr]ite_cc
def nameOf(op:Nat):Str:=match op with|0=>[]|k+1=>names.getD k []
def vV(op:Nat):AV:=.agg [bF (nameOf op),bE (Asm.shape op).1,bE (Asm.shape op).2.1,ag ((Asm.shape op).2.2:Nat)]
def AH{op:Nat}(h:op=0\/28<=op):vV op=.agg [bF [],bE F,bE F,ag 0]:=by
 rcases h with rfl|h
 .rfl
 .have U:nameOf op=[]:=by
   exact VV
  have a:Asm.shape op=(F,F,0):=by
   unfold Asm.shape
   repeat rw[j9 (by omega)]
  unfold vV;rw[U,a];rfl
def vW{s:St}{n:Str}{a b:Bool}{c:Int}:lW s (.agg [bF n,bE a,bE b,ag c]) (.agg [bF n,bE a,bE b,ag c]):=by
 refine⟨[.str n,.bool a,.bool b,.int .i64 c],rfl,λi c Z=>?_,rfl⟩
 match i,Z with
 |0,Z=>cases Z;exact⟨_,rfl,.d _⟩
 |1,Z=>cases Z;exact⟨_,rfl,.d _⟩
 |2,Z=>cases Z;exact⟨_,rfl,.d _⟩
 |3,Z=>cases Z;exact⟨_,rfl,.d _⟩
def xO(op:Int):aJ Tryz.prog 137 [ae op] (·=vV op.toNat):=by
 refine hdR Tryz.func137 rfl [.cell 2 229] λg=>?_;simp only[go_sem]
 repeat' (first|refine A4 (λh=>?_) (λh=>?_)|fail)
 all_goals first
  | (subst h
     exact⟨_,vW,rfl⟩)
  | (have e:op.toNat=0\/28<=op.toNat:=a7
     refine⟨_,vW,?_⟩;rw[AH e])
def ke(op:Nat):Bool:=decide (1<=op)&&decide (op<=27)
def Gm(op:Nat):(decide (¬nameOf op=[]))=ke op:=by
 unfold ke;by_cases h:op<=27
 .have:∀k,k<=27->decide (¬nameOf k=[])=(decide (1<=k)&&decide (k<=27)):=b9
  exact this op h
 .have U:nameOf op=[]:=by
   exact VV
  simp[U,h]
def Mx(op:Int):aJ Tryz.prog 136 [ae op] (·=bv (ke op.toNat)):=by
 refine hdP Tryz.func136 rfl [2] λg=>?_;simp only[go_sem];refine cg rfl (by simp only[go_sem];exact xO op) ?_;rintro _ rfl;unfold vV;simp only[go_sem];rw[<-Gm]
def inW(v d:Int)(b:Bool):Bool:=if b=T then decide (0<=v) && decide (v<=d)else decide (v=0)
def vX(v d:Int)(b:Bool):aJ Tryz.prog 138 [ae v,ae d,bv b] (·=bv (inW v d b)):=by
 refine hdP Tryz.func138 rfl [6] λg=>?_;exact W0
def qx(op:Nat):Int:=if (Asm.shape op).2.2=2 then 15 else 65535
def fp(op a b c:Int):Bool:=ke op.toNat&&(inW a 15 (Asm.shape op.toNat).1&&(inW b 15 (Asm.shape op.toNat).2.1&&inW c (qx op.toNat) (decide ((Asm.shape op.toNat).2.2≠0))))
def qy(op a b c:Int):AV:=.agg [ag op,ag a,ag b,ag c]
def My(op a b c:Int):aJ Tryz.prog 76 [qy op a b c] (·=bv (fp op a b c)):=by
 refine hdP Tryz.func76 rfl [2] λg=>?_;unfold qy;simp only[go_sem];refine cg rfl (by simp only[go_sem];exact Mx op) ?_;rintro _ rfl;cases hk:ke op.toNat
 .simp only[go_sem]
  simp[fp,hk]
 simp only[go_sem];refine cg rfl (by simp only[go_sem];exact xO op) ?_;rintro _ rfl;have e:fp op a b c=(inW a 15 (Asm.shape op.toNat).1&&(inW b 15 (Asm.shape op.toNat).2.1&&inW c (qx op.toNat) (decide ((Asm.shape op.toNat).2.2≠0)))):=by unfold fp;rw[hk,x8]
 rw[e];unfold vV qx;generalize (Asm.shape op.toNat).1=p;generalize (Asm.shape op.toNat).2.1=q;generalize (Asm.shape op.toNat).2.2=r
 have i:decide (¬((r:Nat):Int)=0)=decide (r≠0):=by
  have:(((r:Nat):Int)=0)=(r=0):=by apply propext;omega
  simp only[this,ne_eq]
 by_cases V:r=2
 case' pos=>
  have d:((r:Nat):Int)=2:=a7;rw[l9 V];simp only[go_sem,d]
 case' neg=>
  have d:¬((r:Nat):Int)=2:=a7;rw[j9 V];simp only[go_sem,d]
 all_goals
  refine cg rfl (by simp only[go_sem];exact vX a 15 p) ?_;rintro _ rfl;cases U:inW a 15 p
  .simp only[go_sem]
   try simp
  simp only[go_sem];refine cg rfl (by simp only[go_sem];exact vX b 15 q) ?_;rintro _ rfl;cases j:inW b 15 q
  .simp only[go_sem]
   try simp
  simp only[go_sem,i];refine cg rfl (by simp only[go_sem,i];exact vX c _ _) ?_;rintro _ rfl;simp only[go_sem]
  first|done|(subst V;simp;done)|simp
def QV(x y:Nat)(I:x<4294967296)(a:y<4294967296):(BitVec.ofInt 32 (x:Int) |||BitVec.ofInt 32 (y:Int)).toNat=x |||y:=by
 rw[BitVec.toNat_or]
 have h:∀n:Nat,n<4294967296->(BitVec.ofInt 32 (n:Int)).toNat=n:=λn b=>by
  rw[Td];omega
 rw[h x I,h y a]
def wrapN(n:Nat)(h:n<4294967296):IntKind.u32.wrap (n:Int)=n:=by rw[IntKind.wrap_u32];omega
def IA(a b k:Nat)(h:b<2^k):(a*2^k) |||b=a*2^k+b:=by
 rw[U5,Nat.two_pow_add_eq_or_of_lt h]
def Mz(o a b c:Nat)(U:o<=27)(i:a<=15)(j:b<=15)(k:c<=65535):IntKind.u32.wrap
   ((BitVec.ofInt 32
        (IntKind.u32.wrap
          ((BitVec.ofInt 32
               (IntKind.u32.wrap
                 ((BitVec.ofInt 32 (IntKind.u32.wrap ((o:Int)*2^min 24 32)) |||
                     BitVec.ofInt 32 (IntKind.u32.wrap ((a:Int)*2^min 20 32))).toNat:Int)) |||
              BitVec.ofInt 32 (IntKind.u32.wrap ((b:Int)*2^min 16 32))).toNat:Int)) |||
       BitVec.ofInt 32 (c:Int)).toNat:Int)=(word o a b c:Nat):=by
 have d:((o:Int)*2^min 24 32)=((o*2^24:Nat):Int):=by rw[P3];rfl
 have f:((a:Int)*2^min 20 32)=((a*2^20:Nat):Int):=by rw[P3];rfl
 have g:((b:Int)*2^min 16 32)=((b*2^16:Nat):Int):=by rw[P3];rfl
 rw[d,f,g,wrapN (o*2^24) a7,wrapN (a*2^20) a7,wrapN (b*2^16) a7,QV (o*2^24) (a*2^20) a7 a7,IA o (a*2^20) 24 a7,
  wrapN (o*2^24+a*2^20) a7,QV (o*2^24+a*2^20) (b*2^16) a7 a7,
  show o*2^24+a*2^20=(o*16+a)*2^20 by omega,IA (o*16+a) (b*2^16) 20 a7,wrapN ((o*16+a)*2^20+b*2^16) a7,QV ((o*16+a)*2^20+b*2^16) c a7 a7,
  show (o*16+a)*2^20+b*2^16=((o*16+a)*16+b)*2^16 by omega,IA ((o*16+a)*16+b) c 16 a7,wrapN (((o*16+a)*16+b)*2^16+c) a7]
 have e:((o*16+a)*16+b)*2^16+c=word o a b c:=by unfold word;omega
 rw[e]
def xg{op a b c:Int}(h:fp op a b c=T):1<=op/\op<=27/\0<=a/\a<=15/\0<=b/\b<=15/\0<=c/\c<=65535:=by
 unfold fp at h;simp only[s5]at h;obtain⟨U,e,f,g⟩:=h
 have bl:∀{v m:Int}{p:Bool},0<=m->inW v m p=T->0<=v/\v<=m:=by
  intro v m p i d;unfold inW at d;split at d
  .simpa using d
  .have:v=0:=by simpa using d
   omega
 have e:=bl b9 e;have f:=bl b9 f;have i:0<=qx op.toNat/\qx op.toNat<=65535:=by unfold qx;split<;>decide
 have g:=bl i.1 g;simp only[ke,s5,B4]at U;omega
def IB(op a b c:Int):aJ Tryz.prog 48 [qy op a b c] (·=if fp op a b c=T then .tup [iv .u32 (word op.toNat a.toNat b.toNat c.toNat:Nat),ae 0]else .tup [iv .u32 0,ae 1]):=by
 refine hdP Tryz.func48 rfl [2,3] λg=>?_;unfold qy;simp only[go_sem];refine cg rfl (by simp only[go_sem];exact My op a b c) ?_;rintro _ rfl;cases hk:fp op a b c
 .simp only[go_sem]
  try rfl
 obtain⟨p,q,t,u,d,e,f,h⟩:=xg hk;have i:IntKind.u32.wrap op=op:=by rw[IntKind.wrap_u32]<;>omega
 have j:IntKind.u32.wrap a=a:=by rw[IntKind.wrap_u32]<;>omega
 have l:IntKind.u32.wrap b=b:=by rw[IntKind.wrap_u32]<;>omega
 have w4:IntKind.u32.wrap c=c:=by rw[IntKind.wrap_u32]<;>omega
 simp only[go_sem,i,j,l,w4];obtain⟨o,rfl⟩:∃n:Nat,op=n:=⟨op.toNat,a7⟩
 obtain⟨a,rfl⟩:∃n:Nat,a=n:=⟨a.toNat,a7⟩
 obtain⟨b,rfl⟩:∃n:Nat,b=n:=⟨b.toNat,a7⟩
 obtain⟨c,rfl⟩:∃n:Nat,c=n:=⟨c.toNat,a7⟩
 simp only[B6];exact Mz o a b c a7 a7 a7 a7
end
section
open Go Go.Am Go.Asm
def Gn(s:Str)(c:UInt8):jC (s++[c])=10*jC s+(c.toNat-48):=by simp[jC,Hh]
def Gp{s:Str}{k:Nat}{c:UInt8}(h:s[k]?=S c):jC (s.take (k+1))=10*jC (s.take k)+(c.toNat-48):=by
 rw[D2,h];exact Gn _ _
end
section
open Go Go.RowKit Go.Shelf
end
end Go.Proofs.YtlacbjnmkhndiaaGreatDoor
namespace Go.Am
section
end
end Go.Am
namespace Go.Proofs.YtlacbjnmkhndiaaGreatDoor
section
open Go Go.Am Go.Asm
def qa:∀l:List UInt8,u8s (l.map λb=>.d (.int .u8 (b.toNat:Nat)))=S (l.map λb=>((b.toNat:Nat):Int))
 |[]=>rfl
 |b::l=>by
   have a:=qa l;simp only[s6,u8s]at a|-;rw[a];rfl
def kM{s:St}(x:D):lW s (.one (.d x)) (.one (.d (iC x))):=⟨_,.d x,rfl⟩
end
end Go.Proofs.YtlacbjnmkhndiaaGreatDoor
namespace Go.Src
section
open Go.Asm (Str digit letter eG jC)
structure Tok where
 kind:Nat
 text:Str
 num:Nat
 place:Nat
 deriving DecidableEq
def jm:List Str:=[[118,97,114],[97,114,114,97,121],[102,117,110,99],[119,111,114,100],[105,102],[101,108,115,101],[119,104,105,108,101],[114,101,116,117,114,110],[112,117,116],[103,101,116]]
def Ss:List Str:=[[60,60],[62,62],[61,61],[38,38],[124,124],[40],[41],[123],[125],[91],[93],[59],[44],[61],[43],[45],[42],[47],[37],[38],[124],[94],[60],[33]]
inductive R (A:Type) where
 |ok (a:A)
 |err (e:Nat)
def firstT(s:Str):R (Nat×Str×Nat):=
 match s with
 |[]=>.err 3
 |c::_=>
   if digit c=T then(if 4294967295<jC (s.takeWhile digit)then .err 2 else .ok (2,s.takeWhile digit,jC (s.takeWhile digit)))
   else if c=39 then
    (match s with
     |_::x::y::_=>if y=39/\32<=x.toNat/\x.toNat<=126/\x≠39/\x≠92 then .ok (2,[c,x,y],x.toNat)else .err 3
     | _=>.err 3)
   else if letter c=T then
    (if 20<z (s.takeWhile eG)then .err 2 else if (s.takeWhile eG)∈jm then .ok (3,s.takeWhile eG,0)else .ok (1,s.takeWhile eG,0))
   else match Ss.find? (λt=>t.isPrefixOf s)with
    |some t=>.ok (4,t,0)
    |none=>.err 3
def Fl:Nat->Nat->Str->R (List Tok)×Nat
 |0,_,_=>(.ok [],0)
 |_+1,_,[]=>(.ok [],0)
 |n+1,k,c::r=>
   if c=32\/c=9\/c=10 then Fl n (k+1) r
   else if c=47/\r.head?=S 47 then Fl n (k+z ((c::r).takeWhile (· != 10))) ((c::r).dropWhile (· != 10))
   else match firstT (c::r)with
    |.err e=>(.err e,k)
    |.ok (a,t,v)=>match Fl n (k+z t) ((c::r).drop (z t))with
      |(.ok l,p)=>(.ok (⟨a,t,v,k⟩::l),p)
      |(.err e,p)=>(.err e,p)
def aaf(s:Str):List Tok×Nat×Nat:=
 if 20000<z s then([],0,2)
 else match Fl (z s+1) 0 s with
  |(.ok l,_)=>(l,0,0)
  |(.err e,p)=>([],p,e)
inductive Ex where
 |mk (kind op num:Int) (name:Str) (kids:List Ex)
inductive Stm where
 |mk (kind:Int) (name:Str) (e:List Ex) (th el:List Stm)
structure Fn where
 name:Str
 p:List Str
 l:List Str
 word:Bool
 body:List Stm
structure Prog where
 v:List Str
 a:List (Str×Int)
 f:List Fn
end
end Go.Src
namespace Go.Proofs.YtlacbjnmkhndiaaGreatDoor
section
open Go Go.Am Go.Asm
attribute[local congr]ite_cc
def mW(c:UInt8):aJ Tryz.prog 182 [iv .u8 c.toNat] (·=bv (digit c)):=by
 refine hdP Tryz.func182 rfl [2] λg=>?_;simp only[go_sem];have e:=@ta c;cases a:digit c<;>rw[a]at e<;>simp at e<;>((repeat' (first|refine⟨?_,?_⟩|intro _))<;>(first|rfl|(exfalso;omega)|(simp;omega)))
def qj(c:UInt8):aJ Tryz.prog 185 [iv .u8 c.toNat] (·=bv (letter c)):=by
 refine hdP Tryz.func185 rfl [2] λg=>?_;simp only[go_sem];have e:=@vR c;cases a:letter c<;>rw[a]at e<;>simp at e<;>((repeat' (first|refine⟨?_,?_⟩|intro _))<;>(first|rfl|(exfalso;omega)|(simp;omega)))
def Ob(c:UInt8):aJ Tryz.prog 144 [iv .u8 c.toNat] (·=bv (c != 10)):=by
 refine hdP Tryz.func144 rfl [2] λg=>?_;by_cases h:c=10
 .subst h
  have a:(((10:UInt8).toNat:Nat):Int)=10:=rfl;simp only[go_sem,a];rfl
 .have a:¬((c.toNat:Nat):Int)=10:=qw (d:=10) h
  have hb:(c != 10)=T:=by simpa using h
  simp only[go_sem,a,hb]
def yf(c:UInt8):aJ Tryz.prog 187 [iv .u8 c.toNat] (·=bv (eG c)):=by
 refine hdP Tryz.func187 rfl [2] λg=>?_;simp only[go_sem];refine cg rfl (by simp only[go_sem];exact qj c) ?_;rintro _ rfl;unfold eG;cases hl:letter c
 .simp only[go_sem]
  refine cg rfl (by simp only[go_sem];exact mW c) ?_;rintro _ rfl;cases hd:digit c
  .by_cases h:c=95
   .subst h
    have a:(((95:UInt8).toNat:Nat):Int)=95:=rfl;simp only[go_sem,a];rfl
   .have a:¬((c.toNat:Nat):Int)=95:=qw (d:=95) h
    have hb:(c==95)=F:=by simpa using h
    simp only[go_sem,a,hb,Bool.or_false]
  .simp only[go_sem,Bool.or_true,Bool.true_or]
 .simp only[go_sem,Bool.true_or]
def nK{p:UInt8->Bool}:∀{s:Str}{k:Nat},(s.take k).all p=T->(s[k]?).all (λc=>!p c)=T->s.takeWhile p=s.take k
 |[],k,_,_=>by simp
 |a::s,0,_,h=>by
   simp only[w8,Option.all_some,J1]at h;simp[h]
 |a::s,k+1,U,b=>by
   simp only[Hl,E9,s5]at U;rw[u7]at b;rw[I6,l9 U.1,Hl,nK U.2 b]
def uU{f:FuncId}{p:UInt8->Bool}(j:∀c,aJ Tryz.prog f [iv .u8 c.toNat] (·=bv (p c)))(s:Str)(t:z s<=1000000000):aJ Tryz.prog 143 [sv s,.one (.d (.fn f))] (·=sv (s.takeWhile p)):=by
 refine hdP Tryz.func143 rfl [4] λg=>?_;simp only[go_sem];refine eM (λn K=>∃k:Nat,n+k=z s/\K.f 0=sv s/\K.f 1=.one (.d (.fn f))/\K.f 5=ae k/\(s.take k).all p=T) (z s) ?_ ?_
 .refine⟨0,a7,?_⟩
  simp only[go_sem];rfl
 rintro n fs g u ⟨k,v,a,b,e,bs⟩;simp only at a b e;have l:=ah (k:=k) a7;have q:(0:Int)<=(k:Int):=a7;by_cases r:k<z s
 .obtain⟨c,Z⟩:=getq r
  have H:(k:Int)<(z s:Int):=a7;simp only[go_sem,a,b,e,H,Z,q];refine zU (f:=f) rfl (by simp only[go_sem,b]) (by simp only[go_sem];exact j c) XK ?_;rintro _ rfl;cases o:p c
  .have i:=nK (p:=p) bs (by rw[Z];simp[o])
   simp only[go_sem,a,e];refine⟨a7,a7,?_⟩;rw[i]
   try rfl
  .simp only[go_sem,e,l]
   refine cQ (n-1) a7 ⟨k+1,a7,?_⟩;simp only[go_sem,a,b];rw[D2,Z];simp[bs,o]
 .obtain rfl:k=z s:=a7
  have H:¬(z s:Int)<(z s:Int):=a7;have i:=nK (p:=p) bs (by rw[F3 (l8 _)];rfl);rw[i,I1];simp only[go_sem,a,b,e,H];exact⟨a7,a7⟩
def Bx{s t:Str}:t.isPrefixOf s=decide (z t<=z s/\s.take (z t)=t):=by
 rw[P2,O9,B4];constructor
 .rintro⟨r,rfl⟩;exact⟨a8,a8⟩
 .rintro⟨U,a⟩;exact⟨s.drop (z t),(congrArg (· ++ s.drop (z t)) a.symm).trans (H7 _ _)⟩
def Ko(s p:Str):preB p s=p.isPrefixOf s:=by
 rw[Bx];unfold preB;rw[decide_eq_decide];constructor
 .intro h
  have:=congrArg z h;rw[D3]at this;exact⟨a7,h⟩
 .exact λh=>h.2
def ui(s t:Str):aJ Tryz.prog 142 [sv s,sv t] (·=bv (t.isPrefixOf s)):=by
 refine hdP Tryz.func142 rfl [4] λg=>?_;simp only[go_sem];refine cg rfl (by simp only[go_sem];exact AF s t) ?_;rintro _ rfl;simp only[go_sem,Ko]
def Oc{s:St}{c:C}{x:D}(h:Frz s c x):lW s (.one c) (.one (.d x)):=⟨_,h,rfl⟩
def tD(t:Src.Tok):List D:=[.int .i64 (t.kind:Nat),.str t.text,.int .u32 (t.num:Nat),.int .i64 (t.place:Nat)]
def xk(t:Src.Tok):AV:=.agg ((tD t).map .d)
def rH:Src.R (Nat×Str×Nat)->AV
 |.ok (k,t,v)=>.tup [xk ⟨k,t,v,0⟩,ae 0]
 |.err e=>.tup [xk ⟨0,[],0,0⟩,ae (e:Nat)]
def eb{s:St}{k v e:Nat}{t:Str}:ry s [.agg [ag (k:Nat),bF t,.d (.int .u32 (v:Nat)),ag 0],ae (e:Nat)] (.tup [xk ⟨k,t,v,0⟩,ae (e:Nat)]):=by
 refine⟨_,⟨_,_,rfl,⟨[.int .i64 (k:Nat),.str t,.int .u32 (v:Nat),.int .i64 0],rfl,λi c m=>?_,rfl⟩,_,_,rfl,kM _,rfl⟩,rfl⟩
 match i,m with
 |0,m=>cases m;exact⟨_,rfl,.d _⟩
 |1,m=>cases m;exact⟨_,rfl,.d _⟩
 |2,m=>cases m;exact⟨_,rfl,.d _⟩
 |3,m=>cases m;exact⟨_,rfl,.d _⟩
def Od(c:UInt8)(n:Nat):n<=Hh n c:=by unfold Hh;omega
def GO(s:Str)(k:Nat):jC (s.take k)<=jC s:=by
 have h:∀(l:Str)(n:Nat),n<=l.foldl Hh n:=λl=>by
  induction l with
  |nil=>intro n;exact l8 _
  |cons c l a=>intro n;exact D0 (Od c n) (a _)
 conv=>rhs;rw[<-H7 k s]
 unfold jC;rw[OY];exact h _ _
def Du(s:Str)(I:z s<=1000000000)(hd:s.all digit=T):aJ Tryz.prog 183 [sv s] (·=rH (if 4294967295<jC s then .err 2 else .ok (2,s,jC s))):=by
 refine hdR Tryz.func183 rfl [.cell 2 179,.tmp 3] λg=>?_;simp only[go_sem];refine eM (λn K=>∃k:Nat,n+k=z s/\K.f 0=sv s/\K.f 2=aj 2 (nxC 180 (g 2)) 0/\K.gen 2=nxC 180 (g 2)/\K.obj 2=S [ag 0,bF [],.d (.int .u32 0),ag 0]/\K.f 4=iv .u64 (jC (s.take k):Nat)/\K.f 5=ae k/\jC (s.take k)<=4294967295) (z s) ?_ ?_
 .refine⟨0,a7,?_⟩
  simp only[go_sem];exact⟨rfl,b9⟩
 rintro n f J L ⟨k,O,i,j,l,o,p,r,a1⟩;simp only at i j l o p r;have B:=ah (k:=k) a7;have w:(0:Int)<=(k:Int):=a7;by_cases E:k<z s
 .obtain⟨c,Z⟩:=getq E
  have H:(k:Int)<(z s:Int):=a7;have G:=Gp Z;have a:=GO s (k+1);have b:=ta.1 (x9.1 hd c (l7 Z));have x:IntKind.u64.wrap ((jC (s.take k):Int)*10)=((jC (s.take k)*10:Nat):Int):=by rw[IntKind.wrap_u64];omega
  have y:IntKind.u8.wrap ((c.toNat:Int)-48)=((c.toNat-48:Nat):Int):=by rw[IntKind.wrap_u8];omega
  have A:IntKind.u64.wrap ((c.toNat-48:Nat):Int)=((c.toNat-48:Nat):Int):=by rw[IntKind.wrap_u64];omega
  have w4:IntKind.u64.wrap (((jC (s.take k)*10:Nat):Int)+((c.toNat-48:Nat):Int))=(jC (s.take (k+1)):Int):=by rw[IntKind.wrap_u64,G];omega
  by_cases q:4294967295<jC (s.take (k+1))
  .have u:(4294967295:Int)<(jC (s.take (k+1)):Int):=a7
   rw[l9 a7];simp only[go_sem,i,j,l,o,p,r,H,w,Z,x,y,A,w4,u];exact⟨_,eb (k:=0) (v:=0) (e:=2),rfl⟩
  .have u:¬(4294967295:Int)<(jC (s.take (k+1)):Int):=a7
   simp only[go_sem,i,j,l,o,p,r,H,w,Z,x,y,A,w4,u,B];refine cQ (n-1) a7 ⟨k+1,a7,?_⟩;simp only[go_sem,i,j,l,o];omega
 .obtain rfl:k=z s:=a7
  have H:¬(z s:Int)<(z s:Int):=a7;rw[s7 (l8 _)]at p a1;have t:IntKind.u32.wrap (jC s:Int)=(jC s:Int):=by rw[IntKind.wrap_u32];omega
  rw[j9 a7];simp only[go_sem,i,j,l,o,p,r,H,t];exact⟨_,eb (k:=2) (e:=0),rfl⟩
def uj:Str->Src.R (Nat×Str×Nat)
 |c::x::y::_=>if y=39/\32<=x.toNat/\x.toNat<=126/\x≠39/\x≠92 then .ok (2,[c,x,y],x.toNat)else .err 3
 |_=>.err 3
def Kq(s:Str):aJ Tryz.prog 184 [sv s] (·=rH (uj s)):=by
 refine hdR Tryz.func184 rfl [.cell 2 179,.tmp 3] λg=>?_;by_cases w:z s<3
 .have l:(z s:Int)<3:=a7
  have hb:uj s=.err 3:=by
   match s,w with
   |[],_=>rfl
   |[_],_=>rfl
   |[_,_],_=>rfl
   |_::_::_::_,h=>simp at h;omega
  rw[hb];simp only[go_sem,l];exact y1
 obtain⟨c,x,y,r,rfl⟩:∃c x y r,s=c::x::y::r:=by
  match s,w with
  |c::x::y::r,_=>exact⟨c,x,y,r,rfl⟩
  |[],h=>simp at h
  |[_],h=>simp at h
  |[_,_],h=>simp at h
 have l:¬(z (c::x::y::r):Int)<3:=a7;have n:(c::x::y::r)[2]?=S y:=rfl;have U:(c::x::y::r)[1]?=S x:=rfl;have A:(c::x::y::r).take 3=[c,x,y]:=rfl;have o:3<=z (c::x::y::r):=a8;rw[show uj (c::x::y::r)=(if y=39/\32<=x.toNat/\x.toNat<=126/\x≠39/\x≠92 then .ok (2,[c,x,y],x.toNat)else .err 3)from rfl];generalize (c::x::y::r)=s at l n U A o;by_cases p:y=39
 case neg=>
  have a:¬((y.toNat:Nat):Int)=39:=qw (d:=39) p;rw[j9 (λh=>p h.1)];simp only[go_sem,l,n,a];exact y1
 have a:((y.toNat:Nat):Int)=39:=by rw[p];rfl
 by_cases B:32<=x.toNat
 case neg=>
  have b:((x.toNat:Nat):Int)<32:=a7;rw[j9 (λh=>B h.2.1)];simp only[go_sem,l,n,U,a,b];exact y1
 have b:¬((x.toNat:Nat):Int)<32:=a7;by_cases E:x.toNat<=126
 case neg=>
  have f:(126:Int)<((x.toNat:Nat):Int):=a7;rw[j9 (λh=>E h.2.2.1)];simp only[go_sem,l,n,U,a,b,f];exact y1
 have f:¬(126:Int)<((x.toNat:Nat):Int):=a7;by_cases q:x=39
 .have i:((x.toNat:Nat):Int)=39:=by rw[q];rfl
  rw[j9 (λh=>h.2.2.2.1 q)];simp only[go_sem,l,n,U,a,b,f,i];exact y1
 have i:¬((x.toNat:Nat):Int)=39:=qw (d:=39) q;by_cases u:x=92
 .have j:((x.toNat:Nat):Int)=92:=by rw[u];rfl
  rw[j9 (λh=>h.2.2.2.2 u)];simp only[go_sem,l,n,U,a,b,f,i,j];exact y1
 have j:¬((x.toNat:Nat):Int)=92:=qw (d:=92) u;rw[l9 ⟨p,B,E,q,u⟩];have t:IntKind.u32.wrap ((x.toNat:Nat):Int)=((x.toNat:Nat):Int):=by have:=x.toNat_lt;rw[IntKind.wrap_u32];omega
 simp only[go_sem,l,n,U,a,b,f,i,j];refine cp c9 ?_;simp only[go_sem,U,t,D7,A];exact⟨o,_,eb (k:=2) (e:=0),rfl⟩
end
end Go.Proofs.YtlacbjnmkhndiaaGreatDoor
namespace Go.Am
section
section
section
variable{P:Program}{E:Nat->TI}{O:Bs}{β:Loc}{g:Nat->Nat}{ob:Obs}{k:Nat}{w G:World}
end
end
end
end Go.Am
namespace Go.Proofs.YtlacbjnmkhndiaaGreatDoor
section
open Go Go.Am Go.Asm
attribute[local congr]ite_cc
def kN(o:cT):Prop:=∀w:World,uB 1 o w->(∀(i:Nat)t,Src.jm[i]?=S t->w.cell? ⟨1,i,N⟩=S (.string ⟨t.toArray⟩))/\(∀(i:Nat)t,Src.Ss[i]?=S t->w.cell? ⟨0,i,N⟩=S (.string ⟨t.toArray⟩))
def Bz{o:cT}(ho:kN o)(s:Str):ck Tryz.prog 1 o 189 [sv s] (·=bv (decide (s∈Src.jm))):=by
 refine hdG Tryz.func189 rfl [.tmp 2] λO bn s0 w0 g=>?_;have y:z Src.jm=10:=rfl;simp only[go_sem];refine aG (λn K=>∃k:Nat,n+k=10/\K.f 0=sv s/\K.f 4=ae k/\s∉Src.jm.take k) 10 ?_ ?_
 .refine⟨0,rfl,?_⟩
  simp only[go_sem];simp
 rintro n f B E ⟨k,G,a,b,u⟩;simp only at a b;have r:=ah (k:=k) a7;by_cases A:k<10
 .have H:(k:Int)<10:=a7
  obtain⟨t,v⟩:=getq (l:=Src.jm) (k:=k) a7;simp only[go_sem,a,b,H]
  refine sJ aL (λs J ds w h=>h.1.2) aO (n:=10) (e:=9) rfl rfl b9 (kd:=.i64) (i:=k) (by simp only[go_sem,b]) A (cs:=[.str t]) (λj x I=>by match j,I with|0,I=>cases I;rfl) (λw r j x I=>by
   match j,I with
   | 0,I=>cases I;rw[show k*(Tt 9).size+0=k from by show k*1+0=k;omega];exact(ho w r).1 k t v) ?_
  by_cases d:t=s
  .have bl:s∈Src.jm:=d▸l7 v
   simp only[go_sem,a,d];exact(C8 bl).symm
  .simp only[go_sem,a,b,d,r]
   refine ao (n-1) a7 ⟨k+1,a7,?_⟩;simp only[go_sem,a];rw[D2,v];simp[u,B7 d]
 .obtain rfl:k=10:=a7
  rw[s7 (by rw[y];decide)]at u;simp only[go_sem,a,b,show ¬((10:Nat):Int)<10 by decide];exact(A5 u).symm
def uk(s:Str):Src.R (Nat×Str×Nat):=if 20<z s then .err 2 else if s∈Src.jm then .ok (3,s,0)else .ok (1,s,0)
def Kr{o:cT}(ho:kN o)(s:Str):ck Tryz.prog 1 o 186 [sv s] (·=rH (uk s)):=by
 refine hdG Tryz.func186 rfl [.cell 2 179,.tmp 3] λO bn s0 w0 g=>?_;unfold uk;by_cases b:20<z s
 .have a:(20:Int)<(z s:Int):=a7
  rw[l9 b];simp only[go_sem,a,fS];exact⟨_,eb (k:=0) (v:=0) (e:=2),rfl⟩
 have a:¬(20:Int)<(z s:Int):=a7;rw[j9 b];simp only[go_sem,a];refine cU rfl (by simp only[go_sem];exact Bz ho s) ?_;rintro _ rfl;by_cases bl:s∈Src.jm
 .rw[l9 bl,C8 bl]
  simp only[go_sem,fS];exact⟨_,eb (k:=3) (v:=0) (e:=0),rfl⟩
 .rw[j9 bl,A5 bl]
  simp only[go_sem,fS];exact⟨_,eb (k:=1) (v:=0) (e:=0),rfl⟩
end
end Go.Proofs.YtlacbjnmkhndiaaGreatDoor
