/- A part of the proof; no conditions. -/
import Derived.Test.YtlacbjnmkhndiaaGreatDoorPart6
import Derived.RangeFuncSeq
import Derived.Below
import Derived.Lib.UnsafeStr
import Derived.Laws.Externs
import Derived.Handed
import Derived.Lay
import Derived.LaidMore
import Derived.SevenTiedAt
import Derived.Stop.Joined
set_option linter.unusedSimpArgs false
set_option linter.unusedVariables false
set_option linter.defProp false
open List renaming length -> z
open Option renaming some -> S, none -> N
open Bool renaming true -> T, false -> F
set_option maxHeartbeats 64000000
set_option maxRecDepth 100000
namespace Go.Am
section
section
variable{B B' id:Nat}{ops:Array Oper}{Q:Exit->St->Prop}
section
variable{P:Program}{E:Nat->TI}{O:Bs}{w:World}{rd:Option Nat}{n:St->Loc->List Deferred->World->Prop}{t:ff}
def vK{hT:bb P E}(a6:aY O n){B al:Nat}{ops:Array Oper}{ds:List Deferred}{Q:Exit->Act->World->Prop}(ad:ops.toList.all aM=T)(hg:ops.toList.all (λo=>o.guard.isNone)=T)(ar:fk al ops.toList=T)(I:(Nat->Bool)->St->Prop)
 (J:∀(L:Nat->Bool)(s:St)(i:Nat)(o:Oper),I L s->ops[i]?=S o->L i=F->(∀e∈o.after.toList,Region.binds .any e=T->L e.on=T)->
    (∀j g,L j=T->ops[j]?=S g->∀e∈g.after.toList,Region.binds .any e=T->L e.on=T)->opA (spB P B) E o s (bx λW=>I (upd L i T) W)):
  ∀(q:Nat)(b:Array Bool){s:St}{β:Loc}{a:Act}{w:World},b.size=ops.size->b.toList.count F<=q->Rel O al s β a w->n s β ds w->I (λi=>b.getD i F) s->
   (∀j g,b.getD j F=T->ops[j]?=S g->∀e∈g.after.toList,Region.binds .any e=T->b.getD e.on F=T)->
   (∀L W A t G,I L W->Rel O al W A t G->n W A ds G->(∃c,L=(λi=>c.getD i F)/\c.size=ops.size/\Region.ready .any ops c=[])->Q .normal {t with defers:=ds} G)->
   wpAnyIn (fen rd) 0 P .any ops Q q b {a with defers:=ds} w
 |0,b,s,β,a,w,az,Z,V,X,hI,hid,hQ=>by
   exact l3
 |q+1,b,s,β,a,w,az,Z,V,X,hI,hid,hQ=>by
   refine⟨λb7=>hQ _ s β a w hI V X ⟨b,rfl,az,b7⟩,λi hi=>?_⟩;unfold Region.ready at hi;simp only[Sj,D5,s5,I7]at hi;obtain⟨b6,y,m⟩:=hi;have ho:ops[i]?=S ops[i]:=B6 b6;rw[ho]at m;simp only[z7,A5,N9,H6,I7]at m
   have l:b[i]?=S F:=by
    exact UO
   have U:b.getD i F=F:=by rw[z6,l];rfl
   have f:∀e∈ops[i].after.toList,Region.binds .any e=T->b.getD e.on F=T:=λe he hb=>by
    exact SE
   have Y:(ops[i]).guard=N:=by
    have:=y8.1 hg ops[i] (G8 b6);exact SV
   have k:∀d,(ops[i]).dst=S d->d<al:=λd hd=>by
    exact Uh
   have v:aM ops[i]=T:=y8.1 ad ops[i] (G8 b6);unfold wpOpIn;rw[ho];simp only;rw[l8 (by simp[Region.wanted,Y])]
   have u:(λj=>(b.setIfInBounds i T).getD j F)=upd (λj=>b.getD j F) i T:=by
    funext j;exact ti
   refine gp v (lH hT V k (J _ s i ops[i] hI ho U f hid) (λW A t G r x p=>⟨x.defers,?_⟩));refine vK (hT:=hT) a6 ad hg ar I J q (b.setIfInBounds i T) (by simpa using az) (by have:=count_set l;omega) x (a6 _ _ _ _ _ _ _ X p) (by rw[u];exact r) (λj g hj H e he hb=>?_) hQ;exact km
def rh(hT:bb P E)(l:P.follows .mixedOrders=T)(a6:aY O n){s:St}{q:Box Q}(ad:ops.toList.all aM=T)(k:(ops.toList.all (λo=>o.guard.isNone)&&tB ops)=T)(I:(Nat->Bool)->St->Prop)(h0:I (λ_=>F) s)
 (J:∀(L:Nat->Bool)(s:St)(i:Nat)(o:Oper),I L s->ops[i]?=S o->L i=F->(∀e∈o.after.toList,Region.binds .any e=T->L e.on=T)->
    (∀j g,L j=T->ops[j]?=S g->∀e∈g.after.toList,Region.binds .any e=T->L e.on=T)->opA (spB P B) E o s (bx λW=>I (upd L i T) W))
 (bl:∀L W,I L W->(∀i,i<ops.size->L i=T)->Q .normal W):ky (spF P rd O n B' t) E id ops s q:=by
 rw[s5]at k;obtain⟨hg,K⟩:=k;refine .inr ⟨λe W=>e=.normal/\Q .normal W,λal β a ds w Z V X=>?_,λe W⟨U,d⟩=>U▸d⟩;have m:Rel O al s β a {w with drawn:=w.drawn+1}:=V.of_heap rfl;have c:n s β ds {w with drawn:=w.drawn+1}:=a6 _ _ _ _ _ _ _ X (Tr.same rfl rfl rfl);refine wpIn_region_any l (vK (hT:=hT) a6 ad hg Z I J ops.size (Array.replicate ops.size F) a8 a8 m c ?_ (λj g f=>?_) (λL W A p G d r u h6=>⟨W,A,p,ds,rfl,.inl ⟨rfl,bl L W d WU⟩,r,u⟩))
 .exact so
 .rw[z6,E4]at f
  split at f<;>simp at f
def oq(hT:bb P E)(a:P.follows .mixedOrders=T)(a6:aY O n){s:St}{q:Box Q}(p:List Nat)(y:List (List Nat×List Nat×List Nat×Bool))(l:Nat)(f:ops.toList.all aM=T)(b:BT ops y l=T)(w:z p=l)(ad:p.Nodup)
 (h:jf (spB P B) E p (jd ops.toList y) s (bx λW=>Q .normal W)):ky (spF P rd O n B' t) E id ops s q:=by
 obtain⟨U,I,c,d,e⟩:=BV (Q:=Q) p y l b w ad h;exact rh hT a a6 f U I c d e
end
end
section
section
variable{P:Program}{E:Nat->TI}{O:Bs}{w:World}
def np{al:Nat}{xs:List AV}{vs:List Value}{g:Nat->Nat}{ob:Obs}{β:Loc}{fa:Nat->AV}{M:Nat}{a:Act}(m:z xs<=al)(bz:Rel O M ⟨fa,g,ob⟩ β a w)(b:aH O β g ob w xs vs):
  Rel O al ⟨cW xs,g,ob⟩ β {tmps:=vs.toArray++Array.replicate (al-vs.toArray.size) undef,defers:=[]} w:=by
 have hl:=b.len;refine⟨rfl,by simp;omega,λi=>?_,bz.obj,bz.inj,bz.base⟩;simp only[cW];cases I:xs[i]? with
 |some x=>
   obtain⟨v,U,c⟩:=b.get I;have d:i<z vs:=(l5.1 U).1
   have:(vs.toArray++Array.replicate (al-vs.toArray.size) undef).getD i undef=v:=by
    rw[z6,F8 (by simpa using d)];simp[U]
   rw[this];simpa only[A5]using c
 |none=>
   have e:z xs<=i:=by simpa using I
   have:(vs.toArray++Array.replicate (al-vs.toArray.size) undef).getD i undef=undef:=by
    rw[z6,H2 VC];simp[E4];split<;>rfl
   rw[this];exact cI
end
end
section
def Mk(O:Bs)(β:Loc)(ob:Obs)(w:World)(k:Nat):List Deferred->Prop
 |[]=>True
 |d::ds=>(∃D,d = {target:=.collected D,args:=#[]}/\k<=D/\Imm O β ob w D/\w.heap[D]?=S (.deferred (S []))/\∀a∈ds,a≠d)/\Mk O β ob w k ds
def Rm(O:Bs)(b:Loc)(c:St)(a:World):St->Loc->List Deferred->World->Prop:=λs β ds w=>Tr O b c a β s w/\Mk O β s.obj w a.heap.size ds
def Mk.keep{O:Bs}{β A:Loc}{s W:St}{w G:World}(h:Tr O β s w A W G){k:Nat}:∀{ds:List Deferred},Mk O β s.obj w k ds->Mk O A W.obj G k ds
 |[],_=>trivial
 |d::ds,hm=>by
   obtain⟨⟨D,U,b,a,c,e⟩,V⟩:=hm;exact⟨⟨D,U,b,(h.imm D a).1,by rw[(h.imm D a).2];exact c,e⟩,Mk.keep h V⟩
def Dt{O:Bs}{b:Loc}{c:St}{d:World}:aY O (Rm O b c d):=λ_ _ _ _ _ _ _ h a=>⟨h.1.trans a,h.2.keep a⟩
section
variable{P:Program}{E:Nat->TI}{O:Bs}{β:Loc}{w:World}
end
end
section
section
variable{P:Program}{E:Nat->TI}{O:Bs}{β:Loc}{w:World}
end
end
section
variable{cells:List C}
section
variable{P:Program}{E:Nat->TI}{O:Bs}{β:Loc}{w:World}
def St.claimAt(s:St)(o b j sz:Nat)(cells:List C):St:=⟨s.f,upd s.gen b (s.gen b+1),upd (upd s.obj o (S (cells.set j (.osl b (s.gen b+1) sz 0 0)))) b (S [])⟩
def yd{s:St}{t o b j sz:Nat}(J:(∃off,s.f t=.one (.ptr o (s.gen o) off))\/∃sz off len,s.f t=.one (.osl o (s.gen o) sz off len))(ho:s.obj o=S cells)(Q:cells[j]?=S (.d .nsl))(n1:o≠b):ae s (s.claimAt o b j sz cells):=by
 intro O al β a w V
 let A:Loc:=λi=>if i=b then N else β i
 have y:∀i,i≠b->((s.claimAt o b j sz cells).obj i).isSome=T->(s.obj i).isSome=T:=λi n B=>by
  simp only[St.claimAt,upd,j8 n]at B;by_cases K:i=o
  .subst K;rw[ho];rfl
  .rwa [j8 K]at B
 have q:eQ O β s.gen s.obj w A (s.claimAt o b j sz cells).gen (s.claimAt o b j sz cells).obj w:=by
  refine⟨λx I=>⟨⟨I.1,I.2.1,λi W B p=>?_⟩,rfl⟩,λi=>?_,λi hg B=>?_⟩
  .by_cases n:i=b
   .simp[A,n]at p
   .simp only[A,j8 n]at p
    exact I.2.2 i W (y i n B) p
  .simp only[St.claimAt,upd];split
   .rename_i e;subst e;omega
   .omega
  .by_cases n:i=b
   .subst n;simp[St.claimAt,upd]at hg
   .exact⟨y i n B,by simp[A,n],λW _ arr el fr h=>⟨arr,el,fr,h,l7 _⟩⟩
 have g:∀G,β o=S G->G.spot=N:=λG p=>by
  have hv:=V.f t;rcases J with⟨off,J⟩|⟨sz,off,len,J⟩
  .rw[J]at hv
   simp only[ag,ay]at hv;obtain⟨W,U,L,_⟩:=hv.2.2 trivial Xa;rw[p]at U;cases U;exact L
  .rw[J]at hv
   simp only[ag]at hv;exact(fM hv rfl Xa).spot G p
 refine⟨A,⟨V.defers,V.size,λi=>ag.keep q _ (V.f i),λi m l=>?_,λY u a1 a2 l1 l2 Z b2 hb=>?_,V.base⟩,l7 _,λ_ _=>rfl,q,rfl,rfl⟩
 .by_cases n:i=b
  .subst n
   simp only[St.claimAt,upd,B1,v7]at l;subst l;simp only[A,B1];rfl
  .by_cases K:i=o
   .subst K
    simp only[St.claimAt,upd,j8 n,B1,v7]at l;subst l;have bl:=V.obj i cells ho;have bs:A i=β i:=by simp[A,n1]
    rw[bs];cases p:β i with
    |none=>rw[p]at bl;have:cells=[]:=bl;subst this;simp at Q
    |some G=>
      rw[p]at bl;obtain⟨g1,arr,el,H,B,g2,g3,g4,g5⟩:=bl.cells (g G p);refine .ofCells (g G p) ⟨g1,arr,el,H,B,g2,by simpa[St.claimAt,upd,n]using g3,by simpa using g4,λk c hk=>?_⟩;by_cases r:k=j
      .subst r
       have af:=(l5.1 Q).1;rw[Sd af]at hk;cases hk;obtain⟨v,hv,X⟩:=g5 k _ Q;simp only[ay]at X;obtain rfl:=X.inv_nsl;refine⟨_,hv,rfl,by simp[St.claimAt,upd],λ_ _=>?_⟩;simp only[A,B1];exact⟨rfl,rfl⟩
      .exact UJ
   .simp only[St.claimAt,upd,j8 n,j8 K]at l
    have:=(V.obj i m l).keep q (λ_ _=>rfl);simpa[A,n,St.claimAt,upd]using this
 .have U:Y≠b:=λe=>by simp[A,e]at Z
  have L:u≠b:=λe=>by simp[A,e]at b2
  simp only[A,j8 U]at Z;simp only[A,j8 L]at b2;exact V.inj Y u a1 a2 (y Y U l1) (y u L l2) Z b2 hb
def ej{s:St}{t o b j sz off:Nat}(a:s.f t=.one (.ptr o (s.gen o) off))(ho:s.obj o=S cells)(c:cells[j]?=S (.d .nsl))(e:o≠b):ae s (s.claimAt o b j sz cells):=
 yd (.inl ⟨off,a⟩) ho c e
end
end
end
section
attribute [local congr] Go.Am.ite_cc
section
variable{fn:Func}{g:Nat->Nat}
section
variable{P:Program}{E:Nat->TI}{O:Bs}{β:Loc}{w:World}
def lC(E:Nat->TI)(s:St):List ResultVar->{K:List AV->Prop}->Box K->Prop
 |[],K,_=>K []
 |.tmp t::r,K,_=>lC E s r (bx λvs=>K (s.f t::vs))
 |.cell a ty::r,K,_=>tq (E ty) s (s.f a) (bx λv=>lC E s r (bx λvs=>K (v::vs)))
def nl(hT:bb P E){al:Nat}{s:St}{a:Act}(V:Rel O al s β a w):
  ∀(rs:List ResultVar){K:List AV->Prop}{k:Box K},lC E s rs k->∃vs j,(∀g:ResultVar->Sem Value,(∀t,g (.tmp t)=pure (a.tmps.getD t undef))->(∀x t,g (.cell x t)=do loadVar t (<-asAddr (a.tmps.getD x undef)))->(rs.mapM g).run P w=.ok vs w)/\K j/\aH O β s.gen s.obj w j vs
 |[],K,k,h=>⟨[],[],λ_ _ _=>by simp,h,by simp only[aH]⟩
 |.tmp t::r,K,k,h=>by
   obtain⟨vs,j,U,d,e⟩:=nl hT V r h;refine⟨_::vs,_::j,λg hg c=>?_,d,by simp only[aH];exact⟨_,_,rfl,V.f t,e⟩⟩;simp only[O7,Sem.run_bind,hg,Sem.run_pure,Result.andThen_ok,U g hg c]
 |.cell x ty::r,K,k,h=>by
   unfold lC at h;obtain⟨y,Y,J,l,b⟩:=sf hT V h (V.f x);obtain⟨vs,j,U,d,e⟩:=nl hT V r J;refine⟨Y::vs,y::j,λg hg c=>?_,d,by simp only[aH];exact⟨_,_,rfl,b,e⟩⟩;have hl:=l w .refl
   have m:(g (.cell x ty)).run P w=.ok Y w:=by
    rw[c];unfold Instr.loadAt at hl;cases i:a.tmps.getD x undef with
    |pointer p=>
      rw[i]at hl;cases p with
      |some p=>simpa[Instr.sureAddr,asAddr]using hl
      |none=>simp[Instr.sureAddr]at hl
    |_=>rw[i]at hl;simp[Instr.sureAddr]at hl
   simp only[O7,Sem.run_bind,m,Sem.run_pure,Result.andThen_ok,U g hg c]
def pack:List AV->AV
 |[t]=>t
 |a=>.tup a
def lD:List Value->Value
 |[v]=>v
 |vs=>.tuple vs.toArray
def yf{ob:Obs}:∀{j:List AV}{vs:List Value},aH O β g ob w j vs->ag O β g ob w (pack j) (lD vs)
 |[],vs,h=>by simp only[aH]at h;subst h;simp only[pack,lD,ag,aH];exact⟨[],rfl,rfl⟩
 |[t],vs,h=>by simp only[aH]at h;obtain⟨u,a,rfl,U,rfl⟩:=h;exact U
 |t::d::e,vs,h=>by
   have b:=h;simp only[aH]at h;obtain⟨u,a,rfl,U,f,c,rfl,i,k⟩:=h;simp only[pack,lD,ag];exact⟨_,rfl,b⟩
def eG(hT:bb P E){al:Nat}{s:St}{a:Act}(V:Rel O al s β a w){rs:List ResultVar}(c:fn.results=rs.toArray){K:List AV->Prop}{k:Box K}(h:lC E s rs k):
  ∃v j,(results fn a.tmps).run P w=.ok v w/\K j/\ag O β s.gen s.obj w (pack j) v/\∃vs,v=lD vs/\aH O β s.gen s.obj w j vs:=by
 obtain⟨vs,j,U,d,b⟩:=nl hT V rs h;refine⟨lD vs,j,?_,d,yf b,vs,rfl,b⟩;unfold results;simp only[c,R5,Sem.run_bind,Sem.run_map];rw[U _ (λ_=>rfl) (λ_ _=>rfl)];simp only[Result.andThen_ok,Sem.run_pure]
 match vs with
 |[]=>simp[lD]
 |[t]=>simp[lD]
 |t::e::f=>simp[lD]
def yg(E:Nat->TI)(rs:List ResultVar)(R:AV->(Nat->Nat)->Obs->Prop):Exit->St->Prop
 |.normal,s|.ret,s=>∃W,ae s W/\lC E W rs (bx λj=>R (pack j) W.gen W.obj)
 |_,_=>False
def NJ(B:Nat)(hT:bb P E)(y:P.follows .mixedOrders=T){f:FuncId}{c:Code}(hf:P.funcs[f]?=S fn)(s:fn.body=S c)(H:(fn.name == "runtime.NumGoroutine")=F)
 (rs:List ResultVar)(K:fn.results=rs.toArray)(X:codeOk fn.ntmps c=T){xs:List AV}(m:z xs<=fn.ntmps){ob:Obs}{R:AV->(Nat->Nat)->Obs->Prop}
 (h:wpC (spB P B) E c (bx (yg E rs R)) ⟨cW xs,g,ob⟩):fX P f xs g ob R:=by
 refine⟨⟨fn,hf,by rw[s];rfl,H⟩,λO al β a t w vs bz hv=>?_⟩;refine calls_of_wp hf s ?_;have hl:=hv.len
 have V:Rel O fn.ntmps ⟨cW xs,g,ob⟩ β {tmps:=vs.toArray++Array.replicate (fn.ntmps-vs.toArray.size) undef,defers:=[]} w:=by
  refine⟨rfl,by simp;omega,λi=>?_,bz.obj,bz.inj,bz.base⟩;simp only[cW];cases I:xs[i]? with
  |some x=>
    exact k6
  |none=>
    exact UL
 refine wp_mono (eA (B:=B) hT y c X V h) (λe o G Z=>?_);obtain⟨W,A,n,q,ht⟩:=Z
 have k:yg E rs R .ret W->∃v,(results fn o.tmps).run P G=.ok v G/\∃u r p Y A,Ending.returned v=.returned u/\R r p Y/\ag O A p Y G r u/\
   (∀id d,Y id=S d->cU O A p Y G (p id) d (A id))/\(∀id L a o,(Y id).isSome=T->(Y L).isSome=T->A id=S a->A L=S o->a.block=o.block->id=L)/\
   Tr O β ⟨t,g,ob⟩ w A ⟨t,p,Y⟩ G:=by
  rintro⟨s2,b4,hR⟩;obtain⟨ad,Q,b⟩:=b4 O fn.ntmps A o G q;have J:=ht.trans b;obtain⟨v,j,U,h2,h3,_⟩:=eG hT Q K hR;exact⟨v,U,v,_,_,_,ad,rfl,h2,h3,Q.obj,Q.inj,⟨J.size,J.old,J.keep,J.os⟩⟩
 cases e with
 |normal=>exact⟨q.defers,k n⟩
 |ret=>exact⟨q.defers,k n⟩
 |exit id=>exact n.elim
 |goto l=>exact n.elim
 |panic ch=>exact n.elim
 |outgrown=>exact n.elim
def ql(s:St):List AV->AV->Prop
 |[t],r=>kR s t r
 |b,r=>∃a,dC s b a/\r=.tup a
def ql.rep{al:Nat}{s:St}{a:Act}(V:Rel O al s β a w):∀{ts:List AV}{r:AV}{vs:List Value},ql s ts r->aH O β s.gen s.obj w ts vs->RV (Own O w) w r (lD vs):=by
 have b:∀(ts e:List AV)(vs:List Value),dC s ts e->aH O β s.gen s.obj w ts vs->RVs (Own O w) w e vs:=by
  intro ts
  induction ts with
  |nil=>intro e vs h d;simp only[dC]at h;simp only[aH]at d;subst h d;simp only[RVs]
  |cons t ts j=>
    intro e vs h d;simp only[dC]at h;simp only[aH]at d;obtain⟨r,o,rfl,U,f⟩:=h;obtain⟨u,i,rfl,k,l⟩:=d;simp only[RVs];exact⟨_,_,rfl,U.rep V k,j _ _ f l⟩
 intro ts r vs h d
 match ts,h with
 |[],⟨e,U,f⟩=>
   subst f;have:=b _ _ _ U d;simp only[aH]at d;subst d;simp only[RV,lD];exact⟨_,rfl,this⟩
 |[t],h=>
   simp only[aH]at d;obtain⟨u,i,rfl,U,rfl⟩:=d;exact kR.rep V h U
 |t::m::ts,⟨e,U,f⟩=>
   subst f;have:=b _ _ _ U d;simp only[aH]at d;obtain⟨u,i,rfl,_,n,c,rfl,_,_⟩:=d;simp only[RV,lD];exact⟨_,rfl,this⟩
def tH(E:Nat->TI)(rs:List ResultVar)(R:AV->Prop):Exit->St->Prop
 |.normal,s|.ret,s=>lC E s rs (bx λj=>∃r,ql s j r/\R r)
 |_,_=>False
def yh(hT:bb P E)(t:P.follows .mixedOrders=T){f:FuncId}{c:Code}(hf:P.funcs[f]?=S fn)(hb:fn.body=S c)(B:(fn.name == "runtime.NumGoroutine")=F)
 (rs:List ResultVar)(H:fn.results=rs.toArray)(Q:codeOk fn.ntmps c=T){args:List AV}(m:z args<=fn.ntmps){R:AV->Prop}
 (h:∀g,wpC (sp P) E c (bx (tH E rs R)) ⟨cW args,g,λ_=>N⟩):ax P f args R:=by
 refine⟨⟨fn,hf,by rw[hb];rfl,B⟩,λJ w vs hJ hv=>?_⟩;refine calls_of_wp hf hb ?_
 have X:∀(l:List AV)(vs:List Value),RVs J w l vs->z vs=z l:=by
  intro l
  induction l with
  |nil=>intro vs h;simp only[RVs]at h;subst h;rfl
  |cons x l o=>intro vs h;simp only[RVs]at h;obtain⟨u,p,rfl,_,h⟩:=h;simp[o p h]
 have hl:=X _ _ hv
 let K:Nat->Prop:=J
 have V:Rel ⟨w.heap.size,K⟩ fn.ntmps ⟨cW args,λ_=>0,λ_=>N⟩ (λ_=>N) {tmps:=vs.toArray++Array.replicate (fn.ntmps-vs.toArray.size) undef,defers:=[]} w:=by
  refine⟨rfl,by simp;omega,λi=>?_,λid q ho=>Xt,λid L a s ho=>Xt,l7 _⟩
  have al:∀(l:List AV)(vs:List Value),RVs J w l vs->∀(i:Nat)(x:AV),l[i]?=S x->∃v,vs[i]?=S v/\RV J w x v:=by
   intro l
   induction l with
   |nil=>intro vs _ i x h;simp at h
   |cons y l o=>
     intro vs h i x I;simp only[RVs]at h;obtain⟨u,p,rfl,U,h2⟩:=h;cases i with
     |zero=>simp at I;subst I;exact⟨u,rfl,U⟩
     |succ i=>simpa using o p h2 i x Wk
  simp only[cW];cases I:args[i]? with
  |some x=>
    exact oc
  |none=>
    exact UI
 refine wp_mono (eA hT t c Q V (h _)) (λe s G Y=>?_);obtain⟨W,A,n,av,ht⟩:=Y
 have k:tH E rs R .ret W->∃v,(results fn s.tmps).run P G=.ok v G/\∃r,R r/\RV (Own ⟨w.heap.size,K⟩ G) G r v:=by
  intro n;obtain⟨v,j,U,⟨r,h2,h3⟩,_,d,rfl,Z⟩:=eG hT av H n;exact⟨_,U,r,h3,h2.rep av Z⟩
 cases e with
 |normal=>
   obtain⟨v,U,r,h2,h3⟩:=k n;exact zs
 |ret=>
   obtain⟨v,U,r,h2,h3⟩:=k n;exact zs
 |exit id=>exact n.elim
 |goto l=>exact n.elim
 |panic ch=>exact n.elim
 |outgrown=>exact n.elim
end
@[go_sem]def Qy:=A0 @lC.eq_1 (A0 @lC.eq_2 (A0 @lC.eq_3 (A0 @tH.eq_2 @ql.eq_1)))
def dN{A:Type}{s:St}{id g sz n:Nat}{cells:List C}(hg:s.gen id=g)(l:List A)(enc:A->List D)(ho:s.obj id=S cells)(Z:cells=l.flatMap (λa=>(enc a).map .d))(k:∀a∈l,∀x∈enc a,ge x=x)(f:∀a∈l,z (enc a)=sz)(hl:z l=n):
  Frz s (.osl id g sz 0 n) (.sl (l.map enc)):=by
 have i:cells=(l.map enc).flatten.map .d:=by rw[Z];clear k f hl Z ho;induction l with|nil=>rfl|cons a l m=>simp[m]
 have t:z cells=n*sz:=by
  rw[i,j6];clear i Z k ho;subst hl
  induction l with
  |nil=>simp
  |cons a l m=>
    simp only[l9,E8,j7,j9,f a a8,m (λb q=>f b (by simp[q]))];rw[E7];omega
 refine .osl hg ho a7 Wf (λe o=>by obtain⟨a,p,rfl⟩:=E3.1 o;exact f a p) (λj=>(cells[0+j]?).getD (.d .nsl)) (λj x I=>?_) (λj x I=>?_)
 .rw[i,C7,x8,I];rfl
 .rw[i,C7,x8,I]
  simp only[z7,A5]
  have L:ge x=x:=by
   have r:=l6 I;obtain⟨e,o,c⟩:=List.mem_flatten.1 r;obtain⟨a,p,rfl⟩:=E3.1 o;exact k a p x c
  have:=Frz.d (s:=s) x
  rwa [L]at this
end
end
section
section
structure mX (O:Bs) (β:Loc) (ob:Obs) (k:Nat) (w G:World):Prop where
 size:G.heap.size=w.heap.size
 os:G.os=w.os/\G.output=w.output
 same:∀b,G.heap[b]?=w.heap[b]?\/(k<=b/\Imm O β ob w b/\(∃x,w.heap[b]?=some (.deferred x))/\∃x,G.heap[b]?=some (.deferred x))
section
variable{P:Program}{E:Nat->TI}{O:Bs}{β:Loc}{g:Nat->Nat}{ob:Obs}{k:Nat}{w G:World}
def mX.refl:mX O β ob k w w:=⟨rfl,⟨rfl,rfl⟩,λ_=>.inl rfl⟩
def mX.trans{H:World}(h:mX O β ob k w G)(q:mX O β ob k G H):mX O β ob k w H:=by
 refine⟨q.size.trans h.size,⟨q.os.1.trans h.os.1,q.os.2.trans h.os.2⟩,λb=>?_⟩;rcases h.same b with e|⟨i,j,l,m⟩
 .rcases q.same b with f|⟨n,d,c,a⟩
  .exact .inl (f.trans e)
  .exact .inr ⟨n,by unfold Imm at *;rw[h.size]at d;exact d,by rw[<-e];exact c,a⟩
 .rcases q.same b with f|⟨n,d,c,a⟩
  .exact .inr ⟨i,j,l,by rw[f];exact m⟩
  .exact .inr ⟨i,j,l,a⟩
def mX.cell(h:mX O β ob k w G){a:Addr}{v:Value}(Z:w.cell? a=S v):G.cell? a=S v:=by
 rcases h.same a.block with e|⟨_,_,⟨x,e⟩,_⟩
 .rw[lj e];exact Z
 .simp[World.cell?,e]at Z
def mX.imm(h:mX O β ob k w G){b:Nat}(a:Imm O β ob w b):Imm O β ob G b:=by unfold Imm at *;rw[h.size];exact a
def ce.shut{J K:Nat->Prop}{x:D}{v:Value}(h:ce J w x v)(o:∀b,J b->K b)(Z:∀a v,w.cell? a=S v->G.cell? a=S v):ce K G x v:=by
 induction h with
 |bool b=>exact .bool b
 |int k n=>exact .int k n
 |str s=>exact .str s
 |nsl=>exact .nsl
 |nilp=>exact .nilp
 |nilf=>exact .nilf
 |nili=>exact .nili
 |nilm=>exact .nilm
 |fn f=>exact .fn f
 |yld l=>exact .yld l
 |sl0=>exact .sl0
 |sl r p c az d V m=>exact .sl r p (λh=>o _ (c h)) az (λi e q j x I=>Z _ _ (d i e q j x I)) m
 |iptr r c d V m=>exact .iptr r (λh=>o _ (c h)) (λj x I=>Z _ _ (d j x I)) m
def jU.shut(h:mX O β ob k w G){c:PC}{v:Value}(V:jU O β g ob w c v):jU O β g ob G c v:=by
 cases c with
 |d x=>exact ce.shut V (λ_=>h.imm) (λ_ _=>h.cell)
 |ptr id g1 off=>exact V
def ay.shut(h:mX O β ob k w G){c:C}{v:Value}(V:ay O β g ob w c v):ay O β g ob G c v:=by
 cases c with
 |d x=>exact ce.shut V (λ_=>h.imm) (λ_ _=>h.cell)
 |osl id g1 sz off len=>
   obtain⟨U,j,l⟩:=V;refine⟨U,j,λhg ho=>?_⟩;have b:=l hg ho;cases p:β id with
   |none=>rw[p]at b;exact b
   |some a=>
     rw[p]at b;obtain⟨y,m⟩:=b;refine⟨y,?_⟩;rcases m with⟨r,A,B,H⟩|m
     .refine .inl ⟨r,A,B,λarr el fr t=>?_⟩
      rcases h.same a.block with e|⟨_,_,_,⟨x,e⟩⟩
      .exact H arr el fr (by rw[<-e];exact t)
      .rw[e]at t;cases t
     .exact .inr m
 |ptr id g1 off=>exact V
 |clo f q=>
   obtain⟨vs,U,j,l⟩:=V;exact⟨vs,U,j,λi pc I=>let ⟨u,hu,V⟩:=l i pc I;⟨u,hu,V.shut h⟩⟩
 |mp id g1 J=>exact V
 |lsl n=>exact V
 |raw o=>exact V
def ly.shut(h:mX O β ob k w G){cs:List C}{vs:Array Value}(V:ly O β g ob w cs vs):ly O β g ob G cs vs:=
 ⟨V.1,λi c Z=>let ⟨u,hu,V⟩:=V.2 i c Z;⟨u,hu,V.shut h⟩⟩
mutual
theorem ag.shut(h:mX O β ob k w G):(x:AV)->{v:Value}->ag O β g ob w x v->ag O β g ob G x v
 |.one _,_,V=>by simp only[ag]at V|-;exact ay.shut h V
 |.agg _,_,V=>by simp only[ag]at V|-;obtain⟨vs,U,a⟩:=V;exact⟨vs,U,a.shut h⟩
 |.tup b,_,V=>by simp only[ag]at V|-;obtain⟨vs,U,a⟩:=V;exact⟨vs,U,aH.shut h b a⟩
 |.junk,_,_=>by simp only[ag]
 |.exact _,_,V=>by simp only[ag]at V|-;exact V
theorem aH.shut(h:mX O β ob k w G):(x:List AV)->{v:List Value}->aH O β g ob w x v->aH O β g ob G x v
 |[],_,V=>by simp only[aH]at V|-;exact V
 |t::a,_,V=>by simp only[aH]at V|-;obtain⟨u,b,U,c,d⟩:=V;exact⟨u,b,U,ag.shut h t c,aH.shut h a d⟩
end
def Rel.shut{al:Nat}{s:St}{a:Act}(V:Rel O al s β a w)(h:mX O β s.obj k w G):Rel O al s β a G:=by
 refine⟨V.defers,V.size,λi=>ag.shut h _ (V.f i),λid b ho=>?_,V.inj,by rw[h.size];exact V.base⟩;have U:=V.obj id b ho;cases p:β id with
 |none=>rw[p]at U;exact U
 |some d=>
   rw[p]at U
   have A:G.heap[d.block]?=w.heap[d.block]?:=by
    rcases h.same d.block with e|⟨_,e,_⟩
    .exact e
    .exact absurd rfl (e.2.2 id d VW p)
   cases l:d.spot with
   |none=>
     obtain⟨y,arr,el,H,J,m,t,K,L⟩:=U.cells l;exact .ofCells l ⟨y,arr,el,H,J,by rw[A];exact m,t,K,λj c Z=>let ⟨v,Q,V⟩:=L j c Z;⟨v,Q,V.shut h⟩⟩
   |some kd=>
     obtain⟨y,⟨X,n,m,t⟩|⟨r,o,m,t⟩⟩:=U.map l
     .exact .ofMap l ⟨y,.inl ⟨X,n,by rw[A];exact m,t.mono λ_ _ q=>by
       unfold jc at q|-;split
       .rename_i B
        rw[l8 B]at q;exact ay.shut h q
       .rename_i B
        rw[j8 B]at q;obtain⟨ds,vs,Y,q2,q3,q4⟩:=q;exact⟨ds,vs,Y,q2,q3,λi x I=>let ⟨u,hu,V⟩:=q4 i x I;⟨u,hu,ce.shut V (λ_=>h.imm) (λ_ _=>h.cell)⟩⟩⟩⟩
     .exact .ofMap l ⟨y,.inr ⟨r,o,m,by rw[A];exact t⟩⟩
def Mk.put{D:Nat}{o:Obj}:∀{ds:List Deferred},Mk O β ob w k ds->(∀a∈ds,a≠{target:=.collected D,args:=#[]})->Mk O β ob (w.putObj D o) k ds
 |[],_,_=>trivial
 |d::ds,hm,bz=>by
   obtain⟨⟨E,U,b,c,e,f⟩,V⟩:=hm;have i:E≠D:=λj=>bz d a8 (by rw[U,j]);exact⟨⟨E,U,b,by unfold Imm at *;simpa using c,by rw[World.putObj_heap_other i];exact e,f⟩,V.put (λa l=>bz a (by simp[l]))⟩
def qn{fn:Func}{a:Array Value}{R:Ending->World->Prop}:∀{ds:List Deferred}{w:World},Mk O β ob w k ds->
  (∀t,mX O β ob k w t->∃v,(results fn a).run P t=.ok v t/\R (.returned v) t)->LeavesInM (fen N) 0 P fn a R ds .returning w
 |[],w,_,h=>h w .refl
 |d::ds,w,hm,h=>by
   obtain⟨⟨D,U,i,c,e,j⟩,V⟩:=hm;refine⟨a8,.inl ⟨D,_,by rw[U],run_takeDeferred e,?_⟩⟩;have l:D<w.heap.size:=c.1
   have p:mX O β ob k w (w.putObj D (.deferred N)):=⟨a8,⟨rfl,rfl⟩,λb=>by
    by_cases f:b=D
    .subst f
     exact .inr ⟨i,c,⟨_,e⟩,⟨N,World.putObj_heap_same l⟩⟩
    .exact .inl (World.putObj_heap_other f)⟩
   exact qn (V.put (λm n=>by rw[<-U];exact j m n)) (λt o=>h t (p.trans o))
end
end
section
section
variable{P:Program}{E:Nat->TI}{O:Bs}{β:Loc}{w:World}
end
end
end
section
attribute [local congr] Go.Am.ite_cc
section
variable{s:St}{d:List Nat}{R:AV->(Nat->Nat)->Obs->Prop}
def nr(p:Nat->Bool):ae s ⟨s.f,s.gen,λi=>if p i=T then N else s.obj i⟩:=by
 exact u6
def bH(p:Nat->Bool)(h:R (mJ s.f d) s.gen (λi=>if p i=T then N else s.obj i)):xY d R .normal s:=⟨_,nr p,h⟩
def iE(p:Nat->Bool)(h:R (mJ s.f d) s.gen (λi=>if p i=T then N else s.obj i)):xY d R .ret s:=⟨_,nr p,h⟩
@[go_sem]def Qz:xO .nilFunc=.one (.d .nilf):=B7 rfl rfl
end
end
section
section
variable{s:St}{o:Oper}{K:St->Prop}{f:FuncId}{args:Array Operand}{tys:Array TypeId}{R:AV->Prop}{k:Box K}
section
variable{P:Program}{E:Nat->TI}{O:Bs}{rd:Option Nat}{i:St->Loc->List Deferred->World->Prop}{l:ff}{m:Nat}
def aw{B:(Exit->St->Prop)->St->Prop}{b:Box B}{Q:Exit->St->Prop}{q:Box Q}(I:Nat->St->Prop)(n:Nat)(c:I n s)
 (V:∀n f g a,I n ⟨f,g,a⟩->B (iQ (bx λW=>∃j d,j<n/\(spF P rd O i m l).vs W d/\I j d) q) ⟨f,g,a⟩):ng (spF P rd O i m l) b q s:=
 ⟨I,⟨n,s,ae.refl s,c⟩,λn s e=>V n s.f s.gen s.obj e⟩
def ah{I:Nat->St->Prop}{n:Nat}(j:Nat)(h:j<n)(a:I j s):∃j d,j<n/\(spF P rd O i m l).vs s d/\I j d:=⟨j,s,h,ae.refl s,a⟩
def jr(a6:aY O i)(ho:o.op=.call ⟨.value (.func f),args,tys⟩)
 (a:ax P f (args.toList.map s.ev) R)(hd:(args.toList.map s.ev).all eH=T)(b:∀r,R r->K (s.put o.dst r)):bm (spF P rd O i m l) o s k:=
 yi a6 W6 (vH (B:=0) (k:=k) ho a hd b)
def dj(a6:aY O i)(ho:o.op=.call ⟨.value (.func f),args,tys⟩){R:AV->(Nat->Nat)->Obs->Prop}
 (b:fX P f (args.toList.map s.ev) s.gen s.obj R)(c:∀r a Y,R r a Y->K (St.put ⟨s.f,a,Y⟩ o.dst r)):bm (spF P rd O i m l) o s k:=
 yi a6 W6 (ck (B:=0) (k:=k) ho b c)
def yk{B:Nat}{t:Nat}(ho:o.op=.call ⟨.value (.tmp t),args,tys⟩)(hf:s.f t=.one (.d (.fn f)))
 (hp:ax P f (args.toList.map s.ev) R)(hd:(args.toList.map s.ev).all eH=T)(g:∀r,R r->K (s.put o.dst r)):bm (spB P B) o s k:=by
 refine⟨λW=>∃r,R r/\W=s.put o.dst r,?_,λ_⟨r,V,e⟩=>e▸g r V⟩;intro O al β a w V c next Q hn;have hv:=V.f t;rw[hf]at hv;simp only[ag,ay]at hv;have hv:a.tmps.getD t undef=.func (.func f) #[] #[]:=by generalize a.tmps.getD t undef=v at hv;cases hv;rfl
 have i:(execOp a.eval o).run P w=.ok (.enter f (args.map a.eval)) w:=by
  exact lv
 unfold Oper.wp;rw[i];exact hV
def rk(a6:aY O i){t:Nat}(ho:o.op=.call ⟨.value (.tmp t),args,tys⟩)(hf:s.f t=.one (.d (.fn f)))
 (a:ax P f (args.toList.map s.ev) R)(hd:(args.toList.map s.ev).all eH=T)(b:∀r,R r->K (s.put o.dst r)):bm (spF P rd O i m l) o s k:=
 yi a6 W6 (yk (B:=0) (k:=k) ho hf a hd b)
end
section
variable{ar:Sp}{E:Nat->TI}
end
end
end
section
open Go.ChangeShapes Go.WideShapes Go.ChangeAt Go.RowKit
section
variable{H:Type}{enc:TypeId×Value->H}
end
end
section
section
abbrev cF:=Nat->Option Obj
def sJ(q:Nat)(o:cF)(w:World):Prop:=q<w.heap.size/\∀b,b<=q->w.heap[b]?=o b
variable{o:cF}{f:FuncId}{s:St}{w:World}{R:AV->Prop}{l:St->Loc->List Deferred->World->Prop}{K:St->Prop}{q a:Nat}{P:Program}{args:List AV}{tys:Array TypeId}{k:Box K}
def sJ.lt{q:Nat}(h:sJ q o w):q<w.heap.size:=h.1
def sJ.down(hl:q<=a)(h:sJ a o w):sJ q o w:=⟨G3 hl h.1,λb c=>h.2 b (C8 c hl)⟩
def sg(O:Bs)(q:Nat)(o:cF)(w:World):Prop:=(q<O.B/\∀b,b<=q->O.I b)/\sJ q o w
def bP(P:Program)(q:Nat)(o:cF)(f:FuncId)(args:List AV)(R:AV->Prop):Prop:=
 DJ P f/\∀(J:Nat->Prop)(w:World)(vs:List Value),sJ q o w->(∀b,J b->b<w.heap.size)->RVs J w args vs->
  Calls P f vs.toArray w λe G=>∃v r,e=.returned v/\R r/\w.heap.size<=G.heap.size/\(∀b,b<w.heap.size->G.heap[b]?=w.heap[b]?)/\(G.os=w.os/\G.output=w.output)/\RV (λb=>b<G.heap.size/\(b<w.heap.size->J b\/b<=q)) G r v
def ax.toG{q:Nat}(h:ax P f args R):bP P q o f args R:=
 ⟨h.1,λJ w vs _ U c=>(h.2 J w vs U c).mono λ_ _⟨v,r,d,e,g,i,j,l⟩=>⟨v,r,d,e,g,i,j,RV.mono (λ_ b=>⟨⟨b.1,λhl=>.inl (b.2 hl)⟩,rfl⟩) r l⟩⟩
def Fk(P:Program)(q:Nat)(o:cF)(f:FuncId)(xs:List AV)(g:Nat->Nat)(ob:Obs)(R:AV->(Nat->Nat)->Obs->Prop):Prop:=
 DJ P f/\∀(O:Bs)(al:Nat)(d:Loc)(a:Act)(h:Nat->AV)(w:World)(vs:List Value),q<O.B->sg O q o w->Rel O al ⟨h,g,ob⟩ d a w->aH O d g ob w xs vs->
  Calls P f vs.toArray w λe G=>∃v r c Y A,e=.returned v/\R r c Y/\ag O A c Y G r v/\
   (∀id b,Y id=S b->cU O A c Y G (c id) b (A id))/\(∀id L a i,(Y id).isSome=T->(Y L).isSome=T->A id=S a->A L=S i->a.block=i.block->id=L)/\
   Tr O d ⟨h,g,ob⟩ w A ⟨h,c,Y⟩ G
def Fl(q:Nat)(o:cF)(O:Bs)(y:Loc)(H:St)(u:World):St->Loc->List Deferred->World->Prop:=λs β ds w=>(q<O.B/\sg O q o w)/\Rm O y H u s β ds w
section
variable{P:Program}{E:Nat->TI}{O:Bs}{rd:Option Nat}{q:Nat}{o:cF}{Ψ:ff}{B0:Nat}{y:Loc}{H:St}{u:World}
def aE:aY O (Fl q o O y H u):=λ_ _ _ _ _ _ _ h c=>⟨⟨h.1.1,h.1.2.1,G9 h.1.2.2.1 c.size,λb d=>by rw[c.old b (G3 d h.1.1)];exact h.1.2.2.2 b d⟩,Dt _ _ _ _ _ _ _ h.2 c⟩
def tN{al:Nat}{β:Loc}{a:Act}(V:Rel O al s β a w)(d:sg O q o w){b:Nat}(e:b<=q):Imm O β s.obj w b:=by
 refine⟨G3 e d.2.1,λ_=>d.1.2 b e,λid g ho p i=>?_⟩;obtain⟨c,Z⟩:=Mj.1 ho;have h:=V.obj id c Z;rw[p]at h;have U:=h.block.1;have j:=d.1.1;omega
def mf(a6:aY O l)(hG:∀s β ds w,l s β ds w->sg O q o w){op:Oper}{args:Array Operand}(ho:op.op=.call ⟨.value (.func f),args,tys⟩)
 (hp:bP P q o f (args.toList.map s.ev) R)(hd:(args.toList.map s.ev).all eH=T)(d:∀r,R r->K (s.put op.dst r)):bm (spF P rd O l B0 Ψ) op s k:=by
 refine⟨λW=>∃r,R r/\W=s.put op.dst r,?_,λ_⟨r,V,e⟩=>e▸d r V⟩;intro al β a ds w V X c next Q hn _;have g:aM op=T:=by simp[aM,ho]
 refine gp g ?_;unfold Oper.wp;rw[jE ho hp.1 w];simp only[Oper.upon];exact hH
def rm(a6:aY O l)(u:∀s β ds w,l s β ds w->sg O q o w)(hT:bb P E){dst:Option Tmp}{t n e gi:Nat}{g:Operand}{ty:TypeId}{ps:String}{p:Array Edge}{gd:Option (Nat×Bool)}
 (r:(E t).desc=.array n e)(y:okD (E e).desc=T)(A:gi<=q){kd:IntKind}{i:Nat}(c:s.ev g=iv kd i)(B:i<n){cs:List D}(H:∀(j:Nat)(x:D),cs[j]?=S x->kB x=T)
 (m:∀w:World,sJ q o w->∀(j:Nat)(x:D),cs[j]?=S x->w.cell? ⟨gi,i*(E e).size+j,N⟩=S (dV x))(U:K (s.put dst (.one (.d (.iptr cs))))):
  bm (spF P rd O l B0 Ψ) ⟨dst,.indexAddr t (.global gi) g,ty,ps,p,gd⟩ s k:=by
 refine⟨λW=>W=s.put dst (.one (.d (.iptr cs))),λal β a ds w V X hd next Q hn _=>?_,λ_ e=>e▸U⟩;refine gp rfl ?_;have b:=u _ _ _ _ X;have J:=V.ev g;rw[c]at J;simp only[ag,ay]at J;have J:=J.inv_int;have L:=(hT t (by rw[r];rfl)).desc;rw[r]at L;have b2:=hT e y
 have cf:(execOp a.eval ⟨dst,.indexAddr t (.global gi) g,ty,ps,p,gd⟩).run P w=.ok (.value (.pointer (S ⟨gi,i*(E e).size,N⟩))) w:=by
  simp[execOp,J,show a.eval (.global gi)=.pointer (S ⟨gi,0,N⟩)from rfl,Instr.indexAt,asIntOf,run_underlying L,B,bB b2,dO,Instr.sureAddr]
 have av:=V.put hd (x:=.one (.d (.iptr cs))) (v:=.pointer (S ⟨gi,i*(E e).size,N⟩)) (by
  simp only[ag,ay];refine .iptr (λj=>dV (cs.getD j .nsl)) (λ_=>tN V b A) (λj x I=>?_) (λj x I=>?_)
  .rw[m w b.2 j x I];simp[ES,I]
  .rw[show cs.getD j .nsl=x by simp[ES,I]];exact ce.of_plain (H j x I))
 exact vi
def Dy(a6:aY O l)(d:∀s β ds w,l s β ds w->q<O.B/\sg O q o w){op:Oper}{args:Array Operand}(ho:op.op=.call ⟨.value (.func f),args,tys⟩){R:AV->(Nat->Nat)->Obs->Prop}
 (b:Fk P q o f (args.toList.map s.ev) s.gen s.obj R)(g:∀r g' Y,R r g' Y->K (St.put ⟨s.f,g',Y⟩ op.dst r)):bm (spF P rd O l B0 Ψ) op s k:=by
 refine⟨λW=>∃r g' Y,R r g' Y/\W=St.put ⟨s.f,g',Y⟩ op.dst r,?_,λ_⟨r,g',Y,V,e⟩=>e▸g r g' Y V⟩;intro al β a ds w V X c next Q hn _;have i:aM op=T:=by simp[aM,ho]
 refine gp i ?_;unfold Oper.wp;rw[jE ho b.1 w];simp only[Oper.upon];obtain⟨j,m⟩:=d _ _ _ _ X;have:=b.2 O al β a s.f w (args.toList.map a.eval) j m V (iS V _);rw[show (args.toList.map a.eval).toArray=args.map a.eval from Jf a8]at this;refine this.mono λe G⟨v,r,g',Y,A,he,hR,hv,U,h2,h3⟩=>?_;exact S4
end
def UV(q:Nat)(o:cF)(O:Bs)(y:Loc)(H:St)(u:World):St->Loc->List Deferred->World->Prop:=λs β ds w=>(q<O.B/\sg O q o w)/\ds=[]/\Tr O y H u β s w
section
variable{P:Program}{E:Nat->TI}{q:Nat}{o:cF}
def lE{O:Bs}{y:Loc}{H:St}{u:World}:aY O (UV q o O y H u):=λ_ _ _ _ _ _ _ h c=>⟨⟨h.1.1,h.1.2.1,G9 h.1.2.2.1 c.size,λb d=>by rw[c.old b (G3 d h.1.1)];exact h.1.2.2.2 b d⟩,h.2.1,h.2.2.trans c⟩
end
def bP.up(hl:q<=a)(h:bP P q o f args R):bP P a o f args R:=
 ⟨h.1,λJ w vs c U d=>(h.2 J w vs (c.down hl) U d).mono λ_ _⟨v,r,e,g,i,j,l,m⟩=>⟨v,r,e,g,i,j,l,RV.mono (λ_ b=>⟨⟨b.1,λn=>(b.2 n).imp id (λh=>C8 h hl)⟩,rfl⟩) r m⟩⟩
end
end
end Go.Am
