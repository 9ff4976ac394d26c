/- A part of the proof; no conditions. -/
import Derived.Test.YtlacbjnmkhndiaaGreatDoorPart5
import Derived.RangeFuncSeq
import Derived.Below
import Derived.Lib.UnsafeStr
import Derived.Laws.Externs
import Derived.Handed
import Derived.Lay
import Derived.LaidMore
import Derived.SevenTiedAt
import Derived.Stop.Joined
import Derived.KernelRfl
import Derived.DefersIn
import Derived.RecoverIn
import Derived.Test.YtlacbjnmkhndiaaGreatDoorProg
import Derived.Lib.Bytealg
import Derived.Shelf.Strings.IndexAnyAll
import Derived.Laws.RangeAny
import Derived.WalkMore
import Derived.Shelf.RegionOpenPlain
import Derived.BigQuiet
import Derived.Laws.Runes
import Derived.Shelf.Small.Utf8
import Derived.Lib.QuoteLoop
import Derived.Lib.TrimU
import Derived.Lib.OthersKept
import Derived.Shelf.Strings.SlTrimAscii
import Derived.Shelf.Strings.Runes
set_option linter.unusedSimpArgs false
set_option linter.unusedVariables false
set_option linter.defProp false
open List renaming length -> z
open Option renaming some -> S, none -> N
open Bool renaming true -> T, false -> F
set_option maxHeartbeats 64000000
set_option maxRecDepth 100000
namespace Go.Am
section
section
variable{B B' id:Nat}{ops:Array Oper}{Q:Exit->St->Prop}
section
variable{P:Program}{E:Nat->TI}{O:Bs}{w:World}{rd:Option Nat}{n:St->Loc->List Deferred->World->Prop}{t:ff}
def vK{hT:bb P E}(a6:aY O n){B al:Nat}{ops:Array Oper}{ds:List Deferred}{Q:Exit->Act->World->Prop}(ad:ops.toList.all aM=T)(hg:ops.toList.all (λo=>o.guard.isNone)=T)(ar:fk al ops.toList=T)(I:(Nat->Bool)->St->Prop)
 (J:∀(L:Nat->Bool)(s:St)(i:Nat)(o:Oper),I L s->ops[i]?=S o->L i=F->(∀e∈o.after.toList,Region.binds .any e=T->L e.on=T)->
    (∀j g,L j=T->ops[j]?=S g->∀e∈g.after.toList,Region.binds .any e=T->L e.on=T)->opA (spB P B) E o s (bx λW=>I (upd L i T) W)):
  ∀(q:Nat)(b:Array Bool){s:St}{β:Loc}{a:Act}{w:World},b.size=ops.size->b.toList.count F<=q->Rel O al s β a w->n s β ds w->I (λi=>b.getD i F) s->
   (∀j g,b.getD j F=T->ops[j]?=S g->∀e∈g.after.toList,Region.binds .any e=T->b.getD e.on F=T)->
   (∀L W A t G,I L W->Rel O al W A t G->n W A ds G->(∃c,L=(λi=>c.getD i F)/\c.size=ops.size/\Region.ready .any ops c=[])->Q .normal {t with defers:=ds} G)->
   wpAnyIn (fen rd) 0 P .any ops Q q b {a with defers:=ds} w
 |0,b,s,β,a,w,az,Z,V,X,hI,hid,hQ=>by
   exact l3
 |q+1,b,s,β,a,w,az,Z,V,X,hI,hid,hQ=>by
   refine⟨λb7=>hQ _ s β a w hI V X ⟨b,rfl,az,b7⟩,λi hi=>?_⟩;unfold Region.ready at hi;simp only[Sj,D5,s5,I7]at hi;obtain⟨b6,y,m⟩:=hi;have ho:ops[i]?=S ops[i]:=B6 b6;rw[ho]at m;simp only[z7,A5,N9,H6,I7]at m
   have l:b[i]?=S F:=by
    exact UO
   have U:b.getD i F=F:=by rw[z6,l];rfl
   have f:∀e∈ops[i].after.toList,Region.binds .any e=T->b.getD e.on F=T:=λe he hb=>by
    exact SE
   have Y:(ops[i]).guard=N:=by
    have:=y8.1 hg ops[i] (G8 b6);exact SV
   have k:∀d,(ops[i]).dst=S d->d<al:=λd hd=>by
    exact Uh
   have v:aM ops[i]=T:=y8.1 ad ops[i] (G8 b6);unfold wpOpIn;rw[ho];simp only;rw[l8 (by simp[Region.wanted,Y])]
   have u:(λj=>(b.setIfInBounds i T).getD j F)=upd (λj=>b.getD j F) i T:=by
    funext j;exact ti
   refine gp v (lH hT V k (J _ s i ops[i] hI ho U f hid) (λW A t G r x p=>⟨x.defers,?_⟩));refine vK (hT:=hT) a6 ad hg ar I J q (b.setIfInBounds i T) (by simpa using az) (by have:=count_set l;omega) x (a6 _ _ _ _ _ _ _ X p) (by rw[u];exact r) (λj g hj H e he hb=>?_) hQ;exact km
def rh(hT:bb P E)(l:P.follows .mixedOrders=T)(a6:aY O n){s:St}{q:Box Q}(ad:ops.toList.all aM=T)(k:(ops.toList.all (λo=>o.guard.isNone)&&tB ops)=T)(I:(Nat->Bool)->St->Prop)(h0:I (λ_=>F) s)
 (J:∀(L:Nat->Bool)(s:St)(i:Nat)(o:Oper),I L s->ops[i]?=S o->L i=F->(∀e∈o.after.toList,Region.binds .any e=T->L e.on=T)->
    (∀j g,L j=T->ops[j]?=S g->∀e∈g.after.toList,Region.binds .any e=T->L e.on=T)->opA (spB P B) E o s (bx λW=>I (upd L i T) W))
 (bl:∀L W,I L W->(∀i,i<ops.size->L i=T)->Q .normal W):ky (spF P rd O n B' t) E id ops s q:=by
 rw[s5]at k;obtain⟨hg,K⟩:=k;refine .inr ⟨λe W=>e=.normal/\Q .normal W,λal β a ds w Z V X=>?_,λe W⟨U,d⟩=>U▸d⟩;have m:Rel O al s β a {w with drawn:=w.drawn+1}:=V.of_heap rfl;have c:n s β ds {w with drawn:=w.drawn+1}:=a6 _ _ _ _ _ _ _ X (Tr.same rfl rfl rfl);refine wpIn_region_any l (vK (hT:=hT) a6 ad hg Z I J ops.size (Array.replicate ops.size F) a8 a8 m c ?_ (λj g f=>?_) (λL W A p G d r u h6=>⟨W,A,p,ds,rfl,.inl ⟨rfl,bl L W d WU⟩,r,u⟩))
 .exact so
 .rw[z6,E4]at f
  split at f<;>simp at f
def oq(hT:bb P E)(a:P.follows .mixedOrders=T)(a6:aY O n){s:St}{q:Box Q}(p:List Nat)(y:List (List Nat×List Nat×List Nat×Bool))(l:Nat)(f:ops.toList.all aM=T)(b:BT ops y l=T)(w:z p=l)(ad:p.Nodup)
 (h:jf (spB P B) E p (jd ops.toList y) s (bx λW=>Q .normal W)):ky (spF P rd O n B' t) E id ops s q:=by
 obtain⟨U,I,c,d,e⟩:=BV (Q:=Q) p y l b w ad h;exact rh hT a a6 f U I c d e
end
end
section
section
variable{P:Program}{E:Nat->TI}{O:Bs}{w:World}
def np{al:Nat}{xs:List AV}{vs:List Value}{g:Nat->Nat}{ob:Obs}{β:Loc}{fa:Nat->AV}{M:Nat}{a:Act}(m:z xs<=al)(bz:Rel O M ⟨fa,g,ob⟩ β a w)(b:aH O β g ob w xs vs):
  Rel O al ⟨cW xs,g,ob⟩ β {tmps:=vs.toArray++Array.replicate (al-vs.toArray.size) undef,defers:=[]} w:=by
 have hl:=b.len;refine⟨rfl,by simp;omega,λi=>?_,bz.obj,bz.inj,bz.base⟩;simp only[cW];cases I:xs[i]? with
 |some x=>
   obtain⟨v,U,c⟩:=b.get I;have d:i<z vs:=(l5.1 U).1
   have:(vs.toArray++Array.replicate (al-vs.toArray.size) undef).getD i undef=v:=by
    rw[z6,F8 (by simpa using d)];simp[U]
   rw[this];simpa only[A5]using c
 |none=>
   have e:z xs<=i:=by simpa using I
   have:(vs.toArray++Array.replicate (al-vs.toArray.size) undef).getD i undef=undef:=by
    rw[z6,H2 VC];simp[E4];split<;>rfl
   rw[this];exact cI
end
end
section
def Mk(O:Bs)(β:Loc)(ob:Obs)(w:World)(k:Nat):List Deferred->Prop
 |[]=>True
 |d::ds=>(∃D,d = {target:=.collected D,args:=#[]}/\k<=D/\Imm O β ob w D/\w.heap[D]?=S (.deferred (S []))/\∀a∈ds,a≠d)/\Mk O β ob w k ds
def Rm(O:Bs)(b:Loc)(c:St)(a:World):St->Loc->List Deferred->World->Prop:=λs β ds w=>Tr O b c a β s w/\Mk O β s.obj w a.heap.size ds
def Mk.keep{O:Bs}{β A:Loc}{s W:St}{w G:World}(h:Tr O β s w A W G){k:Nat}:∀{ds:List Deferred},Mk O β s.obj w k ds->Mk O A W.obj G k ds
 |[],_=>trivial
 |d::ds,hm=>by
   obtain⟨⟨D,U,b,a,c,e⟩,V⟩:=hm;exact⟨⟨D,U,b,(h.imm D a).1,by rw[(h.imm D a).2];exact c,e⟩,Mk.keep h V⟩
def Dt{O:Bs}{b:Loc}{c:St}{d:World}:aY O (Rm O b c d):=λ_ _ _ _ _ _ _ h a=>⟨h.1.trans a,h.2.keep a⟩
section
variable{P:Program}{E:Nat->TI}{O:Bs}{β:Loc}{w:World}
end
end
section
section
variable{P:Program}{E:Nat->TI}{O:Bs}{β:Loc}{w:World}
end
end
section
variable{cells:List C}
section
variable{P:Program}{E:Nat->TI}{O:Bs}{β:Loc}{w:World}
def St.claimAt(s:St)(o b j sz:Nat)(cells:List C):St:=⟨s.f,upd s.gen b (s.gen b+1),upd (upd s.obj o (S (cells.set j (.osl b (s.gen b+1) sz 0 0)))) b (S [])⟩
def yd{s:St}{t o b j sz:Nat}(J:(∃off,s.f t=.one (.ptr o (s.gen o) off))\/∃sz off len,s.f t=.one (.osl o (s.gen o) sz off len))(ho:s.obj o=S cells)(Q:cells[j]?=S (.d .nsl))(n1:o≠b):ae s (s.claimAt o b j sz cells):=by
 intro O al β a w V
 let A:Loc:=λi=>if i=b then N else β i
 have y:∀i,i≠b->((s.claimAt o b j sz cells).obj i).isSome=T->(s.obj i).isSome=T:=λi n B=>by
  simp only[St.claimAt,upd,j8 n]at B;by_cases K:i=o
  .subst K;rw[ho];rfl
  .rwa [j8 K]at B
 have q:eQ O β s.gen s.obj w A (s.claimAt o b j sz cells).gen (s.claimAt o b j sz cells).obj w:=by
  refine⟨λx I=>⟨⟨I.1,I.2.1,λi W B p=>?_⟩,rfl⟩,λi=>?_,λi hg B=>?_⟩
  .by_cases n:i=b
   .simp[A,n]at p
   .simp only[A,j8 n]at p
    exact I.2.2 i W (y i n B) p
  .simp only[St.claimAt,upd];split
   .rename_i e;subst e;omega
   .omega
  .by_cases n:i=b
   .subst n;simp[St.claimAt,upd]at hg
   .exact⟨y i n B,by simp[A,n],λW _ arr el fr h=>⟨arr,el,fr,h,l7 _⟩⟩
 have g:∀G,β o=S G->G.spot=N:=λG p=>by
  have hv:=V.f t;rcases J with⟨off,J⟩|⟨sz,off,len,J⟩
  .rw[J]at hv
   simp only[ag,ay]at hv;obtain⟨W,U,L,_⟩:=hv.2.2 trivial Xa;rw[p]at U;cases U;exact L
  .rw[J]at hv
   simp only[ag]at hv;exact(fM hv rfl Xa).spot G p
 refine⟨A,⟨V.defers,V.size,λi=>ag.keep q _ (V.f i),λi m l=>?_,λY u a1 a2 l1 l2 Z b2 hb=>?_,V.base⟩,l7 _,λ_ _=>rfl,q,rfl,rfl⟩
 .by_cases n:i=b
  .subst n
   simp only[St.claimAt,upd,B1,v7]at l;subst l;simp only[A,B1];rfl
  .by_cases K:i=o
   .subst K
    simp only[St.claimAt,upd,j8 n,B1,v7]at l;subst l;have bl:=V.obj i cells ho;have bs:A i=β i:=by simp[A,n1]
    rw[bs];cases p:β i with
    |none=>rw[p]at bl;have:cells=[]:=bl;subst this;simp at Q
    |some G=>
      rw[p]at bl;obtain⟨g1,arr,el,H,B,g2,g3,g4,g5⟩:=bl.cells (g G p);refine .ofCells (g G p) ⟨g1,arr,el,H,B,g2,by simpa[St.claimAt,upd,n]using g3,by simpa using g4,λk c hk=>?_⟩;by_cases r:k=j
      .subst r
       have af:=(l5.1 Q).1;rw[Sd af]at hk;cases hk;obtain⟨v,hv,X⟩:=g5 k _ Q;simp only[ay]at X;obtain rfl:=X.inv_nsl;refine⟨_,hv,rfl,by simp[St.claimAt,upd],λ_ _=>?_⟩;simp only[A,B1];exact⟨rfl,rfl⟩
      .exact UJ
   .simp only[St.claimAt,upd,j8 n,j8 K]at l
    have:=(V.obj i m l).keep q (λ_ _=>rfl);simpa[A,n,St.claimAt,upd]using this
 .have U:Y≠b:=λe=>by simp[A,e]at Z
  have L:u≠b:=λe=>by simp[A,e]at b2
  simp only[A,j8 U]at Z;simp only[A,j8 L]at b2;exact V.inj Y u a1 a2 (y Y U l1) (y u L l2) Z b2 hb
def ej{s:St}{t o b j sz off:Nat}(a:s.f t=.one (.ptr o (s.gen o) off))(ho:s.obj o=S cells)(c:cells[j]?=S (.d .nsl))(e:o≠b):ae s (s.claimAt o b j sz cells):=
 yd (.inl ⟨off,a⟩) ho c e
end
end
end
section
attribute[local congr]ite_cc
section
variable{fn:Func}{g:Nat->Nat}
section
variable{P:Program}{E:Nat->TI}{O:Bs}{β:Loc}{w:World}
def lC(E:Nat->TI)(s:St):List ResultVar->{K:List AV->Prop}->Box K->Prop
 |[],K,_=>K []
 |.tmp t::r,K,_=>lC E s r (bx λvs=>K (s.f t::vs))
 |.cell a ty::r,K,_=>tq (E ty) s (s.f a) (bx λv=>lC E s r (bx λvs=>K (v::vs)))
def nl(hT:bb P E){al:Nat}{s:St}{a:Act}(V:Rel O al s β a w):
  ∀(rs:List ResultVar){K:List AV->Prop}{k:Box K},lC E s rs k->∃vs j,(∀g:ResultVar->Sem Value,(∀t,g (.tmp t)=pure (a.tmps.getD t undef))->(∀x t,g (.cell x t)=do loadVar t (<-asAddr (a.tmps.getD x undef)))->(rs.mapM g).run P w=.ok vs w)/\K j/\aH O β s.gen s.obj w j vs
 |[],K,k,h=>⟨[],[],λ_ _ _=>by simp,h,by simp only[aH]⟩
 |.tmp t::r,K,k,h=>by
   obtain⟨vs,j,U,d,e⟩:=nl hT V r h;refine⟨_::vs,_::j,λg hg c=>?_,d,by simp only[aH];exact⟨_,_,rfl,V.f t,e⟩⟩;simp only[O7,Sem.run_bind,hg,Sem.run_pure,Result.andThen_ok,U g hg c]
 |.cell x ty::r,K,k,h=>by
   unfold lC at h;obtain⟨y,Y,J,l,b⟩:=sf hT V h (V.f x);obtain⟨vs,j,U,d,e⟩:=nl hT V r J;refine⟨Y::vs,y::j,λg hg c=>?_,d,by simp only[aH];exact⟨_,_,rfl,b,e⟩⟩;have hl:=l w .refl
   have m:(g (.cell x ty)).run P w=.ok Y w:=by
    rw[c];unfold Instr.loadAt at hl;cases i:a.tmps.getD x undef with
    |pointer p=>
      rw[i]at hl;cases p with
      |some p=>simpa[Instr.sureAddr,asAddr]using hl
      |none=>simp[Instr.sureAddr]at hl
    |_=>rw[i]at hl;simp[Instr.sureAddr]at hl
   simp only[O7,Sem.run_bind,m,Sem.run_pure,Result.andThen_ok,U g hg c]
def pack:List AV->AV
 |[t]=>t
 |a=>.tup a
def lD:List Value->Value
 |[v]=>v
 |vs=>.tuple vs.toArray
def yf{ob:Obs}:∀{j:List AV}{vs:List Value},aH O β g ob w j vs->ag O β g ob w (pack j) (lD vs)
 |[],vs,h=>by simp only[aH]at h;subst h;simp only[pack,lD,ag,aH];exact⟨[],rfl,rfl⟩
 |[t],vs,h=>by simp only[aH]at h;obtain⟨u,a,rfl,U,rfl⟩:=h;exact U
 |t::d::e,vs,h=>by
   have b:=h;simp only[aH]at h;obtain⟨u,a,rfl,U,f,c,rfl,i,k⟩:=h;simp only[pack,lD,ag];exact⟨_,rfl,b⟩
def eG(hT:bb P E){al:Nat}{s:St}{a:Act}(V:Rel O al s β a w){rs:List ResultVar}(c:fn.results=rs.toArray){K:List AV->Prop}{k:Box K}(h:lC E s rs k):
  ∃v j,(results fn a.tmps).run P w=.ok v w/\K j/\ag O β s.gen s.obj w (pack j) v/\∃vs,v=lD vs/\aH O β s.gen s.obj w j vs:=by
 obtain⟨vs,j,U,d,b⟩:=nl hT V rs h;refine⟨lD vs,j,?_,d,yf b,vs,rfl,b⟩;unfold results;simp only[c,R5,Sem.run_bind,Sem.run_map];rw[U _ (λ_=>rfl) (λ_ _=>rfl)];simp only[Result.andThen_ok,Sem.run_pure]
 match vs with
 |[]=>simp[lD]
 |[t]=>simp[lD]
 |t::e::f=>simp[lD]
def yg(E:Nat->TI)(rs:List ResultVar)(R:AV->(Nat->Nat)->Obs->Prop):Exit->St->Prop
 |.normal,s|.ret,s=>∃W,ae s W/\lC E W rs (bx λj=>R (pack j) W.gen W.obj)
 |_,_=>False
def NJ(B:Nat)(hT:bb P E)(y:P.follows .mixedOrders=T){f:FuncId}{c:Code}(hf:P.funcs[f]?=S fn)(s:fn.body=S c)(H:(fn.name == "runtime.NumGoroutine")=F)
 (rs:List ResultVar)(K:fn.results=rs.toArray)(X:codeOk fn.ntmps c=T){xs:List AV}(m:z xs<=fn.ntmps){ob:Obs}{R:AV->(Nat->Nat)->Obs->Prop}
 (h:wpC (spB P B) E c (bx (yg E rs R)) ⟨cW xs,g,ob⟩):fX P f xs g ob R:=by
 refine⟨⟨fn,hf,by rw[s];rfl,H⟩,λO al β a t w vs bz hv=>?_⟩;refine calls_of_wp hf s ?_;have hl:=hv.len
 have V:Rel O fn.ntmps ⟨cW xs,g,ob⟩ β {tmps:=vs.toArray++Array.replicate (fn.ntmps-vs.toArray.size) undef,defers:=[]} w:=by
  refine⟨rfl,by simp;omega,λi=>?_,bz.obj,bz.inj,bz.base⟩;simp only[cW];cases I:xs[i]? with
  |some x=>
    exact k6
  |none=>
    exact UL
 refine wp_mono (eA (B:=B) hT y c X V h) (λe o G Z=>?_);obtain⟨W,A,n,q,ht⟩:=Z
 have k:yg E rs R .ret W->∃v,(results fn o.tmps).run P G=.ok v G/\∃u r p Y A,Ending.returned v=.returned u/\R r p Y/\ag O A p Y G r u/\
   (∀id d,Y id=S d->cU O A p Y G (p id) d (A id))/\(∀id L a o,(Y id).isSome=T->(Y L).isSome=T->A id=S a->A L=S o->a.block=o.block->id=L)/\
   Tr O β ⟨t,g,ob⟩ w A ⟨t,p,Y⟩ G:=by
  rintro⟨s2,b4,hR⟩;obtain⟨ad,Q,b⟩:=b4 O fn.ntmps A o G q;have J:=ht.trans b;obtain⟨v,j,U,h2,h3,_⟩:=eG hT Q K hR;exact⟨v,U,v,_,_,_,ad,rfl,h2,h3,Q.obj,Q.inj,⟨J.size,J.old,J.keep,J.os⟩⟩
 cases e with
 |normal=>exact⟨q.defers,k n⟩
 |ret=>exact⟨q.defers,k n⟩
 |exit id=>exact n.elim
 |goto l=>exact n.elim
 |panic ch=>exact n.elim
 |outgrown=>exact n.elim
def ql(s:St):List AV->AV->Prop
 |[t],r=>kR s t r
 |b,r=>∃a,dC s b a/\r=.tup a
def ql.rep{al:Nat}{s:St}{a:Act}(V:Rel O al s β a w):∀{ts:List AV}{r:AV}{vs:List Value},ql s ts r->aH O β s.gen s.obj w ts vs->RV (Own O w) w r (lD vs):=by
 have b:∀(ts e:List AV)(vs:List Value),dC s ts e->aH O β s.gen s.obj w ts vs->RVs (Own O w) w e vs:=by
  intro ts
  induction ts with
  |nil=>intro e vs h d;simp only[dC]at h;simp only[aH]at d;subst h d;simp only[RVs]
  |cons t ts j=>
    intro e vs h d;simp only[dC]at h;simp only[aH]at d;obtain⟨r,o,rfl,U,f⟩:=h;obtain⟨u,i,rfl,k,l⟩:=d;simp only[RVs];exact⟨_,_,rfl,U.rep V k,j _ _ f l⟩
 intro ts r vs h d
 match ts,h with
 |[],⟨e,U,f⟩=>
   subst f;have:=b _ _ _ U d;simp only[aH]at d;subst d;simp only[RV,lD];exact⟨_,rfl,this⟩
 |[t],h=>
   simp only[aH]at d;obtain⟨u,i,rfl,U,rfl⟩:=d;exact kR.rep V h U
 |t::m::ts,⟨e,U,f⟩=>
   subst f;have:=b _ _ _ U d;simp only[aH]at d;obtain⟨u,i,rfl,_,n,c,rfl,_,_⟩:=d;simp only[RV,lD];exact⟨_,rfl,this⟩
def tH(E:Nat->TI)(rs:List ResultVar)(R:AV->Prop):Exit->St->Prop
 |.normal,s|.ret,s=>lC E s rs (bx λj=>∃r,ql s j r/\R r)
 |_,_=>False
def yh(hT:bb P E)(t:P.follows .mixedOrders=T){f:FuncId}{c:Code}(hf:P.funcs[f]?=S fn)(hb:fn.body=S c)(B:(fn.name == "runtime.NumGoroutine")=F)
 (rs:List ResultVar)(H:fn.results=rs.toArray)(Q:codeOk fn.ntmps c=T){args:List AV}(m:z args<=fn.ntmps){R:AV->Prop}
 (h:∀g,wpC (sp P) E c (bx (tH E rs R)) ⟨cW args,g,λ_=>N⟩):ax P f args R:=by
 refine⟨⟨fn,hf,by rw[hb];rfl,B⟩,λJ w vs hJ hv=>?_⟩;refine calls_of_wp hf hb ?_
 have X:∀(l:List AV)(vs:List Value),RVs J w l vs->z vs=z l:=by
  intro l
  induction l with
  |nil=>intro vs h;simp only[RVs]at h;subst h;rfl
  |cons x l o=>intro vs h;simp only[RVs]at h;obtain⟨u,p,rfl,_,h⟩:=h;simp[o p h]
 have hl:=X _ _ hv
 let K:Nat->Prop:=J
 have V:Rel ⟨w.heap.size,K⟩ fn.ntmps ⟨cW args,λ_=>0,λ_=>N⟩ (λ_=>N) {tmps:=vs.toArray++Array.replicate (fn.ntmps-vs.toArray.size) undef,defers:=[]} w:=by
  refine⟨rfl,by simp;omega,λi=>?_,λid q ho=>Xt,λid L a s ho=>Xt,l7 _⟩
  have al:∀(l:List AV)(vs:List Value),RVs J w l vs->∀(i:Nat)(x:AV),l[i]?=S x->∃v,vs[i]?=S v/\RV J w x v:=by
   intro l
   induction l with
   |nil=>intro vs _ i x h;simp at h
   |cons y l o=>
     intro vs h i x I;simp only[RVs]at h;obtain⟨u,p,rfl,U,h2⟩:=h;cases i with
     |zero=>simp at I;subst I;exact⟨u,rfl,U⟩
     |succ i=>simpa using o p h2 i x Wk
  simp only[cW];cases I:args[i]? with
  |some x=>
    exact oc
  |none=>
    exact UI
 refine wp_mono (eA hT t c Q V (h _)) (λe s G Y=>?_);obtain⟨W,A,n,av,ht⟩:=Y
 have k:tH E rs R .ret W->∃v,(results fn s.tmps).run P G=.ok v G/\∃r,R r/\RV (Own ⟨w.heap.size,K⟩ G) G r v:=by
  intro n;obtain⟨v,j,U,⟨r,h2,h3⟩,_,d,rfl,Z⟩:=eG hT av H n;exact⟨_,U,r,h3,h2.rep av Z⟩
 cases e with
 |normal=>
   obtain⟨v,U,r,h2,h3⟩:=k n;exact zs
 |ret=>
   obtain⟨v,U,r,h2,h3⟩:=k n;exact zs
 |exit id=>exact n.elim
 |goto l=>exact n.elim
 |panic ch=>exact n.elim
 |outgrown=>exact n.elim
end
@[go_sem]def Qy:=A0 @lC.eq_1 (A0 @lC.eq_2 (A0 @lC.eq_3 (A0 @tH.eq_2 @ql.eq_1)))
def dN{A:Type}{s:St}{id g sz n:Nat}{cells:List C}(hg:s.gen id=g)(l:List A)(enc:A->List D)(ho:s.obj id=S cells)(Z:cells=l.flatMap (λa=>(enc a).map .d))(k:∀a∈l,∀x∈enc a,ge x=x)(f:∀a∈l,z (enc a)=sz)(hl:z l=n):
  Frz s (.osl id g sz 0 n) (.sl (l.map enc)):=by
 have i:cells=(l.map enc).flatten.map .d:=by rw[Z];clear k f hl Z ho;induction l with|nil=>rfl|cons a l m=>simp[m]
 have t:z cells=n*sz:=by
  rw[i,j6];clear i Z k ho;subst hl
  induction l with
  |nil=>simp
  |cons a l m=>
    simp only[l9,E8,j7,j9,f a a8,m (λb q=>f b (by simp[q]))];rw[E7];omega
 refine .osl hg ho a7 Wf (λe o=>by obtain⟨a,p,rfl⟩:=E3.1 o;exact f a p) (λj=>(cells[0+j]?).getD (.d .nsl)) (λj x I=>?_) (λj x I=>?_)
 .rw[i,C7,x8,I];rfl
 .rw[i,C7,x8,I]
  simp only[z7,A5]
  have L:ge x=x:=by
   have r:=l6 I;obtain⟨e,o,c⟩:=List.mem_flatten.1 r;obtain⟨a,p,rfl⟩:=E3.1 o;exact k a p x c
  have:=Frz.d (s:=s) x
  rwa [L]at this
end
end
section
section
structure mX (O:Bs) (β:Loc) (ob:Obs) (k:Nat) (w G:World):Prop where
 size:G.heap.size=w.heap.size
 os:G.os=w.os/\G.output=w.output
 same:∀b,G.heap[b]?=w.heap[b]?\/(k<=b/\Imm O β ob w b/\(∃x,w.heap[b]?=some (.deferred x))/\∃x,G.heap[b]?=some (.deferred x))
section
variable{P:Program}{E:Nat->TI}{O:Bs}{β:Loc}{g:Nat->Nat}{ob:Obs}{k:Nat}{w G:World}
def mX.refl:mX O β ob k w w:=⟨rfl,⟨rfl,rfl⟩,λ_=>.inl rfl⟩
def mX.trans{H:World}(h:mX O β ob k w G)(q:mX O β ob k G H):mX O β ob k w H:=by
 refine⟨q.size.trans h.size,⟨q.os.1.trans h.os.1,q.os.2.trans h.os.2⟩,λb=>?_⟩;rcases h.same b with e|⟨i,j,l,m⟩
 .rcases q.same b with f|⟨n,d,c,a⟩
  .exact .inl (f.trans e)
  .exact .inr ⟨n,by unfold Imm at *;rw[h.size]at d;exact d,by rw[<-e];exact c,a⟩
 .rcases q.same b with f|⟨n,d,c,a⟩
  .exact .inr ⟨i,j,l,by rw[f];exact m⟩
  .exact .inr ⟨i,j,l,a⟩
def mX.cell(h:mX O β ob k w G){a:Addr}{v:Value}(Z:w.cell? a=S v):G.cell? a=S v:=by
 rcases h.same a.block with e|⟨_,_,⟨x,e⟩,_⟩
 .rw[lj e];exact Z
 .simp[World.cell?,e]at Z
def mX.imm(h:mX O β ob k w G){b:Nat}(a:Imm O β ob w b):Imm O β ob G b:=by unfold Imm at *;rw[h.size];exact a
def ce.shut{J K:Nat->Prop}{x:D}{v:Value}(h:ce J w x v)(o:∀b,J b->K b)(Z:∀a v,w.cell? a=S v->G.cell? a=S v):ce K G x v:=by
 induction h with
 |bool b=>exact .bool b
 |int k n=>exact .int k n
 |str s=>exact .str s
 |nsl=>exact .nsl
 |nilp=>exact .nilp
 |nilf=>exact .nilf
 |nili=>exact .nili
 |nilm=>exact .nilm
 |fn f=>exact .fn f
 |yld l=>exact .yld l
 |sl0=>exact .sl0
 |sl r p c az d V m=>exact .sl r p (λh=>o _ (c h)) az (λi e q j x I=>Z _ _ (d i e q j x I)) m
 |iptr r c d V m=>exact .iptr r (λh=>o _ (c h)) (λj x I=>Z _ _ (d j x I)) m
def jU.shut(h:mX O β ob k w G){c:PC}{v:Value}(V:jU O β g ob w c v):jU O β g ob G c v:=by
 cases c with
 |d x=>exact ce.shut V (λ_=>h.imm) (λ_ _=>h.cell)
 |ptr id g1 off=>exact V
def ay.shut(h:mX O β ob k w G){c:C}{v:Value}(V:ay O β g ob w c v):ay O β g ob G c v:=by
 cases c with
 |d x=>exact ce.shut V (λ_=>h.imm) (λ_ _=>h.cell)
 |osl id g1 sz off len=>
   obtain⟨U,j,l⟩:=V;refine⟨U,j,λhg ho=>?_⟩;have b:=l hg ho;cases p:β id with
   |none=>rw[p]at b;exact b
   |some a=>
     rw[p]at b;obtain⟨y,m⟩:=b;refine⟨y,?_⟩;rcases m with⟨r,A,B,H⟩|m
     .refine .inl ⟨r,A,B,λarr el fr t=>?_⟩
      rcases h.same a.block with e|⟨_,_,_,⟨x,e⟩⟩
      .exact H arr el fr (by rw[<-e];exact t)
      .rw[e]at t;cases t
     .exact .inr m
 |ptr id g1 off=>exact V
 |clo f q=>
   obtain⟨vs,U,j,l⟩:=V;exact⟨vs,U,j,λi pc I=>let ⟨u,hu,V⟩:=l i pc I;⟨u,hu,V.shut h⟩⟩
 |mp id g1 J=>exact V
 |lsl n=>exact V
 |raw o=>exact V
def ly.shut(h:mX O β ob k w G){cs:List C}{vs:Array Value}(V:ly O β g ob w cs vs):ly O β g ob G cs vs:=
 ⟨V.1,λi c Z=>let ⟨u,hu,V⟩:=V.2 i c Z;⟨u,hu,V.shut h⟩⟩
mutual
theorem ag.shut(h:mX O β ob k w G):(x:AV)->{v:Value}->ag O β g ob w x v->ag O β g ob G x v
 |.one _,_,V=>by simp only[ag]at V|-;exact ay.shut h V
 |.agg _,_,V=>by simp only[ag]at V|-;obtain⟨vs,U,a⟩:=V;exact⟨vs,U,a.shut h⟩
 |.tup b,_,V=>by simp only[ag]at V|-;obtain⟨vs,U,a⟩:=V;exact⟨vs,U,aH.shut h b a⟩
 |.junk,_,_=>by simp only[ag]
 |.exact _,_,V=>by simp only[ag]at V|-;exact V
theorem aH.shut(h:mX O β ob k w G):(x:List AV)->{v:List Value}->aH O β g ob w x v->aH O β g ob G x v
 |[],_,V=>by simp only[aH]at V|-;exact V
 |t::a,_,V=>by simp only[aH]at V|-;obtain⟨u,b,U,c,d⟩:=V;exact⟨u,b,U,ag.shut h t c,aH.shut h a d⟩
end
def Rel.shut{al:Nat}{s:St}{a:Act}(V:Rel O al s β a w)(h:mX O β s.obj k w G):Rel O al s β a G:=by
 refine⟨V.defers,V.size,λi=>ag.shut h _ (V.f i),λid b ho=>?_,V.inj,by rw[h.size];exact V.base⟩;have U:=V.obj id b ho;cases p:β id with
 |none=>rw[p]at U;exact U
 |some d=>
   rw[p]at U
   have A:G.heap[d.block]?=w.heap[d.block]?:=by
    rcases h.same d.block with e|⟨_,e,_⟩
    .exact e
    .exact absurd rfl (e.2.2 id d VW p)
   cases l:d.spot with
   |none=>
     obtain⟨y,arr,el,H,J,m,t,K,L⟩:=U.cells l;exact .ofCells l ⟨y,arr,el,H,J,by rw[A];exact m,t,K,λj c Z=>let ⟨v,Q,V⟩:=L j c Z;⟨v,Q,V.shut h⟩⟩
   |some kd=>
     obtain⟨y,⟨X,n,m,t⟩|⟨r,o,m,t⟩⟩:=U.map l
     .exact .ofMap l ⟨y,.inl ⟨X,n,by rw[A];exact m,t.mono λ_ _ q=>by
       unfold jc at q|-;split
       .rename_i B
        rw[l8 B]at q;exact ay.shut h q
       .rename_i B
        rw[j8 B]at q;obtain⟨ds,vs,Y,q2,q3,q4⟩:=q;exact⟨ds,vs,Y,q2,q3,λi x I=>let ⟨u,hu,V⟩:=q4 i x I;⟨u,hu,ce.shut V (λ_=>h.imm) (λ_ _=>h.cell)⟩⟩⟩⟩
     .exact .ofMap l ⟨y,.inr ⟨r,o,m,by rw[A];exact t⟩⟩
def Mk.put{D:Nat}{o:Obj}:∀{ds:List Deferred},Mk O β ob w k ds->(∀a∈ds,a≠{target:=.collected D,args:=#[]})->Mk O β ob (w.putObj D o) k ds
 |[],_,_=>trivial
 |d::ds,hm,bz=>by
   obtain⟨⟨E,U,b,c,e,f⟩,V⟩:=hm;have i:E≠D:=λj=>bz d a8 (by rw[U,j]);exact⟨⟨E,U,b,by unfold Imm at *;simpa using c,by rw[World.putObj_heap_other i];exact e,f⟩,V.put (λa l=>bz a (by simp[l]))⟩
def qn{fn:Func}{a:Array Value}{R:Ending->World->Prop}:∀{ds:List Deferred}{w:World},Mk O β ob w k ds->
  (∀t,mX O β ob k w t->∃v,(results fn a).run P t=.ok v t/\R (.returned v) t)->LeavesInM (fen N) 0 P fn a R ds .returning w
 |[],w,_,h=>h w .refl
 |d::ds,w,hm,h=>by
   obtain⟨⟨D,U,i,c,e,j⟩,V⟩:=hm;refine⟨a8,.inl ⟨D,_,by rw[U],run_takeDeferred e,?_⟩⟩;have l:D<w.heap.size:=c.1
   have p:mX O β ob k w (w.putObj D (.deferred N)):=⟨a8,⟨rfl,rfl⟩,λb=>by
    by_cases f:b=D
    .subst f
     exact .inr ⟨i,c,⟨_,e⟩,⟨N,World.putObj_heap_same l⟩⟩
    .exact .inl (World.putObj_heap_other f)⟩
   exact qn (V.put (λm n=>by rw[<-U];exact j m n)) (λt o=>h t (p.trans o))
end
end
section
section
variable{P:Program}{E:Nat->TI}{O:Bs}{β:Loc}{w:World}
end
end
end
section
attribute[local congr]ite_cc
section
variable{s:St}{d:List Nat}{R:AV->(Nat->Nat)->Obs->Prop}
def nr(p:Nat->Bool):ae s ⟨s.f,s.gen,λi=>if p i=T then N else s.obj i⟩:=by
 exact u6
def bH(p:Nat->Bool)(h:R (mJ s.f d) s.gen (λi=>if p i=T then N else s.obj i)):xY d R .normal s:=⟨_,nr p,h⟩
def iE(p:Nat->Bool)(h:R (mJ s.f d) s.gen (λi=>if p i=T then N else s.obj i)):xY d R .ret s:=⟨_,nr p,h⟩
@[go_sem]def Qz:xO .nilFunc=.one (.d .nilf):=B7 rfl rfl
end
end
section
section
variable{s:St}{o:Oper}{K:St->Prop}{f:FuncId}{args:Array Operand}{tys:Array TypeId}{R:AV->Prop}{k:Box K}
section
variable{P:Program}{E:Nat->TI}{O:Bs}{rd:Option Nat}{i:St->Loc->List Deferred->World->Prop}{l:ff}{m:Nat}
def aw{B:(Exit->St->Prop)->St->Prop}{b:Box B}{Q:Exit->St->Prop}{q:Box Q}(I:Nat->St->Prop)(n:Nat)(c:I n s)
 (V:∀n f g a,I n ⟨f,g,a⟩->B (iQ (bx λW=>∃j d,j<n/\(spF P rd O i m l).vs W d/\I j d) q) ⟨f,g,a⟩):ng (spF P rd O i m l) b q s:=
 ⟨I,⟨n,s,ae.refl s,c⟩,λn s e=>V n s.f s.gen s.obj e⟩
def ah{I:Nat->St->Prop}{n:Nat}(j:Nat)(h:j<n)(a:I j s):∃j d,j<n/\(spF P rd O i m l).vs s d/\I j d:=⟨j,s,h,ae.refl s,a⟩
def jr(a6:aY O i)(ho:o.op=.call ⟨.value (.func f),args,tys⟩)
 (a:ax P f (args.toList.map s.ev) R)(hd:(args.toList.map s.ev).all eH=T)(b:∀r,R r->K (s.put o.dst r)):bm (spF P rd O i m l) o s k:=
 yi a6 W6 (vH (B:=0) (k:=k) ho a hd b)
def dj(a6:aY O i)(ho:o.op=.call ⟨.value (.func f),args,tys⟩){R:AV->(Nat->Nat)->Obs->Prop}
 (b:fX P f (args.toList.map s.ev) s.gen s.obj R)(c:∀r a Y,R r a Y->K (St.put ⟨s.f,a,Y⟩ o.dst r)):bm (spF P rd O i m l) o s k:=
 yi a6 W6 (ck (B:=0) (k:=k) ho b c)
def yk{B:Nat}{t:Nat}(ho:o.op=.call ⟨.value (.tmp t),args,tys⟩)(hf:s.f t=.one (.d (.fn f)))
 (hp:ax P f (args.toList.map s.ev) R)(hd:(args.toList.map s.ev).all eH=T)(g:∀r,R r->K (s.put o.dst r)):bm (spB P B) o s k:=by
 refine⟨λW=>∃r,R r/\W=s.put o.dst r,?_,λ_⟨r,V,e⟩=>e▸g r V⟩;intro O al β a w V c next Q hn;have hv:=V.f t;rw[hf]at hv;simp only[ag,ay]at hv;have hv:a.tmps.getD t undef=.func (.func f) #[] #[]:=by generalize a.tmps.getD t undef=v at hv;cases hv;rfl
 have i:(execOp a.eval o).run P w=.ok (.enter f (args.map a.eval)) w:=by
  exact lv
 unfold Oper.wp;rw[i];exact hV
def rk(a6:aY O i){t:Nat}(ho:o.op=.call ⟨.value (.tmp t),args,tys⟩)(hf:s.f t=.one (.d (.fn f)))
 (a:ax P f (args.toList.map s.ev) R)(hd:(args.toList.map s.ev).all eH=T)(b:∀r,R r->K (s.put o.dst r)):bm (spF P rd O i m l) o s k:=
 yi a6 W6 (yk (B:=0) (k:=k) ho hf a hd b)
end
section
variable{ar:Sp}{E:Nat->TI}
end
end
end
section
open Go.ChangeShapes Go.WideShapes Go.ChangeAt Go.RowKit
section
variable{H:Type}{enc:TypeId×Value->H}
end
end
section
section
abbrev cF:=Nat->Option Obj
def sJ(q:Nat)(o:cF)(w:World):Prop:=q<w.heap.size/\∀b,b<=q->w.heap[b]?=o b
variable{o:cF}{f:FuncId}{s:St}{w:World}{R:AV->Prop}{l:St->Loc->List Deferred->World->Prop}{K:St->Prop}{q a:Nat}{P:Program}{args:List AV}{tys:Array TypeId}{k:Box K}
def sJ.lt{q:Nat}(h:sJ q o w):q<w.heap.size:=h.1
def sJ.down(hl:q<=a)(h:sJ a o w):sJ q o w:=⟨G3 hl h.1,λb c=>h.2 b (C8 c hl)⟩
def sg(O:Bs)(q:Nat)(o:cF)(w:World):Prop:=(q<O.B/\∀b,b<=q->O.I b)/\sJ q o w
def bP(P:Program)(q:Nat)(o:cF)(f:FuncId)(args:List AV)(R:AV->Prop):Prop:=
 DJ P f/\∀(J:Nat->Prop)(w:World)(vs:List Value),sJ q o w->(∀b,J b->b<w.heap.size)->RVs J w args vs->
  Calls P f vs.toArray w λe G=>∃v r,e=.returned v/\R r/\w.heap.size<=G.heap.size/\(∀b,b<w.heap.size->G.heap[b]?=w.heap[b]?)/\(G.os=w.os/\G.output=w.output)/\RV (λb=>b<G.heap.size/\(b<w.heap.size->J b\/b<=q)) G r v
def ax.toG{q:Nat}(h:ax P f args R):bP P q o f args R:=
 ⟨h.1,λJ w vs _ U c=>(h.2 J w vs U c).mono λ_ _⟨v,r,d,e,g,i,j,l⟩=>⟨v,r,d,e,g,i,j,RV.mono (λ_ b=>⟨⟨b.1,λhl=>.inl (b.2 hl)⟩,rfl⟩) r l⟩⟩
def Fk(P:Program)(q:Nat)(o:cF)(f:FuncId)(xs:List AV)(g:Nat->Nat)(ob:Obs)(R:AV->(Nat->Nat)->Obs->Prop):Prop:=
 DJ P f/\∀(O:Bs)(al:Nat)(d:Loc)(a:Act)(h:Nat->AV)(w:World)(vs:List Value),q<O.B->sg O q o w->Rel O al ⟨h,g,ob⟩ d a w->aH O d g ob w xs vs->
  Calls P f vs.toArray w λe G=>∃v r c Y A,e=.returned v/\R r c Y/\ag O A c Y G r v/\
   (∀id b,Y id=S b->cU O A c Y G (c id) b (A id))/\(∀id L a i,(Y id).isSome=T->(Y L).isSome=T->A id=S a->A L=S i->a.block=i.block->id=L)/\
   Tr O d ⟨h,g,ob⟩ w A ⟨h,c,Y⟩ G
def Fl(q:Nat)(o:cF)(O:Bs)(y:Loc)(H:St)(u:World):St->Loc->List Deferred->World->Prop:=λs β ds w=>(q<O.B/\sg O q o w)/\Rm O y H u s β ds w
section
variable{P:Program}{E:Nat->TI}{O:Bs}{rd:Option Nat}{q:Nat}{o:cF}{Ψ:ff}{B0:Nat}{y:Loc}{H:St}{u:World}
def aE:aY O (Fl q o O y H u):=λ_ _ _ _ _ _ _ h c=>⟨⟨h.1.1,h.1.2.1,G9 h.1.2.2.1 c.size,λb d=>by rw[c.old b (G3 d h.1.1)];exact h.1.2.2.2 b d⟩,Dt _ _ _ _ _ _ _ h.2 c⟩
def tN{al:Nat}{β:Loc}{a:Act}(V:Rel O al s β a w)(d:sg O q o w){b:Nat}(e:b<=q):Imm O β s.obj w b:=by
 refine⟨G3 e d.2.1,λ_=>d.1.2 b e,λid g ho p i=>?_⟩;obtain⟨c,Z⟩:=Mj.1 ho;have h:=V.obj id c Z;rw[p]at h;have U:=h.block.1;have j:=d.1.1;omega
def mf(a6:aY O l)(hG:∀s β ds w,l s β ds w->sg O q o w){op:Oper}{args:Array Operand}(ho:op.op=.call ⟨.value (.func f),args,tys⟩)
 (hp:bP P q o f (args.toList.map s.ev) R)(hd:(args.toList.map s.ev).all eH=T)(d:∀r,R r->K (s.put op.dst r)):bm (spF P rd O l B0 Ψ) op s k:=by
 refine⟨λW=>∃r,R r/\W=s.put op.dst r,?_,λ_⟨r,V,e⟩=>e▸d r V⟩;intro al β a ds w V X c next Q hn _;have g:aM op=T:=by simp[aM,ho]
 refine gp g ?_;unfold Oper.wp;rw[jE ho hp.1 w];simp only[Oper.upon];exact hH
def rm(a6:aY O l)(u:∀s β ds w,l s β ds w->sg O q o w)(hT:bb P E){dst:Option Tmp}{t n e gi:Nat}{g:Operand}{ty:TypeId}{ps:String}{p:Array Edge}{gd:Option (Nat×Bool)}
 (r:(E t).desc=.array n e)(y:okD (E e).desc=T)(A:gi<=q){kd:IntKind}{i:Nat}(c:s.ev g=iv kd i)(B:i<n){cs:List D}(H:∀(j:Nat)(x:D),cs[j]?=S x->kB x=T)
 (m:∀w:World,sJ q o w->∀(j:Nat)(x:D),cs[j]?=S x->w.cell? ⟨gi,i*(E e).size+j,N⟩=S (dV x))(U:K (s.put dst (.one (.d (.iptr cs))))):
  bm (spF P rd O l B0 Ψ) ⟨dst,.indexAddr t (.global gi) g,ty,ps,p,gd⟩ s k:=by
 refine⟨λW=>W=s.put dst (.one (.d (.iptr cs))),λal β a ds w V X hd next Q hn _=>?_,λ_ e=>e▸U⟩;refine gp rfl ?_;have b:=u _ _ _ _ X;have J:=V.ev g;rw[c]at J;simp only[ag,ay]at J;have J:=J.inv_int;have L:=(hT t (by rw[r];rfl)).desc;rw[r]at L;have b2:=hT e y
 have cf:(execOp a.eval ⟨dst,.indexAddr t (.global gi) g,ty,ps,p,gd⟩).run P w=.ok (.value (.pointer (S ⟨gi,i*(E e).size,N⟩))) w:=by
  simp[execOp,J,show a.eval (.global gi)=.pointer (S ⟨gi,0,N⟩)from rfl,Instr.indexAt,asIntOf,run_underlying L,B,bB b2,dO,Instr.sureAddr]
 have av:=V.put hd (x:=.one (.d (.iptr cs))) (v:=.pointer (S ⟨gi,i*(E e).size,N⟩)) (by
  simp only[ag,ay];refine .iptr (λj=>dV (cs.getD j .nsl)) (λ_=>tN V b A) (λj x I=>?_) (λj x I=>?_)
  .rw[m w b.2 j x I];simp[ES,I]
  .rw[show cs.getD j .nsl=x by simp[ES,I]];exact ce.of_plain (H j x I))
 exact vi
def Dy(a6:aY O l)(d:∀s β ds w,l s β ds w->q<O.B/\sg O q o w){op:Oper}{args:Array Operand}(ho:op.op=.call ⟨.value (.func f),args,tys⟩){R:AV->(Nat->Nat)->Obs->Prop}
 (b:Fk P q o f (args.toList.map s.ev) s.gen s.obj R)(g:∀r g' Y,R r g' Y->K (St.put ⟨s.f,g',Y⟩ op.dst r)):bm (spF P rd O l B0 Ψ) op s k:=by
 refine⟨λW=>∃r g' Y,R r g' Y/\W=St.put ⟨s.f,g',Y⟩ op.dst r,?_,λ_⟨r,g',Y,V,e⟩=>e▸g r g' Y V⟩;intro al β a ds w V X c next Q hn _;have i:aM op=T:=by simp[aM,ho]
 refine gp i ?_;unfold Oper.wp;rw[jE ho b.1 w];simp only[Oper.upon];obtain⟨j,m⟩:=d _ _ _ _ X;have:=b.2 O al β a s.f w (args.toList.map a.eval) j m V (iS V _);rw[show (args.toList.map a.eval).toArray=args.map a.eval from Jf a8]at this;refine this.mono λe G⟨v,r,g',Y,A,he,hR,hv,U,h2,h3⟩=>?_;exact S4
end
def UV(q:Nat)(o:cF)(O:Bs)(y:Loc)(H:St)(u:World):St->Loc->List Deferred->World->Prop:=λs β ds w=>(q<O.B/\sg O q o w)/\ds=[]/\Tr O y H u β s w
section
variable{P:Program}{E:Nat->TI}{q:Nat}{o:cF}
def lE{O:Bs}{y:Loc}{H:St}{u:World}:aY O (UV q o O y H u):=λ_ _ _ _ _ _ _ h c=>⟨⟨h.1.1,h.1.2.1,G9 h.1.2.2.1 c.size,λb d=>by rw[c.old b (G3 d h.1.1)];exact h.1.2.2.2 b d⟩,h.2.1,h.2.2.trans c⟩
end
def bP.up(hl:q<=a)(h:bP P q o f args R):bP P a o f args R:=
 ⟨h.1,λJ w vs c U d=>(h.2 J w vs (c.down hl) U d).mono λ_ _⟨v,r,e,g,i,j,l,m⟩=>⟨v,r,e,g,i,j,l,RV.mono (λ_ b=>⟨⟨b.1,λn=>(b.2 n).imp id (λh=>C8 h hl)⟩,rfl⟩) r m⟩⟩
end
section
variable{a:Act}{c:Code}{s:St}{K:Act->Prop}{ds:List Deferred}{Q:Exit->Act->World->Prop}{k:List Item}{cs:List Frame}
section
variable{P:Program}{E:Nat->TI}{O:Bs}{w:World}{rd:Option Nat}{Φ:St->Loc->List Deferred->World->Prop}{Ψ:ff}{B:Nat}{ops:Array Oper}
def tO(b:a.defers=[])(d:Option Nat)(v:Value):(a.put d v).defers=[]:=by cases d<;>exact b
def wU{o:Oper}(b:a.defers=[])(h:o.still P a w K):o.still P a w (λd=>d.defers=[]/\K d):=by
 unfold Oper.still at *;generalize (execOp a.eval o).run P w=r at *;cases r with
 |ok n G=>
   cases n<;>simp only[Oper.stillUpon]at h|-
   case enter f args=>obtain⟨U,v,Z,e⟩:=h;exact⟨U,v,Z,tO b _ _,e⟩
   all_goals exact⟨h.1,tO b _ _,h.2⟩
 |halt x G=>simp only[Oper.stillUpon]at h
def nv{i:Nat}{K':Act->World->Prop}{d:Exit->Act->World->Prop}(g:a.defers=[])(ad:ops.toList.all aM=T)(h:∀b,b.defers=[]->K b->K' {b with defers:=ds} w)(f:stOp P ops w i K a):
  wpOpIn (fen rd) 0 P ops d i K' {a with defers:=ds} w:=by
 unfold stOp at f;unfold wpOpIn;cases ho:ops[i]? with
 |none=>simp only[ho]at f|-;exact h _ g f
 |some o=>
   simp only[ho]at f|-
   have u:aM o=T:=y8.1 ad o (by
    obtain⟨m,e⟩:=ER.1 ho;rw[<-e];exact G8 m)
   by_cases l:Region.wanted o (yielded ops a.tmps)=T
   .rw[l8 l]at f|-
    exact gp u (Oper.wp_of_still (K':=λb G=>b.defers=[]/\K' {b with defers:=ds} G) (λb j=>⟨j.1,h b j.1 j.2⟩) (wU g f))
   .rw[j8 l]at f|-
    refine⟨λ_ _=>trivial,?_⟩;rw[pw];exact h _ (tO g _ _) f
def mN{n g:Nat}{ds:List Deferred}{L:Array Bool->Act->Prop}{d:Exit->Act->World->Prop}(ad:ops.toList.all aM=T)(j:∀b a,a.defers=[]->L b a->wpAnyIn (fen rd) 0 P .any ops d g b {a with defers:=ds} w):
  ∀(f:Nat)(b:Array Bool)(a:Act),a.defers=[]->wpAnyL P .any ops w n L f b a->wpAnyIn (fen rd) 0 P .any ops d (f+g) b {a with defers:=ds} w
 |0,b,a,e,h=>by rw[C7];exact j _ _ e h
 |f+1,b,a,e,h=>by
   rw[show f+1+g=(f+g)+1 by omega];exact⟨λl=>absurd l h.1,λi m=>nv e ad (λp r q=>mN ad j f _ p r q) (h.2 i m).2⟩
def lF{ds:List Deferred}{Q:Act->Prop}{d:Exit->Act->World->Prop}(ad:ops.toList.all aM=T)(f:∀a,a.defers=[]->Q a->d .normal {a with defers:=ds} w):∀(q:Nat)(b:Array Bool)(a:Act),a.defers=[]->
  wpAnyS P .any ops w Q q b a->wpAnyIn (fen rd) 0 P .any ops d q b {a with defers:=ds} w
 |0,_,_,e,h=>⟨h.1,f _ e h.2⟩
 |q+1,_,_,e,h=>⟨λg=>f _ e (h.1 g),λi j=>nv e ad (λl m=>lF ad f q _ l m) (h.2 i j)⟩
def nw{b2:Fence}{n:Nat}{d:Exit->Act->World->Prop}:∀(l:List Oper)(k:Nat)(b:Array Bool)(a:Act)(w:World),(∀j,l[j]?=ops[k+j]?)->
  Region.seqB .any ops (z l) k b=T->wpListIn b2 n P ops d l a w->wpAnyIn b2 n P .any ops d (z l) b a w
 |[],_,_,_,_,_,hB,h=>⟨by simpa[Region.seqB]using hB,h⟩
 |o::l,k,b,a,w,hl,hB,h=>by
   have f:ops[k]?=S o:=by simpa using(hl 0).symm
   simp only[j9,Region.seqB,s5,B4]at hB;refine⟨λU=>(by rw[hB.1]at U;cases U),λi e=>?_⟩;rw[hB.1]at e;have g:i=k:=by simpa using e
   subst g;have m:wpOpIn b2 n P ops d i (wpListIn b2 n P ops d l) a w:=by unfold wpOpIn;simp only[f];exact h
   exact wpOpIn_mono (λp G q=>nw l (i+1) _ p G (λj=>by have:=hl (j+1);simpa[C0,Sf 1 j]using this) hB.2 q) m
def Dz{o:Oper}(d:ee E o.op=T){K:St->Prop}{k:Box K}(h:opA (spF P rd O Φ B Ψ) E o s k):opA (spB P B) E o s k:=by
 obtain⟨g,op,ty,j,l,gd⟩:=o;cases op with
 |slice t x H n i=>cases i<;>first|exact h|(simp[ee]at d;done)
 |indexAddr t x p=>cases x<;>first|(simp[ee]at d;done)|exact h
 |makeFunc f=>cases f<;>first|exact h|(simp[ee]at d;done)
 |call c=>
   obtain⟨callee,e,tys⟩:=c;cases callee with
   |value f=>simp[ee]at d
   |invoke r m=>simp[ee]at d
   |builtin b=>cases b<;>first|exact h|(simp[ee]at d;done)
 |_=>first|exact h|(simp[ee]at d;done)
def fN(hT:bb P E){al:Nat}{β:Loc}{Q:Act->Prop}{K:St->Prop}{k:Box K}(c:List Oper):∀(l:List Oper){s:St}{a:Act},Rel O al s β a w->fk al l=T->l.all (ee E ·.op)=T->wpO (spF P rd O Φ B Ψ) E ops (l++c) s k->
  (∀W e,wpO (spF P rd O Φ B Ψ) E ops c W k->Rel O al W β e w->Tr O β s w β W w->Q e)->wpStill P ops w Q l a
 |[],s,a,V,_,_,h,hQ=>hQ s a h V Tr.refl
 |o::rest,s,a,V,ar,hp,h,hQ=>by
   obtain⟨hd,g⟩:=jD ar;simp only[E9,s5]at hp;rw[C3]at h;unfold wpO at h;unfold wpStill
   have u:∀{f:St},Rel O al f β a w->Tr O β s w β f w->opA (spF P rd O Φ B Ψ) E o f (bx λW=>wpO (spF P rd O Φ B Ψ) E ops (rest++c) W k)->o.still P a w (wpStill P ops w Q rest):=λ{f}bz J r=>by
    obtain⟨y,Y,U,A,H⟩:=qs hT bz hp.1 (Dz hp.1 r);unfold Oper.still;rw[A w .refl];refine⟨rfl,fN hT c rest (bz.put hd H) g hp.2 U (λW e k1 k2 k3=>hQ W e k1 k2 (J.trans (Tr.trans (Tr.same (St.put_gen _ _ _) (St.put_obj _ _ _) rfl) k3)))⟩
   cases hg:o.guard with
   |none=>
     exact UD
   |some p=>
     obtain⟨j,t⟩:=p;rw[hg]at h;simp only at h;obtain⟨d,m,h⟩:=aJ h;unfold lS at h;split at h
     .rename_i b i
      have hy:=V.yielded m i;have h:=jq h;have av:=V.reput i;by_cases hw:b=t
      .exact Uq
      .rw[j8 hw]at h
       rw[j8 VX];have L:=av.put hd (x:=uv) (v:=undef) cI;exact S1
     .rename_i i
      have hy:=V.yielded_u m i;rw[j8 WI];have L:=V.put hd (x:=uv) (v:=undef) cI;exact S1
     .exact SL
def pD(hT:bb P E)(hm:P.follows .mixedOrders=T)(a6:aY O Φ){al id:Nat}{β:Loc}{K:St->Prop}{k:Box K}(V:Rel O al s β a w)(X:Φ s β ds w)(ad:ops.toList.all aM=T)(hd:fk al ops.toList=T)(U:nd E ops=T)
 (h:wpO (spF P rd O Φ B Ψ) E ops ops.toList s k)(hQ:∀W A r G,K W->Rel O al W A r G->Φ W A ds G->Q .normal {r with defers:=ds} G)(hX:∀ch W A r G,Ψ ch W->Rel O al W A r G->Φ W A ds G->Q (.panic ch) {r with defers:=ds} G):(Code.region id ops T).wpIn (fen rd) 0 P Q {a with defers:=ds} w:=by
 have b1:Rel O al s β a {w with drawn:=w.drawn+1}:=V.of_heap rfl;have c:Φ s β ds {w with drawn:=w.drawn+1}:=a6 _ _ _ _ _ _ _ X (Tr.same rfl rfl rfl);simp only[nd,H6,s5,P1]at U;refine wpIn_region_any hm ?_;rcases U with⟨u,hB⟩|⟨m,_,u,hB⟩
 .simp only[Region.lexB,s5]at hB
  refine lF (Q:=λr=>r.defers=[]->Q .normal {r with defers:=ds} {w with drawn:=w.drawn+1}) ad (λr v h=>h v) _ _ _ V.defers ?_
  have x:wpStill P ops {w with drawn:=w.drawn+1} (λr=>r.defers=[]->Q .normal {r with defers:=ds} {w with drawn:=w.drawn+1}) ops.toList a:=
   fN hT [] ops.toList b1 hd u (by rw[s7];exact h) (λW r y I L _=>hQ _ _ _ _ y I (a6 _ _ _ _ _ _ _ c L))
  have:=wpAnyS_lex (md:=.any) hB.1 ops.toList 0 (Array.replicate ops.size F) a a8 (by simpa using hB.2) x;exact SV
 .obtain⟨l,rfl⟩:∃l:List Oper,ops=l.toArray:=⟨ops.toList,a8⟩
  generalize bk:l.toArray.size-m=n at u hB;simp only[Region.lexTailB,s5,B4]at hB;obtain⟨⟨⟨⟨e,hn⟩,hs⟩,Z⟩,f⟩:=hB;have J:n<z l:=by simpa using hn
  have Y:z (l.take n)=n:=by simp;omega
  have c7:z (l.drop n)=l.toArray.size-n:=a8
  have i:HeadInv .any l.toArray n (Array.replicate l.toArray.size F):=
   ⟨a8,λj q _ hl=>(by rw[getD_replicate_false]at hl;cases hl),λt _ ht=>getD_in (by simpa using ht) (getD_replicate_false _ _)⟩
  obtain⟨d1,d2⟩:=sj hd n;have p:(l.drop n).all aM=T:=y8.2 λo ho=>y8.1 ad o (by simpa using L9 ho)
  have x:wpStill P l.toArray {w with drawn:=w.drawn+1} (λr=>r.defers=[]->wpListIn (fen rd) 0 P l.toArray Q (l.drop n) {r with defers:=ds} {w with drawn:=w.drawn+1}) (l.take n) a:=by
   refine fN hT (l.drop n) (l.take n) b1 d1 u (by rw[H3];simpa using h) (λW r y I L _=>?_);exact jp hT a6 (l.drop n) I (a6 _ _ _ _ _ _ _ c L) p d2 y hQ hX
  have H:=wpAnyL_lex (md:=.any) (g:=l.toArray.size-n) e hs Z hn (l.take n) 0 _ a (λj hj=>by
   have cu:j<n:=by rw[Y]at hj;exact hj
   simp[cu]) (by simpa using Y) i (by rw[Y];exact f) x
  have:=mN (d:=Q) (ds:=ds) (rd:=rd) (g:=l.toArray.size-n) ad (λb r v hL=>by
   have:=nw (d:=Q) (b2:=fen rd) (n:=0) (l.drop n) n b {r with defers:=ds} {w with drawn:=w.drawn+1} (λj=>by simp[H0]) (by rw[c7];exact hL.1) (hL.2 v)
   rwa [c7]at this) _ _ _ V.defers H
  rw[Y,show n+(l.toArray.size-n)=l.toArray.size by omega]at this;exact this
def iF{P:Program}{b:Frame}{w:World}:step P (lone (b.atR a (.code (.scope c)::k)) cs w)=.next (lone (b.atR a (.code c::.inScope c::k)) cs w):=
 step_lone_go (by simp[stepG,stepG.exec,Frame.atR])
def vk{P:Program}{b:Frame}{w:World}:step P (lone (b.atR a (.inScope c::k)) cs w)=.next (lone (b.atR a k) cs w):=
 step_lone_go (by simp[stepG,stepG.exec,Frame.atR])
def Ay{b2:Fence}{n:Nat}{P:Program}{w:World}(h:c.wpIn b2 n P (Exit.noGoto Q) a w):(Code.scope c).wpIn b2 n P Q a w:=by
 intro b k cs i p V;have j:(lone (b.atR a (.code (.scope c)::k)) cs w).fenced P b2:=fenced_calm p V rfl;obtain⟨e,d,f,m,g⟩:=h b (.inScope c::k) cs i p V;cases e with
 |normal=>exact⟨.normal,d,f,m,.head j iF (StepsIn.trans g (.one (fenced_calm p V rfl) vk))⟩
 |exit L=>
   have I:exitTo L (.inScope c::k)=exitTo L k:=by simp[exitTo]
   exact⟨.exit L,d,f,m,λt r=>.head j iF (g.1 t (by rw[I];exact r)),
    λu r=>let ⟨k₁,U,v⟩:=g.2 u (by rw[I];exact r);⟨k₁,U,.head j iF v⟩⟩
 |goto l=>exact m.elim
 |ret=>exact⟨_,d,f,m,.of_steps (.one j iF) g⟩
 |panic x=>exact⟨_,d,f,m,.of_steps (.one j iF) g⟩
 |outgrown=>exact⟨_,d,f,m,.of_steps (.one j iF) g⟩
def gK:Code->Bool
 |.region _ ops _=>ops.toList.all aM
 |.seq x y=>gK x&&gK y
 |.cond _ x y=>gK x&&gK y
 |.block _ c=>gK c
 |.loop c=>gK c
 |.scope c=>gK c
 |_=>T
def cC(hT:bb P E)(Y:P.follows .mixedOrders=T)(a6:aY O Φ){al:Nat}:∀(c:Code){Q:Exit->St->Prop}{q:Box Q}{s:St}{β:Loc}{a:Act}{ds:List Deferred}{w:World},gK c=T->codeOk al c=T->Rel O al s β a w->Φ s β ds w->wpC (spF P rd O Φ B Ψ) E c q s->c.wpIn (fen rd) 0 P (BW O al Φ Ψ Q) {a with defers:=ds} w
 |.skip,_,_,s,β,a,ds,_,_,_,V,X,h=>wpIn_skip ⟨s,β,a,ds,rfl,.inl h,V,X⟩
 |.label _,_,_,s,β,a,ds,_,_,_,V,X,h=>wpIn_label ⟨s,β,a,ds,rfl,.inl h,V,X⟩
 |.exit _,_,_,s,β,a,ds,_,_,_,V,X,h=>wpIn_exit ⟨s,β,a,ds,rfl,.inl h,V,X⟩
 |.goto _,_,_,s,β,a,ds,_,_,_,V,X,h=>wpIn_goto ⟨s,β,a,ds,rfl,.inl h,V,X⟩
 |.ret,_,_,s,β,a,ds,_,_,_,V,X,h=>wpIn_ret ⟨s,β,a,ds,rfl,.inl h,V,X⟩
 |.region id ops b,Q,q,s,β,a,ds,w,p,Z,V,X,h=>by
   simp only[gK]at p;cases b with
   |false=>
     have h:wpO (spF P rd O Φ B Ψ) E ops ops.toList s (bx λW=>Q .normal W):=h;exact wpIn_region_list (jp hT a6 ops.toList V X p Z h (λW A a' G U h2 h3=>⟨W,A,a',ds,rfl,.inl U,h2,h3⟩) (λch W A a' G U h2 h3=>⟨W,A,a',ds,rfl,.inr ⟨ch,rfl,U⟩,h2,h3⟩))
   |true=>
     rcases h with⟨an,h⟩|⟨R,hR,J⟩
     .exact pD hT Y a6 V X p Z an h (λW A a' G U h2 h3=>⟨W,A,a',ds,rfl,.inl U,h2,h3⟩) (λch W A a' G U h2 h3=>⟨W,A,a',ds,rfl,.inr ⟨ch,rfl,U⟩,h2,h3⟩)
     .exact tj
 |.seq x y,Q,q,s,β,a,ds,w,p,Z,V,X,h=>by
   simp only[codeOk,s5]at Z;simp only[gK,s5]at p;have h:wpC (spF P rd O Φ B Ψ) E x (bx (iQ (bx λW=>wpC (spF P rd O Φ B Ψ) E y q W) q)) s:=h;refine wpIn_seq (wpIn_mono (cC hT Y a6 x p.1 Z.1 V X h) (λe a' G hp=>?_));obtain⟨W,A,a0,H,rfl,U,h2,h3⟩:=hp;rcases U with U|⟨ch,rfl,U⟩
   .cases e with
    |normal=>exact cC hT Y a6 y p.2 Z.2 h2 h3 U
    |_=>exact⟨W,A,a0,H,rfl,.inl U,h2,h3⟩
   .exact U9
 |.cond c x y,Q,q,s,β,a,ds,w,p,Z,V,X,h=>by
   simp only[codeOk,s5]at Z;simp only[gK,s5]at p;obtain⟨b,hb,h⟩:=px h (V.ev c);refine wpIn_cond (t:=b) hb ?_;cases b
   .exact cC hT Y a6 y p.2 Z.2 V X h
   .exact cC hT Y a6 x p.1 Z.1 V X h
 |.block id c,Q,q,s,β,a,ds,w,p,Z,V,X,h=>by
   have h:wpC (spF P rd O Φ B Ψ) E c (bx (iR id q)) s:=h;refine wpIn_block (wpIn_mono (cC hT Y a6 c p Z V X h) (λe a' G hp=>?_));obtain⟨W,A,a0,H,rfl,U,h2,h3⟩:=hp;rcases U with U|⟨ch,rfl,U⟩
   .cases e with
    |exit i=>
      simp only[Exit.inBlock,iR]at U|-;split at U
      .rename_i he;rw[l8 he];exact⟨W,A,a0,H,rfl,.inl U,h2,h3⟩
      .rename_i he;rw[j8 he];exact⟨W,A,a0,H,rfl,.inl U,h2,h3⟩
    |_=>exact⟨W,A,a0,H,rfl,.inl U,h2,h3⟩
   .exact U9
 |.scope c,Q,q,s,β,a,ds,w,p,Z,V,X,h=>by
   have h:wpC (spF P rd O Φ B Ψ) E c (bx (qg q)) s:=h;refine Ay (wpIn_mono (cC hT Y a6 c p Z V X h) (λe a' G hp=>?_));obtain⟨W,A,a0,H,rfl,U,h2,h3⟩:=hp;rcases U with U|⟨ch,rfl,U⟩
   .cases e with
    |goto l=>exact U.elim
    |_=>exact⟨W,A,a0,H,rfl,.inl U,h2,h3⟩
   .exact U9
 |.loop c,Q,q,s,β,a,ds,w,p,Z,V,X,h=>by
   obtain⟨I,⟨n,d,b4,h0⟩,g⟩:=h;obtain⟨k,b1,u⟩:=b4 O al β a w V;refine sG (λn a' G=>∃W A a0 H,a' = {a0 with defers:=H}/\I n W/\Rel O al W A a0 G/\Φ W A H G) n ⟨d,k,a,ds,rfl,h0,b1,a6 _ _ _ _ _ _ _ X u⟩ ?_;rintro n a' G ⟨W,A,a0,H,rfl,U,h2,h3⟩;refine wpIn_mono (cC hT Y a6 c p Z h2 h3 (g n W U)) (λe a2 w2 hp=>?_);obtain⟨s2,ad,o,az,rfl,k1,k2,k3⟩:=hp;rcases k1 with k1|⟨ch,rfl,k1⟩
   .cases e with
    |normal=>
      obtain⟨j,s3,af,m,hI⟩:=k1;obtain⟨r,L,v⟩:=m O al ad o w2 k2;exact⟨j,af,s3,r,o,az,rfl,hI,L,a6 _ _ _ _ _ _ _ k3 v⟩
    |_=>exact⟨s2,ad,o,az,rfl,.inl k1,k2,k3⟩
   .exact⟨s2,ad,o,az,rfl,.inr ⟨ch,rfl,k1⟩,k2,k3⟩
 |.rangeFunc f ps x y,Q,q,s,β,a,ds,w,p,Z,V,X,h=>by
   obtain⟨R,hR,J⟩:=h;exact tj
 |.refuse y,Q,q,s,β,a,ds,w,p,Z,V,X,h=>by
   obtain⟨R,hR,J⟩:=h;exact tj
def aF{b:Nat}{id:Nat}{ops:Array Oper}{Q:Exit->St->Prop}{q:Box Q}(d:nd E ops=T)(h:wpO (spF P rd O Φ b Ψ) E ops ops.toList s (bx λW=>Q .normal W)):ky (spF P rd O Φ b Ψ) E id ops s q:=.inl ⟨d,h⟩
end
section
variable{P:Program}{E:Nat->TI}{q:Nat}{o:cF}
def qp(B q:Nat)(o:cF)(hT:bb P E)(hm:P.follows .mixedOrders=T){f:FuncId}{fn:Func}(hf:P.funcs[f]?=S fn)(X:fn.body=S c)(hn:(fn.name == "runtime.NumGoroutine")=F)
 (rs:List ResultVar)(a1:fn.results=rs.toArray)(p:gK c=T)(an:codeOk fn.ntmps c=T){args:List AV}(m:z args<=fn.ntmps){R:AV->Prop}
 (h:∀O bn s0 w0 g,wpC (spF P N O (Fl q o O bn s0 w0) B tJ) E c (bx (tH E rs R)) ⟨cW args,g,λ_=>N⟩):bP P q o f args R:=by
 refine⟨⟨fn,hf,by rw[X];rfl,hn⟩,λJ w vs Z hJ hv=>?_⟩;refine jZ (n:=0) (callsIn_of_wp_marks hf X trivial ?_)
 have bd:∀(l:List AV)(vs:List Value),RVs J w l vs->z vs=z l:=by
  intro l
  induction l with
  |nil=>intro vs h;simp only[RVs]at h;subst h;rfl
  |cons x l ih=>intro vs h;simp only[RVs]at h;obtain⟨u,us,rfl,_,h⟩:=h;simp[ih us h]
 have hl:=bd _ _ hv
 let K:Nat->Prop:=λb=>J b\/b<=q
 have V:Rel ⟨w.heap.size,K⟩ fn.ntmps ⟨cW args,λ_=>0,λ_=>N⟩ (λ_=>N) {tmps:=vs.toArray++Array.replicate (fn.ntmps-vs.toArray.size) undef,defers:=[]} w:=by
  refine⟨rfl,by simp;omega,λi=>?_,λid cells ho=>Xt,λid L a a' ho=>Xt,l7 _⟩
  have al:∀(l:List AV)(vs:List Value),RVs J w l vs->∀(i:Nat)(x:AV),l[i]?=S x->∃v,vs[i]?=S v/\RV J w x v:=by
   intro l
   induction l with
   |nil=>intro vs _ i x h;simp at h
   |cons y l ih=>
     intro vs h i x I;simp only[RVs]at h;obtain⟨u,us,rfl,U,h2⟩:=h;cases i with
     |zero=>simp at I;subst I;exact⟨u,rfl,U⟩
     |succ i=>simpa using ih us h2 i x Wk
  simp only[cW];cases I:args[i]? with
  |some x=>
    obtain⟨v,U,h2⟩:=al _ _ hv i x I;have af:i<z vs:=(l5.1 U).1
    have:(vs.toArray++Array.replicate (fn.ntmps-vs.toArray.size) undef).getD i undef=v:=by
     rw[z6,F8 (by simpa using af)];simp[U]
    rw[this];simp only[A5];exact RV.rep x (RV.mono (λb X=>⟨⟨hJ b X,λ_=>.inl X,λid a ho=>by cases ho⟩,rfl⟩) x h2)
  |none=>
    exact UI
 refine wpIn_mono (cC (rd:=N) (B:=B) (ds:=[]) hT hm aE c p an V ⟨⟨Z.lt,⟨Z.lt,λb X=>.inr X⟩,Z⟩,Tr.refl,trivial⟩ (h _ _ _ w _)) (λe a' G hp=>?_);obtain⟨W,A,a0,H,rfl,Y,av,_,ht,s⟩:=hp.plain
 have k:tH E rs R .ret W->bodyPostM (fen N) 0 P fn (λe G=>∃v r,e=.returned v/\R r/\w.heap.size<=G.heap.size/\(∀b,b<w.heap.size->G.heap[b]?=w.heap[b]?)/\(G.os=w.os/\G.output=w.output)/\RV (Own ⟨w.heap.size,K⟩ G) G r v) .ret {a0 with defers:=H} G:=by
  intro Y;refine qn s (λt h5=>?_);obtain⟨v,j,U,⟨r,h2,h3⟩,_,d,rfl,h4⟩:=eG hT (av.shut h5) a1 Y;refine⟨_,U,_,r,rfl,h3,by rw[h5.size];exact ht.size,λb X=>?_,⟨h5.os.1.trans ht.os.1,h5.os.2.trans ht.os.2⟩,h2.rep (av.shut h5) h4⟩;rcases h5.same b with e|⟨e,_⟩
  .rw[e];exact ht.old b X
  .omega
 cases e with
 |normal=>exact k Y
 |ret=>exact k Y
 |exit id=>exact Y.elim
 |goto l=>exact Y.elim
 |panic ch=>exact Y.elim
 |outgrown=>exact Y.elim
def Fk.mono{f:FuncId}{xs:List AV}{g:Nat->Nat}{ob:Obs}{R t:AV->(Nat->Nat)->Obs->Prop}(h:Fk P q o f xs g ob R)(V:∀r g' Y,R r g' Y->t r g' Y):Fk P q o f xs g ob t:=
 ⟨h.1,λO al b a d w vs e l U i=>(h.2 O al b a d w vs e l U i).mono λ_ _⟨v,r,g',Y,A,j,m,n⟩=>⟨v,r,g',Y,A,j,V _ _ _ m,n⟩⟩
end
end
section
def dOf:Value->D
 |.bool b=>.bool b
 |.int k n=>.int k n
 |.string s=>.str s.data.toList
 |.slice N 0 0=>.nsl
 |.pointer N=>.nilp
 |.nilFunc=>.nilf
 |.nilIface=>.nili
 |.map N=>.nilm
 |_=>.sl []
def Fv{v:Value}(h:kB (dOf v)=T):dV (dOf v)=v:=by
 unfold dOf at h|-;split at h<;>first|(cases h;done)|rfl
def qu:Value->Bool
 |.agg _=>F
 |_=>T
def dVs:∀{l:List Value},(l.map dOf).all kB=T->l=(l.map dOf).map dV
 |[],_=>rfl
 |v::l,h=>by
   simp only[l9,E9,s5]at h;rw[l9,l9,Fv h.1,<-dVs h.2]
def NP(P:Program)(t:Nat):Option TI:=
 match P.underlying t,P.info? t with
 |some d,S i=>match i.zero with
   |some X=>
     let f:=X.cells.toList.map dOf
     bif f.all kB && z f == i.size && (dF d || qu X)then S ⟨d,i.size,i.bytes,f⟩else N
   |none=>N
 |_,_=>N
variable{P:Program}
def JF{t:Nat}{B:TI}(h:NP P t=S B):sH P t B:=by
 unfold NP at h;split at h
 .next d i hd a=>
  split at h
  .next X b=>
   simp only[cond_eq_ite]at h;split at h
   .next Z=>
    cases h;simp only[s5,H6,I3]at Z;obtain⟨⟨U,c⟩,e⟩:=Z;refine Jv (X:=X) hd (by rw[a];simp[b]) (dVs U) U c (e.imp id λho=>?_);have m:X.cells.toList=[X]:=by cases X<;>first|rfl|cases ho
    rw[m]at U|-;simp only[l9,w9,E9,List.all_nil,K7]at U;exact(Fv U).symm
   .cases h
  .cases h
 .cases h
def DK{l:List (Nat×TI)}(h:(l.map λp=>NP P p.1)=l.map λp=>S p.2):bb P (BX l):=
 vh λp a=>JF (by
  have:=List.map_inj_left.1 h p a;exact this)
end
section
abbrev Pan:=List PanicEntry->(Nat->Nat)->Obs->Prop
def Pan.on(d:Pan):ff:=λa s=>d a s.gen s.obj
variable{R:AV->(Nat->Nat)->Obs->Prop}{K:St->Prop}
section
variable{P:Program}{E:Nat->TI}{O:Bs}{β:Loc}{w:World}{B:Nat}{d:Pan}{rd:Option Nat}{u:St->Loc->List Deferred->World->Prop}
def NL(O:Bs)(β:Loc)(fa:Nat->AV)(g:Nat->Nat)(ob:Obs)(w:World)(R:AV->(Nat->Nat)->Obs->Prop)(d:Pan)(e:Ending)(G:World):Prop:=
 (∃v r c Y A,e=.returned v/\R r c Y/\ag O A c Y G r v/\
    (∀id b,Y id=S b->cU O A c Y G (c id) b (A id))/\(∀id L a f,(Y id).isSome=T->(Y L).isSome=T->A id=S a->A L=S f->a.block=f.block->id=L)/\
    Tr O β ⟨fa,g,ob⟩ w A ⟨fa,c,Y⟩ G)\/
 (∃h c Y A,e=.panicked h/\d h c Y/\
    (∀id b,Y id=S b->cU O A c Y G (c id) b (A id))/\(∀id L a f,(Y id).isSome=T->(Y L).isSome=T->A id=S a->A L=S f->a.block=f.block->id=L)/\
    Tr O β ⟨fa,g,ob⟩ w A ⟨fa,c,Y⟩ G)
def cM(P:Program)(f:FuncId)(xs:List AV)(g:Nat->Nat)(ob:Obs)(R:AV->(Nat->Nat)->Obs->Prop)(d:Pan):Prop:=
 DJ P f/\∀(O:Bs)(al:Nat)(β:Loc)(a:Act)(b:Nat->AV)(w:World)(vs:List Value),Rel O al ⟨b,g,ob⟩ β a w->aH O β g ob w xs vs->
  Calls P f vs.toArray w (NL O β b g ob w R d)
def cM.mono{f:FuncId}{xs:List AV}{g:Nat->Nat}{ob:Obs}{R t:AV->(Nat->Nat)->Obs->Prop}{b:Pan}(h:cM P f xs g ob R d)(V:∀r g' Y,R r g' Y->t r g' Y)(k:∀c g' Y,d c g' Y->b c g' Y):cM P f xs g ob t b:=
 ⟨h.1,λO al β a l w vs U m=>(h.2 O al β a l w vs U m).mono λ_ _ q=>q.imp (λ⟨v,r,g',Y,A,e,i,j⟩=>⟨v,r,g',Y,A,e,V _ _ _ i,j⟩) (λ⟨c,g',Y,A,e,i,j⟩=>⟨c,g',Y,A,e,k _ _ _ i,j⟩)⟩
def yl(O:Bs)(a:Loc)(b:St)(c:World):St->Loc->List Deferred->World->Prop:=λs β ds w=>ds=[]/\Tr O a b c β s w
def aa{a:Loc}{b:St}{c:World}:aY O (yl O a b c):=λ_ _ _ _ _ _ _ h d=>⟨h.1,h.2.trans d⟩
def Az(B:Nat)(hT:bb P E)(u:P.follows .mixedOrders=T){f:FuncId}{fn:Func}{c:Code}(hf:P.funcs[f]?=S fn)(r:fn.body=S c)(x:(fn.name == "runtime.NumGoroutine")=F)
 (rs:List ResultVar)(y:fn.results=rs.toArray)(p:gK c=T)(I:codeOk fn.ntmps c=T){xs:List AV}(m:z xs<=fn.ntmps){g:Nat->Nat}{ob:Obs}
 (h:∀O L X Y,wpC (spF P N O (yl O L X Y) B d.on) E c (bx (yg E rs R)) ⟨cW xs,g,ob⟩):cM P f xs g ob R d:=by
 refine⟨⟨fn,hf,by rw[r];rfl,x⟩,λO al β a Z w vs bz hv=>?_⟩;refine jZ (n:=0) (callsIn_of_wp hf r trivial ?_);have V:=np (al:=fn.ntmps) m bz hv;refine wpIn_mono (cC (rd:=N) (B:=B) (ds:=[]) hT u aa c p I V ⟨rfl,Tr.refl⟩ (h O β ⟨cW xs,g,ob⟩ w)) (λe a' G hp=>?_);obtain⟨W,A,s,H,rfl,i,q,rfl,o⟩:=hp;rcases i with i|⟨t,rfl,i⟩
 .have k:yg E rs R .ret W->∃v,(results fn s.tmps).run P G=.ok v G/\NL O β Z g ob w R d (.returned v) G:=by
   rintro⟨s2,b4,hR⟩;obtain⟨ad,Q,b⟩:=b4 O fn.ntmps A s G q;have J:=o.trans b;obtain⟨v,j,U,h2,h3,_⟩:=eG hT Q y hR;exact⟨v,U,.inl ⟨v,_,_,_,ad,rfl,h2,h3,Q.obj,Q.inj,⟨J.size,J.old,J.keep,J.os⟩⟩⟩
  cases e with
  |normal=>exact⟨rfl,k i⟩
  |ret=>exact⟨rfl,k i⟩
  |exit id=>exact i.elim
  |goto l=>exact i.elim
  |panic t=>exact i.elim
  |outgrown=>exact i.elim
 .exact⟨rfl,.inr ⟨t,_,_,A,rfl,i,q.obj,q.inj,⟨o.size,o.old,o.keep,o.os⟩⟩⟩
def DA(a6:aY O u){o:Oper}{s:St}{k:Box K}{f:FuncId}{args:Array Operand}{tys:Array TypeId}(ho:o.op=.call ⟨.value (.func f),args,tys⟩)
 (j:cM P f (args.toList.map s.ev) s.gen s.obj R d)(g:∀r g' Y,R r g' Y->K (St.put ⟨s.f,g',Y⟩ o.dst r)):bm (spF P rd O u B d.on) o s k:=by
 refine⟨λW=>∃r g' Y,R r g' Y/\W=St.put ⟨s.f,g',Y⟩ o.dst r,λal β a ds w V X c next Q hn I=>?_,λ_⟨r,g',Y,V,e⟩=>e▸g r g' Y V⟩;have l:aM o=T:=by simp[aM,ho]
 refine gp l ?_;unfold Oper.wp;rw[jE ho j.1 w];simp only[Oper.upon];have:=j.2 O al β a s.f w (args.toList.map a.eval) V (iS V _);rw[show (args.toList.map a.eval).toArray=args.map a.eval from Jf a8]at this;refine this.mono λe G m=>?_;rcases m with⟨v,r,g',Y,A,he,hR,hv,U,h2,h3⟩|⟨n,g',Y,A,he,b,U,h2,h3⟩
 .exact S4
 .subst he
  have g:eQ O β s.gen s.obj w A g' Y G:=h3.keep;have p:Tr O β s w A ⟨s.f,g',Y⟩ G:=⟨h3.size,h3.old,g,h3.os⟩
  exact I n ⟨s.f,g',Y⟩ A a G b ⟨V.defers,V.size,λi=>ag.keep g _ (V.f i),U,h2,C8 V.base h3.size⟩ (a6 _ _ _ _ _ _ _ X p)
def AA{d:ff}{o:Oper}{s:St}{k:Box K}{x:Operand}(ho:o.op=.panic x){v:Value}(b:∀(al:Nat)(β:Loc)(a:Act)(w:World),Rel O al s β a w->(Instr.panic (a.eval x)).run P w=.halt (.panic v) w)
 (e:d [{v,recovered:=F}] s):bm (spF P rd O u B d) o s k:=by
 refine⟨λ_=>False,λal β a ds w V X c next Q g I=>?_,λ_ h=>h.elim⟩;have f:aM o=T:=by simp[aM,ho]
 refine gp f ?_;unfold Oper.wp
 have:(execOp a.eval o).run P w=.halt (.panic v) w:=by
  simp[execOp,ho,b al β a w V,Result.andThen]
 rw[this];exact I _ s β a w e V X
end
end
section
variable{K:St->Prop}{x:Operand}
section
variable{P:Program}{O:Bs}{rd:Option Nat}{b:St->Loc->List Deferred->World->Prop}{B:Nat}{c:ff}
def tU(a6:aY O b){o:Oper}{s:St}{k:Box K}{t:TypeId}(ho:o.op=.makeInterface t x){fs:Array Field}(L:P.underlying t=S (.struct fs)){kd:IntKind}{n:Int}
 (I:s.ev x=.agg [.d (.int kd n)])(g:K (s.put o.dst (.exact (.iface t (.agg #[.int kd n]))))):bm (spF P rd O b B c) o s k:=by
 refine⟨λW=>W=s.put o.dst (.exact (.iface t (.agg #[.int kd n]))),λal β a ds w V X hd next Q hn _=>?_,λ_ e=>e▸g⟩;refine gp W6 ?_;have f:=V.ev x;rw[I]at f;simp only[ag]at f;obtain⟨vs,U,i,l⟩:=f;obtain⟨u,m,G⟩:=l 0 _ rfl;simp only[ay]at G;obtain rfl:=G.inv_int
 have p:vs = #[.int kd n]:=by
  apply Array.ext_getElem?;intro j
  match j with
  |0=>rw[m];rfl
  |j+1=>rw[J7 (by rw[i];simp),J7 a8]
 subst p
 have cf:(execOp a.eval o).run P w=.ok (.value (.iface t (.agg #[.int kd n]))) w:=by
  simp[execOp,ho,U,Instr.makeInterface,run_underlying L]
 have av:=V.put hd (x:=.exact (.iface t (.agg #[.int kd n]))) (v:=.iface t (.agg #[.int kd n])) (by simp only[ag]);exact vi
def tV{o:Oper}{s:St}{k:Box K}(ho:o.op=.panic x){t:TypeId}{u:Value}(I:s.ev x=.exact (.iface t u))(e:c [{v:=.iface t u,recovered:=F}] s):bm (spF P rd O b B c) o s k:=by
 refine AA ho (v:=.iface t u) (λal f a w V=>?_) e;have d:=V.ev x;rw[I]at d;simp only[ag]at d;rw[d];simp[Instr.panic]
end
end
end
section
attribute[local congr]ite_cc
section
variable{s:St}{K:St->Prop}{w:World}{a:Act}{o:Oper}{f:FuncId}{β:Loc}{tys:Array TypeId}{ds:List Deferred}{Q:Exit->Act->World->Prop}{u:Value}{l:Array (String×TypeId)}{args:Array Operand}{R:AV->(Nat->Nat)->Obs->Prop}{q:List PC}{x:Operand}{k:Box K}
section
variable{P:Program}{E:Nat->TI}{O:Bs}{rd:Option Nat}{Φ:St->Loc->List Deferred->World->Prop}{B:Nat}{Ψ:ff}{L:Pan}
def cj(a6:aY O Φ)(ho:o.op=.call ⟨.value (.func f),args,tys⟩)
 (hp:cM P f (args.toList.map s.ev) s.gen s.obj R L)(I:∀ch g' Y,L ch g' Y->Ψ ch ⟨s.f,g',Y⟩)(hk:∀r g' Y,R r g' Y->K (St.put ⟨s.f,g',Y⟩ o.dst r)):bm (spF P rd O Φ B Ψ) o s k:=by
 refine⟨λW=>∃r g' Y,R r g' Y/\W=St.put ⟨s.f,g',Y⟩ o.dst r,λal β a ds w V X c next Q hn g=>?_,λ_⟨r,g',Y,V,e⟩=>e▸hk r g' Y V⟩;have d:aM o=T:=by simp[aM,ho]
 refine gp d ?_;unfold Oper.wp;rw[jE ho hp.1 w];exact R0
def aN(a6:aY O Φ){t:Nat}(ho:o.op=.call ⟨.value (.tmp t),args,tys⟩)(hf:s.f t=.one (.clo f q))
 (hp:cM P f (args.toList.map s.ev++q.map jY) s.gen s.obj R L)(I:∀ch g' Y,L ch g' Y->Ψ ch ⟨s.f,g',Y⟩)(hk:∀r g' Y,R r g' Y->K (St.put ⟨s.f,g',Y⟩ o.dst r))(az:f<1000000:=by decide):bm (spF P rd O Φ B Ψ) o s k:=by
 refine⟨λW=>∃r g' Y,R r g' Y/\W=St.put ⟨s.f,g',Y⟩ o.dst r,λal β a ds w V X c next Q hn g=>?_,λ_⟨r,g',Y,V,e⟩=>e▸hk r g' Y V⟩;have ad:aM o=T:=by simp[aM,ho]
 refine gp ad ?_;have hv:=V.f t;rw[hf]at hv;simp only[ag,ay]at hv;obtain⟨vs,cx,m,j⟩:=hv;rw[sR az]at cx
 have bf:(execOp a.eval o).run P w=.ok (.enter f (args.map a.eval++vs)) w:=by
  exact lo
 unfold Oper.wp;rw[bf];simp only[Oper.upon];have Z:aH O β s.gen s.obj w (q.map jY) vs.toList:=ni (by simpa using m) (λi pc hi=>let ⟨u,U,h2⟩:=j i pc hi;⟨u,by simpa using U,h2⟩);have:=hp.2 O al β a s.f w (args.toList.map a.eval++vs.toList) V ((iS V _).append Z);rw[show (args.toList.map a.eval++vs.toList).toArray=args.map a.eval++vs from Jf a8]at this;exact gH
@[go_sem]def Fm{ar:Sp}{dst:Option Tmp}{ty:TypeId}{ps:String}{b:Array Edge}{gd:Option (Nat×Bool)}{t u:TypeId}{ok:Bool}:opA ar E ⟨dst,.typeAssert x t u ok,ty,ps,b,gd⟩ s k=bm ar ⟨dst,.typeAssert x t u ok,ty,ps,b,gd⟩ s k:=B7 rfl rfl
def wY(a6:aY O Φ){t t0:TypeId}(ho:o.op=.typeAssert x t0 t T){fs:Array Field}(L:P.underlying t=S (.struct fs)){kd:IntKind}{n:Int}
 (I:s.ev x=.exact (.iface t (.agg #[.int kd n])))(j:K (s.put o.dst (.tup [.agg [.d (.int kd n)],bv T]))):bm (spF P rd O Φ B Ψ) o s k:=by
 refine⟨λW=>W=s.put o.dst (.tup [.agg [.d (.int kd n)],bv T]),λal β a ds w V X hd next Q hn _=>?_,λ_ e=>e▸j⟩;refine gp W6 ?_;have b:=V.ev x;rw[I]at b;simp only[ag]at b
 have cf:(execOp a.eval o).run P w=.ok (.value (.tuple #[.agg #[.int kd n],.bool T])) w:=by
  simp[execOp,ho,b,Instr.typeAssert,run_underlying L]
 have av:=V.put hd (x:=.tup [.agg [.d (.int kd n)],bv T]) (v:=.tuple #[.agg #[.int kd n],.bool T]) (by
  simp only[ag,aH];refine⟨[.agg #[.int kd n],.bool T],rfl,_,_,rfl,⟨#[.int kd n],rfl,rfl,λi c g=>?_⟩,_,_,rfl,?_,rfl⟩
  .match i,g with
   |0,g=>cases g;exact⟨_,rfl,by simp only[ay];exact .int _ _⟩
  .simp only[ay];exact .bool _)
 exact vi
def UW(d:List Deferred)(O:Bs)(b:Loc)(c:St)(e:World):St->Loc->List Deferred->World->Prop:=λs β ds w=>ds=d/\Tr O b c e β s w
def vO{d:List Deferred}{b:Loc}{c:St}{e:World}:aY O (UW d O b c e):=λ_ _ _ _ _ _ _ h g=>⟨h.1,h.2.trans g⟩
def ro(hT:bb P E)(c:P.follows .mixedOrders=T)(a6:aY O Φ){al:Nat}{x y:Code}(p:gK x=T)(Z:codeOk al x=T)(V:Rel O al s β a w)(X:Φ s β ds w)
(h:wpC (spF P rd O Φ B tJ) E x (bx λe W=>e=.normal/\K W) s)(d:∀W A b H G,K W->Rel O al W A b G->Φ W A H G->y.wpIn (fen rd) 0 P Q {b with defers:=H} G):(Code.seq x y).wpIn (fen rd) 0 P Q {a with defers:=ds} w:=by
 refine wpIn_seq (wpIn_mono (cC hT c a6 x p Z V X h) (λe b G g=>?_));obtain⟨W,A,m,H,rfl,U,i,j⟩:=g;rcases U with⟨rfl,U⟩|⟨_,_,h⟩
 .exact d _ _ _ _ _ U i j
 .exact SL
def DB(hT:bb P E)(d:P.follows .mixedOrders=T)(a6:aY O Φ){al:Nat}{x:Code}(Ψ:ff)(K:Exit->St->Prop)(p:gK x=T)(Z:codeOk al x=T)(V:Rel O al s β a w)(X:Φ s β ds w)
 (h:wpC (spF P rd O Φ B Ψ) E x (bx K) s)(g:∀e W A b H G,(K e W\/∃c,e=.panic c/\Ψ c W)->Rel O al W A b G->Φ W A H G->Q e {b with defers:=H} G):x.wpIn (fen rd) 0 P Q {a with defers:=ds} w:=by
 refine wpIn_mono (cC hT d a6 x p Z V X h) (λe b G i=>?_);obtain⟨W,A,n,H,rfl,U,j,m⟩:=i;exact g _ _ _ _ _ _ U j m
def DC(hT:bb P E)(a6:aY O Φ){al id t:Nat}{o1 o2:Oper}{y:Code}(b:aM o1=T)(g1:o1.guard=N)(g2:o2.guard=N)(Y:∀d,o1.dst=S d->d<al)(av:o2.dst=N)
 (b6:o2.op=.defer ⟨.value (.tmp t),#[],tys⟩)(V:Rel O al s β a w)(X:Φ s β ds w)(h:opA (spF P N O Φ B tJ) E o1 s (bx λW=>W.f t=.one (.clo f q)/\K W))
 (hy:∀W A a' G vs,K W->Rel O al W A a' G->Φ W A ds G->aH O A W.gen W.obj G (q.map jY) vs->y.wpIn (fen N) 0 P Q {a' with defers:=⟨.fn (.func f) vs.toArray,#[]⟩::ds} G)(az:f<1000000:=by decide):(Code.seq (.region id #[o1,o2] F) y).wpIn (fen N) 0 P Q {a with defers:=ds} w:=by
 refine wpIn_seq (wpIn_region ?_);show wpOpsIn (fen N) 0 P #[o1,o2] _ [0,1] _ _;simp only[wpOpsIn,x7,w7,s9];rw[l8 (by simp[Region.wanted,g1])];refine me hT a6 V X b Y h (λW A a' G U h2 h3=>?_) (λch W A a' G h=>h.elim);obtain⟨Z,J⟩:=U;rw[l8 (by simp[Region.wanted,g2])];have hv:=h2.f t;rw[Z]at hv;simp only[ag,ay]at hv;obtain⟨vs,cx,m,j⟩:=hv;rw[sR az]at cx;refine⟨λ_ _=>trivial,?_⟩
 have bf:((o2.semAt (fen N).round ({a' with defers:=ds}:Act).eval).run P G)=.ok (.defer ⟨.fn (.func f) vs,#[]⟩) G:=by
  rw[show (fen N).round=N from rfl,Oper.semAt_none];simp[execOp,b6,resolve,Act.eval,cx,Deferred.ofValue]
 rw[bf,Oper.uponIn_defer];simp only[av,Act.put];exact hy W A a' G vs.toList J h2 h3 (ni (by simpa using m) (λi pc hi=>let ⟨u,U,h2⟩:=j i pc hi;⟨u,by simpa using U,h2⟩))
def sL{b t:TypeId}(L:P.underlying b=S (.interface l)):(Op.equal b (.iface t u) .nilIface).run P w=.ok F w:=by
 exact Uy
def vn{b t c:TypeId}{d:Nat}(ho:o.op=.binOp .eql b (.tmp d) (.const .nilIface) c)(L:P.underlying b=S (.interface l))(h:a.tmps.getD d undef=.iface t u):
  (execOp a.eval o).run P w=.ok (.value (.bool F)) w:=by
 have e:binOp .eql b (.iface t u) .nilIface=(do pure (.bool (<-Op.equal b (.iface t u) .nilIface))):=rfl;have g:eqGuard .eql b (.tmp d) (.const .nilIface) (.iface t u) .nilIface=pure ():=rfl;have i:a.eval (.tmp d)=.iface t u:=h;have j:a.eval (.const .nilIface)=.nilIface:=rfl;unfold execOp;simp only[ho,i,j,e,g,Sem.run_bind,Sem.run_pure,Result.andThen_ok,sL L]
def AB(hT:bb P E)(hm:P.follows .mixedOrders=T){fn fnD:Func}{al id c1 bl d e:Nat}{c oE:Oper}{b:TypeId}{x y:Code}
 (hf:P.funcs[f]?=S fnD)(hb:fnD.body=S (.seq (.region id #[c] F) (.block bl (.seq (.region c1 #[oE] F) (.cond (.tmp e) x y)))))(k:(fnD.name == "runtime.NumGoroutine")=F)
 (n:c.op=.call ⟨.builtin .recover,#[],#[]⟩)(hdR:c.dst=S d)(gR:c.guard=N)(o:oE.op=.binOp .eql b (.tmp d) (.const .nilIface) b)(q:oE.dst=S e)(gE:oE.guard=N)(r:d<fnD.ntmps)(bs:e<fnD.ntmps)
 (a1:fnD.results = #[])(p:gK y=T)(an:codeOk fnD.ntmps y=T)(I:P.underlying b=S (.interface l)){t:TypeId}{xs:List AV}{vs:List Value}{R:Ending->World->Prop}(V:Rel O al s β a w)(hv:aH O β s.gen s.obj w xs vs)(hl:z xs<=fnD.ntmps)
 {K:(Nat->Nat)->Obs->Prop}(hy:∀bn s0 w0,wpC (spF P N O (yl O bn s0 w0) B tJ) E y (bx λZ W=>Z=.normal/\K W.gen W.obj) ⟨upd (upd (cW xs) d (.exact (.iface t u))) e (bv F),s.gen,s.obj⟩)
 (hR:∀g' Y A G,K g' Y->Rel O al ⟨s.f,g',Y⟩ A a G->Tr O β s w A ⟨s.f,g',Y⟩ G->∃v,(results fn a.tmps).run P G=.ok v G/\R (.returned v) G):
  LeavesIn (fen N) 0 P fn a.tmps R [⟨.fn (.func f) vs.toArray,#[]⟩] (.panicking [{v:=.iface t u,recovered:=F}]) w:=by
 refine leavesIn_cons (f:=f) (args:=vs.toArray) a8 (λh=>by cases h) ?_ (λ_ _=>trivial) ?_
 .exact UR
 refine callsDIn_of_wpSIn hf hb trivial λad cs L=>?_;apply wpSIn_seq;apply wpSIn_region;show wpOpsSIn (fen N) 0 P #[c] _ [0] _ _ _;simp only[wpOpsSIn,x7,w7];refine⟨λ_ _=>trivial,?_⟩;rw[l8 (by simp[Region.wanted,gR])];have bf:∀(a:Act)(w:World),(execOp a.eval c).run P w=.ok .recover w:=λa w=>by simp[execOp,n,resolve,invoke,builtin]
 rw[bf];simp only[recoverD,L,hdR,Exit.thenS];refine wpSIn_of_wpIn rfl ?_;have bz:=np (al:=fnD.ntmps) (fa:=s.f) hl V hv;have b1:=bz.put (dst:=S d) (λd' h=>by cases h;exact r) (x:=.exact (.iface t u)) (v:=.iface t u) (by simp only[ag]);refine wpIn_block (wpIn_seq (wpIn_region ?_));show wpOpsIn (fen N) 0 P #[oE] _ [0] _ _;simp only[wpOpsIn,x7,w7];rw[l8 (by simp[Region.wanted,gE])];have g:=b1.f d;simp only[St.put,upd,l8,ag]at g;refine⟨λ_ _=>trivial,?_⟩;rw[show (fen N).round=N from rfl,Oper.semAt_none];rw[vn o I g,Oper.uponIn_value];simp only[q];have Q:Rel O fnD.ntmps ⟨upd (upd (cW xs) d (.exact (.iface t u))) e (bv F),s.gen,s.obj⟩ β _ w:=b1.put (dst:=S e) (λd' h=>by cases h;exact bs) (x:=bv F) (v:=.bool F) (by simp only[ag,ay,bv];exact .bool _);have j:=Q.f e;simp only[upd,l8,bv,ag,ay]at j;refine wpIn_cond (t:=F) j.inv_bool ?_;rw[j8 b9];have J:=cC (rd:=N) (B:=B) (ds:=[]) hT hm aa y p an Q ⟨rfl,Tr.refl⟩ (hy β ⟨upd (upd (cW xs) d (.exact (.iface t u))) e (bv F),s.gen,s.obj⟩ w);refine wpIn_mono J (λZ a' G hp=>?_);obtain⟨W,A,a0,H,rfl,U,h2,rfl,h4⟩:=hp;rcases U with⟨rfl,U⟩|⟨_,_,h⟩
 case inr=>exact h.elim
 have hk:eQ O β s.gen s.obj w A W.gen W.obj G:=h4.keep;have ht:Tr O β s w A ⟨s.f,W.gen,W.obj⟩ G:=⟨h4.size,h4.old,hk,h4.os⟩
 have X:Rel O al ⟨s.f,W.gen,W.obj⟩ A a G:=⟨V.defers,V.size,λi=>ag.keep hk _ (V.f i),h2.obj,h2.inj,C8 V.base h4.size⟩
 obtain⟨v,cx,m⟩:=hR _ _ _ _ U X ht;refine⟨rfl,.panicking [{v:=.iface t u,recovered:=T}],rfl,.tuple #[],by simp[results,a1],?_⟩;simp only[settle,List.dropWhile_nil,LeavesIn];exact⟨v,cx,m⟩
end
end
end
section
open Go.ChangeShapes Go.WideShapes Go.ChangeAt Go.RowKit
section
variable{H:Type}{enc:TypeId×Value->H}
def ny{C:Checked}{os:Os}{f:FuncId}{fn:Func}{s:ChangeSpec}{d:List PathCond}{c:List (String×DataW Unit)}(own:ownKnob C.prog.godebug=N)(b:os.Started)(m:C.prog.inits.idxOf? f=N)(Y:C.prog.funcs[f]?=S fn)
 (k:∃(w:World)(tape:Tape)(i:Input),w.os=os/\(w.forCall tape i).Shaped C.prog/\i.vars=[]/\Input.okWide C.prog (w.forCall tape i) .any w.heap.size f i/\
    ((s.pre enc C.prog fn d F (w.forCall tape i).memory i.args/\laidMetH C.prog c (w.forCall tape i).memory)/\sizedMet enc C.prog fn (OpenSpec.ofChange s) F (w.forCall tape i).memory i.args)/\Assume.holds {} C.prog (lone (Frame.enter C.prog f i.args .normal) [] (w.forCall tape i)))
 (a:s.vars=[])(hl:laidOutB C.prog=T)(g:fn.params.toList.all (λt=>C.prog.readableRec t&&decide (t<C.prog.types.size))=T){y:TypeId}(O:fn.resultTypes = #[y])(bk:C.prog.underlying y=S .bool)
 (n:∀ds:List (DataW H),z ds=z fn.params.toList->s.fn H ds = {results:=[.lit (.bool T)],args:=ds})
 (o:∀(W:World)(base:Nat)(args:Array Value)(ds:List (DataW H))(ps:List MemPlace),laidMetH C.prog c W->(∀(j:Nat)t v,fn.params[j]?=S t->args[j]?=S v->Value.okWide C.prog W .any base t v)->DataW.TrodAll enc C.prog W 0 (λ_=>T) T fn.params.toList args.toList ds ps->(DataW.weightsEach C.prog fn.params.toList ds).all (·<=reachBytes)=T->xX C.prog f args W):
  ReturnsInHanded {} C os f .any (λw args=>(s.pre enc C.prog fn d F w args/\laidMetH C.prog c w)/\sizedMet enc C.prog fn (OpenSpec.ofChange s) F w args) (s.post enc C.prog fn F T F F):=by
 refine returnsInHanded_of_change_and (X:=λw _=>laidMetH C.prog c w) (λ_ _ _ Q h=>h.of_heap Q) own b m Y k ?_;intro W base args ds gs u l hW G az hX _;have r:=hW;obtain⟨p,q,J,E,rfl,Z,ad⟩:=hW;rw[a]at E;obtain⟨rfl,rfl⟩:=trodVars_none E;have B:s.plain.varTypes C.prog=[]:=by simp[ChangeSpec.plain,DataSpec.varTypes,a]
 rw[B,s7,s7]at az;refine(o W base args ds p hX l J az).mono λe A⟨U,hs,L,ho⟩=>⟨_,U,?_⟩
 have V:∀x∈p,x.block<W.heap.size:=λx I=>r.lt x We;have K:s.fn H (ds++[]) = {results:=[.lit (.bool T)],args:=ds}:=by rw[s7];exact n ds (sd _ _ _ _ J)
 refine⟨ds,[],p++[],[],p,[],r,?_,?_,?_,Jw L ho _,λh=>by cases h⟩
 .rw[K,O]
  exact trodAll_mk1 ⟨1,by simp[DataW.trod,bk,Value.cells]⟩
 .rw[K]
  exact pi hl L _ _ _ _ g V J
 .rw[K,a]
  exact rfl
def vm{P:Program}{w:World}{q:Nat}{o:cF}(c:sJ q o w){f:FuncId}{args:List AV}(h:bP P q o f args (·=bv T)){vs:List Value}(d:RVs (λb=>b<w.heap.size) w args vs):xX P f vs.toArray w:=by
 refine(h.2 _ w vs c (λ_ h=>h) d).mono λe G⟨v,r,U,g,i,j,k,a⟩=>⟨?_,i,j,k⟩
 subst g;simp only[RV]at a;obtain⟨x,I,V⟩:=a;cases I;cases V;exact U
end
end
section
section
def mg(ar:Sp)(E:Nat->TI)(ops:Array Oper)(p:List Nat)(l:List Ent)(s:St){K:St->Prop}(_:Box K):Prop:=ei ar E ops p True l s (bx λW=>True->K W)
def wV(ops:Array Oper)(o:Oper)(s:St):Prop:=match o.guard with|none=>False|some (j,w)=>∃d,((ops[j]?).bind (·.dst))=S d/\s.f d=bv (!w)
variable{ops:Array Oper}{Q:Exit->St->Prop}
section
variable{P:Program}{E:Nat->TI}{O:Bs}{w:World}{rd:Option Nat}{n:St->Loc->List Deferred->World->Prop}{t:ff}
def vN{hT:bb P E}(a6:aY O n){B al:Nat}{ops:Array Oper}{ds:List Deferred}{Q:Exit->Act->World->Prop}(ad:ops.toList.all aM=T)(ar:fk al ops.toList=T)(I:(Nat->Bool)->St->Prop)
 (J:∀(L:Nat->Bool)(s:St)(i:Nat)(o:Oper),I L s->ops[i]?=S o->L i=F->(∀e∈o.after.toList,Region.binds .any e=T->L e.on=T)->
    (∀j g,L j=T->ops[j]?=S g->∀e∈g.after.toList,Region.binds .any e=T->L e.on=T)->(oh ops o s/\opA (spF P rd O n B t) E o s (bx λW=>I (upd L i T) W))\/wV ops o s/\I (upd L i T) (s.put o.dst uv)):
  ∀(q:Nat)(b:Array Bool){s:St}{β:Loc}{a:Act}{w:World},b.size=ops.size->b.toList.count F<=q->Rel O al s β a w->n s β ds w->I (λi=>b.getD i F) s->
   (∀j g,b.getD j F=T->ops[j]?=S g->∀e∈g.after.toList,Region.binds .any e=T->b.getD e.on F=T)->
   (∀L W A a' G,I L W->Rel O al W A a' G->n W A ds G->(∃c,L=(λi=>c.getD i F)/\c.size=ops.size/\Region.ready .any ops c=[])->Q .normal {a' with defers:=ds} G)->
   (∀ch W A a' G,t ch W->Rel O al W A a' G->n W A ds G->Q (.panic ch) {a' with defers:=ds} G)->
   wpAnyIn (fen rd) 0 P .any ops Q q b {a with defers:=ds} w
 |0,b,s,β,a,w,az,Z,V,X,hI,hid,hQ,hX=>by
   exact l3
 |q+1,b,s,β,a,w,az,Z,V,X,hI,hid,hQ,hX=>by
   refine⟨λb7=>hQ _ s β a w hI V X ⟨b,rfl,az,b7⟩,λi hi=>?_⟩;unfold Region.ready at hi;simp only[Sj,D5,s5,I7]at hi;obtain⟨b6,y,m⟩:=hi;have ho:ops[i]?=S ops[i]:=B6 b6;rw[ho]at m;simp only[z7,A5,N9,H6,I7]at m
   have l:b[i]?=S F:=by
    exact UO
   have hL:b.getD i F=F:=by rw[z6,l];rfl
   have f:∀e∈ops[i].after.toList,Region.binds .any e=T->b.getD e.on F=T:=λe he hb=>by
    exact SE
   have k:∀d,(ops[i]).dst=S d->d<al:=λd hd=>by
    exact Uh
   have u:(λj=>(b.setIfInBounds i T).getD j F)=upd (λj=>b.getD j F) i T:=by
    funext j;exact ti
   have bk:∀W A a' G,I (upd (λj=>b.getD j F) i T) W->Rel O al W A a' G->n W A ds G->wpAnyIn (fen rd) 0 P .any ops Q q (b.setIfInBounds i T) {a' with defers:=ds} G:=λW A a' G r av Y=>by
    refine vN (hT:=hT) a6 ad ar I J q (b.setIfInBounds i T) (by simpa using az) (by have:=count_set l;omega) av Y (by rw[u];exact r) (λj g hj H e he hb=>?_) hQ hX;exact km
   unfold wpOpIn;rw[ho];simp only;rcases J _ s i ops[i] hI ho hL f hid with⟨cd,b3⟩|⟨cd,r⟩
   .have an:Region.wanted ops[i] (yielded ops a.tmps)=T:=by
     unfold oh at cd;cases hg:(ops[i]).guard with
     |none=>simp[Region.wanted,hg]
     |some p=>
       exact Sz
    rw[l8 an];exact me hT a6 V X (y8.1 ad ops[i] (G8 b6)) k b3 bk hX
   .have an:¬Region.wanted ops[i] (yielded ops a.tmps)=T:=by
     unfold wV at cd;cases hg:(ops[i]).guard with
     |none=>rw[hg]at cd;exact cd.elim
     |some p=>
       exact Sz
    rw[j8 an];have U:({a with defers:=ds}:Act).put (ops[i]).dst undef = {a.put (ops[i]).dst undef with defers:=ds}:=by cases (ops[i]).dst<;>rfl
    rw[U];exact⟨λ_ _=>trivial,bk _ β _ w r (V.put k (x:=uv) (v:=undef) cI) (a6 _ _ _ _ _ _ _ X (Tr.same (by rw[St.put_gen]) (by rw[St.put_obj]) rfl))⟩
def rn(hT:bb P E)(v:P.follows .mixedOrders=T)(a6:aY O n){B id:Nat}{s:St}{q:Box Q}(ad:ops.toList.all aM=T)(K:tB ops=T)(I:(Nat->Bool)->St->Prop)(h0:I (λ_=>F) s)
 (J:∀(L:Nat->Bool)(s:St)(i:Nat)(o:Oper),I L s->ops[i]?=S o->L i=F->(∀e∈o.after.toList,Region.binds .any e=T->L e.on=T)->
    (∀j g,L j=T->ops[j]?=S g->∀e∈g.after.toList,Region.binds .any e=T->L e.on=T)->(oh ops o s/\opA (spF P rd O n B t) E o s (bx λW=>I (upd L i T) W))\/wV ops o s/\I (upd L i T) (s.put o.dst uv))
 (bl:∀L W,I L W->(∀i,i<ops.size->L i=T)->Q .normal W):ky (spF P rd O n B t) E id ops s q:=by
 refine .inr ⟨λe W=>e=.normal/\Q .normal W,λal β a ds w Z V X=>?_,λe W⟨U,l⟩=>U▸l⟩;have x:Rel O al s β a {w with drawn:=w.drawn+1}:=V.of_heap rfl;have c:n s β ds {w with drawn:=w.drawn+1}:=a6 _ _ _ _ _ _ _ X (Tr.same rfl rfl rfl);refine wpIn_region_any v (vN (hT:=hT) a6 ad Z I J ops.size (Array.replicate ops.size F) a8 a8 x c ?_ (λj g m=>?_) (λL W A u G l y H h6=>⟨W,A,u,ds,rfl,.inl ⟨rfl,bl L W l WU⟩,y,H⟩) (λY W A u G U l h3=>⟨W,A,u,ds,rfl,.inr ⟨Y,rfl,U⟩,l,h3⟩))
 .exact so
 .rw[z6,E4]at m
  split at m<;>simp at m
def bY(hT:bb P E)(j:P.follows .mixedOrders=T)(a6:aY O n){B id:Nat}{s:St}{q:Box Q}(p:List Nat)(y:List (List Nat×List Nat×List Nat×Bool))(l:Nat)(f:ops.toList.all aM=T)(m:tE ops y l=T)(w:z p=l)(ad:p.Nodup)
 (h:mg (spF P rd O n B t) E ops p (jd ops.toList y) s (bx λW=>Q .normal W)):ky (spF P rd O n B t) E id ops s q:=by
 obtain⟨U,I,u,v,x⟩:=tG (X:=True) (Q:=Q) p y l m w ad h;exact rn hT j a6 f U I u (λL s i o a b c d e=>.inl (v L s i o a b c d e)) λL W a b=>x L W a b (.inr trivial)
end
section steps
variable{ar:Sp}{E:Nat->TI}{ops:Array Oper}{p:List Nat}{f:Nat->AV}{g:Nat->Nat}{ob:Nat->Option (List C)}{K:St->Prop}{k:Box K}{op:Op}{ty:TypeId}{ps:String}{af:Array Edge}{gd:Option (Nat×Bool)}{rd hd:List Nat}{r:List Ent}{d:Nat}
def aj{v:AV}(hg:GdE ops ⟨⟨S d,op,ty,ps,af,gd⟩,rd,hd,[],F⟩ ⟨f,g,ob⟩)(U:∀(fa:Nat->AV)(ga:Nat->Nat)(a:Nat->Option (List C))(K':St->Prop),K' ⟨upd (maskf rd f fa) d v,maskm p hd g ga,maskm p hd ob a⟩->opA ar E ⟨S d,op,ty,ps,af,gd⟩ ⟨maskf rd f fa,maskm p hd g ga,maskm p hd ob a⟩ (bx K'))
 (b:mg ar E ops p r ⟨upd f d v,g,ob⟩ k):mg ar E ops p (⟨⟨S d,op,ty,ps,af,gd⟩,rd,hd,[],F⟩::r) ⟨f,g,ob⟩ k:=by
 unfold mg at b|-;unfold ei;exact⟨v,[],⟨rfl,λfa ga a K' J=>U fa ga a K' (J λ_=>trivial),hg⟩,b⟩
def bF{v:AV}{a x:Nat}{y:Option (List C)}(hg:GdE ops ⟨⟨S d,op,ty,ps,af,gd⟩,rd,hd,[a],F⟩ ⟨f,g,ob⟩)(U:∀(fa:Nat->AV)(ga:Nat->Nat)(b:Nat->Option (List C))(K':St->Prop),K' ⟨upd (maskf rd f fa) d v,upd (maskm p hd g ga) (p.getD a 0) x,upd (maskm p hd ob b) (p.getD a 0) y⟩->opA ar E ⟨S d,op,ty,ps,af,gd⟩ ⟨maskf rd f fa,maskm p hd g ga,maskm p hd ob b⟩ (bx K'))
 (c:mg ar E ops p r ⟨upd f d v,upd g (p.getD a 0) x,upd ob (p.getD a 0) y⟩ k):mg ar E ops p (⟨⟨S d,op,ty,ps,af,gd⟩,rd,hd,[a],F⟩::r) ⟨f,g,ob⟩ k:=by
 unfold mg at c|-;unfold ei;exact⟨v,[(x,y)],⟨rfl,λfa ga b K' J=>U fa ga b K' (J λ_=>trivial),hg⟩,c⟩
end steps
end
section
variable{o:Oper}{w:World}{l:Array (String×TypeId)}{b:TypeId}
section
variable{P:Program}{E:Nat->TI}{O:Bs}{rd:Option Nat}{Φ:St->Loc->List Deferred->World->Prop}{B:Nat}{Ψ:ff}{L:Pan}
def AC(a6:aY O Φ){s:St}{K:St->Prop}{k:Box K}{t:Nat}{args:Array Operand}{tys:Array TypeId}(ho:o.op=.call ⟨.value (.tmp t),args,tys⟩){f:FuncId}{q:List PC}(hf:s.f t=.one (.clo (f+1000000) q)){R:AV->(Nat->Nat)->Obs->Prop}
 (hp:cM P f (q.map jY++args.toList.map s.ev) s.gen s.obj R L)(I:∀ch g' Y,L ch g' Y->Ψ ch ⟨s.f,g',Y⟩)(hk:∀r g' Y,R r g' Y->K (St.put ⟨s.f,g',Y⟩ o.dst r)):bm (spF P rd O Φ B Ψ) o s k:=by
 refine⟨λW=>∃r g' Y,R r g' Y/\W=St.put ⟨s.f,g',Y⟩ o.dst r,λal β a ds w V X c next Q hn g=>?_,λ_⟨r,g',Y,V,e⟩=>e▸hk r g' Y V⟩;have d:aM o=T:=by simp[aM,ho]
 refine gp d ?_;have hv:=V.f t;rw[hf]at hv;simp only[ag,ay]at hv;obtain⟨vs,cx,m,j⟩:=hv;rw[yb f]at cx
 have n:(execOp a.eval o).run P w=.ok (.enter f (vs++args.map a.eval)) w:=by
  exact lo
 unfold Oper.wp;rw[n];simp only[Oper.upon];have Z:aH O β s.gen s.obj w (q.map jY) vs.toList:=ni (by simpa using m) (λi pc x=>let ⟨u,U,h2⟩:=j i pc x;⟨u,by simpa using U,h2⟩);have:=hp.2 O al β a s.f w (vs.toList++args.toList.map a.eval) V (Z.append (iS V _));rw[show (vs.toList++args.toList.map a.eval).toArray=vs++args.map a.eval from Jf a8]at this;exact gH
def vo(L:P.underlying b=S (.interface l)):(Op.equal b .nilIface .nilIface).run P w=.ok T w:=by
 exact Uy
def yq{b c:TypeId}{d:Nat}{a:Act}(ho:o.op=.binOp .eql b (.tmp d) (.const .nilIface) c)(L:P.underlying b=S (.interface l))(h:a.tmps.getD d undef=.nilIface):
  (execOp a.eval o).run P w=.ok (.value (.bool T)) w:=by
 have e:binOp .eql b .nilIface .nilIface=(do pure (.bool (<-Op.equal b .nilIface .nilIface))):=rfl;have i:eqGuard .eql b (.tmp d) (.const .nilIface) .nilIface .nilIface=pure ():=rfl;have j:a.eval (.tmp d)=.nilIface:=h;have m:a.eval (.const .nilIface)=.nilIface:=rfl;unfold execOp;simp only[ho,j,m,e,i,Sem.run_bind,Sem.run_pure,Result.andThen_ok,vo L]
def AD(hT:bb P E)(hm:P.follows .mixedOrders=T){fn fnD:Func}{f:FuncId}{al id c1 bl d e:Nat}{c oE:Oper}{x y:Code}
 (hf:P.funcs[f]?=S fnD)(hb:fnD.body=S (.seq (.region id #[c] F) (.block bl (.seq (.region c1 #[oE] F) (.cond (.tmp e) x y)))))(k:(fnD.name == "runtime.NumGoroutine")=F)
 (n:c.op=.call ⟨.builtin .recover,#[],#[]⟩)(hdR:c.dst=S d)(gR:c.guard=N)(o:oE.op=.binOp .eql b (.tmp d) (.const .nilIface) b)(q:oE.dst=S e)(gE:oE.guard=N)(r:d<fnD.ntmps)(bs:e<fnD.ntmps)
 (a1:fnD.results = #[])(p:gK x=T)(an:codeOk fnD.ntmps x=T)(I:P.underlying b=S (.interface l)){s:St}{β:Loc}{a:Act}{xs:List AV}{vs:List Value}{R:Ending->World->Prop}(V:Rel O al s β a w)(hv:aH O β s.gen s.obj w xs vs)(hl:z xs<=fnD.ntmps)
 {K:(Nat->Nat)->Obs->Prop}(hy:∀bn s0 w0,wpC (spF P N O (yl O bn s0 w0) B tJ) E x (bx λZ W=>Z=.normal/\K W.gen W.obj) ⟨upd (upd (cW xs) d (.exact .nilIface)) e (bv T),s.gen,s.obj⟩)
 (hR:∀g' Y A G,K g' Y->Rel O al ⟨s.f,g',Y⟩ A a G->Tr O β s w A ⟨s.f,g',Y⟩ G->∃v,(results fn a.tmps).run P G=.ok v G/\R (.returned v) G):
  LeavesIn (fen N) 0 P fn a.tmps R [⟨.fn (.func f) vs.toArray,#[]⟩] .returning w:=by
 refine leavesIn_cons (f:=f) (args:=vs.toArray) a8 (λh=>by cases h) ?_ (λ_ _=>trivial) ?_
 .exact UR
 refine callsDIn_of_wpSIn hf hb trivial λad cs L=>?_;apply wpSIn_seq;apply wpSIn_region;show wpOpsSIn (fen N) 0 P #[c] _ [0] _ _ _;simp only[wpOpsSIn,x7,w7];refine⟨λ_ _=>trivial,?_⟩;rw[l8 (by simp[Region.wanted,gR])];have bf:∀(a:Act)(w:World),(execOp a.eval c).run P w=.ok .recover w:=λa w=>by simp[execOp,n,resolve,invoke,builtin]
 rw[bf];simp only[recoverD,L,hdR,Exit.thenS];refine wpSIn_of_wpIn rfl ?_;have bz:=np (al:=fnD.ntmps) (fa:=s.f) hl V hv;have b1:=bz.put (dst:=S d) (λd' h=>by cases h;exact r) (x:=.exact .nilIface) (v:=.nilIface) (by simp only[ag]);refine wpIn_block (wpIn_seq (wpIn_region ?_));show wpOpsIn (fen N) 0 P #[oE] _ [0] _ _;simp only[wpOpsIn,x7,w7];rw[l8 (by simp[Region.wanted,gE])];have g:=b1.f d;simp only[St.put,upd,l8,ag]at g;refine⟨λ_ _=>trivial,?_⟩;rw[show (fen N).round=N from rfl,Oper.semAt_none];rw[yq o I g,Oper.uponIn_value];simp only[q];have Q:Rel O fnD.ntmps ⟨upd (upd (cW xs) d (.exact .nilIface)) e (bv T),s.gen,s.obj⟩ β _ w:=b1.put (dst:=S e) (λd' h=>by cases h;exact bs) (x:=bv T) (v:=.bool T) (by simp only[ag,ay,bv];exact .bool _);have j:=Q.f e;simp only[upd,l8,bv,ag,ay]at j;refine wpIn_cond (t:=T) j.inv_bool ?_;rw[l8 b9];have J:=cC (rd:=N) (B:=B) (ds:=[]) hT hm aa x p an Q ⟨rfl,Tr.refl⟩ (hy β ⟨upd (upd (cW xs) d (.exact .nilIface)) e (bv T),s.gen,s.obj⟩ w);refine wpIn_mono J (λZ a' G hp=>?_);obtain⟨W,A,a0,H,rfl,U,h2,rfl,u⟩:=hp;rcases U with⟨rfl,U⟩|⟨_,_,h⟩
 case inr=>exact h.elim
 have hk:eQ O β s.gen s.obj w A W.gen W.obj G:=u.keep;have ht:Tr O β s w A ⟨s.f,W.gen,W.obj⟩ G:=⟨u.size,u.old,hk,u.os⟩
 have X:Rel O al ⟨s.f,W.gen,W.obj⟩ A a G:=⟨V.defers,V.size,λi=>ag.keep hk _ (V.f i),h2.obj,h2.inj,C8 V.base u.size⟩
 obtain⟨v,cx,m⟩:=hR _ _ _ _ U X ht;refine⟨rfl,.returning,by rw[<-L],.tuple #[],by simp[results,a1],?_⟩;simp only[settle,LeavesIn];exact⟨v,cx,m⟩
end
section
variable{ar:Sp}{E:Nat->TI}{ops:Array Oper}{p:List Nat}{f:Nat->AV}{g:Nat->Nat}{ob:Nat->Option (List C)}{rd hd:List Nat}{K:St->Prop}{k:Box K}
def bZ{ef:List Nat}(hg:GdE ops ⟨o,rd,hd,ef,T⟩ ⟨f,g,ob⟩)(h:∀K':St->Prop,(∀B,K B->K' B)->opA ar E o ⟨f,g,ob⟩ (bx K')):mg ar E ops p [⟨o,rd,hd,ef,T⟩] ⟨f,g,ob⟩ k:=by
 unfold mg ei;exact⟨⟨λ_=>trivial,λK' J=>h K' λB q=>J B λ_=>q⟩,hg⟩
end
end
section
def UX(B:Nat):PC->Prop
 |.d _=>True
 |.ptr id _ _=>id<B
def kQ(B:Nat):C->Prop
 |.d _=>True
 |.osl id _ _ _ _=>id<B
 |.ptr id _ _=>id<B
 |.mp id _ _=>id<B
 |.lsl _=>True
 |.raw _=>True
 |.clo _ q=>∀p∈q,UX B p
def UY(B:Nat)(g:Nat->Nat):PC->Prop
 |.d _=>True
 |.ptr id g1 _=>id<B\/g1<=g id
def okC(B:Nat)(g:Nat->Nat):C->Prop
 |.d _=>True
 |.osl id g1 _ _ _=>id<B\/g1<=g id
 |.ptr id g1 _=>id<B\/g1<=g id
 |.mp id g1 _=>id<B\/g1<=g id
 |.lsl _=>True
 |.raw _=>True
 |.clo _ q=>∀p∈q,UY B g p
variable{g:Nat->Nat}{B:Nat}{G:World}{c:C}{A ad:Loc}{g1 g2:Nat->Nat}{av bo:Obs}{ob:Obs}{cells:List C}{xs:List AV}{R:AV->(Nat->Nat)->Obs->Prop}
def kQ.ok(h:kQ B c):okC B g c:=by
 cases c with
 |osl=>exact .inl h
 |ptr=>exact .inl h
 |mp=>exact .inl h
 |clo f q=>
   intro p a;have:=h p a;cases p with
   |d=>trivial
   |ptr=>exact .inl this
 |d=>trivial
 |lsl=>trivial
 |raw=>trivial
def je(ar:List Nat)(g g':Nat->Nat):Nat->Nat:=λi=>if i∈ar then g' i else g i
def eY(ar:List Nat)(ob Y:Obs):Obs:=λi=>if i∈ar then Y i else ob i
structure Fo (B:Nat) (ar:List Nat) (g:Nat->Nat) (ob:Obs) (g':Nat->Nat) (Y:Obs):Prop where
 same:∀i,i<B->i∉ar->g' i=g i/\Y i=ob i
 low:∀i∈ar,∀cells,Y i=some cells->∀c∈cells,kQ B c
section
variable{P:Program}{E:Nat->TI}{O:Bs}{β:Loc}{w:World}
def ay.okC{B:Nat}{g:Nat->Nat}{ob:Obs}{c:C}{v:Value}(h:ay O β g ob w c v):okC B g c:=by
 cases c with
 |d=>trivial
 |osl=>exact .inr h.2.1
 |ptr=>exact .inr h.2.1
 |mp=>exact .inr h.2.1
 |lsl=>trivial
 |raw=>trivial
 |clo f q=>
   obtain⟨vs,_,j,a⟩:=h;intro p b;obtain⟨i,e⟩:=D6 b;obtain⟨u,_,V⟩:=a i p e;cases p with
   |d=>trivial
   |ptr=>exact .inr V.2.1
def dR.okC{B:Nat}{g:Nat->Nat}{R:C->Value->Prop}(a:∀c v,R c v->Go.Am.okC B g c){kd:TypeDesc}{cs:List C}{es:List MapEntry}(h:dR R kd cs es):∀c∈cs,Go.Am.okC B g c:=by
 induction h with
 |nil=>intro c Z;cases Z
 |cons e U b _ d=>
   intro c Z;simp only[A3]at Z;rcases Z with rfl|rfl|Z
   .trivial
   .exact a _ _ b
   .exact d c Z
def jc.okC{B:Nat}{g:Nat->Nat}{ob:Obs}{kd:Nat}{c:C}{v:Value}(h:jc O β g ob w kd c v):Go.Am.okC B g c:=by
 unfold jc at h;split at h
 .exact ay.okC h
 .obtain⟨ds,vs,rfl,_⟩:=h
  trivial
def cU.okC{B:Nat}{g:Nat->Nat}{ob:Obs}{e:Nat}{cells:List C}{x:Option Addr}(h:cU O β g ob w e cells x):∀c∈cells,Go.Am.okC B g c:=by
 intro c Z;cases x with
 |none=>have h:cells=[]:=h;subst h;cases Z
 |some a=>
   cases b:a.spot with
   |none=>
     obtain⟨_,arr,el,H,d,_,_,_,f⟩:=h.cells b;obtain⟨i,d⟩:=D6 Z;obtain⟨v,_,V⟩:=f i c d;exact V.okC
   |some l=>
     obtain⟨_,⟨m,n,_,j⟩|⟨_,o,k,_⟩⟩:=h.map b
     .exact dR.okC (λ_ _=>jc.okC) j c Z
     .subst k
      simp only[E0]at Z;subst Z;trivial
structure Conv (O:Bs) (B:Nat) (g:Nat->Nat) (A:Loc) (g1:Nat->Nat) (av:Obs) (G:World) (ad:Loc) (g2:Nat->Nat) (bo:Obs):Prop where
 imm:∀b,Imm O A av G b->Imm O ad bo G b
 live:∀id,id<B->g2 id=g1 id/\((bo id).isSome=true->(av id).isSome=true/\ad id=A id)
 dead:∀id,¬id<B->bo id=none/\g2 id=g id
def Conv.rep(Z:Conv O B g A g1 av G ad g2 bo){v:Value}(l:okC B g c)(h:ay O A g1 av G c v):ay O ad g2 bo G c v:=by
 have m:∀id x,id<B\/x<=g id->x<=g1 id->x<=g2 id:=λid x I U=>by
  by_cases e:id<B
  .rw[(Z.live id e).1];exact U
  .rw[(Z.dead id e).2];exact I.resolve_left e
 have j:∀id x,g2 id=x->(bo id).isSome=T->g1 id=x/\(av id).isSome=T/\ad id=A id:=λid x I ho=>by
  by_cases e:id<B
  .exact⟨by rw[<-(Z.live id e).1];exact I,(Z.live id e).2 ho⟩
  .rw[(Z.dead id e).1]at ho;cases ho
 cases c with
 |d x=>exact ce.mono h λb e=>⟨Z.imm b e,rfl⟩
 | osl id x sz off len=>exact⟨h.1,m id x l h.2.1,λk ho=>by
    obtain⟨l1,l2,y⟩:=j id x k ho;rw[y];exact h.2.2 l1 l2⟩
 | ptr id x off=>exact⟨h.1,m id x l h.2.1,λk ho=>by
    obtain⟨l1,l2,y⟩:=j id x k ho;rw[y];exact h.2.2 l1 l2⟩
 | mp id x t=>exact⟨h.1,m id x l h.2.1,λk ho=>by
    obtain⟨l1,l2,y⟩:=j id x k ho;rw[y];exact h.2.2 l1 l2⟩
 |lsl n=>exact h
 |raw o=>exact h.elim
 |clo f q=>
   obtain⟨vs,U,r,s⟩:=h;refine⟨vs,U,r,λi pc p=>?_⟩;obtain⟨u,L,V⟩:=s i pc p;refine⟨u,L,?_⟩;have a:=l pc (l6 p);cases pc with
   |d x=>exact ce.mono V λb e=>⟨Z.imm b e,rfl⟩
   | ptr id x off=>exact⟨V.1,m id x a V.2.1,λk ho=>by
      obtain⟨l1,l2,y⟩:=j id x k ho;rw[y];exact V.2.2 l1 l2⟩
def Conv.repM(Z:Conv O B g A g1 av G ad g2 bo){kd:Nat}{v:Value}(d:okC B g c)(h:jc O A g1 av G kd c v):jc O ad g2 bo G kd c v:=by
 unfold jc at h|-;split
 .rename_i a
  rw[l8 a]at h;exact Z.rep d h
 .rename_i a
  rw[j8 a]at h;obtain⟨ds,vs,e,f,j,k⟩:=h;exact⟨ds,vs,e,f,j,λi x I=>let ⟨u,hu,V⟩:=k i x I;⟨u,hu,ce.mono V λb l=>⟨Z.imm b l,rfl⟩⟩⟩
def dR.okMono{R t:C->Value->Prop}{kd:TypeDesc}{cs:List C}{es:List MapEntry}(h:dR R kd cs es)(a:∀c∈cs,Go.Am.okC B g c)(V:∀c v,Go.Am.okC B g c->R c v->t c v):dR t kd cs es:=by
 induction h with
 |nil=>exact .nil
 |cons b U d _ e=>exact .cons b U (V _ _ (a _ a8) d) (e λc Z=>a c (by simp[Z]))
def Conv.obj(Z:Conv O B g A g1 av G ad g2 bo){e:Nat}{x:Option Addr}(i:∀c∈cells,okC B g c)(h:cU O A g1 av G e cells x):cU O ad g2 bo G e cells x:=by
 cases x with
 |none=>exact h
 |some a=>
   cases b:a.spot with
   |none=>
     obtain⟨U,arr,el,H,l,d,m,f,o⟩:=h.cells b;refine .ofCells b ⟨U,arr,el,H,l,d,m,f,λj c k=>?_⟩;obtain⟨v,p,V⟩:=o j c k;exact⟨v,p,Z.rep (i c (l6 k)) V⟩
   |some u=>
     obtain⟨U,⟨q,n,d,f⟩|r⟩:=h.map b
     .exact .ofMap b ⟨U,.inl ⟨q,n,d,f.okMono i λ_ _ s t=>Z.repM s t⟩⟩
     .exact .ofMap b ⟨U,.inr r⟩
def ym{al M:Nat}{ar:List Nat}{fa:Nat->AV}{a0 H:Act}{W:St}{A:Loc}(bz:Rel O M ⟨fa,g,ob⟩ β a0 w)(V:Rel O al W A H G)
 {o:St}(l:o.gen=g)(m:o.obj=ob)(x:Tr O β o w A W G)(Q:∀i∈ar,i<B)(hB:∀i,B<=i->ob i=N)(I:Fo B ar g ob W.gen W.obj):
  ∃ad:Loc,Conv O B g A W.gen W.obj G ad (je ar g W.gen) (eY ar ob W.obj)/\
   (∀id cells,eY ar ob W.obj id=S cells->cU O ad (je ar g W.gen) (eY ar ob W.obj) G (je ar g W.gen id) cells (ad id))/\
   (∀id L a H,(eY ar ob W.obj id).isSome=T->(eY ar ob W.obj L).isSome=T->ad id=S a->ad L=S H->a.block=H.block->id=L)/\
   (∀id,(eY ar ob W.obj id).isSome=T->(W.obj id).isSome=T/\¬B<=id/\ad id=A id)/\
   Tr O β ⟨fa,g,ob⟩ w ad ⟨fa,je ar g W.gen,eY ar ob W.obj⟩ G:=by
 subst l m
 have j:∀id,(o.obj id).isSome=T->id<B:=λid ho=>Q6 λZ=>by
  rw[hB id a7]at ho;cases ho
 have t:∀id,id∈ar->je ar o.gen W.gen id=W.gen id/\eY ar o.obj W.obj id=W.obj id:=λid h=>⟨l8 h,l8 h⟩
 have d:∀id,id∉ar->je ar o.gen W.gen id=o.gen id/\eY ar o.obj W.obj id=o.obj id:=λid h=>⟨j8 h,j8 h⟩
 have J:∀id,id∉ar->(o.obj id).isSome=T->W.gen id=o.gen id/\(W.obj id).isSome=T/\A id=β id:=λid h ho=>by
  obtain⟨v,y⟩:=I.same id (j id ho) h;have r:(W.obj id).isSome=T:=by rw[y];exact ho
  exact⟨v,r,(x.keep.live id v r).2.1⟩
 let ad:Loc:=λid=>if id∈ar then A id else β id
 have f:∀id,id∈ar->ad id=A id:=λid h=>l8 h;have k:∀id,id∉ar->ad id=β id:=λid h=>j8 h
 have bs:∀id,(eY ar o.obj W.obj id).isSome=T->(W.obj id).isSome=T/\¬B<=id/\ad id=A id:=λid ho=>by
  by_cases h:id∈ar
  .rw[(t id h).2]at ho
   exact⟨ho,by have:=Q id h;omega,f id h⟩
  .rw[(d id h).2]at ho
   obtain⟨_,y,r⟩:=J id h ho;exact⟨y,by have:=j id ho;omega,(k id h).trans r.symm⟩
 have K:∀b,Imm O A W.obj G b->Imm O ad (eY ar o.obj W.obj) G b:=λb q=>⟨q.1,q.2.1,λid a ho p=>by
  obtain⟨v,_,r⟩:=bs id ho;exact q.2.2 id a v (by rw[<-r];exact p)⟩
 have e:Conv O B o.gen A W.gen W.obj G ad (je ar o.gen W.gen) (eY ar o.obj W.obj):=by
  refine⟨K,λid q=>⟨?_,λho=>⟨(bs id ho).1,(bs id ho).2.2⟩⟩,λid q=>?_⟩
  .by_cases h:id∈ar
   .exact(t id h).1
   .rw[(d id h).1,(I.same id q h).1]
  .have h:id∉ar:=λh=>q (Q id h)
   exact⟨by rw[(d id h).2];exact hB id a7,(d id h).1⟩
 refine⟨ad,e,λid cells Z=>?_,λX u Y a2 U h2 e1 e2 q=>?_,bs,x.size,x.old,⟨λb q=>⟨K b (x.imm b q).1,(x.imm b q).2⟩,λid=>?_,λid hg ho=>?_⟩,x.os⟩
 .by_cases h:id∈ar
  .rw[(t id h).1,f id h]
   rw[(t id h).2]at Z;exact e.obj (λc E=>(I.low id h cells Z c E).ok) (V.obj id cells Z)
  .rw[(d id h).1,k id h]
   rw[(d id h).2]at Z;have ho:(o.obj id).isSome=T:=by rw[Z];rfl
   obtain⟨v,y,r⟩:=J id h ho;have U:=V.obj id cells (by rw[(I.same id (j id ho) h).2];exact Z);rw[v,r]at U;exact e.obj (λc E=>(bz.obj id cells Z).okC c E) U
 .obtain⟨p1,_,p3⟩:=bs X U
  obtain⟨p4,_,p6⟩:=bs u h2;exact V.inj X u Y a2 p1 p4 (by rw[<-p3];exact e1) (by rw[<-p6];exact e2) q
 .show o.gen id<=je ar o.gen W.gen id
  by_cases h:id∈ar
  .rw[(t id h).1];exact x.gen id
  .rw[(d id h).1];exact l7 _
 .change je ar o.gen W.gen id=o.gen id at hg
  change (eY ar o.obj W.obj id).isSome=T at ho;by_cases h:id∈ar
  .rw[(t id h).1]at hg
   rw[(t id h).2]at ho;obtain⟨v,y,r⟩:=x.keep.live id hg ho;exact⟨v,(f id h).trans y,r⟩
  .rw[(d id h).2]at ho
   obtain⟨v,y,r⟩:=J id h ho;exact⟨ho,k id h,(x.keep.live id v y).2.2⟩
def dY.repL{B al:Nat}{s:St}{a:Act}{Y:Obs}(J:∀id,(Y id).isSome=T->(s.obj id).isSome=T/\¬B<=id)(V:Rel O al s β a w){g':Nat->Nat}{A:Loc}(p:∀id,(Y id).isSome=T->A id=β id):
  ∀{f d:List AV}{vs:List Value},dY B s f d->aH O β s.gen s.obj w f vs->aH O A g' Y w d vs
 |[],d,vs,h,b=>by simp only[dY]at h;subst h;simp only[aH]at b|-;exact b
 |t::f,d,vs,h,b=>by
   simp only[dY]at h;obtain⟨r,o,rfl,U,i⟩:=h;simp only[aH]at b|-;obtain⟨u,j,e,k,l⟩:=b;exact⟨u,j,e,U.rep J V k p,dY.repL J V p i l⟩
def bi(B:Nat)(ar:List Nat)(g:Nat->Nat)(ob:Obs)(R:AV->(Nat->Nat)->Obs->Prop)(s:St)(j:List AV):Prop:=Fo B ar g ob s.gen s.obj/\∃o,dY B s j o/\R (pack o) (je ar g s.gen) (eY ar ob s.obj)
def NM(E:Nat->TI)(rs:List ResultVar)(B:Nat)(ar:List Nat)(g:Nat->Nat)(ob:Obs)(R:AV->(Nat->Nat)->Obs->Prop):Exit->St->Prop
 |.normal,s|.ret,s=>∃W,ae s W/\lC E W rs (bx λj=>bi B ar g ob R W j)
 |_,_=>False
def Fp(B:Nat)(ar:List Nat)(g:Nat->Nat)(ob:Obs)(X:Pan):ff:=λa s=>Fo B ar g ob s.gen s.obj/\X a (je ar g s.gen) (eY ar ob s.obj)
def bI(B:Nat)(ar:List Nat)(hT:bb P E)(hm:P.follows .mixedOrders=T){f:FuncId}{fn:Func}{c:Code}(hf:P.funcs[f]?=S fn)(K:fn.body=S c)(hn:(fn.name == "runtime.NumGoroutine")=F)
 (rs:List ResultVar)(a1:fn.results=rs.toArray)(p:gK c=T)(an:codeOk fn.ntmps c=T)(m:z xs<=fn.ntmps){X:Pan}
 (L:∀i∈ar,i<B)(hB:∀i,B<=i->ob i=N)
 (h:∀O bn s0 w0,wpC (spF P N O (yl O bn s0 w0) B (Fp B ar g ob X)) E c (bx (NM E rs B ar g ob R)) ⟨cW xs,g,ob⟩):cM P f xs g ob R X:=by
 refine⟨⟨fn,hf,by rw[K];rfl,hn⟩,λO al β a fa w vs bz hv=>?_⟩;refine jZ (n:=0) (callsIn_of_wp hf K trivial ?_);have V:=np (al:=fn.ntmps) m bz hv;refine wpIn_mono (cC (rd:=N) (B:=B) (ds:=[]) hT hm aa c p an V ⟨rfl,Tr.refl⟩ (h O β ⟨cW xs,g,ob⟩ w)) (λe a' G hp=>?_);obtain⟨W,A,a0,H,rfl,s,av,rfl,Y⟩:=hp;rcases s with s|⟨Z,rfl,u,hX⟩
 .have k:NM E rs B ar g ob R .ret W->∃v,(results fn a0.tmps).run P G=.ok v G/\NL O β fa g ob w R X (.returned v) G:=by
   rintro⟨s2,b4,hR⟩;obtain⟨ad,Q,b⟩:=b4 O fn.ntmps A a0 G av;have J:=Y.trans b;obtain⟨v,j,U,⟨u,o,dd,q⟩,h3,d,rfl,h4⟩:=eG hT Q a1 hR;obtain⟨r,c6,x,y,t,I⟩:=ym (a0:=a) (fa:=fa) bz Q rfl rfl J L hB u;refine⟨lD d,U,.inl ⟨lD d,_,_,_,r,rfl,q,yf (dd.repL (λid ho=>⟨(t id ho).1,(t id ho).2.1⟩) Q (λid ho=>(t id ho).2.2) h4),x,y,I⟩⟩
  cases e with
  |normal=>exact⟨rfl,k s⟩
  |ret=>exact⟨rfl,k s⟩
  |exit id=>exact s.elim
  |goto l=>exact s.elim
  |panic Z=>exact s.elim
  |outgrown=>exact s.elim
 .obtain⟨r,c6,x,y,t,I⟩:=ym (a0:=a) (fa:=fa) bz av rfl rfl Y L hB u
  exact⟨rfl,.inr ⟨Z,_,_,r,rfl,hX,x,y,I⟩⟩
def cM.toR{f:FuncId}(h:cM P f xs g ob R (λ_ _ _=>False)):fX P f xs g ob R:=
 ⟨h.1,λO al β a b w vs U d=>(h.2 O al β a b w vs U d).mono λ_ _ q=>q.elim id λ⟨_,_,_,_,_,h,_⟩=>h.elim⟩
def Fq{t:Nat}{g g':Nat->Nat}(h:g' t=g t):je [t] g g'=g:=by
 funext i;simp only[je,E0];split
 .rename_i e;subst e;exact h
 .rfl
def Fs{t:Nat}{ob Y:Obs}:eY [t] ob Y=upd ob t (Y t):=by
 funext i;simp only[eY,E0,upd];split
 .rename_i e;subst e;rfl
 .rfl
def yn{g g':Nat->Nat}:je [] g g'=g:=by funext i;simp[je]
def yo{ob Y:Obs}:eY [] ob Y=ob:=by funext i;simp[eY]
def js{A:Type}{P:Nat->Prop}{s:St}{id g sz n:Nat}(k:P id)(hg:s.gen id=g)(l:List A)(enc:A->List D)(ho:s.obj id=S cells)(Z:cells=l.flatMap (λa=>(enc a).map .d))(az:∀a∈l,z (enc a)=sz)(f:z l=n):
  jb P s (.osl id g sz 0 n) (.sl (l.map enc)):=by
 have i:(l.map enc).flatten.map C.d=cells:=by rw[Z,List.flatMap_def,List.map_flatten,Qv];rfl
 have m:z (l.map enc).flatten=n*sz:=by
  rw[<-f];clear ho Z f i
  induction l with
  |nil=>simp
  |cons a l o=>simp only[l9,E8,j7,j9,az a a8,o (λb p=>az b (by simp[p])),E7];omega
 refine .osl k hg ho (by rw[<-i,j6,m];omega) (by simpa using f) (λe q=>by obtain⟨a,r,rfl⟩:=E3.1 q;exact az a r) (λj=>.d ((l.map enc).flatten.getD j default)) (λj x I=>?_) (λj x I=>?_)
 .rw[C7,<-i,x8,I]
  simp[List.getD,I]
 .simp only[List.getD,I,A5]
  exact .d x
end
end
section
section
variable{P:Program}{E:Nat->TI}{O:Bs}{β:Loc}{w:World}
end
section
variable{P:Program}{E:Nat->TI}{O:Bs}{w:World}{rd:Option Nat}{n:St->Loc->List Deferred->World->Prop}{t:ff}
def Ro(ops:Array Oper):Bool:=ops.toList.any fal
def DD(X:Prop)(hT:bb P E)(m:P.follows .mixedOrders=T)(a6:aY O n){B id:Nat}{ops:Array Oper}{s:St}{Q:Exit->St->Prop}{q:Box Q}(p:List Nat)(y:List (List Nat×List Nat×List Nat×Bool))(l:Nat)(f:ops.toList.all aM=T)(j:(tE ops y l&&Ro ops)=T)(w:z p=l)(ad:p.Nodup)
 (h:ei (spF P rd O n B t) E ops p X (jd ops.toList y) s (bx λW=>X->Q .normal W)):ky (spF P rd O n B t) E id ops s q:=by
 rw[s5]at j;obtain⟨U,I,u,x,A⟩:=tG (Q:=Q) p y l j.1 w ad h;refine rn hT m a6 f U I u (λL s i o a b c d e=>.inl (x L s i o a b c d e)) (λL W G H=>A L W G H ?_);obtain⟨o,ho,J⟩:=P1.1 j.2;obtain⟨i,V⟩:=D6 ho;exact .inl ⟨i,o,by simpa using V,J⟩
end
variable{v:AV}{y:Option (List C)}
section steps
variable{ar:Sp}{E:Nat->TI}{ops:Array Oper}{p:List Nat}{X:Prop}{f:Nat->AV}{g:Nat->Nat}{ob:Nat->Option (List C)}{K:St->Prop}{k:Box K}{op:Op}{ty:TypeId}{ps:String}{m:Array Edge}{gd:Option (Nat×Bool)}{rd hd:List Nat}{r:List Ent}{d:Nat}
def oz(hf:fal ⟨S d,op,ty,ps,m,gd⟩=F)(hg:GdE ops ⟨⟨S d,op,ty,ps,m,gd⟩,rd,hd,[],F⟩ ⟨f,g,ob⟩)(U:∀(fa:Nat->AV)(ga:Nat->Nat)(a:Nat->Option (List C))(K':St->Prop),K' ⟨upd (maskf rd f fa) d v,maskm p hd g ga,maskm p hd ob a⟩->opA ar E ⟨S d,op,ty,ps,m,gd⟩ ⟨maskf rd f fa,maskm p hd g ga,maskm p hd ob a⟩ (bx K'))
 (b:ei ar E ops p X r ⟨upd f d v,g,ob⟩ k):ei ar E ops p X (⟨⟨S d,op,ty,ps,m,gd⟩,rd,hd,[],F⟩::r) ⟨f,g,ob⟩ k:=by
 unfold ei;exact⟨v,[],⟨rfl,λfa ga a K' J=>U fa ga a K' (J λh=>by rw[hf]at h;cases h),hg⟩,b⟩
def yp{a x:Nat}(hf:fal ⟨S d,op,ty,ps,m,gd⟩=F)(hg:GdE ops ⟨⟨S d,op,ty,ps,m,gd⟩,rd,hd,[a],F⟩ ⟨f,g,ob⟩)(U:∀(fa:Nat->AV)(ga:Nat->Nat)(b:Nat->Option (List C))(K':St->Prop),K' ⟨upd (maskf rd f fa) d v,upd (maskm p hd g ga) (p.getD a 0) x,upd (maskm p hd ob b) (p.getD a 0) y⟩->opA ar E ⟨S d,op,ty,ps,m,gd⟩ ⟨maskf rd f fa,maskm p hd g ga,maskm p hd ob b⟩ (bx K'))
 (c:ei ar E ops p X r ⟨upd f d v,upd g (p.getD a 0) x,upd ob (p.getD a 0) y⟩ k):ei ar E ops p X (⟨⟨S d,op,ty,ps,m,gd⟩,rd,hd,[a],F⟩::r) ⟨f,g,ob⟩ k:=by
 unfold ei;exact⟨v,[(x,y)],⟨rfl,λfa ga b K' J=>U fa ga b K' (J λh=>by rw[hf]at h;cases h),hg⟩,c⟩
def DE{a:Nat}(hg:GdE ops ⟨⟨S d,op,ty,ps,m,gd⟩,rd,hd,[a],F⟩ ⟨f,g,ob⟩)(hv:p.getD a 0∉hd.map (λb=>p.getD b 0))(U:∀(fa:Nat->AV)(ga:Nat->Nat)(n:Nat->Option (List C))(K':St->Prop),(X->K' ⟨upd (maskf rd f fa) d v,maskm p hd g ga,upd (maskm p hd ob n) (p.getD a 0) y⟩)->opA ar E ⟨S d,op,ty,ps,m,gd⟩ ⟨maskf rd f fa,maskm p hd g ga,maskm p hd ob n⟩ (bx K'))
 (o:ei ar E ops p X r ⟨upd f d v,g,upd ob (p.getD a 0) y⟩ k):ei ar E ops p X (⟨⟨S d,op,ty,ps,m,gd⟩,rd,hd,[a],F⟩::r) ⟨f,g,ob⟩ k:=by
 have c:∀(A:Type)(h:Nat->A)(i:Nat),upd h i (h i)=h:=λA h i=>by funext j;simp only[upd];split<;>simp_all
 have l:∀ga:Nat->Nat,maskm p hd g ga (p.getD a 0)=g (p.getD a 0):=λga=>by
  clear U o hg
  induction hd with
  |nil=>rfl
  |cons b bs ih=>
    exact UQ
 unfold ei;refine⟨v,[(g (p.getD a 0),y)],⟨rfl,λfa ga n K' J=>U fa ga n K' (λq=>?_),hg⟩,?_⟩
 .have e:lB p ⟨⟨S d,op,ty,ps,m,gd⟩,rd,hd,[a],F⟩ v [(g (p.getD a 0),y)] ⟨maskf rd f fa,maskm p hd g ga,maskm p hd ob n⟩=⟨upd (maskf rd f fa) d v,maskm p hd g ga,upd (maskm p hd ob n) (p.getD a 0) y⟩:=by
   simp only[lB,wR,setm,l9,w9];rw[<-l ga,c]
  rw[<-e];exact J λ_=>q
 .have e:lB p ⟨⟨S d,op,ty,ps,m,gd⟩,rd,hd,[a],F⟩ v [(g (p.getD a 0),y)] ⟨f,g,ob⟩=⟨upd f d v,g,upd ob (p.getD a 0) y⟩:=by
   simp only[lB,wR,setm,l9,w9];rw[c]
  rw[e];exact o
def DF{o:Oper}{ef:List Nat}(hf:fal o=F)(hg:GdE ops ⟨o,rd,hd,ef,T⟩ ⟨f,g,ob⟩)(h:∀K':St->Prop,(∀B,K B->K' B)->opA ar E o ⟨f,g,ob⟩ (bx K')):ei ar E ops p X [⟨o,rd,hd,ef,T⟩] ⟨f,g,ob⟩ k:=by
 unfold ei;exact⟨⟨λq=>(by rw[hf]at q;cases q),h⟩,hg⟩
end steps
end
end
section
attribute[local congr]ite_cc
section
section
variable{P:Program}{O:Bs}{rd:Option Nat}{B0:Nat}{Ψ:ff}{op:Oper}{s:St}{K:St->Prop}{k:Box K}{f:FuncId}{args:Array Operand}{tys:Array TypeId}{R:AV->Prop}{bn:Loc}{s0:St}{w0:World}
def bJ(ho:op.op=.call ⟨.value (.func f),args,tys⟩)(hp:ax P f (args.toList.map s.ev) R)(hk:∀r,R r->K (s.put op.dst r))(hd:(args.toList.map s.ev).all eH=T:=by simp only[go_sem];rfl):bm (sp P) op s k:=
 fD ho hp hd hk
def cG{q:Nat}{o:cF}(ho:op.op=.call ⟨.value (.func f),args,tys⟩)(hp:bP P q o f (args.toList.map s.ev) R)(hk:∀r,R r->K (s.put op.dst r))(hd:(args.toList.map s.ev).all eH=T:=by simp only[go_sem];rfl):bm (spF P rd O (Fl q o O bn s0 w0) B0 Ψ) op s k:=
 mf aE (λ_ _ _ _ h=>h.1.2) ho hp hd hk
def ip{q:Nat}{o:cF}(ho:op.op=.call ⟨.value (.func f),args,tys⟩)(hp:ax P f (args.toList.map s.ev) R)(hk:∀r,R r->K (s.put op.dst r))(hd:(args.toList.map s.ev).all eH=T:=by simp only[go_sem];rfl):bm (spF P rd O (Fl q o O bn s0 w0) B0 Ψ) op s k:=
 jr aE ho hp hd hk
def DH(ho:op.op=.call ⟨.value (.func f),args,tys⟩)(hp:ax P f (args.toList.map s.ev) R)(hk:∀r,R r->K (s.put op.dst r))(hd:(args.toList.map s.ev).all eH=T:=by simp only[go_sem];rfl):bm (spF P rd O (yl O bn s0 w0) B0 Ψ) op s k:=
 jr aa ho hp hd hk
end
end
end
end Go.Am
namespace Go.Proofs.YtlacbjnmkhndiaaGreatDoor
section
open Go Go.Am
attribute[local congr]ite_cc
section
def ti3:TI:=⟨.int .i64,1,8,[.int .i64 0]⟩
def ti4:TI:=⟨.bool,1,1,[.bool F]⟩
def ti5:TI:=⟨.int .u8,1,1,[.int .u8 0]⟩
def ti9:TI:=⟨.string,1,16,[.str []]⟩
def RU:TI:=⟨.interface #[],1,16,[.nili]⟩
def Oj:TI:=⟨.slice 9,1,24,[.nsl]⟩
def Ok:TI:=⟨.slice 57,1,24,[.nsl]⟩
def Ol:TI:=⟨.slice 47,1,24,[.nsl]⟩
def JY:TI:=⟨.struct #[⟨ "Vars",22,0,F,"","",0⟩,⟨ "Arrays",23,1,F,"","",24⟩,⟨ "Funcs",24,2,F,"","",48⟩],3,72,[.nsl,.nsl,.nsl]⟩
def JZ:TI:=⟨.slice 39,1,24,[.nsl]⟩
def Ka:TI:=⟨.struct #[⟨ "Code",29,0,F,"","",0⟩,⟨ "Data",3,1,F,"","",24⟩],2,32,[.nsl,.int .i64 0]⟩
def RW:TI:=⟨.func #[26] #[31,32] F,1,8,[.nilf]⟩
def Kb:TI:=⟨.int .u32,1,4,[.int .u32 0]⟩
def Om:TI:=⟨.slice 42,1,24,[.nsl]⟩
def Gh:TI:=⟨.struct #[⟨ "Kind",3,0,F,"","",0⟩,⟨ "Op",3,1,F,"","",8⟩,⟨ "Num",39,2,F,"","",16⟩,⟨ "Name",9,3,F,"","",24⟩,⟨ "Kids",40,4,F,"","",40⟩],5,64,[.int .i64 0,.int .i64 0,.int .u32 0,.str [],.nsl]⟩
def On:TI:=⟨.slice 45,1,24,[.nsl]⟩
def Gi:TI:=⟨.struct #[⟨ "Kind",3,0,F,"","",0⟩,⟨ "Name",9,1,F,"","",8⟩,⟨ "E",40,2,F,"","",24⟩,⟨ "Then",43,3,F,"","",48⟩,⟨ "Else",43,4,F,"","",72⟩],5,96,[.int .i64 0,.str [],.nsl,.nsl,.nsl]⟩
def Gj:TI:=⟨.struct #[⟨ "Name",9,0,F,"","",0⟩,⟨ "Params",22,1,F,"","",16⟩,⟨ "Locals",22,2,F,"","",40⟩,⟨ "Word",4,3,F,"","",64⟩,⟨ "Body",43,4,F,"","",72⟩],5,96,[.str [],.nsl,.nsl,.bool F,.nsl]⟩
def Kc:TI:=⟨.struct #[⟨ "End",3,0,F,"","",0⟩,⟨ "Out",9,1,F,"","",8⟩,⟨ "Steps",3,2,F,"","",24⟩],3,32,[.int .i64 0,.str [],.int .i64 0]⟩
def Gk:TI:=⟨.struct #[⟨ "Name",9,0,F,"","",0⟩,⟨ "Size",3,1,F,"","",16⟩],2,24,[.str [],.int .i64 0]⟩
def Oo:TI:=⟨.slice 107,1,24,[.nsl]⟩
def Kd:TI:=⟨.struct #[⟨ "Words",3,0,F,"","",0⟩,⟨ "Funcs",60,1,F,"","",8⟩],2,32,[.int .i64 0,.nsl]⟩
def Oq:TI:=⟨.slice 126,1,24,[.nsl]⟩
def Ke:TI:=⟨.struct #[⟨ "Words",3,0,F,"","",0⟩,⟨ "Funcs",67,1,F,"","",8⟩],2,32,[.int .i64 0,.nsl]⟩
def RX:TI:=⟨.func #[62] #[31,32] F,1,8,[.nilf]⟩
def Ot:TI:=⟨.slice 79,1,24,[.nsl]⟩
def Gl:TI:=⟨.struct #[⟨ "Name",9,0,F,"","",0⟩,⟨ "As",3,1,F,"","",16⟩,⟨ "Of",3,2,F,"","",24⟩],3,32,[.str [],.int .i64 0,.int .i64 0]⟩
def RY:TI:=⟨.func #[31] #[9,32] F,1,8,[.nilf]⟩
def Ou:TI:=⟨.array 16 39,16,64,[.int .u32 0,.int .u32 0,.int .u32 0,.int .u32 0,.int .u32 0,.int .u32 0,.int .u32 0,.int .u32 0,.int .u32 0,.int .u32 0,.int .u32 0,.int .u32 0,.int .u32 0,.int .u32 0,.int .u32 0,.int .u32 0]⟩
def Kf:TI:=⟨.struct #[⟨ "PC",3,0,F,"","",0⟩,⟨ "Reg",89,1,F,"","",8⟩,⟨ "Mem",29,17,F,"","",72⟩,⟨ "Read",3,18,F,"","",96⟩,⟨ "Out",9,19,F,"","",104⟩,⟨ "Steps",3,20,F,"","",120⟩,⟨ "End",3,21,F,"","",128⟩],22,136,[.int .i64 0,.int .u32 0,.int .u32 0,.int .u32 0,.int .u32 0,.int .u32 0,.int .u32 0,.int .u32 0,.int .u32 0,.int .u32 0,.int .u32 0,.int .u32 0,.int .u32 0,.int .u32 0,.int .u32 0,.int .u32 0,.int .u32 0,.nsl,.int .i64 0,.str [],.int .i64 0,.int .i64 0]⟩
def Ov:TI:=⟨.map 9 103,1,8,[.nilm]⟩
def Cl:TI:=⟨.struct #[⟨ "outside",97,0,F,"","seedcorn/core",0⟩,⟨ "inside",97,1,F,"","seedcorn/core",8⟩],2,16,[.nilm,.nilm]⟩
def Cm:TI:=⟨.struct #[⟨ "slot",3,0,F,"","seedcorn/core",0⟩,⟨ "size",3,1,F,"","seedcorn/core",8⟩],2,16,[.int .i64 0,.int .i64 0]⟩
def Gm:TI:=⟨.slice 152,1,24,[.nsl]⟩
def yV:TI:=⟨.struct #[⟨ "Params",3,0,F,"","",0⟩,⟨ "Slots",3,1,F,"","",8⟩,⟨ "First",3,2,F,"","",16⟩,⟨ "Word",4,3,F,"","",24⟩,⟨ "Body",104,4,F,"","",32⟩],5,56,[.int .i64 0,.int .i64 0,.int .i64 0,.bool F,.nsl]⟩
def Gn:TI:=⟨.slice 109,1,24,[.nsl]⟩
def Cn:TI:=⟨.slice 3,1,24,[.nsl]⟩
def Co:TI:=⟨.struct #[⟨ "depths",108,0,F,"","seedcorn/emit",0⟩,⟨ "back",109,1,F,"","seedcorn/emit",24⟩,⟨ "base",109,2,F,"","seedcorn/emit",48⟩,⟨ "data",3,3,F,"","seedcorn/emit",72⟩],4,80,[.nsl,.nsl,.nsl,.int .i64 0]⟩
def MT:TI:=⟨.pointer 117,1,8,[.nilp]⟩
def Gp:TI:=⟨.slice 120,1,24,[.nsl]⟩
def Gq:TI:=⟨.slice 160,1,24,[.nsl]⟩
def Cp:TI:=⟨.struct #[⟨ "s",69,0,F,"","seedcorn/emit",0⟩,⟨ "plan",111,2,F,"","seedcorn/emit",32⟩,⟨ "code",114,6,F,"","seedcorn/emit",112⟩,⟨ "entry",109,7,F,"","seedcorn/emit",136⟩,⟨ "places",108,8,F,"","seedcorn/emit",160⟩,⟨ "holes",115,9,F,"","seedcorn/emit",184⟩,⟨ "f",3,10,F,"","seedcorn/emit",208⟩,⟨ "depth",3,11,F,"","seedcorn/emit",216⟩],12,224,[.int .i64 0,.nsl,.nsl,.nsl,.nsl,.int .i64 0,.nsl,.nsl,.nsl,.nsl,.int .i64 0,.int .i64 0]⟩
def yW:TI:=⟨.struct #[⟨ "Op",3,0,F,"","",0⟩,⟨ "A",3,1,F,"","",8⟩,⟨ "B",3,2,F,"","",16⟩,⟨ "C",3,3,F,"","",24⟩],4,32,[.int .i64 0,.int .i64 0,.int .i64 0,.int .i64 0]⟩
def Gr:TI:=⟨.slice 221,1,24,[.nsl]⟩
def yX:TI:=⟨.struct #[⟨ "Params",3,0,F,"","",0⟩,⟨ "Slots",3,1,F,"","",8⟩,⟨ "First",3,2,F,"","",16⟩,⟨ "Word",4,3,F,"","",24⟩,⟨ "Code",123,4,F,"","",32⟩],5,56,[.int .i64 0,.int .i64 0,.int .i64 0,.bool F,.nsl]⟩
def MU:TI:=⟨.pointer 131,1,8,[.nilp]⟩
def Gs:TI:=⟨.slice 29,1,24,[.nsl]⟩
def Gt:TI:=⟨.slice 5,1,24,[.nsl]⟩
def Cq:TI:=⟨.struct #[⟨ "P",26,0,F,"","",0⟩,⟨ "In",9,3,F,"","",72⟩,⟨ "Fuel",3,4,F,"","",88⟩,⟨ "Vars",29,5,F,"","",96⟩,⟨ "Arrays",128,6,F,"","",120⟩,⟨ "Out",129,7,F,"","",144⟩,⟨ "Read",3,8,F,"","",168⟩,⟨ "Ticks",3,9,F,"","",176⟩,⟨ "End",3,10,F,"","",184⟩],11,192,[.nsl,.nsl,.nsl,.str [],.int .i64 0,.nsl,.nsl,.nsl,.int .i64 0,.int .i64 0,.int .i64 0]⟩
def MV:TI:=⟨.pointer 176,1,8,[.nilp]⟩
def MW:TI:=⟨.func #[136] #[] F,1,8,[.nilf]⟩
def Gu:TI:=⟨.slice 213,1,24,[.nsl]⟩
def yY:TI:=⟨.struct #[⟨ "Kind",3,0,F,"","",0⟩,⟨ "Slot",3,1,F,"","",8⟩,⟨ "Size",3,2,F,"","",16⟩,⟨ "E",149,3,F,"","",24⟩,⟨ "Then",104,4,F,"","",48⟩,⟨ "Else",104,5,F,"","",72⟩],6,96,[.int .i64 0,.int .i64 0,.int .i64 0,.nsl,.nsl,.nsl]⟩
def Gv:TI:=⟨.map 3 225,1,8,[.nilm]⟩
def yZ:TI:=⟨.struct #[⟨ "at",3,0,F,"","seedcorn/emit",0⟩,⟨ "f",3,1,F,"","seedcorn/emit",8⟩,⟨ "place",3,2,F,"","seedcorn/emit",16⟩],3,24,[.int .i64 0,.int .i64 0,.int .i64 0]⟩
def Cr:TI:=⟨.struct #[⟨ "word",4,0,F,"","seedcorn/lower",0⟩,⟨ "code",123,1,F,"","seedcorn/lower",8⟩],2,32,[.bool F,.nsl]⟩
def MX:TI:=⟨.pointer 168,1,8,[.nilp]⟩
def Cs:TI:=⟨.struct #[⟨ "f",3,0,F,"","seedcorn/seedcornref18",0⟩,⟨ "words",29,1,F,"","seedcorn/seedcornref18",8⟩,⟨ "back",4,2,F,"","seedcorn/seedcornref18",32⟩,⟨ "value",39,3,F,"","seedcorn/seedcornref18",36⟩],4,40,[.int .i64 0,.nsl,.bool F,.int .u32 0]⟩
def Gw:TI:=⟨.slice 179,1,24,[.nsl]⟩
def Ct:TI:=⟨.struct #[⟨ "at",3,0,F,"","seedcorn/parse",0⟩],1,8,[.int .i64 0]⟩
def Cu:TI:=⟨.struct #[⟨ "tokens",170,0,F,"","seedcorn/parse",0⟩,⟨ "next",3,1,F,"","seedcorn/parse",24⟩,⟨ "end",3,2,F,"","seedcorn/parse",32⟩],3,40,[.nsl,.int .i64 0,.int .i64 0]⟩
def za:TI:=⟨.struct #[⟨ "Kind",3,0,F,"","",0⟩,⟨ "Text",9,1,F,"","",8⟩,⟨ "Num",39,2,F,"","",24⟩,⟨ "At",3,3,F,"","",32⟩],4,40,[.int .i64 0,.str [],.int .u32 0,.int .i64 0]⟩
def Gx:TI:=⟨.slice 4,1,24,[.nsl]⟩
def Cv:TI:=⟨.struct #[⟨ "s",91,0,F,"","seedcorn/seedcornref10",0⟩,⟨ "out",129,22,F,"","seedcorn/seedcornref10",136⟩,⟨ "code",114,23,F,"","seedcorn/seedcornref10",160⟩,⟨ "ok",183,24,F,"","seedcorn/seedcornref10",184⟩,⟨ "words",29,25,F,"","seedcorn/seedcornref10",208⟩,⟨ "in",9,26,F,"","seedcorn/seedcornref10",232⟩,⟨ "counts",109,27,F,"","seedcorn/seedcornref10",248⟩],28,272,[.int .i64 0,.int .u32 0,.int .u32 0,.int .u32 0,.int .u32 0,.int .u32 0,.int .u32 0,.int .u32 0,.int .u32 0,.int .u32 0,.int .u32 0,.int .u32 0,.int .u32 0,.int .u32 0,.int .u32 0,.int .u32 0,.int .u32 0,.nsl,.int .i64 0,.str [],.int .i64 0,.int .i64 0,.nsl,.nsl,.nsl,.nsl,.str [],.nsl]⟩
def Gy:TI:=⟨.map 9 204,1,8,[.nilm]⟩
def Cw:TI:=⟨.struct #[⟨ "outside",194,0,F,"","seedcorn/scope",0⟩,⟨ "inside",194,1,F,"","seedcorn/scope",8⟩],2,16,[.nilm,.nilm]⟩
def Cx:TI:=⟨.struct #[⟨ "kind",3,0,F,"","seedcorn/scope",0⟩,⟨ "name",9,1,F,"","seedcorn/scope",8⟩,⟨ "arguments",3,2,F,"","seedcorn/scope",24⟩],3,32,[.int .i64 0,.str [],.int .i64 0]⟩
def Cy:TI:=⟨.struct #[⟨ "kind",3,0,F,"","seedcorn/scope",0⟩,⟨ "number",3,1,F,"","seedcorn/scope",8⟩],2,16,[.int .i64 0,.int .i64 0]⟩
def Gz:TI:=⟨.func #[202] #[] F,1,8,[.nilf]⟩
def MY:TI:=⟨.pointer 265,1,8,[.nilp]⟩
def zb:TI:=⟨.struct #[⟨ "Kind",3,0,F,"","",0⟩,⟨ "Op",3,1,F,"","",8⟩,⟨ "Num",39,2,F,"","",16⟩,⟨ "Slot",3,3,F,"","",24⟩,⟨ "Size",3,4,F,"","",32⟩,⟨ "Kids",149,5,F,"","",40⟩],6,64,[.int .i64 0,.int .i64 0,.int .u32 0,.int .i64 0,.int .i64 0,.nsl]⟩
def Cz:TI:=⟨.struct #[⟨ "items",109,0,F,"","seedcorn/stack",0⟩],1,24,[.nsl]⟩
def zc:TI:=⟨.struct #[⟨ "Op",3,0,F,"","",0⟩,⟨ "A",3,1,F,"","",8⟩,⟨ "B",3,2,F,"","",16⟩,⟨ "N",39,3,F,"","",24⟩],4,32,[.int .i64 0,.int .i64 0,.int .i64 0,.int .u32 0]⟩
def GA:TI:=⟨.func #[113,221] #[] F,1,8,[.nilf]⟩
def CA:TI:=⟨.struct #[⟨ "name",9,0,F,"","seedcorn/inst",0⟩,⟨ "a",4,1,F,"","seedcorn/inst",16⟩,⟨ "b",4,2,F,"","seedcorn/inst",17⟩,⟨ "c",3,3,F,"","seedcorn/inst",24⟩],4,32,[.str [],.bool F,.bool F,.int .i64 0]⟩
def GC:TI:=⟨.pointer 164,1,8,[.nilp]⟩
def MZ:TI:=⟨.pointer 152,1,8,[.nilp]⟩
def Na:TI:=⟨.func #[5] #[4] F,1,8,[.nilf]⟩
def Nb:TI:=⟨.pointer 187,1,8,[.nilp]⟩
def GD:TI:=⟨.int .u64,1,8,[.int .u64 0]⟩
def GF:TI:=⟨.func #[43] #[] F,1,8,[.nilf]⟩
def GG:TI:=⟨.func #[40] #[] F,1,8,[.nilf]⟩
def GH:TI:=⟨.map 9 47,1,8,[.nilm]⟩
def GI:TI:=⟨.func #[42] #[3] F,1,8,[.nilf]⟩
def GJ:TI:=⟨.array 10 262,10,80,[.nilf,.nilf,.nilf,.nilf,.nilf,.nilf,.nilf,.nilf,.nilf,.nilf]⟩
def CB:TI:=⟨.struct #[⟨ "funcs",261,0,F,"","seedcorn/typing",0⟩,⟨ "ask",263,1,F,"","seedcorn/typing",8⟩],11,88,[.nilm,.nilf,.nilf,.nilf,.nilf,.nilf,.nilf,.nilf,.nilf,.nilf,.nilf]⟩
def Nc:TI:=⟨.pointer 215,1,8,[.nilp]⟩
def Nd:TI:=⟨.pointer 213,1,8,[.nilp]⟩
def Nf:TI:=⟨.array 24 9,24,384,[.str [],.str [],.str [],.str [],.str [],.str [],.str [],.str [],.str [],.str [],.str [],.str [],.str [],.str [],.str [],.str [],.str [],.str [],.str [],.str [],.str [],.str [],.str [],.str []]⟩
def Ng:TI:=⟨.array 10 9,10,160,[.str [],.str [],.str [],.str [],.str [],.str [],.str [],.str [],.str [],.str []]⟩
def Tt:Nat->TI:=BX [(3,ti3),(4,ti4),(5,ti5),(9,ti9),(20,RU),(22,Oj),(23,Ok),(24,Ol),(25,JY),(26,JY),(29,JZ),(30,Ka),(31,Ka),(32,ti3),(34,RW),(39,Kb),(40,Om),(41,Gh),(42,Gh),(43,On),(44,Gi),(45,Gi),(46,Gj),(47,Gj),(52,Kc),(53,Kc),(56,Gk),(57,Gk),(60,Oo),(61,Kd),(62,Kd),(67,Oq),(68,Ke),(69,Ke),(71,RX),(76,Ot),(78,Gl),(79,Gl),(87,RY),(89,Ou),(90,Kf),(91,Kf),(97,Ov),(100,Cl),(101,Cl),(102,Cm),(103,Cm),(104,Gm),(106,yV),(107,yV),(108,Gn),(109,Cn),(110,Co),(111,Co),(113,MT),(114,Gp),(115,Gq),(116,Cp),(117,Cp),(119,yW),(120,yW),(123,Gr),(125,yX),(126,yX),(127,MU),(128,Gs),(129,Gt),(130,Cq),(131,Cq),(136,MV),(138,MW),(149,Gu),(151,yY),(152,yY),(155,Gv),(159,yZ),(160,yZ),(163,Cr),(164,Cr),(166,MX),(167,Cs),(168,Cs),(170,Gw),(173,Ct),(174,Ct),(175,Cu),(176,Cu),(178,za),(179,za),(183,Gx),(186,Cv),(187,Cv),(194,Gy),(198,Cw),(199,Cw),(201,Cx),(202,Cx),(203,Cy),(204,Cy),(206,Gz),(207,MY),(212,zb),(213,zb),(214,Cz),(215,Cz),(220,zc),(221,zc),(225,GA),(228,CA),(229,CA),(232,GC),(234,MZ),(239,Na),(248,Nb),(251,GD),(259,GF),(260,GG),(261,GH),(262,GI),(263,GJ),(264,CB),(265,CB),(268,Nc),(271,Nd),(275,Nf),(283,Ng)]
def aA:bb Tryz.prog Tt:=DK c9
attribute [go_sem] ti3 ti4 ti5 ti9 RU Oj Ok Ol JY JZ Ka RW Kb Om Gh On Gi Gj Kc Gk Oo Kd Oq Ke RX Ot Gl RY Ou Kf Ov Cl Cm Gm yV Gn Cn Co MT Gp Gq Cp yW Gr yX MU Gs Gt Cq MV MW Gu yY Gv yZ Cr MX Cs Gw Ct Cu za Gx Cv Gy Cw Cx Cy Gz MY zb Cz zc GA CA GC MZ Na Nb GD GF GG GH GI GJ CB Nc Nd Nf Ng
def mixed:Tryz.prog.follows .mixedOrders=T:=c9
@[go_sem]def Xg:Tt 3=ti3/\Tt 4=ti4/\Tt 5=ti5/\Tt 9=ti9/\cZ Tt 9=F/\Tt 22=Oj/\aR Tt 22=ti9/\cZ Tt 22=T/\Tt 23=Ok/\aR Tt 23=Gk/\cZ Tt 23=T/\Tt 24=Ol/\aR Tt 24=Gj/\cZ Tt 24=T/\Tt 26=JY/\fW Tt 26=T/\Tt 29=JZ/\aR Tt 29=Kb/\cZ Tt 29=T/\Tt 31=Ka/\fW Tt 31=T/\Tt 32=ti3/\Tt 39=Kb/\Tt 40=Om/\aR Tt 40=Gh/\cZ Tt 40=T/\Tt 42=Gh/\fW Tt 42=T/\Tt 43=On/\aR Tt 43=Gi/\cZ Tt 43=T/\Tt 45=Gi/\fW Tt 45=T/\Tt 47=Gj/\Tt 53=Kc/\fW Tt 53=T/\Tt 57=Gk/\Tt 60=Oo/\aR Tt 60=yV/\cZ Tt 60=T/\Tt 62=Kd/\fW Tt 62=T/\Tt 67=Oq/\aR Tt 67=yX/\cZ Tt 67=T/\Tt 69=Ke/\fW Tt 69=T/\Tt 76=Ot/\aR Tt 76=Gl/\cZ Tt 76=T/\Tt 79=Gl/\fW Tt 79=T/\Tt 89=Ou/\cZ Tt 89=F/\Tt 91=Kf/\fW Tt 91=T/\Tt 97=Ov/\Tt 101=Cl/\fW Tt 101=T/\Tt 103=Cm/\fW Tt 103=T/\Tt 104=Gm/\aR Tt 104=yY/\cZ Tt 104=T/\Tt 107=yV/\fW Tt 107=T/\Tt 108=Gn/\aR Tt 108=Cn/\cZ Tt 108=T/\Tt 109=Cn/\aR Tt 109=ti3/\cZ Tt 109=T/\Tt 111=Co/\fW Tt 111=T/\Tt 114=Gp/\aR Tt 114=yW/\cZ Tt 114=T/\Tt 115=Gq/\aR Tt 115=yZ/\cZ Tt 115=T/\Tt 117=Cp/\fW Tt 117=T/\Tt 120=yW/\fW Tt 120=T/\Tt 123=Gr/\aR Tt 123=zc/\cZ Tt 123=T/\Tt 126=yX/\fW Tt 126=T/\Tt 128=Gs/\aR Tt 128=JZ/\cZ Tt 128=T/\Tt 129=Gt/\aR Tt 129=ti5/\cZ Tt 129=T/\Tt 131=Cq/\fW Tt 131=T/\Tt 149=Gu/\aR Tt 149=zb/\cZ Tt 149=T/\Tt 152=yY/\fW Tt 152=T/\Tt 155=Gv/\Tt 160=yZ/\fW Tt 160=T/\Tt 164=Cr/\fW Tt 164=T/\Tt 168=Cs/\fW Tt 168=T/\Tt 170=Gw/\aR Tt 170=za/\cZ Tt 170=T/\Tt 174=Ct/\fW Tt 174=T/\Tt 176=Cu/\fW Tt 176=T/\Tt 179=za/\fW Tt 179=T/\Tt 183=Gx/\aR Tt 183=ti4/\cZ Tt 183=T/\Tt 187=Cv/\fW Tt 187=T/\Tt 194=Gy/\Tt 199=Cw/\fW Tt 199=T/\Tt 202=Cx/\fW Tt 202=T/\Tt 204=Cy/\fW Tt 204=T/\Tt 206=Gz/\Tt 213=zb/\fW Tt 213=T/\Tt 215=Cz/\Tt 221=zc/\fW Tt 221=T/\Tt 225=GA/\Tt 229=CA/\fW Tt 229=T/\Tt 232=GC/\Tt 251=GD/\Tt 259=GF/\Tt 260=GG/\Tt 261=GH/\Tt 262=GI/\Tt 263=GJ/\cZ Tt 263=F/\Tt 265=CB/\fW Tt 265=T:=by and_intros<;>exact B7 rfl rfl
variable{f:FuncId}{fn:Func}{c:Code}{xs:List AV}{R:AV->Prop}{g:Nat->Nat}{ob:Obs}
def hdG{q:Nat}{o:cF}(hf:Tryz.prog.funcs[f]?=S fn)(hb:fn.body=S c)(rs:List ResultVar)(h:∀O bn s0 w0 g,wpC (spF Tryz.prog N O (Fl q o O bn s0 w0) 0 tJ) Tt c (bx (tH Tt rs R)) ⟨cW xs,g,λ_=>N⟩)(hn:(fn.name == "runtime.NumGoroutine")=F:=by rfl)(a1:fn.results=rs.toArray:=by rfl)(p:gK c=T:=by kernel_rfl)(an:codeOk fn.ntmps c=T:=by kernel_rfl)(m:Nat.ble (z xs) fn.ntmps=T:=by kernel_rfl):bP Tryz.prog q o f xs R:=qp 0 q o aA mixed hf hb hn rs a1 p an (Ju m) h
def hdM(B:Nat)(ar:List Nat)(hf:Tryz.prog.funcs[f]?=S fn)(hb:fn.body=S c)(rs:List ResultVar){R:AV->(Nat->Nat)->Obs->Prop}{X:Pan}(hS:∀i∈ar,i<B)(hB:∀i,B<=i->ob i=N)(h:∀O bn s0 w0,wpC (spF Tryz.prog N O (yl O bn s0 w0) B (Fp B ar g ob X)) Tt c (bx (NM Tt rs B ar g ob R)) ⟨cW xs,g,ob⟩)(hn:(fn.name == "runtime.NumGoroutine")=F:=by rfl)(a1:fn.results=rs.toArray:=by rfl)(p:gK c=T:=by kernel_rfl)(an:codeOk fn.ntmps c=T:=by kernel_rfl)(m:Nat.ble (z xs) fn.ntmps=T:=by kernel_rfl):cM Tryz.prog f xs g ob R X:=bI B ar aA mixed hf hb hn rs a1 p an (Ju m) hS hB h
def hdX(B:Nat)(hf:Tryz.prog.funcs[f]?=S fn)(hb:fn.body=S c)(rs:List ResultVar){R:AV->(Nat->Nat)->Obs->Prop}{X:Pan}(h:∀O bn s0 w0,wpC (spF Tryz.prog N O (yl O bn s0 w0) B X.on) Tt c (bx (yg Tt rs R)) ⟨cW xs,g,ob⟩)(hn:(fn.name == "runtime.NumGoroutine")=F:=by rfl)(a1:fn.results=rs.toArray:=by rfl)(p:gK c=T:=by kernel_rfl)(an:codeOk fn.ntmps c=T:=by kernel_rfl)(m:Nat.ble (z xs) fn.ntmps=T:=by kernel_rfl):cM Tryz.prog f xs g ob R X:=Az B aA mixed hf hb hn rs a1 p an (Ju m) h
def hdR(hf:Tryz.prog.funcs[f]?=S fn)(hb:fn.body=S c)(rs:List ResultVar)(h:∀g,wpC (sp Tryz.prog) Tt c (bx (tH Tt rs R)) ⟨cW xs,g,λ_=>N⟩)(hn:(fn.name == "runtime.NumGoroutine")=F:=by rfl)(a1:fn.results=rs.toArray:=by rfl)(an:codeOk fn.ntmps c=T:=by kernel_rfl)(m:Nat.ble (z xs) fn.ntmps=T:=by kernel_rfl):ax Tryz.prog f xs R:=yh aA mixed hf hb hn rs a1 an (Ju m) h
def hdP(hf:Tryz.prog.funcs[f]?=S fn)(hb:fn.body=S c)(rs:List Nat)(h:∀g,wpC (sp Tryz.prog) Tt c (bx (AI rs R)) ⟨cW xs,g,λ_=>N⟩)(hn:(fn.name == "runtime.NumGoroutine")=F:=by rfl)(a1:fn.results=(rs.map ResultVar.tmp).toArray:=by rfl)(an:codeOk fn.ntmps c=T:=by kernel_rfl)(m:Nat.ble (z xs) fn.ntmps=T:=by kernel_rfl):ax Tryz.prog f xs R:=AJ aA mixed hf hb hn rs a1 an (Ju m) h
def hdF(B:Nat)(hf:Tryz.prog.funcs[f]?=S fn)(hb:fn.body=S c)(rs:List Nat){R:AV->(Nat->Nat)->Obs->Prop}(h:wpC (spB Tryz.prog B) Tt c (bx (xY rs R)) ⟨cW xs,g,ob⟩)(hn:(fn.name == "runtime.NumGoroutine")=F:=by rfl)(a1:fn.results=(rs.map ResultVar.tmp).toArray:=by rfl)(an:codeOk fn.ntmps c=T:=by kernel_rfl)(m:Nat.ble (z xs) fn.ntmps=T:=by kernel_rfl):fX Tryz.prog f xs g ob R:=Do B aA mixed hf hb hn rs a1 an (Ju m) h
end
end
end Go.Proofs.YtlacbjnmkhndiaaGreatDoor
namespace Go.Asm
section
abbrev Str:=List UInt8
def small(c:UInt8):Bool:=decide (97<=c.toNat)&&decide (c.toNat<=122)
def letter(c:UInt8):Bool:=small c||(decide (65<=c.toNat)&&decide (c.toNat<=90))
def digit(c:UInt8):Bool:=decide (48<=c.toNat)&&decide (c.toNat<=57)
def ew(c:UInt8):Bool:=letter c||digit c||c==95
def EN(n:Nat)(c:UInt8):Nat:=10*n+(c.toNat-48)
def iO(s:Str):Nat:=s.foldl EN 0
def names:List Str:=[[108,105],[108,117,105],[109,111,118],[97,100,100],[115,117,98],[109,117,108],[100,105,118],[109,111,100],[97,110,100],[111,114],[120,111,114],[115,104,108],[115,104,114],[108,116],[101,113],[108,100],[115,116],
 [106,109,112],[106,122],[106,110,122],[99,97,108,108],[114,101,116],[103,101,116],[112,117,116],[99,104,107],[104,97,108,116],[108,100,99]]
def shape(op:Nat):Bool×Bool×Nat:=
 if op=1\/op=2\/op=19\/op=20\/op=21\/op=25 then(T,F,1)
 else if op=3 then(T,T,0)
 else if 4<=op/\op<=15 then(T,T,2)
 else if op=16\/op=17\/op=27 then(T,T,1)
 else if op=18 then(F,F,1)
 else if op=22\/op=23\/op=24 then(T,F,0)
 else(F,F,0)
def word(op a b c:Nat):Nat:=op*16777216+a*1048576+b*65536+c
end
end Go.Asm
namespace Go.Proofs.YtlacbjnmkhndiaaGreatDoor
section
open Go Go.Am Go.Asm
section
def getq{A:Type}{l:List A}{k:Nat}(h:k<z l):∃x,l[k]?=S x:=⟨_,v8 h⟩
variable{c d:UInt8}
def RS(h:(c.toNat:Int)=(d.toNat:Int)):c=d:=P9.1 a7
def pk(h:c≠d):¬(c.toNat:Int)=(d.toNat:Int):=λe=>h (RS e)
def un{c:UInt8}:letter c=T↔(97<=c.toNat/\c.toNat<=122)\/(65<=c.toNat/\c.toNat<=90):=by simp[letter,small]
def rF{c:UInt8}:digit c=T↔48<=c.toNat/\c.toNat<=57:=by simp[digit]
end
end
section
open Go Go.Am Go.Asm
attribute[local congr]ite_cc
def preB(p s:Str):Bool:=decide (s.take (z p)=p)
def yS(s p:Str):ax Tryz.prog 181 [sv s,sv p] (·=bv (preB p s)):=by
 refine hdP Tryz.func181 rfl [4] λg=>?_;simp only[go_sem];refine⟨λh=>?_,λh=>?_⟩
 .exact⟨L0 _,a7,rfl⟩
 .have:¬s.take (z p)=p:=λe=>by
   have:=congrArg z e;simp only[D1]at this;omega
  simp[preB,this]
def strs(l:List Str):D:=.sl (l.map λw=>[.str w])
end
section
open Go Go.Am Go.Asm
def iV(t:Nat)(p:List Nat)(L:List Str)(K:St):Prop:=(K.f t=.one (.d .nsl)/\L=[])\/∃id∈p,K.f t=.one (.osl id (K.gen id) 1 0 (z L))/\K.obj id=S (L.map λw=>.d (.str w))
def qA{s:St}{id g n:Nat}{L:List Str}(hg:s.gen id=g)(ho:s.obj id=S (L.map λw=>.d (.str w)))(b:n=z L):Frz s (.osl id g 1 0 n) (strs L):=by
 subst b;exact qh hg ho L (λw=>.str w) (λ_=>rfl) rfl (λj a h=>by simp[h]) a8
end
end Go.Proofs.YtlacbjnmkhndiaaGreatDoor
namespace Go.Proofs
section
open Go.Shelf Go.RowKit Go.Lib
section
variable{P:Program}{a:Ren}
end
section
variable{P:Program}{a:Ren}
end
end
section
open Go.Shelf
end
end Go.Proofs
namespace Go.Proofs.YtlacbjnmkhndiaaGreatDoor
section
open Go Go.Am Go.Asm
end
section
open Go Go.Am Go.Asm
attribute[local congr]ite_cc
def nameOf(op:Nat):Str:=match op with|0=>[]|k+1=>names.getD k []
def ut(op:Nat):AV:=.agg [.d (.str (nameOf op)),.d (.bool (Asm.shape op).1),.d (.bool (Asm.shape op).2.1),.d (.int .i64 ((Asm.shape op).2.2:Nat))]
def yU{op:Nat}(h:op=0\/28<=op):ut op=.agg [.d (.str []),.d (.bool F),.d (.bool F),.d (.int .i64 0)]:=by
 rcases h with rfl|h
 .rfl
 .have U:nameOf op=[]:=by
   exact Ur
  have a:Asm.shape op=(F,F,0):=by
   unfold Asm.shape
   repeat rw[j8 (by omega)]
  unfold ut;rw[U,a];rfl
def uu{s:St}{n:Str}{a b:Bool}{c:Int}:kR s (.agg [.d (.str n),.d (.bool a),.d (.bool b),.d (.int .i64 c)]) (.agg [.d (.str n),.d (.bool a),.d (.bool b),.d (.int .i64 c)]):=by
 refine⟨[.str n,.bool a,.bool b,.int .i64 c],rfl,λi c Z=>?_,rfl⟩
 match i,Z with
 |0,Z=>cases Z;exact⟨_,rfl,.d _⟩
 |1,Z=>cases Z;exact⟨_,rfl,.d _⟩
 |2,Z=>cases Z;exact⟨_,rfl,.d _⟩
 |3,Z=>cases Z;exact⟨_,rfl,.d _⟩
def wg(op:Int):ax Tryz.prog 137 [iv .i64 op] (·=ut op.toNat):=by
 refine hdR Tryz.func137 rfl [.cell 2 229] λg=>?_;simp only[go_sem]
 repeat' (first|refine A0 (λh=>?_) (λh=>?_)|fail)
 all_goals first
  | (subst h
     exact⟨_,uu,rfl⟩)
  | (have e:op.toNat=0\/28<=op.toNat:=a7
     refine⟨_,uu,?_⟩;rw[yU e])
def jt(op:Nat):Bool:=decide (1<=op)&&decide (op<=27)
def DZ(op:Nat):(decide (¬nameOf op=[]))=jt op:=by
 unfold jt;by_cases h:op<=27
 .have:∀k,k<=27->decide (¬nameOf k=[])=(decide (1<=k)&&decide (k<=27)):=b9
  exact this op h
 .have U:nameOf op=[]:=by
   exact Ur
  simp[U,h]
def JV(op:Int):ax Tryz.prog 136 [iv .i64 op] (·=bv (jt op.toNat)):=by
 refine hdP Tryz.func136 rfl [2] λg=>?_;simp only[go_sem];refine bJ rfl (by simp only[go_sem];exact wg op) ?_;rintro _ rfl;unfold ut;simp only[go_sem];rw[<-DZ]
def inW(v i:Int)(b:Bool):Bool:=if b=T then decide (0<=v) && decide (v<=i)else decide (v=0)
def uw(v i:Int)(b:Bool):ax Tryz.prog 138 [iv .i64 v,iv .i64 i,bv b] (·=bv (inW v i b)):=by
 refine hdP Tryz.func138 rfl [6] λg=>?_;exact UH
def pn(op:Nat):Int:=if (Asm.shape op).2.2=2 then 15 else 65535
def eI(op a b c:Int):Bool:=jt op.toNat&&(inW a 15 (Asm.shape op.toNat).1&&(inW b 15 (Asm.shape op.toNat).2.1&&inW c (pn op.toNat) (decide ((Asm.shape op.toNat).2.2≠0))))
def po(op a b c:Int):AV:=.agg [.d (.int .i64 op),.d (.int .i64 a),.d (.int .i64 b),.d (.int .i64 c)]
def JW(op a b c:Int):ax Tryz.prog 76 [po op a b c] (·=bv (eI op a b c)):=by
 refine hdP Tryz.func76 rfl [2] λg=>?_;unfold po;simp only[go_sem];refine bJ rfl (by simp only[go_sem];exact JV op) ?_;rintro _ rfl;cases hk:jt op.toNat
 .simp only[go_sem]
  simp[eI,hk]
 simp only[go_sem];refine bJ rfl (by simp only[go_sem];exact wg op) ?_;rintro _ rfl;have e:eI op a b c=(inW a 15 (Asm.shape op.toNat).1&&(inW b 15 (Asm.shape op.toNat).2.1&&inW c (pn op.toNat) (decide ((Asm.shape op.toNat).2.2≠0)))):=by unfold eI;rw[hk,x6]
 rw[e];unfold ut pn;generalize (Asm.shape op.toNat).1=p;generalize (Asm.shape op.toNat).2.1=q;generalize (Asm.shape op.toNat).2.2=r
 have bz:decide (¬((r:Nat):Int)=0)=decide (r≠0):=by
  have:(((r:Nat):Int)=0)=(r=0):=by apply propext;omega
  simp only[this,ne_eq]
 by_cases V:r=2
 case' pos=>
  have d:((r:Nat):Int)=2:=a7;rw[l8 V];simp only[go_sem,d]
 case' neg=>
  have d:¬((r:Nat):Int)=2:=a7;rw[j8 V];simp only[go_sem,d]
 all_goals
  refine bJ rfl (by simp only[go_sem];exact uw a 15 p) ?_;rintro _ rfl;cases U:inW a 15 p
  .simp only[go_sem]
   try simp
  simp only[go_sem];refine bJ rfl (by simp only[go_sem];exact uw b 15 q) ?_;rintro _ rfl;cases i:inW b 15 q
  .simp only[go_sem]
   try simp
  simp only[go_sem,bz];refine bJ rfl (by simp only[go_sem,bz];exact uw c _ _) ?_;rintro _ rfl;simp only[go_sem]
  first|done|(subst V;simp;done)|simp
def Oi(x y:Nat)(I:x<4294967296)(a:y<4294967296):(BitVec.ofInt 32 (x:Int) |||BitVec.ofInt 32 (y:Int)).toNat=x |||y:=by
 rw[BitVec.toNat_or]
 have h:∀n:Nat,n<4294967296->(BitVec.ofInt 32 (n:Int)).toNat=n:=λn b=>by
  rw[Q4];omega
 rw[h x I,h y a]
def wrapN(n:Nat)(h:n<4294967296):IntKind.u32.wrap (n:Int)=n:=by rw[IntKind.wrap_u32];omega
def Gf(a b k:Nat)(h:b<2^k):(a*2^k) |||b=a*2^k+b:=by
 rw[Sh,Nat.two_pow_add_eq_or_of_lt h]
def JX(o a b c:Nat)(U:o<=27)(i:a<=15)(j:b<=15)(k:c<=65535):IntKind.u32.wrap
   ((BitVec.ofInt 32
        (IntKind.u32.wrap
          ((BitVec.ofInt 32
               (IntKind.u32.wrap
                 ((BitVec.ofInt 32 (IntKind.u32.wrap ((o:Int)*2^min 24 32)) |||
                     BitVec.ofInt 32 (IntKind.u32.wrap ((a:Int)*2^min 20 32))).toNat:Int)) |||
              BitVec.ofInt 32 (IntKind.u32.wrap ((b:Int)*2^min 16 32))).toNat:Int)) |||
       BitVec.ofInt 32 (c:Int)).toNat:Int)=(word o a b c:Nat):=by
 have d:((o:Int)*2^min 24 32)=((o*2^24:Nat):Int):=by rw[N6];rfl
 have f:((a:Int)*2^min 20 32)=((a*2^20:Nat):Int):=by rw[N6];rfl
 have g:((b:Int)*2^min 16 32)=((b*2^16:Nat):Int):=by rw[N6];rfl
 rw[d,f,g,wrapN (o*2^24) a7,wrapN (a*2^20) a7,wrapN (b*2^16) a7,Oi (o*2^24) (a*2^20) a7 a7,Gf o (a*2^20) 24 a7,
  wrapN (o*2^24+a*2^20) a7,Oi (o*2^24+a*2^20) (b*2^16) a7 a7,
  show o*2^24+a*2^20=(o*16+a)*2^20 by omega,Gf (o*16+a) (b*2^16) 20 a7,wrapN ((o*16+a)*2^20+b*2^16) a7,Oi ((o*16+a)*2^20+b*2^16) c a7 a7,
  show (o*16+a)*2^20+b*2^16=((o*16+a)*16+b)*2^16 by omega,Gf ((o*16+a)*16+b) c 16 a7,wrapN (((o*16+a)*16+b)*2^16+c) a7]
 have e:((o*16+a)*16+b)*2^16+c=word o a b c:=by unfold word;omega
 rw[e]
def vv{op a b c:Int}(h:eI op a b c=T):1<=op/\op<=27/\0<=a/\a<=15/\0<=b/\b<=15/\0<=c/\c<=65535:=by
 unfold eI at h;simp only[s5]at h;obtain⟨U,f,g,i⟩:=h
 have e:∀{v m:Int}{p:Bool},0<=m->inW v m p=T->0<=v/\v<=m:=by
  intro v m p j d;unfold inW at d;split at d
  .simpa using d
  .have:v=0:=by simpa using d
   omega
 have f:=e b9 f;have g:=e b9 g;have j:0<=pn op.toNat/\pn op.toNat<=65535:=by unfold pn;split<;>decide
 have i:=e j.1 i;simp only[jt,s5,B4]at U;omega
def Gg(op a b c:Int):ax Tryz.prog 48 [po op a b c] (·=if eI op a b c=T then .tup [iv .u32 (word op.toNat a.toNat b.toNat c.toNat:Nat),iv .i64 0]else .tup [iv .u32 0,iv .i64 1]):=by
 refine hdP Tryz.func48 rfl [2,3] λg=>?_;unfold po;simp only[go_sem];refine bJ rfl (by simp only[go_sem];exact JW op a b c) ?_;rintro _ rfl;cases hk:eI op a b c
 .simp only[go_sem]
  try rfl
 obtain⟨p,b2,q,t,d,e,f,h⟩:=vv hk;have i:IntKind.u32.wrap op=op:=by rw[IntKind.wrap_u32]<;>omega
 have j:IntKind.u32.wrap a=a:=by rw[IntKind.wrap_u32]<;>omega
 have l:IntKind.u32.wrap b=b:=by rw[IntKind.wrap_u32]<;>omega
 have w4:IntKind.u32.wrap c=c:=by rw[IntKind.wrap_u32]<;>omega
 simp only[go_sem,i,j,l,w4];obtain⟨o,rfl⟩:∃n:Nat,op=n:=⟨op.toNat,a7⟩
 obtain⟨a,rfl⟩:∃n:Nat,a=n:=⟨a.toNat,a7⟩
 obtain⟨b,rfl⟩:∃n:Nat,b=n:=⟨b.toNat,a7⟩
 obtain⟨c,rfl⟩:∃n:Nat,c=n:=⟨c.toNat,a7⟩
 simp only[B3];exact JX o a b c a7 a7 a7 a7
end
section
open Go Go.Am Go.Asm
def Ea(s:Str)(c:UInt8):iO (s++[c])=10*iO s+(c.toNat-48):=by simp[iO,EN]
def Eb{s:Str}{k:Nat}{c:UInt8}(h:s[k]?=S c):iO (s.take (k+1))=10*iO (s.take k)+(c.toNat-48):=by
 rw[D0,h];exact Ea _ _
end
section
open Go Go.RowKit Go.Shelf
end
end Go.Proofs.YtlacbjnmkhndiaaGreatDoor
namespace Go.Am
section
end
end Go.Am
namespace Go.Proofs.YtlacbjnmkhndiaaGreatDoor
section
open Go Go.Am Go.Asm
def oN:∀l:List UInt8,u8s (l.map λb=>.d (.int .u8 (b.toNat:Nat)))=S (l.map λb=>((b.toNat:Nat):Int))
 |[]=>rfl
 |b::l=>by
   have a:=oN l;simp only[l9,u8s]at a|-;rw[a];rfl
def ke{s:St}(x:D):kR s (.one (.d x)) (.one (.d (ge x))):=⟨_,.d x,rfl⟩
end
end Go.Proofs.YtlacbjnmkhndiaaGreatDoor
namespace Go.Src
section
open Go.Asm (Str digit letter ew iO)
structure Tok where
 kind:Nat
 text:Str
 num:Nat
 place:Nat
 deriving DecidableEq
def iC:List Str:=[[118,97,114],[97,114,114,97,121],[102,117,110,99],[119,111,114,100],[105,102],[101,108,115,101],[119,104,105,108,101],[114,101,116,117,114,110],[112,117,116],[103,101,116]]
def Py:List Str:=[[60,60],[62,62],[61,61],[38,38],[124,124],[40],[41],[123],[125],[91],[93],[59],[44],[61],[43],[45],[42],[47],[37],[38],[124],[94],[60],[33]]
inductive R (A:Type) where
 |ok (a:A)
 |err (e:Nat)
def firstT(s:Str):R (Nat×Str×Nat):=
 match s with
 |[]=>.err 3
 |c::_=>
   if digit c=T then(if 4294967295<iO (s.takeWhile digit)then .err 2 else .ok (2,s.takeWhile digit,iO (s.takeWhile digit)))
   else if c=39 then
    (match s with
     |_::x::y::_=>if y=39/\32<=x.toNat/\x.toNat<=126/\x≠39/\x≠92 then .ok (2,[c,x,y],x.toNat)else .err 3
     | _=>.err 3)
   else if letter c=T then
    (if 20<z (s.takeWhile ew)then .err 2 else if (s.takeWhile ew)∈iC then .ok (3,s.takeWhile ew,0)else .ok (1,s.takeWhile ew,0))
   else match Py.find? (λt=>t.isPrefixOf s)with
    |some t=>.ok (4,t,0)
    |none=>.err 3
def Dc:Nat->Nat->Str->R (List Tok)×Nat
 |0,_,_=>(.ok [],0)
 |_+1,_,[]=>(.ok [],0)
 |n+1,k,c::r=>
   if c=32\/c=9\/c=10 then Dc n (k+1) r
   else if c=47/\r.head?=S 47 then Dc n (k+z ((c::r).takeWhile (· != 10))) ((c::r).dropWhile (· != 10))
   else match firstT (c::r)with
    |.err e=>(.err e,k)
    |.ok (a,t,v)=>match Dc n (k+z t) ((c::r).drop (z t))with
      |(.ok l,p)=>(.ok (⟨a,t,v,k⟩::l),p)
      |(.err e,p)=>(.err e,p)
def Xk(s:Str):List Tok×Nat×Nat:=
 if 20000<z s then([],0,2)
 else match Dc (z s+1) 0 s with
  |(.ok l,_)=>(l,0,0)
  |(.err e,p)=>([],p,e)
inductive Ex where
 |mk (kind op num:Int) (name:Str) (kids:List Ex)
inductive Stm where
 |mk (kind:Int) (name:Str) (e:List Ex) (th el:List Stm)
structure Fn where
 name:Str
 params:List Str
 locals:List Str
 word:Bool
 body:List Stm
structure Prog where
 vars:List Str
 arrays:List (Str×Int)
 funcs:List Fn
end
end Go.Src
namespace Go.Proofs.YtlacbjnmkhndiaaGreatDoor
section
open Go Go.Am Go.Asm
attribute[local congr]ite_cc
def lO(c:UInt8):ax Tryz.prog 182 [iv .u8 c.toNat] (·=bv (digit c)):=by
 refine hdP Tryz.func182 rfl [2] λg=>?_;simp only[go_sem];have e:=@rF c;cases a:digit c<;>rw[a]at e<;>simp at e<;>((repeat' (first|refine⟨?_,?_⟩|intro _))<;>(first|rfl|(exfalso;omega)|(simp;omega)))
def oY(c:UInt8):ax Tryz.prog 185 [iv .u8 c.toNat] (·=bv (letter c)):=by
 refine hdP Tryz.func185 rfl [2] λg=>?_;simp only[go_sem];have e:=@un c;cases a:letter c<;>rw[a]at e<;>simp at e<;>((repeat' (first|refine⟨?_,?_⟩|intro _))<;>(first|rfl|(exfalso;omega)|(simp;omega)))
def Lz(c:UInt8):ax Tryz.prog 144 [iv .u8 c.toNat] (·=bv (c != 10)):=by
 refine hdP Tryz.func144 rfl [2] λg=>?_;by_cases h:c=10
 .subst h
  have a:(((10:UInt8).toNat:Nat):Int)=10:=rfl;simp only[go_sem,a];rfl
 .have a:¬((c.toNat:Nat):Int)=10:=pk (d:=10) h
  have hb:(c != 10)=T:=by simpa using h
  simp only[go_sem,a,hb]
def wz(c:UInt8):ax Tryz.prog 187 [iv .u8 c.toNat] (·=bv (ew c)):=by
 refine hdP Tryz.func187 rfl [2] λg=>?_;simp only[go_sem];refine bJ rfl (by simp only[go_sem];exact oY c) ?_;rintro _ rfl;unfold ew;cases hl:letter c
 .simp only[go_sem]
  refine bJ rfl (by simp only[go_sem];exact lO c) ?_;rintro _ rfl;cases hd:digit c
  .by_cases h:c=95
   .subst h
    have a:(((95:UInt8).toNat:Nat):Int)=95:=rfl;simp only[go_sem,a];rfl
   .have a:¬((c.toNat:Nat):Int)=95:=pk (d:=95) h
    have hb:(c==95)=F:=by simpa using h
    simp only[go_sem,a,hb,Bool.or_false]
  .simp only[go_sem,Bool.or_true,Bool.true_or]
 .simp only[go_sem,Bool.true_or]
def mF{p:UInt8->Bool}:∀{s:Str}{k:Nat},(s.take k).all p=T->(s[k]?).all (λc=>!p c)=T->s.takeWhile p=s.take k
 |[],k,_,_=>by simp
 |a::s,0,_,h=>by
   simp only[w7,Option.all_some,I7]at h;simp[h]
 |a::s,k+1,U,b=>by
   simp only[G5,E9,s5]at U;rw[s9]at b;rw[J8,l8 U.1,G5,mF U.2 b]
def tg{f:FuncId}{p:UInt8->Bool}(j:∀c,ax Tryz.prog f [iv .u8 c.toNat] (·=bv (p c)))(s:Str)(t:z s<=1000000000):ax Tryz.prog 143 [sv s,.one (.d (.fn f))] (·=sv (s.takeWhile p)):=by
 refine hdP Tryz.func143 rfl [4] λg=>?_;simp only[go_sem];refine eF (λn K=>∃k:Nat,n+k=z s/\K.f 0=sv s/\K.f 1=.one (.d (.fn f))/\K.f 5=iv .i64 k/\(s.take k).all p=T) (z s) ?_ ?_
 .refine⟨0,a7,?_⟩
  simp only[go_sem];rfl
 rintro n fs g u ⟨k,v,a,b,e,bs⟩;simp only at a b e;have l:=ac (k:=k) a7;have q:(0:Int)<=(k:Int):=a7;by_cases r:k<z s
 .obtain⟨c,Z⟩:=getq r
  have G:(k:Int)<(z s:Int):=a7;simp only[go_sem,a,b,e,G,Z,q];refine yk (f:=f) rfl (by simp only[go_sem,b]) (by simp only[go_sem];exact j c) VG ?_;rintro _ rfl;cases o:p c
  .have i:=mF (p:=p) bs (by rw[Z];simp[o])
   simp only[go_sem,a,e];refine⟨a7,a7,?_⟩;rw[i]
   try rfl
  .simp only[go_sem,e,l]
   refine cH (n-1) a7 ⟨k+1,a7,?_⟩;simp only[go_sem,a,b];rw[D0,Z];simp[bs,o]
 .obtain rfl:k=z s:=a7
  have G:¬(z s:Int)<(z s:Int):=a7;have i:=mF (p:=p) bs (by rw[E5 (l7 _)];rfl);rw[i,H8];simp only[go_sem,a,b,e,G];exact⟨a7,a7⟩
def zJ{s t:Str}:t.isPrefixOf s=decide (z t<=z s/\s.take (z t)=t):=by
 rw[N5,Nt,B4];constructor
 .rintro⟨r,rfl⟩;exact⟨a8,a8⟩
 .rintro⟨U,a⟩;exact⟨s.drop (z t),(congrArg (· ++ s.drop (z t)) a.symm).trans (H3 _ _)⟩
def Ie(s p:Str):preB p s=p.isPrefixOf s:=by
 rw[zJ];unfold preB;rw[decide_eq_decide];constructor
 .intro h
  have:=congrArg z h;rw[D1]at this;exact⟨a7,h⟩
 .exact λh=>h.2
def sC(s t:Str):ax Tryz.prog 142 [sv s,sv t] (·=bv (t.isPrefixOf s)):=by
 refine hdP Tryz.func142 rfl [4] λg=>?_;simp only[go_sem];refine bJ rfl (by simp only[go_sem];exact yS s t) ?_;rintro _ rfl;simp only[go_sem,Ie]
def LA{s:St}{c:C}{x:D}(h:Frz s c x):kR s (.one c) (.one (.d x)):=⟨_,h,rfl⟩
def rV(t:Src.Tok):List D:=[.int .i64 (t.kind:Nat),.str t.text,.int .u32 (t.num:Nat),.int .i64 (t.place:Nat)]
def vz(t:Src.Tok):AV:=.agg ((rV t).map .d)
def qu:Src.R (Nat×Str×Nat)->AV
 |.ok (k,t,v)=>.tup [vz ⟨k,t,v,0⟩,iv .i64 0]
 |.err e=>.tup [vz ⟨0,[],0,0⟩,iv .i64 (e:Nat)]
def dE{s:St}{k v e:Nat}{t:Str}:ql s [.agg [.d (.int .i64 (k:Nat)),.d (.str t),.d (.int .u32 (v:Nat)),.d (.int .i64 0)],iv .i64 (e:Nat)] (.tup [vz ⟨k,t,v,0⟩,iv .i64 (e:Nat)]):=by
 refine⟨_,⟨_,_,rfl,⟨[.int .i64 (k:Nat),.str t,.int .u32 (v:Nat),.int .i64 0],rfl,λi c l=>?_,rfl⟩,_,_,rfl,ke _,rfl⟩,rfl⟩
 match i,l with
 |0,l=>cases l;exact⟨_,rfl,.d _⟩
 |1,l=>cases l;exact⟨_,rfl,.d _⟩
 |2,l=>cases l;exact⟨_,rfl,.d _⟩
 |3,l=>cases l;exact⟨_,rfl,.d _⟩
def LB(c:UInt8)(n:Nat):n<=EN n c:=by unfold EN;omega
def Ez(s:Str)(k:Nat):iO (s.take k)<=iO s:=by
 have h:∀(l:Str)(n:Nat),n<=l.foldl EN n:=λl=>by
  induction l with
  |nil=>intro n;exact l7 _
  |cons c l a=>intro n;exact C8 (LB c n) (a _)
 conv=>rhs;rw[<-H3 k s]
 unfold iO;rw[O9];exact h _ _
def By(s:Str)(I:z s<=1000000000)(hd:s.all digit=T):ax Tryz.prog 183 [sv s] (·=qu (if 4294967295<iO s then .err 2 else .ok (2,s,iO s))):=by
 refine hdR Tryz.func183 rfl [.cell 2 179,.tmp 3] λg=>?_;simp only[go_sem];refine eF (λn K=>∃k:Nat,n+k=z s/\K.f 0=sv s/\K.f 2=.one (.ptr 2 (nxC 180 (g 2)) 0)/\K.gen 2=nxC 180 (g 2)/\K.obj 2=S [.d (.int .i64 0),.d (.str []),.d (.int .u32 0),.d (.int .i64 0)]/\K.f 4=iv .u64 (iO (s.take k):Nat)/\K.f 5=iv .i64 k/\iO (s.take k)<=4294967295) (z s) ?_ ?_
 .refine⟨0,a7,?_⟩
  simp only[go_sem];exact⟨rfl,b9⟩
 rintro n f J L ⟨k,O,i,j,l,o,p,r,a1⟩;simp only at i j l o p r;have B:=ac (k:=k) a7;have w:(0:Int)<=(k:Int):=a7;by_cases E:k<z s
 .obtain⟨c,Z⟩:=getq E
  have G:(k:Int)<(z s:Int):=a7;have H:=Eb Z;have a:=Ez s (k+1);have b:=rF.1 (y8.1 hd c (l6 Z));have x:IntKind.u64.wrap ((iO (s.take k):Int)*10)=((iO (s.take k)*10:Nat):Int):=by rw[IntKind.wrap_u64];omega
  have y:IntKind.u8.wrap ((c.toNat:Int)-48)=((c.toNat-48:Nat):Int):=by rw[IntKind.wrap_u8];omega
  have A:IntKind.u64.wrap ((c.toNat-48:Nat):Int)=((c.toNat-48:Nat):Int):=by rw[IntKind.wrap_u64];omega
  have w4:IntKind.u64.wrap (((iO (s.take k)*10:Nat):Int)+((c.toNat-48:Nat):Int))=(iO (s.take (k+1)):Int):=by rw[IntKind.wrap_u64,H];omega
  by_cases q:4294967295<iO (s.take (k+1))
  .have u:(4294967295:Int)<(iO (s.take (k+1)):Int):=a7
   rw[l8 a7];simp only[go_sem,i,j,l,o,p,r,G,w,Z,x,y,A,w4,u];exact⟨_,dE (k:=0) (v:=0) (e:=2),rfl⟩
  .have u:¬(4294967295:Int)<(iO (s.take (k+1)):Int):=a7
   simp only[go_sem,i,j,l,o,p,r,G,w,Z,x,y,A,w4,u,B];refine cH (n-1) a7 ⟨k+1,a7,?_⟩;simp only[go_sem,i,j,l,o];omega
 .obtain rfl:k=z s:=a7
  have G:¬(z s:Int)<(z s:Int):=a7;rw[s6 (l7 _)]at p a1;have t:IntKind.u32.wrap (iO s:Int)=(iO s:Int):=by rw[IntKind.wrap_u32];omega
  rw[j8 a7];simp only[go_sem,i,j,l,o,p,r,G,t];exact⟨_,dE (k:=2) (e:=0),rfl⟩
def sD:Str->Src.R (Nat×Str×Nat)
 |c::x::y::_=>if y=39/\32<=x.toNat/\x.toNat<=126/\x≠39/\x≠92 then .ok (2,[c,x,y],x.toNat)else .err 3
 |_=>.err 3
def If(s:Str):ax Tryz.prog 184 [sv s] (·=qu (sD s)):=by
 refine hdR Tryz.func184 rfl [.cell 2 179,.tmp 3] λg=>?_;by_cases w:z s<3
 .have n:(z s:Int)<3:=a7
  have hb:sD s=.err 3:=by
   match s,w with
   |[],_=>rfl
   |[_],_=>rfl
   |[_,_],_=>rfl
   |_::_::_::_,h=>simp at h;omega
  rw[hb];simp only[go_sem,n];exact z8
 obtain⟨c,x,y,r,rfl⟩:∃c x y r,s=c::x::y::r:=by
  match s,w with
  |c::x::y::r,_=>exact⟨c,x,y,r,rfl⟩
  |[],h=>simp at h
  |[_],h=>simp at h
  |[_,_],h=>simp at h
 have n:¬(z (c::x::y::r):Int)<3:=a7;have o:(c::x::y::r)[2]?=S y:=rfl;have U:(c::x::y::r)[1]?=S x:=rfl;have A:(c::x::y::r).take 3=[c,x,y]:=rfl;have l:3<=z (c::x::y::r):=a8;rw[show sD (c::x::y::r)=(if y=39/\32<=x.toNat/\x.toNat<=126/\x≠39/\x≠92 then .ok (2,[c,x,y],x.toNat)else .err 3)from rfl];generalize (c::x::y::r)=s at n o U A l;by_cases p:y=39
 case neg=>
  have a:¬((y.toNat:Nat):Int)=39:=pk (d:=39) p;rw[j8 (λh=>p h.1)];simp only[go_sem,n,o,a];exact z8
 have a:((y.toNat:Nat):Int)=39:=by rw[p];rfl
 by_cases B:32<=x.toNat
 case neg=>
  have b:((x.toNat:Nat):Int)<32:=a7;rw[j8 (λh=>B h.2.1)];simp only[go_sem,n,o,U,a,b];exact z8
 have b:¬((x.toNat:Nat):Int)<32:=a7;by_cases E:x.toNat<=126
 case neg=>
  have f:(126:Int)<((x.toNat:Nat):Int):=a7;rw[j8 (λh=>E h.2.2.1)];simp only[go_sem,n,o,U,a,b,f];exact z8
 have f:¬(126:Int)<((x.toNat:Nat):Int):=a7;by_cases q:x=39
 .have i:((x.toNat:Nat):Int)=39:=by rw[q];rfl
  rw[j8 (λh=>h.2.2.2.1 q)];simp only[go_sem,n,o,U,a,b,f,i];exact z8
 have i:¬((x.toNat:Nat):Int)=39:=pk (d:=39) q;by_cases u:x=92
 .have j:((x.toNat:Nat):Int)=92:=by rw[u];rfl
  rw[j8 (λh=>h.2.2.2.2 u)];simp only[go_sem,n,o,U,a,b,f,i,j];exact z8
 have j:¬((x.toNat:Nat):Int)=92:=pk (d:=92) u;rw[l8 ⟨p,B,E,q,u⟩];have t:IntKind.u32.wrap ((x.toNat:Nat):Int)=((x.toNat:Nat):Int):=by have:=x.toNat_lt;rw[IntKind.wrap_u32];omega
 simp only[go_sem,n,o,U,a,b,f,i,j];refine bO c8 ?_;simp only[go_sem,U,t,D3,A];exact⟨l,_,dE (k:=2) (e:=0),rfl⟩
end
end Go.Proofs.YtlacbjnmkhndiaaGreatDoor
namespace Go.Am
section
section
section
variable{P:Program}{E:Nat->TI}{O:Bs}{β:Loc}{g:Nat->Nat}{ob:Obs}{k:Nat}{w G:World}
end
end
end
end Go.Am
namespace Go.Proofs.YtlacbjnmkhndiaaGreatDoor
section
open Go Go.Am Go.Asm
attribute[local congr]ite_cc
def jS(o:cF):Prop:=∀w:World,sJ 1 o w->(∀(i:Nat)t,Src.iC[i]?=S t->w.cell? ⟨1,i,N⟩=S (.string ⟨t.toArray⟩))/\(∀(i:Nat)t,Src.Py[i]?=S t->w.cell? ⟨0,i,N⟩=S (.string ⟨t.toArray⟩))
def zL{o:cF}(ho:jS o)(s:Str):bP Tryz.prog 1 o 189 [sv s] (·=bv (decide (s∈Src.iC))):=by
 refine hdG Tryz.func189 rfl [.tmp 2] λO bn s0 w0 g=>?_;have y:z Src.iC=10:=rfl;simp only[go_sem];refine aw (λn K=>∃k:Nat,n+k=10/\K.f 0=sv s/\K.f 4=iv .i64 k/\s∉Src.iC.take k) 10 ?_ ?_
 .refine⟨0,rfl,?_⟩
  simp only[go_sem];simp
 rintro n f E H ⟨k,J,a,b,u⟩;simp only at a b;have r:=ac (k:=k) a7;by_cases A:k<10
 .have G:(k:Int)<10:=a7
  obtain⟨t,v⟩:=getq (l:=Src.iC) (k:=k) a7;simp only[go_sem,a,b,G]
  refine rm aE (λs L ds w h=>h.1.2) aA (n:=10) (e:=9) rfl rfl b9 (kd:=.i64) (i:=k) (by simp only[go_sem,b]) A (cs:=[.str t]) (λj x I=>by match j,I with|0,I=>cases I;rfl) (λw r j x I=>by
   match j,I with
   | 0,I=>cases I;rw[show k*(Tt 9).size+0=k from by show k*1+0=k;omega];exact(ho w r).1 k t v) ?_
  by_cases d:t=s
  .have B:s∈Src.iC:=d▸l6 v
   simp only[go_sem,a,d];exact(C9 B).symm
  .simp only[go_sem,a,b,d,r]
   refine ah (n-1) a7 ⟨k+1,a7,?_⟩;simp only[go_sem,a];rw[D0,v];simp[u,B8 d]
 .obtain rfl:k=10:=a7
  rw[s6 (by rw[y];decide)]at u;simp only[go_sem,a,b,show ¬((10:Nat):Int)<10 by decide];exact(A4 u).symm
def sE(s:Str):Src.R (Nat×Str×Nat):=if 20<z s then .err 2 else if s∈Src.iC then .ok (3,s,0)else .ok (1,s,0)
def Ig{o:cF}(ho:jS o)(s:Str):bP Tryz.prog 1 o 186 [sv s] (·=qu (sE s)):=by
 refine hdG Tryz.func186 rfl [.cell 2 179,.tmp 3] λO bn s0 w0 g=>?_;unfold sE;by_cases b:20<z s
 .have a:(20:Int)<(z s:Int):=a7
  rw[l8 b];simp only[go_sem,a,fe];exact⟨_,dE (k:=0) (v:=0) (e:=2),rfl⟩
 have a:¬(20:Int)<(z s:Int):=a7;rw[j8 b];simp only[go_sem,a];refine cG rfl (by simp only[go_sem];exact zL ho s) ?_;rintro _ rfl;by_cases d:s∈Src.iC
 .rw[l8 d,C9 d]
  simp only[go_sem,fe];exact⟨_,dE (k:=3) (v:=0) (e:=0),rfl⟩
 .rw[j8 d,A4 d]
  simp only[go_sem,fe];exact⟨_,dE (k:=1) (v:=0) (e:=0),rfl⟩
end
end Go.Proofs.YtlacbjnmkhndiaaGreatDoor
