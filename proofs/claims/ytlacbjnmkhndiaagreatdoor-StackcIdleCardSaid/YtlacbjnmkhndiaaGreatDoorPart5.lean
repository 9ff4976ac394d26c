/- A part of the proof; no conditions. -/
import Derived.Test.YtlacbjnmkhndiaaGreatDoorPart4
import Derived.Deep.Quiet
import Derived.Orders
set_option linter.unusedSimpArgs false
set_option linter.unusedVariables false
set_option linter.defProp false
open List renaming length -> z
open Option renaming some -> S, none -> N
open Bool renaming true -> T, false -> F
set_option maxHeartbeats 64000000
set_option maxRecDepth 100000
namespace Go.Am
section
section
def scD:D->Value
 |.fn f=>.func (.func f) #[] #[]
 |.yld l=>.func (.yield l) #[] #[]
 |x=>dV x
def scC:C->Value
 |.d x=>scD x
 |_=>undef
def tR:AV->Value
 |.one c=>scC c
 |.agg cs=>.agg (cs.map scC).toArray
 |.tup a=>.tuple (a.map λt=>match t with|.one c=>scC c|_=>undef).toArray
 |.junk=>undef
 |.exact v=>v
variable{J:Nat->Prop}
section
variable{P:Program}{E:Nat->TI}{O:Bs}{β:Loc}{w:World}
def cD.scalar{x:D}{v:Value}(a:nh x=T)(h:cD J w x v):v=scD x:=by
 cases h<;>first|rfl|(simp[nh]at a;done)
def LW{x:D}(a:nh x=T):cD J w x (scD x):=by
 cases x<;>first|(simp[nh]at a;done)|constructor
def RVc.scalar{J:Nat->Prop}{c:C}{v:Value}(a:kl c=T)(h:RVc J w c v):v=scC c:=by
 obtain⟨x,rfl,I⟩:=h;exact I.scalar a
def yy{c:C}(a:kl c=T):RVc J w c (scC c):=by
 cases c<;>simp[kl]at a;exact⟨_,rfl,LW a⟩
def RVs.scalar{J:Nat->Prop}:∀{ts:List AV}{vs:List Value},(ts.all λt=>match t with|.one c=>kl c|_=>F)=T->RVs J w ts vs->vs=ts.map λt=>match t with|.one c=>scC c|_=>undef
 |[],_,_,h=>by simp only[RVs]at h;rw[h];rfl
 |t::ts,vs,a,h=>by
   simp only[E9,s5]at a;simp only[RVs]at h;obtain⟨u,d,rfl,U,b⟩:=h;rw[RVs.scalar a.2 b];cases t with
   |one c=>simp only[RV]at U;simp only[s6,U.scalar a.1]
   |_=>simp at a
def RV.scalar{J:Nat->Prop}{x:AV}{v:Value}(a:dS x=T)(h:RV J w x v):v=tR x:=by
 cases x with
 |one c=>simp only[RV]at h;exact h.scalar a
 |agg cs=>
   simp only[RV]at h;obtain⟨vs,rfl,b,f⟩:=h;simp only[dS,x9]at a;simp only[tR];congr 1;apply Array.ext
   .simp[b]
   .intro i U g
    have d:i<z cs:=by simpa using g
    obtain⟨u,L,V⟩:=f i cs[i] (v8 d);have e:=(E5.1 L).2;rw[e,V.scalar (a _ (J4 d))];simp
 |tup j=>
   simp only[RV]at h;obtain⟨vs,rfl,b⟩:=h;rw[RVs.scalar a b];rfl
 |junk=>simp[dS]at a
 |exact=>simp[dS]at a
def vc{J:Nat->Prop}:∀{ts:List AV},(ts.all λt=>match t with|.one c=>kl c|_=>F)=T->RVs J w ts (ts.map λt=>match t with|.one c=>scC c|_=>undef)
 |[],_=>by simp only[x7,RVs]
 |t::ts,a=>by
   simp only[E9,s5]at a;simp only[s6,RVs];refine⟨_,_,rfl,?_,vc a.2⟩;cases t with
   |one c=>simp only[RV];exact yy a.1
   |_=>simp at a
def FB{x:AV}(a:dS x=T):RV J w x (tR x):=by
 cases x with
 |one c=>simp only[RV,tR];exact yy a
 |agg cs=>
   simp only[RV,tR];refine⟨_,rfl,a8,λi c Z=>?_⟩;simp only[dS,x9]at a;exact⟨scC c,by simp[Z],yy (a c (l7 Z))⟩
 |tup b=>
   simp only[RV,tR];exact⟨_,rfl,vc a⟩
 |junk=>simp[dS]at a
 |exact=>simp[dS]at a
def XU(P:Program)(o:Oper)(s:St)(R:St->Prop):Prop:=∃(f:FuncId)(args:Array Operand)(tys:Array TypeId)(xs:List AV)(r:AV),
 o.op=.call ⟨.value (.func f),args,tys⟩/\dU s (args.toList.map s.ev) xs/\aJ P f xs (·=r)/\dS r=T/\R (s.put o.dst r)
def spQ(P:Program)(B:Nat):Sp:=⟨XU P,λ_ _ _=>False,λ_ _=>False,B⟩
def yz(E:Nat->TI)(o:Op):Bool:=eL E o||match o with|.call ⟨.value _,_,_⟩=>T|_=>F
def DV(E:Nat->TI)(ops:Array Oper):Bool:=ops.toList.all (yz E ·.op)&&Region.lexB .any ops
def vd{al:Nat}{s:St}{a:Act}(V:Rel O al s β a w){G:World}(c:Ext w G):∀(l:List Operand){xs:List AV},dU s (l.map s.ev) xs->RVs (Own O G) G xs (l.map a.eval)
 |[],xs,h=>by simp only[x7,dU]at h;subst h;simp only[x7,RVs]
 |x::l,xs,h=>by
   simp only[s6,dU]at h;obtain⟨r,f,rfl,U,e⟩:=h;simp only[s6,RVs];exact⟨_,_,rfl,RV.mono (λb d=>⟨⟨by have:=d.1;have:=c.1;omega,d.2⟩,c.2 b d.1⟩) r (U.rep V (V.ev x)),vd V c l e⟩
def iL(hT:bu P E){B al:Nat}{ops:Array Oper}{Q:Act->Prop}{K:St->Prop}{k:Box K}:∀(l:List Oper){s:St}{a:Act},Rel O al s β a w->fX al l=T->l.all (yz E ·.op)=T->wpO (spQ P B) E ops l s k->
  (∀W a',K W->Rel O al W β a' w->W.gen=s.gen->W.obj=s.obj->Q a')->wpQuiet P ops (λG=>Ext w G/\G.os=w.os/\G.output=w.output) Q l a
 |[],s,a,V,_,_,h,hQ=>hQ s a h V rfl rfl
 |o::rest,s,a,V,ar,hp,h,hQ=>by
   obtain⟨hd,g⟩:=kx ar;simp only[E9,s5]at hp;unfold wpO at h;unfold wpQuiet
   have u:∀{s0:St},Rel O al s0 β a w->s0.gen=s.gen->s0.obj=s.obj->opA (spQ P B) E o s0 (bx λW=>wpO (spQ P B) E ops rest W k)->o.quiet P a (λG=>Ext w G/\G.os=w.os/\G.output=w.output) (wpQuiet P ops (λG=>Ext w G/\G.os=w.os/\G.output=w.output) Q rest):=λ{s0}b2 A i h0=>by
    by_cases b6:eL E o.op=T
    .obtain⟨y,Y,U,h2,h3⟩:=rF hT b2 b6 h0
     refine⟨Y,λG bk=>?_,iL hT rest (b2.put hd h3) g hp.2 U (λW a' k1 k2 k3 k4=>hQ W a' k1 k2 (by rw[k3,St.put_gen,A]) (by rw[k4,St.put_obj,i]))⟩;unfold Oper.quietAt;rw[h2 G bk.1];exact⟨rfl,rfl⟩
    .have hq:=hp.1
     simp only[yz,H9]at hq;have hq:=hq.resolve_left b6;obtain⟨dst,op,ty,ps,af,gd⟩:=o;cases op with
     |call c=>
       obtain⟨callee,args,tys⟩:=c;cases callee with
       |value fo=>
         have h0:bC (spQ P B) ⟨dst,.call ⟨.value fo,args,tys⟩,ty,ps,af,gd⟩ s0 (bx λW=>wpO (spQ P B) E ops rest W k):=h0;obtain⟨R,⟨f,L,az,xs,r,ho,I,an,ad,hR⟩,J⟩:=h0;have J:=J _ hR;have X:ak O β s0.gen s0.obj w r (tR r):=RV.rep r (FB ad);refine⟨tR r,λG bk=>?_,iL hT rest (b2.put hd X) g hp.2 J (λW a' k1 k2 k3 k4=>hQ W a' k1 k2 (by rw[k3,St.put_gen,A]) (by rw[k4,St.put_obj,i]))⟩;unfold Oper.quietAt;rw[ky ho an.1 G];refine⟨rfl,?_⟩;have:=an.2 (Own O G) G (L.toList.map a.eval) (λ_ h=>h.1) (vd b2 bk.1 _ I);rw[show (L.toList.map a.eval).toArray=L.map a.eval from J7 a8]at this;refine this.mono λe H⟨v,q,he,av,hs,hh,n,hv⟩=>?_;subst av;exact⟨by rw[he,hv.scalar ad],bk.1.trans ⟨hs,hh⟩,n.1.trans bk.2.1,n.2.trans bk.2.2⟩
       |builtin b=>simp at hq
       |invoke r m=>simp at hq
     |_=>simp at hq
   cases hg:o.guard with
   |none=>
     rw[hg]at h;simp only at h;rw[l9 (by simp[Region.wanted,hg])];exact u V rfl rfl h
   |some p=>
     obtain⟨j,t⟩:=p;rw[hg]at h;simp only at h;obtain⟨d,hj,h⟩:=aU h;unfold mZ at h;split at h
     .rename_i b hb
      have hy:=V.yielded hj hb;have h:=ka h;have bf:=V.reput hb;by_cases hw:b=t
      .rw[l9 hw]at h
       rw[l9 Yw];exact u bf rfl rfl h
      .rw[j9 hw]at h
       rw[j9 Yw];have Z:=bf.put hd (x:=uv) (v:=undef) cZ;exact V4
     .rename_i hb
      have hy:=V.yielded_u hj hb;rw[j9 YX];have Z:=V.put hd (x:=uv) (v:=undef) cZ;exact V4
     .exact Vs
def dr(hT:bu P E)(c:P.follows .mixedOrders=T){B id:Nat}{ops:Array Oper}{s:St}{Q:Exit->St->Prop}{q:Box Q}(b:DV E ops=T)(h:wpO (spQ P B) E ops ops.toList s (bx λW=>Q .normal W)):ly (spB P B) E id ops s q:=by
 refine .inr ⟨λe W=>e=.normal/\Q .normal W,λO al β a w Z V=>?_,λe W⟨U,d⟩=>U▸d⟩;simp only[DV,s5]at b;have f:Rel O al s β a {w with drawn:=w.drawn+1}:=V.of_heap rfl;have u:Tr O β s w β s {w with drawn:=w.drawn+1}:=Tr.same rfl rfl rfl;refine wp_region_quiet c b.2 (C:=λG=>Ext {w with drawn:=w.drawn+1} G/\G.os=w.os/\G.output=w.output) ⟨.refl,rfl,rfl⟩ ?_;refine iL hT ops.toList f Z b.1 h (λW o g i j k G bk=>?_);obtain⟨l,m⟩:=i.grow bk.1.1 bk.1.2 ⟨bk.2.1,bk.2.2⟩;refine⟨W,β,⟨rfl,g⟩,l,u.trans (Tr.trans (Tr.same j k rfl) m)⟩
def cG{s:St}:∀{ts:List AV},(ts.all λt=>match t with|.one (.d x)=>(match x with|.nsl=>F|_=>T)|_=>F)=T->dU s ts ts
 |[],_=>rfl
 |t::ts,h=>by
   simp only[E9,s5]at h;refine⟨t,ts,rfl,?_,cG h.2⟩
   match t,h.1 with
   |.one (.d x),U=>
     refine⟨x,?_,rfl⟩;have:=Frz.d (s:=s) x;cases x<;>first|exact this|(simp at U;done)
def bc{o:Oper}{s:St}{K:St->Prop}{k:Box K}{B:Nat}{f:FuncId}{args:Array Operand}{tys:Array TypeId}(ho:o.op=.call ⟨.value (.func f),args,tys⟩){r:AV}{xs:List AV}
 (a:aJ P f xs (·=r))(I:dU s (args.toList.map s.ev) xs)(b:dS r=T)(c:K (s.put o.dst r)):bC (spQ P B) o s k:=
 ⟨λW=>W=s.put o.dst r,⟨f,args,tys,xs,r,ho,I,a,b,rfl⟩,λ_ e=>e▸c⟩
end
end
section
section
variable{P:Program}{E:Nat->TI}{O:Bs}{β:Loc}{w:World}
def St.rename(s:St)(id L o j:Nat)(c:C)(cs cells:List C):St:=
 {s with gen:=upd s.gen L (nxC (code (s.gen id)) (s.gen L)),obj:=λi=>if i=o then S (cells.set j c)else if i=L then S cs else if i=id then N else s.obj i}
def FC{s:St}{id L o j t sz off len ar G I:Nat}{cs cells:List C}(ht:s.f t=.one (.osl o (s.gen o) ar G I))(U:s.obj id=S cs)(h2:s.obj L=N)(ho:s.obj o=S cells)(n1:o≠id)(n2:o≠L)(n3:id≠L)
 (Z:cells[j]?=S (.osl id (s.gen id) sz off len)):ai s (s.rename id L o j (.osl L (nxC (code (s.gen id)) (s.gen L)) sz off len) cs cells):=by
 intro O al β a w V
 let A:Loc:=λi=>if i=L then β id else β i
 have y:∀i,((s.rename id L o j (.osl L (nxC (code (s.gen id)) (s.gen L)) sz off len) cs cells).obj i).isSome=T->(i=L/\A i=β id)\/(i≠L/\i≠id/\(s.obj i).isSome=T/\A i=β i):=λi J=>by
  simp only[St.rename]at J;by_cases x:i=L
  .exact .inl ⟨x,by simp[A,x]⟩
  .refine .inr ⟨x,?_⟩
   by_cases B:i=o
   .subst B;exact⟨n1,by rw[ho];rfl,by simp[A,x]⟩
   .by_cases K:i=id
    .simp[x,B,K]at J
     subst K;simp[x,B]at J
    .simp only[x,B,K,B1]at J
     exact⟨K,J,by simp[A,x]⟩
 have q:fE O β s.gen s.obj w A (s.rename id L o j (.osl L (nxC (code (s.gen id)) (s.gen L)) sz off len) cs cells).gen (s.rename id L o j (.osl L (nxC (code (s.gen id)) (s.gen L)) sz off len) cs cells).obj w:=by
  refine⟨λb Q=>⟨⟨Q.1,Q.2.1,λi a' J W=>?_⟩,rfl⟩,λi=>?_,λi hg J=>?_⟩
  .rcases y i J with⟨_,e⟩|⟨_,_,x,B⟩
   .exact Q.2.2 id a' (by rw[U];rfl) (by rw[<-e];exact W)
   .exact Q.2.2 i a' x (by rw[<-B];exact W)
  .simp only[St.rename,upd];split
   .rename_i e;subst e;exact P9 (uW _ _)
   .exact l8 _
  .rcases y i J with⟨e,_⟩|⟨_,_,x,B⟩
   .subst e;simp[St.rename,upd]at hg;exact absurd hg (yv _ _)
   .exact⟨x,B,λa' _ arr el fr h=>⟨arr,el,fr,h,l8 _⟩⟩
 have g:∀Y,β o=S Y->Y.spot=N:=by
  have hv:=V.f t;rw[ht]at hv;simp only[ak]at hv;exact(ig hv rfl ZD).spot
 refine⟨A,⟨V.defers,V.size,λi=>ak.keep q _ (V.f i),λi l m=>?_,λi1 i2 a1 a2 l1 l2 b1 b2 Q=>?_,V.base⟩,l8 _,λ_ _=>rfl,q,rfl,rfl⟩
 .simp only[St.rename]at m
  by_cases x:i=o
  .subst x
   simp only[B5,w7]at m;subst m;have bn:=V.obj i cells ho;have bs:A i=β i:=by simp[A,n2]
   rw[bs];cases W:β i with
   |none=>rw[W]at bn;have:cells=[]:=bn;subst this;simp at Z
   |some Y=>
     rw[W]at bn;obtain⟨g1,arr,el,H,J,g2,g3,g4,g5⟩:=bn.cells (g Y W);refine .ofCells (g Y W) ⟨g1,arr,el,H,J,g2,by simpa[St.rename,upd,n2]using g3,by simpa using g4,λk c hk=>?_⟩;by_cases p:k=j
     .subst p
      have af:=(l6.1 Z).1;rw[U2 af]at hk;cases hk;obtain⟨v,hv,X⟩:=g5 k _ Z;refine⟨v,hv,X.1,by simp[St.rename,upd],λ_ _=>?_⟩;have:=ig X rfl (by rw[U];rfl);simpa[A]using this
     .exact W2
  .by_cases B:i=L
   .subst B
    simp only[j9 x,B5,w7]at m;subst m;have:=((V.obj id cs U).keep q (λ_ _=>rfl)).recode (e':=nxC (code (s.gen id)) (s.gen i)) (by rw[Fv _ (LX _)]);simpa[A,St.rename,upd]using this
   .by_cases K:i=id
    .simp[x,B,K]at m
     subst K;simp[x,B]at m
    .simp only[x,B,K,B1]at m
     have:=(V.obj i l m).keep q (λ_ _=>rfl);simpa[A,B,St.rename,upd]using this
 .rcases y i1 l1 with⟨x,f1⟩|⟨x,n,r,f1⟩<;>rcases y i2 l2 with⟨B,f2⟩|⟨B,d,u,f2⟩
  .rw[x,B]
  .exact absurd (V.inj id i2 a1 a2 (by rw[U];rfl) u (by rw[<-f1];exact b1) (by rw[<-f2];exact b2) Q).symm d
  .exact absurd (V.inj i1 id a1 a2 r (by rw[U];rfl) (by rw[<-f1];exact b1) (by rw[<-f2];exact b2) Q) n
  .exact V.inj i1 i2 a1 a2 r u (by rw[<-f1];exact b1) (by rw[<-f2];exact b2) Q
end
end
section
variable{ops:Array Oper}
section
variable{P:Program}{E:Nat->TI}{O:Bs}{β:Loc}{w:World}
def count_set{l:Array Bool}{i:Nat}(h:l[i]?=S F):(l.setIfInBounds i T).toList.count F+1=l.toList.count F:=by
 obtain⟨b,c⟩:=E5.1 h;rw[Array.toList_setIfInBounds];have hl:l.toList[i]?=S F:=by simpa using h
 generalize l.toList=m at hl;clear h b c
 induction m generalizing i with
 |nil=>simp at hl
 |cons a m d=>
   cases i with
   |zero=>simp at hl;subst hl;simp
   |succ i=>
     simp only[P4,List.count_cons];have:=d (i:=i) YO;omega
def zM{hT:bu P E}{B al:Nat}{ops:Array Oper}{Q:Exit->Act->World->Prop}(hg:ops.toList.all (λo=>o.guard.isNone)=T)(ar:fX al ops.toList=T)(I:(Nat->Bool)->St->Prop)
 (J:∀(L:Nat->Bool)(s:St)(i:Nat)(o:Oper),I L s->ops[i]?=S o->L i=F->(∀e∈o.after.toList,Region.binds .any e=T->L e.on=T)->
    (∀j g,L j=T->ops[j]?=S g->∀e∈g.after.toList,Region.binds .any e=T->L e.on=T)->opA (spB P B) E o s (bx λW=>I (upd L i T) W))
 (b':∀L s A v G,(∀i,i<ops.size->L i=T)->I L s->Rel O al s A v G->∀s0 bn w0,True->(Tr O bn s0 w0 A s G->Tr O bn s0 w0 A s G)):
  ∀(q:Nat)(b:Array Bool){s:St}{β:Loc}{a:Act}{w:World},b.size=ops.size->b.toList.count F<=q->Rel O al s β a w->I (λi=>b.getD i F) s->
   (∀j g,b.getD j F=T->ops[j]?=S g->∀e∈g.after.toList,Region.binds .any e=T->b.getD e.on F=T)->
   (∀L W A v G,(∀i,i<ops.size->L i=T\/∃o,ops[i]?=S o)->I L W->(Region.ready .any ops b=[]->True)->Rel O al W A v G->Tr O β s w A W G->(∃c,L=(λi=>c.getD i F)/\c.size=ops.size/\Region.ready .any ops c=[])->Q .normal v G)->
   wpAny P .any ops Q q b a w
 |0,b,s,β,a,w,az,Z,V,x,hid,X=>by
   have bs:∀i,i<ops.size->b.getD i T=T:=λi t=>by
    have K:F∉b.toList:=λh=>by
     have:=S8.2 h;omega
    rw[z7,B8 a7];simp only[A6];cases hq:b[i]'a7 with
    |true=>rfl
    |false=>exact absurd (hq▸Q4.2 (TC a7)) K
   have Y:Region.ready .any ops b=[]:=by
    unfold Region.ready;rw[N2];intro i t;simp[bs i (D4.1 t)]
   exact⟨Y,X _ s β a w (λi t=>.inr ⟨_,B8 t⟩) x (λ_=>trivial) V Tr.refl ⟨b,rfl,az,Y⟩⟩
 |q+1,b,s,β,a,w,az,Z,V,x,hid,X=>by
   refine⟨λY=>X _ s β a w (λi t=>.inr ⟨_,B8 t⟩) x (λ_=>trivial) V Tr.refl ⟨b,rfl,az,Y⟩,λi t=>?_⟩;unfold Region.ready at t;simp only[U7,D4,s5,J1]at t;obtain⟨b3,y,m⟩:=t;have ho:ops[i]?=S ops[i]:=B8 b3;rw[ho]at m;simp only[A3,A6,P5,H9,J1]at m
   have l:b[i]?=S F:=by
    exact W6
   have hL:b.getD i F=F:=by rw[z7,l];rfl
   have f:∀e∈ops[i].after.toList,Region.binds .any e=T->b.getD e.on F=T:=λe he hb=>by
    exact S1
   have an:(ops[i]).guard=N:=by
    have:=x9.1 hg ops[i] (H3 b3);exact Vt
   have k:∀d,(ops[i]).dst=S d->d<al:=λd hd=>by
    exact VQ
   unfold wpOp;rw[ho];simp only;rw[l9 (by simp[Region.wanted,an])]
   have u:(λj=>(b.setIfInBounds i T).getD j F)=upd (λj=>b.getD j F) i T:=by
    funext j;exact so
   refine .inl (mN hT V k (J _ s i ops[i] x ho hL f hid) (λW A v G r bf p=>?_));refine zM (hT:=hT) hg ar I J b' q (b.setIfInBounds i T) (by simpa using az) (by have:=count_set l;omega) bf (by rw[u];exact r) (λj g hj H e he hb=>?_) (λL s2 ad a2 w2 U h2 _ h4 h5 h6=>X L s2 ad a2 w2 U h2 (λ_=>trivial) h4 (p.trans h5) h6);exact iE
def ve(ops:Array Oper):Bool:=(List.range ops.size).all λi=>((ops[i]?).map λo=>o.after.toList.all λe=>!Region.binds .any e||decide (e.on<i)).getD T
def sE(g:ve ops=T){b:Array Bool}(az:b.size=ops.size)(h:Region.ready .any ops b=[]):∀i,i<ops.size->b.getD i F=T:=by
 intro i
 induction i using Nat.strongRecOn with
 |ind i j=>
   intro c;cases f:b.getD i F with
   |true=>rfl
   |false=>
     exfalso;unfold Region.ready at h;rw[N2]at h;refine h i (D4.2 c) ?_
     have l:b[i]?=S F:=by
      rw[z7,B8 a7]at f;rw[B8 a7];simpa using f
     rw[z7,l,B8 c];simp only[A6,K7,A3,x8,P5,H9,J1];intro e k;cases a:Region.binds .any e with
     |false=>exact .inl rfl
     |true=>
       right;have U:=x9.1 g i (D4.2 c);rw[B8 c]at U;simp only[A3,A6]at U;have d:=x9.1 U e (by simpa using k);rw[a]at d;simp only[P1,T6,B4]at d;exact j e.on d a7
def Ht(hT:bu P E)(k:P.follows .mixedOrders=T){B id:Nat}{s:St}{Q:Exit->St->Prop}{q:Box Q}(f:(ops.toList.all (λo=>o.guard.isNone)&&ve ops)=T)(I:(Nat->Bool)->St->Prop)(h0:I (λ_=>F) s)
 (J:∀(L:Nat->Bool)(s:St)(i:Nat)(o:Oper),I L s->ops[i]?=S o->L i=F->(∀e∈o.after.toList,Region.binds .any e=T->L e.on=T)->
    (∀j g,L j=T->ops[j]?=S g->∀e∈g.after.toList,Region.binds .any e=T->L e.on=T)->opA (spB P B) E o s (bx λW=>I (upd L i T) W))
 (l:∀L W,I L W->(∀i,i<ops.size->L i=T)->Q .normal W):ly (spB P B) E id ops s q:=by
 rw[s5]at f;obtain⟨hg,K⟩:=f;refine .inr ⟨λe W=>e=.normal/\Q .normal W,λO al β a w Z V=>?_,λe W⟨U,c⟩=>U▸c⟩;have m:Rel O al s β a {w with drawn:=w.drawn+1}:=V.of_heap rfl;have u:Tr O β s w β s {w with drawn:=w.drawn+1}:=Tr.same rfl rfl rfl;refine wp_region_any k (zM (hT:=hT) hg Z I J (λ_ _ _ _ _ _ _ _ _ _ _ _ h=>h) ops.size (Array.replicate ops.size F) a8 a8 m ?_ (λj g d=>?_) (λL W A t G _ c _ p r h6=>⟨W,A,⟨rfl,l L W c Y8⟩,p,u.trans r⟩))
 .exact qo
 .rw[z7,F0]at d
  split at d<;>simp at d
end
end
end
section
attribute[local congr]ite_cc
section
structure Ent where
 o:Oper
 rd:List Nat
 hd:List Nat
 ef:List Nat
 full:Bool
def jO:List Oper->List (List Nat×List Nat×List Nat×Bool)->List Ent
 |o::os,t::ts=>⟨o,t.1,t.2.1,t.2.2.1,t.2.2.2⟩::jO os ts
 |_,_=>[]
def maskf{A:Type}:List Nat->(Nat->A)->(Nat->A)->Nat->A
 |[],_,a=>a
 |r::rs,f,a=>upd (maskf rs f a) r (f r)
def maskm{A:Type}(p:List Nat):List Nat->(Nat->A)->(Nat->A)->Nat->A
 |[],g,_=>g
 |a::c,g,ga=>upd (maskm p c g ga) (p.getD a 0) (ga (p.getD a 0))
def setm{A:Type}(p:List Nat):List Nat->List A->(Nat->A)->Nat->A
 |a::c,x::xs,g=>upd (setm p c xs g) (p.getD a 0) x
 |_,_,g=>g
def yC(f:Nat->AV):Option Nat->AV->Nat->AV
 |some d,v=>upd f d v
 |none,_=>f
def mG(p:List Nat)(e:Ent)(v:AV)(m:List (Nat×Option (List C)))(s:St):St:=
 ⟨yC s.f e.o.dst v,setm p e.ef (m.map (·.1)) s.gen,setm p e.ef (m.map (·.2)) s.obj⟩
def Uq(ar:Sp)(E:Nat->TI)(p:List Nat)(e:Ent)(s:St)(v:AV)(m:List (Nat×Option (List C))):Prop:=
 ∀(a:Nat->AV)(ga:Nat->Nat)(b:Nat->Option (List C))(c:St->Prop),c (mG p e v m ⟨maskf e.rd s.f a,maskm p e.hd s.gen ga,maskm p e.hd s.obj b⟩)->opA ar E e.o ⟨maskf e.rd s.f a,maskm p e.hd s.gen ga,maskm p e.hd s.obj b⟩ (bx c)
def Pm(ar:Sp)(E:Nat->TI)(o:Oper)(s:St)(K:St->Prop):Prop:=∀K':St->Prop,(∀B,K B->K' B)->opA ar E o s (bx K')
def jQ(ar:Sp)(E:Nat->TI)(p:List Nat):List Ent->St->{K:St->Prop}->Box K->Prop
 |[],s,K,_=>K s
 |e::r,s,K,k=>match e.full with
   |true=>Pm ar E e.o s K
   |false=>∃v m,(z m=z e.ef/\Uq ar E p e s v m)/\jQ ar E p r (mG p e v m s) k
def pN(ops:Array Oper)(o:Oper)(s:St):Prop:=match o.guard with|none=>True|some (j,w)=>∃d,((ops[j]?).bind (·.dst))=S d/\s.f d=bv w
def GdE(ops:Array Oper)(e:Ent)(s:St):Prop:=match e.o.guard with|none=>True|some (j,w)=>∃d,((ops[j]?).bind (·.dst))=S d/\d∈e.rd/\s.f d=bv w
variable{ops:Array Oper}{A:Type}{s:St}{Q:Exit->St->Prop}{p ef:List Nat}{y:Option (List C)}{ts:List (List Nat×List Nat×List Nat×Bool)}{xs:List A}
def GdE.ok{e:Ent}{s W:St}(h:GdE ops e s)(V:∀r∈e.rd,W.f r=s.f r):pN ops e.o W:=by
 unfold GdE at h;unfold pN;cases a:e.o.guard with
 |none=>trivial
 |some p=>
   obtain⟨j,w⟩:=p;rw[a]at h;obtain⟨d,U,b,c⟩:=h;exact⟨d,U,by rw[V d b];exact c⟩
def fal(o:Oper):Bool:=match o.op with|.call ⟨.value _,_,_⟩=>T|_=>F
def Pn(ar:Sp)(E:Nat->TI)(ops:Array Oper)(p:List Nat)(X:Prop)(e:Ent)(s:St)(v:AV)(m:List (Nat×Option (List C))):Prop:=
 (∀(a:Nat->AV)(ga:Nat->Nat)(b:Nat->Option (List C))(c:St->Prop),((fal e.o=T->X)->c (mG p e v m ⟨maskf e.rd s.f a,maskm p e.hd s.gen ga,maskm p e.hd s.obj b⟩))->opA ar E e.o ⟨maskf e.rd s.f a,maskm p e.hd s.gen ga,maskm p e.hd s.obj b⟩ (bx c))/\GdE ops e s
def Po(ar:Sp)(E:Nat->TI)(ops:Array Oper)(X:Prop)(e:Ent)(s:St)(K:St->Prop):Prop:=((fal e.o=T->X)/\Pm ar E e.o s K)/\GdE ops e s
def eO(ar:Sp)(E:Nat->TI)(ops:Array Oper)(p:List Nat)(X:Prop):List Ent->St->{K:St->Prop}->Box K->Prop
 |[],s,K,_=>K s
 |e::r,s,K,k=>match e.full with
   |true=>Po ar E ops X e s K
   |false=>∃v m,(z m=z e.ef/\Pn ar E ops p X e s v m)/\eO ar E ops p X r (mG p e v m s) k
def vg{ar:Sp}{E:Nat->TI}{ops:Array Oper}{p:List Nat}{X:Prop}{K:St->Prop}{k:Box K}:∀(l:List Ent)(s:St),eO ar E ops p X l s k->(∀i e,l[i]?=S e->e.full=T->i+1=z l)->
  ∃t:Nat->St,t 0=s/\(∀i e,l[i]?=S e->e.full=F->∃v m,(z m=z e.ef/\Pn ar E ops p X e (t i) v m)/\t (i+1)=mG p e v m (t i))/\(∀i e,l[i]?=S e->e.full=T->Po ar E ops X e (t i) K)/\
   ((∀(i:Nat)(e:Ent),l[i]?=S e->e.full=F)->K (t (z l)))
 |[],s,h,_=>⟨λ_=>s,rfl,λi e hi=>(by simp at hi),λi e hi=>(by simp at hi),λ_=>h⟩
 |e::r,s,h,hl=>by
   unfold eO at h;cases c:e.full with
   |true=>
     rw[c]at h;have n:=hl 0 e rfl c;have:r=[]:=z6 (by simpa using n);subst this;refine⟨λ_=>s,rfl,λi a hi b=>?_,λi a hi _=>?_,λj=>?_⟩
     .cases i with
      |zero=>simp at hi;subst hi;rw[c]at b;cases b
      |succ i=>simp at hi
     .cases i with
      |zero=>simp at hi;subst hi;exact h
      |succ i=>simp at hi
     .have:=j 0 e rfl;rw[c]at this;cases this
   |false=>
     rw[c]at h;obtain⟨v,m,o,V⟩:=h;obtain⟨t,t0,q,u,x⟩:=vg r _ V (λi a hi b=>by have:=hl (i+1) a YV b;simpa using this);refine⟨λi=>match i with|0=>s|i+1=>t i,rfl,λi a hi b=>?_,λi a hi b=>?_,λj=>?_⟩
     .cases i with
      |zero=>simp at hi;subst hi;exact⟨v,m,o,t0⟩
      |succ i=>exact q i a YV b
     .cases i with
      |zero=>simp at hi;subst hi;rw[c]at b;cases b
      |succ i=>exact u i a YV b
     .exact x (λi a hi=>j (i+1) a (by rw[u7];exact hi))
def Qu(n:List (List Nat))(o:Oper):List Nat:=(o.after.toList.filter (Region.binds .any ·)).foldl (λB e=>(e.on::(n[e.on]?).getD []).foldl (λa j=>if a.contains j then a else j::a) B) []
def Pp(ops:Array Oper):List (List Nat):=ops.toList.foldl (λn o=>n++[Qu n o]) []
def qq(n:List (List Nat))(i j:Nat):Bool:=((n[i]?).getD []).contains j
def Ur(ops:Array Oper)(n:List (List Nat)):Bool:=(List.range ops.size).all λi=>((n[i]?).getD []).all λj=>decide (j<i)&&((ops[i]?).map λo=>o.after.toList.any λe=>Region.binds .any e&&(e.on==j||qq n e.on j)&&decide (e.on<i)).getD F
def DX(ops:Array Oper)(y:List (List Nat×List Nat×List Nat×Bool))(l:Nat)(n:List (List Nat)):Bool:=
 ve ops&&Ur ops n&&(z y==ops.size) &&
 (List.range ops.size).all λi=>(((ops[i]?).bind λo=>(y[i]?).map λt=>
   (t.1.all λr=>(List.range ops.size).all λj=>qq n i j||((y[j]?).map λb=>b.2.2.2).getD F||((ops[j]?).map λg=>decide (g.dst≠S r)).getD F) &&
   ((List.range ops.size).all λj=>i==j||((ops[j]?).map λg=>g.dst.isNone||decide (g.dst≠o.dst)).getD F) &&
   ((List.range l).all λa=>t.2.1.contains a||(List.range ops.size).all λj=>qq n i j||qq n j i||i==j||((y[j]?).map λb=>!b.2.2.1.contains a).getD F) &&
   (t.2.1.all λa=>decide (a<l))&&(t.2.2.1.all λa=>decide (a<l))&&(t.2.2.1.all λa=>(List.range ops.size).all λj=>qq n i j||qq n j i||i==j||((y[j]?).map λb=>!b.2.2.1.contains a).getD F) &&
   (!t.2.2.2||(i+1==ops.size&&(List.range i).all λj=>qq n i j))).getD F)
def vh(ops:Array Oper)(y:List (List Nat×List Nat×List Nat×Bool))(l:Nat):Bool:=DX ops y l (Pp ops)
def DY(ops:Array Oper)(y:List (List Nat×List Nat×List Nat×Bool))(l:Nat):Bool:=ops.toList.all (λo=>o.guard.isNone)&&vh ops y l
def pO{n:List (List Nat)}(t:Ur ops n=T){L:Nat->Bool}(v:∀j g,L j=T->ops[j]?=S g->∀e∈g.after.toList,Region.binds .any e=T->L e.on=T):
  ∀(i:Nat)(o:Oper),ops[i]?=S o->(∀e∈o.after.toList,Region.binds .any e=T->L e.on=T)->∀j,qq n i j=T->L j=T/\j<i:=by
 intro i
 induction i using Nat.strongRecOn with
 |ind i x=>
   intro o ho c j B;have G:=(E5.1 ho).1;have U:=x9.1 t i (D4.2 G);have b:=x9.1 U j (by simpa[qq]using B);rw[ho]at b;simp only[A3,A6,s5,B4,Q1,H9,I7]at b;obtain⟨af,e,m,⟨q,a⟩,bs⟩:=b;refine⟨?_,af⟩;rcases a with a|a
   .rw[<-a];exact c e m q
   .have l:=c e m q
    have u:e.on<ops.size:=a7;exact(x e.on bs _ (B8 u) (λH I J=>v e.on _ l (B8 u) H I J) j a).1
def Cl{rd:List Nat}{f fa:Nat->A}(h:∀r∈rd,fa r=f r):maskf rd f fa=fa:=by
 induction rd with
 |nil=>rfl
 |cons r rs a=>
   unfold maskf;rw[a (λq V=>h q (by simp[V]))];funext j;simp only[upd];split
   .rename_i e;subst e;rw[h _ a8]
   .rfl
def vj{p hd:List Nat}{g ga:Nat->A}(h:∀id,(∀a∈hd,p.getD a 0≠id)->ga id=g id):maskm p hd g ga=ga:=by
 funext id
 have:∀hd:List Nat,maskm p hd g ga id=if ∃a∈hd,p.getD a 0=id then ga id else g id:=by
  intro hd
  induction hd with
  |nil=>simp[maskm]
  |cons a c l=>
    simp only[maskm,upd];by_cases U:id=p.getD a 0
    .rw[l9 U,l9 ⟨a,a8,U.symm⟩,<-U]
    .rw[j9 U,l]
     by_cases j:∃a∈c,p.getD a 0=id
     .rw[l9 j,l9 (by obtain⟨b,i,e⟩:=j;exact⟨b,by simp[i],e⟩)]
     .rw[j9 j,j9 (by
       rintro⟨b,i,e⟩;rcases A0.1 i with rfl|i
       .exact U e.symm
       .exact j ⟨b,i,e⟩)]
 rw[this];by_cases U:∃a∈hd,p.getD a 0=id
 .rw[l9 U]
 .rw[j9 U]
  exact(h id (λa m e=>U ⟨a,m,e⟩)).symm
def nk{g:Nat->A}{id:Nat}(h:∀a∈ef,p.getD a 0≠id):setm p ef xs g id=g id:=by
 induction ef generalizing xs with
 |nil=>rfl
 |cons a c i=>
   cases xs with
   |nil=>rfl
   |cons x xs=>
     simp only[setm,upd];rw[j9 (λe=>h a a8 e.symm)];exact i (λb hb=>h b ZU)
def xt{g g':Nat->A}(hl:z xs=z ef){id:Nat}(h:∃a∈ef,p.getD a 0=id):setm p ef xs g id=setm p ef xs g' id:=by
 induction ef generalizing xs with
 |nil=>obtain⟨a,j,_⟩:=h;simp at j
 |cons a c l=>
   cases xs with
   |nil=>simp at hl
   |cons x xs=>
     simp only[setm,upd];split
     .rfl
     .rename_i m
      refine l YO ?_;obtain⟨b,i,e⟩:=h;rcases A0.1 i with rfl|i
      .exact absurd e.symm m
      .exact⟨b,i,e⟩
def lA:∀{os:List Oper}{ts:List (List Nat×List Nat×List Nat×Bool)}{i:Nat}{e:Ent},(jO os ts)[i]?=S e->os[i]?=S e.o/\ts[i]?=S (e.rd,e.hd,e.ef,e.full)
 |[],_,i,e,h=>by simp[jO]at h
 |_::_,[],i,e,h=>by simp[jO]at h
 |o::os,t::ts,0,e,h=>by simp[jO]at h;subst h;exact⟨rfl,rfl⟩
 |o::os,t::ts,i+1,e,h=>by
   have:=lA (os:=os) (ts:=ts) (i:=i) (e:=e) (by simpa[jO]using h);exact Vt
def zO:∀{os:List Oper}{ts:List (List Nat×List Nat×List Nat×Bool)},z ts=z os->z (jO os ts)=z os
 |[],[],_=>rfl
 |o::os,t::ts,h=>by simp only[jO,l4];rw[zO YU]
 |[],_::_,h=>by simp at h
 |_::_,[],h=>by simp at h
section
variable{P:Program}{E:Nat->TI}{O:Bs}{β:Loc}{w:World}
structure Ut (n:Nat) (dst:Nat->Option Nat) (ef:Nat->List Nat) (p:List Nat) (t:Nat->St) (L:Nat->Bool) (s:St):Prop where
 f:∀i d,i<n->dst i=some d->L i=true->s.f d=(t (i+1)).f d
 f0:∀d,(∀i,i<n->dst i≠some d)->s.f d=(t 0).f d
 m:∀id k,k<=n->(∀j a,j<n->a∈ef j->p.getD a 0=id->(L j=true↔j<k))->s.gen id=(t k).gen id/\s.obj id=(t k).obj id
def vk{ar:Sp}{X:Prop}(p:List Nat)(y:List (List Nat×List Nat×List Nat×Bool))(l:Nat)(an:vh ops y l=T)(w:z p=l)(ad:p.Nodup)
 (h:eO ar E ops p X (jO ops.toList y) s (bx λW=>X->Q .normal W)):ve ops=T/\∃I:(Nat->Bool)->St->Prop,I (λ_=>F) s/\
    (∀(L:Nat->Bool)(s:St)(i:Nat)(o:Oper),I L s->ops[i]?=S o->L i=F->(∀e∈o.after.toList,Region.binds .any e=T->L e.on=T)->
      (∀j g,L j=T->ops[j]?=S g->∀e∈g.after.toList,Region.binds .any e=T->L e.on=T)->pN ops o s/\opA ar E o s (bx λW=>I (upd L i T) W))/\
    (∀L W,I L W->(∀i,i<ops.size->L i=T)->((∃(i:Nat)(o:Oper),ops[i]?=S o/\fal o=T)\/X)->Q .normal W):=by
 subst w;unfold vh DX at an;generalize Pp ops=n at an;simp only[s5,I7]at an;obtain⟨⟨⟨K,b5⟩,Y⟩,bs⟩:=an;have bl:z (jO ops.toList y)=ops.size:=by rw[zO (by simpa using Y)];simp
 have G:∀i,i<ops.size->∃e,(jO ops.toList y)[i]?=S e/\ops[i]?=S e.o/\y[i]?=S (e.rd,e.hd,e.ef,e.full):=λi hi=>by
  have U:i<z (jO ops.toList y):=a7;refine⟨_,v8 U,?_⟩;have:=lA (v8 U);exact Vt
 have cy:∀a b,a<z p->b<z p->p.getD a 0=p.getD b 0->a=b:=λa b ha hb e=>by
  rw[E6,E6,v8 ha,v8 hb]at e;simp only[A6]at e;exact(List.getElem_inj ad).1 e
 -- c8 e4,by operation
 have a1:∀(i:Nat)(e:Ent),i<ops.size->ops[i]?=S e.o->y[i]?=S (e.rd,e.hd,e.ef,e.full)->
   (∀r∈e.rd,∀(j:Nat)(e':Oper),j<ops.size->ops[j]?=S e'->e'.dst=S r->(((y[j]?).map λt'=>t'.2.2.2).getD F)=F->qq n i j=T)/\
   (∀(j:Nat)(g:Oper),j<ops.size->j≠i->ops[j]?=S g->g.dst=N\/g.dst≠e.o.dst)/\
   (∀a,a<z p->a∉e.hd->∀j t',j<ops.size->y[j]?=S t'->a∈t'.2.2.1->qq n i j=T\/qq n j i=T\/i=j)/\
   (∀a∈e.hd,a<z p)/\(∀a∈e.ef,a<z p)/\
   (∀a∈e.ef,∀j t',j<ops.size->y[j]?=S t'->a∈t'.2.2.1->qq n i j=T\/qq n j i=T\/i=j)/\
   (e.full=T->i+1=ops.size/\∀j,j<i->qq n i j=T):=by
  intro i e hi ho ht;have U:=x9.1 bs i (D4.2 hi);rw[ho,ht]at U;simp only[Ly,A3,A6,s5]at U;obtain⟨⟨⟨⟨⟨⟨c1,c2⟩,c3⟩,c4⟩,c5⟩,c6⟩,c7⟩:=U;refine⟨λr V j g hj H hd cd=>?_,λj g hj b4 H=>?_,λa ha bo j t' hj eg b6=>?_,λa ha=>?_,λa ha=>?_,λa ha j t' hj eg b6=>?_,λhf=>?_⟩
  .have:=x9.1 (x9.1 c1 r V) j (D4.2 hj)
   rw[H,cd]at this;simp only[A3,A6,Bool.or_false,H9,B4]at this;rcases this with h|h
   .exact h
   .exact absurd hd h
  .have:=x9.1 c2 j (D4.2 hj)
   rw[H]at this;simp only[A3,A6,H9,B4,I7,Pa]at this;rcases this with h|h|h
   .exact absurd h.symm b4
   .exact .inl h
   .exact .inr h
  .have:=x9.1 c3 a (D4.2 ha)
   simp only[H9,J8,x9,D4]at this;rcases this with h|h
   .exact absurd h bo
   .have:=h j hj
    rw[eg]at this;simp only[A3,A6,I7,J1]at this;exact Vu
  .exact OX (x9.1 c4 a ha)
  .exact OX (x9.1 c5 a ha)
  .have:=x9.1 (x9.1 c6 a ha) j (D4.2 hj)
   rw[eg]at this;simp only[A3,A6,H9,I7,J1]at this;exact Vu
  .rw[hf]at c7
   simp only[P1,T6,s5,I7,x9,D4]at c7;exact c7
 have O:∀(i:Nat)(e:Ent),(jO ops.toList y)[i]?=S e->e.full=T->i+1=z (jO ops.toList y):=λi e hi hf=>by
  have af:i<ops.size:=by rw[<-bl];exact(l6.1 hi).1
  have h2:=lA hi;rw[bl];exact((a1 i e af (by simpa using h2.1) h2.2).2.2.2.2.2.2 hf).1
 obtain⟨t,t0,t1,t2,t3⟩:=vg _ _ h O
 let dst:Nat->Option Nat:=λi=>(ops[i]?).bind (·.dst)
 let ef:Nat->List Nat:=λi=>((y[i]?).map (·.2.2.1)).getD []
 -- eh c8 trace goes
 have tf:∀(i:Nat)(e:Ent),i<ops.size->(jO ops.toList y)[i]?=S e->e.full=F->∀d,dst i≠S d->(t (i+1)).f d=(t i).f d:=λi e hi he hf d hd=>by
  obtain⟨v,m,_,h2⟩:=t1 i e he hf;rw[h2];have h3:ops[i]?=S e.o:=by simpa using(lA he).1
  simp only[dst,h3,Ly]at hd;simp only[mG];cases hq:e.o.dst with
  |none=>rfl
  |some d'=>simp only[yC,upd];rw[j9 (λe'=>hd (by rw[hq,e']))]
 have tm:∀(i:Nat)(e:Ent),i<ops.size->(jO ops.toList y)[i]?=S e->e.full=F->∀id,(∀a∈ef i,p.getD a 0≠id)->(t (i+1)).gen id=(t i).gen id/\(t (i+1)).obj id=(t i).obj id:=λi e hi he hf id hd=>by
  obtain⟨v,m,_,h2⟩:=t1 i e he hf;rw[h2];have h3:=(lA he).2;simp only[ef,h3,A3,A6]at hd;simp only[mG];exact⟨nk hd,nk hd⟩
 -- eh many ek walked by dz
 obtain⟨al,hN,c0,dh⟩:∃al,al<=ops.size/\(∀(i:Nat)(e:Ent),i<al->(jO ops.toList y)[i]?=S e->e.full=F)/\(al=ops.size\/(al+1=ops.size/\∃e,(jO ops.toList y)[al]?=S e/\e.full=T)):=by
  by_cases b':∃(i:Nat)(e:Ent),(jO ops.toList y)[i]?=S e/\e.full=T
  .obtain⟨i,e,he,hf⟩:=b'
   have U:=O i e he hf;rw[bl]at U;refine⟨i,a7,λj e' hj cm=>?_,.inr ⟨U,e,he,hf⟩⟩;cases hq:e'.full with
   |false=>rfl
   |true=>have:=O j e' cm hq;rw[bl]at this;omega
  .refine⟨ops.size,l8 _,λj e' hj cm=>?_,.inl rfl⟩
   cases hq:e'.full with
   |false=>rfl
   |true=>exact absurd ⟨j,e',cm,hq⟩ b'
 have dp:∀(d k i:Nat),i<=k->k<=al->(∀j,i<=j->j<k->dst j≠S d)->(t k).f d=(t i).f d:=by
  intro d k
  induction k with
  |zero=>intro i hi _ _;rw[show i=0 by omega]
  |succ k ih=>
    intro i hi hk hd;by_cases cz:i=k+1
    .subst cz;rfl
    .obtain⟨e,he,_,_⟩:=G k a7
     rw[tf k e a7 he (c0 k e a7 he) d (hd k a7 a7)];exact ih i a7 a7 (λj U h2=>hd j U a7)
 have eo:∀(id k i:Nat),i<=k->k<=al->(∀j,i<=j->j<k->∀a∈ef j,p.getD a 0≠id)->(t k).gen id=(t i).gen id/\(t k).obj id=(t i).obj id:=by
  intro id k
  induction k with
  |zero=>intro i hi _ _;rw[show i=0 by omega];exact⟨rfl,rfl⟩
  |succ k ih=>
    intro i hi hk hd;by_cases cz:i=k+1
    .subst cz;exact⟨rfl,rfl⟩
    .obtain⟨e,he,_,_⟩:=G k a7
     obtain⟨m1,m2⟩:=tm k e a7 he (c0 k e a7 he) id (hd k a7 a7);rw[m1,m2];exact ih i a7 a7 (λj U h2=>hd j U a7)
 have ch:∀(i j d:Nat),i<ops.size->j<ops.size->dst i=S d->dst j=S d->i=j:=λi j d hi hj U h2=>by
  rcases U3 i j with ds|ds
  .exact tb
  .rcases U3 j i with bd|bd
   .exact tb
   .omega
 -- where all have e7 up,it is c8 e5 e6
 have c':∀(k:Nat)(L:Nat->Bool)(W:St),k=al->(∀i,i<k->L i=T)->Ut al dst ef p t L W->W=t k:=by
  rintro k L ⟨f',g',g⟩ rfl hL hI
  have U:f'=(t k).f:=by
   funext d;by_cases hd:∃i,i<k/\dst i=S d
   .obtain⟨i,hi,hd⟩:=hd
    rw[show f' d=_ from hI.f i d hi hd (hL i hi)];exact(dp d k (i+1) a7 (l8 _) (λj U h2 h3=>by have:=ch i j d a7 a7 hd h3;omega)).symm
   .have h0:∀i,i<k->dst i≠S d:=λi hi h=>hd ⟨i,hi,h⟩
    rw[show f' d=_ from hI.f0 d h0];exact(dp d k 0 a7 (l8 _) (λj _ h2=>h0 j h2)).symm
  have h2:g'=(t k).gen:=funext λid=>(hI.m id k (l8 _) (λj a hj _ _=>⟨λ_=>hj,λ_=>hL j hj⟩)).1;have h3:g=(t k).obj:=funext λid=>(hI.m id k (l8 _) (λj a hj _ _=>⟨λ_=>hj,λ_=>hL j hj⟩)).2;rw[U,h2,h3]
 refine⟨K,λL W=>((al<ops.size->L al=T->X->Q .normal W)/\((al<ops.size->L al=F)->Ut al dst ef p t L W))/\∀(i:Nat)(o:Oper),L i=T->ops[i]?=S o->fal o=T->X,?_,?_,?_⟩
 .refine⟨⟨λ_ h=>(by cases h),λ_=>⟨λi d _ _ h=>(by cases h),λd _=>by rw[t0],λid k hk Z=>?_⟩⟩,λ_ _ h=>(by cases h)⟩
  have:=eo id k 0 a7 hk (λj _ hj a ha e=>by have:=(Z j a a7 ha e).2 hj;cases this);rw[this.1,this.2,t0];exact⟨rfl,rfl⟩
 .intro L W i o hI ho hL c b8
  have hi:=(E5.1 ho).1;obtain⟨e,he,q,bn⟩:=G i hi;obtain rfl:o=e.o:=by rw[ho]at q;cases q;rfl
  have cu:=pO b5 b8 i e.o ho c;have az:=a1 i e hi ho bn;by_cases dx:i<al
  .have ev:al<ops.size->L al=F:=λaf=>by
    cases hq:L al with
    |false=>rfl
    |true=>
      exfalso;rcases dh with h|⟨h,e2,cc,a'⟩
      .omega
      .have hz:=lA cc
       have cv:ops[al]?=S e2.o:=by simpa using hz.1
       have:=(a1 al e2 af cv hz.2).2.2.2.2.2.2 a';have h3:=pO b5 b8 al e2.o cv (λe' cf b2=>b8 al _ hq cv e' cf b2) i (this.2 i dx);rw[hL]at h3;exact absurd h3.1 a8
   have hD:=hI.1.2 ev;obtain⟨v,m,⟨P,b0,cb⟩,hn⟩:=t1 i e he (c0 i e dx he)
   have b1:∀r∈e.rd,W.f r=(t i).f r:=λr V=>by
    by_cases hd:∃j,j<al/\dst j=S r
    .obtain⟨j,hj,hd⟩:=hd
     obtain⟨e2,cc,cv,J⟩:=G j a7;have av:e2.o.dst=S r:=by simpa[dst,cv]using hd
     obtain⟨x,bd⟩:=cu j (az.1 r V j e2.o a7 cv av (by rw[J];exact c0 j e2 hj cc));rw[hD.f j r hj hd x];exact(dp r i (j+1) a7 a7 (λk U h2 h3=>by have:=ch j k r a7 a7 hd h3;omega)).symm
    .have h0:∀j,j<al->dst j≠S r:=λj hj h=>hd ⟨j,hj,h⟩
     rw[hD.f0 r h0];exact(dp r i 0 a7 a7 (λj _ h2=>h0 j a7)).symm
   have r1:maskf e.rd (t i).f W.f=W.f:=Cl b1
   have ec:∀id,(∀a∈e.hd,p.getD a 0≠id)->W.gen id=(t i).gen id/\W.obj id=(t i).obj id:=λid hv=>by
    refine hD.m id i a7 (λj a hj ha A=>?_);obtain⟨e2,cc,cv,J⟩:=G j a7;have bz:a∈e2.ef:=by simpa[ef,J]using ha
    have dc:a<z p:=(a1 j e2 a7 cv J).2.2.2.2.1 a bz;rcases az.2.2.1 a dc (λh=>hv a h A) j _ a7 J bz with h|h|h
    .have:=cu j h
     exact⟨λ_=>this.2,λ_=>this.1⟩
    .constructor
     .intro x
      exact VH
     .intro bd
      exfalso;have U:=x9.1 b5 j (D4.2 a7);have h2:=x9.1 U i (by simpa[qq]using h);simp only[s5,B4]at h2;omega
    .subst h
     rw[hL];exact⟨λh=>(by cases h),λh=>a7⟩
   have r2:maskm p e.hd (t i).gen W.gen=W.gen:=vj λid hv=>(ec id hv).1;have r3:maskm p e.hd (t i).obj W.obj=W.obj:=vj λid hv=>(ec id hv).2;have U:=b0 W.f W.gen W.obj;rw[r1,r2,r3]at U
   refine⟨cb.ok b1,U _ λhz=>⟨?_,λj o2 x H cd=>by
    simp only[upd]at x;by_cases bd:j=i
    .subst bd
     rw[ho]at H;cases H;exact hz cd
    .rw[j9 bd]at x
     exact hI.2 j o2 x H cd⟩⟩
   refine⟨λaf h=>?_,λ_=>⟨λj d hj hd x=>?_,λd hd=>?_,λid k hk Z=>?_⟩⟩
   .simp only[upd]at h
    rw[j9 a7,ev af]at h;cases h
   .simp only[upd]at x
    by_cases bd:j=i
    .subst bd
     have av:e.o.dst=S d:=by simpa[dst,ho]using hd
     rw[hn];simp only[mG,av,yC,upd,B5]
    .rw[j9 bd]at x
     have b4:e.o.dst≠S d:=λh=>bd (ch j i d a7 hi hd (by simpa[dst,ho]using h));rw[<-hD.f j d hj hd x];simp only[mG];cases hq:e.o.dst with
     |none=>rfl
     |some d'=>simp only[yC,upd];rw[j9 (λe'=>b4 (by rw[hq,e']))]
   .rw[<-hD.f0 d hd]
    have b4:e.o.dst≠S d:=λh=>hd i dx (by simpa[dst,ho]using h);simp only[mG];cases hq:e.o.dst with
    |none=>rfl
    |some d'=>simp only[yC,upd];rw[j9 (λe'=>b4 (by rw[hq,e']))]
   .have e0:ef i=e.ef:=by simp[ef,bn]
    by_cases dd:∃a∈e.ef,p.getD a 0=id
    .obtain⟨a,ha,A⟩:=dd
     have cz:i<k:=(Z i a dx (by rw[e0];exact ha) A).1 XL;have dc:=az.2.2.2.2.1 a ha
     have:=eo id k (i+1) a7 hk (λj U h2 b hb a6=>by
      obtain⟨e2,cc,cv,J⟩:=G j a7;have b7:b∈e2.ef:=by simpa[ef,J]using hb
      have e1:=(a1 j e2 a7 cv J).2.2.2.2.1 b b7;obtain rfl:a=b:=cy a b dc e1 (by rw[A,a6])
      have x:L j=T:=by
       have:=(Z j a a7 hb a6).2 h2;simp only[upd]at this
       rwa [j9 a7]at this
      rcases az.2.2.2.2.2.1 a ha j _ a7 J b7 with h|h|h
      .have:=(cu j h).2;omega
      .exact VH
      .omega)
     rw[this.1,this.2,hn];simp only[mG];exact⟨xt (by simpa using P) ⟨a,ha,A⟩,xt (by simpa using P) ⟨a,ha,A⟩⟩
    .have u:∀a∈e.ef,p.getD a 0≠id:=λa ha h=>dd ⟨a,ha,h⟩
     simp only[mG];rw[nk u,nk u];refine hD.m id k hk (λj a hj ha A=>?_);have bd:j≠i:=λh=>by subst h;rw[e0]at ha;exact u a ha A
     have:=Z j a hj ha A;simp only[upd]at this
     rwa [j9 bd]at this
  .have e3:i=al:=by
    rcases dh with h|⟨h,_⟩<;>omega
   subst e3;rcases dh with h|⟨h,e2,cc,a'⟩
   .omega
   .obtain rfl:e=e2:=by rw[he]at cc;cases cc;rfl
    have hD:=hI.1.2 (λ_=>hL);have bk:∀j,j<i->L j=T:=λj hj=>(cu j ((az.2.2.2.2.2.2 a').2 j hj)).1;rw[c' i L W rfl bk hD];obtain⟨bf,cb⟩:=t2 i e he a';refine⟨cb.ok λ_ _=>rfl,bf.2 _ (λB hs=>?_)⟩;refine⟨⟨λ_ _=>hs,λhh=>by have:=hh hi;simp[upd]at this⟩,λj o2 x H cd=>?_⟩;simp only[upd]at x;by_cases bd:j=i
    .subst bd
     rw[ho]at H;cases H;exact bf.1 cd
    .rw[j9 bd]at x
     exact hI.2 j o2 x H cd
 .intro L W hI hL b3
  have hz:X:=b3.elim (λ⟨i0,o0,cx,ca⟩=>hI.2 i0 o0 (hL i0 (E5.1 cx).1) cx ca) id;rcases dh with h|⟨h,_⟩
  .subst h
   have hD:=hI.1.2 (λh=>absurd h a7);have U:=t3 (λi e he=>c0 i e (by rw[<-bl];exact(l6.1 he).1) he);rw[bl]at U;rw[c' _ L W rfl hL hD];exact U hz
  .exact hI.1.1 a7 (hL al a7) hz
def DZ{ar:Sp}{ops:Array Oper}{p:List Nat}{K:St->Prop}:∀(l:List Ent)(s:St),(∀e∈l,e.o.guard=N)->jQ ar E p l s (bx K)->eO ar E ops p True l s (bx λW=>True->K W)
 |[],s,_,h=>by
   unfold jQ at h;unfold eO;exact λ_=>h
 |e::r,s,hg,h=>by
   have b:GdE ops e s:=by unfold GdE;rw[hg e (J2 ..)];trivial
   unfold jQ at h;unfold eO;cases c:e.full with
   |true=>
     rw[c]at h;exact⟨⟨λ_=>trivial,λa J=>h a λB q=>J B λ_=>q⟩,b⟩
   |false=>
     rw[c]at h;obtain⟨v,m,⟨i,j⟩,V⟩:=h;exact⟨v,m,⟨i,λn ga t a J=>j n ga t a (J λ_=>trivial),b⟩,DZ r _ (λx I=>hg x (O6 _ I)) V⟩
def Ea{ar:Sp}(p:List Nat)(y:List (List Nat×List Nat×List Nat×Bool))(l:Nat)(m:DY ops y l=T)(w:z p=l)(ad:p.Nodup)
 (h:jQ ar E p (jO ops.toList y) s (bx λW=>Q .normal W)):(ops.toList.all (λo=>o.guard.isNone)&&ve ops)=T/\∃I:(Nat->Bool)->St->Prop,I (λ_=>F) s/\
    (∀(L:Nat->Bool)(s:St)(i:Nat)(o:Oper),I L s->ops[i]?=S o->L i=F->(∀e∈o.after.toList,Region.binds .any e=T->L e.on=T)->
      (∀j g,L j=T->ops[j]?=S g->∀e∈g.after.toList,Region.binds .any e=T->L e.on=T)->opA ar E o s (bx λW=>I (upd L i T) W))/\
    (∀L W,I L W->(∀i,i<ops.size->L i=T)->Q .normal W):=by
 unfold DY at m;rw[s5]at m
 have n:∀e∈jO ops.toList y,e.o.guard=N:=λe q=>by
  obtain⟨i,t⟩:=D9 q;have:=x9.1 m.1 e.o (l7 (lA t).1);exact Pa.1 this
 obtain⟨U,I,u,v,x⟩:=vk (X:=True) (Q:=Q) p y l m.2 w ad (DZ _ _ n h);exact⟨by rw[s5];exact⟨m.1,U⟩,I,u,λL s i o a b c d e=>(v L s i o a b c d e).2,λL W a b=>x L W a b (.inr trivial)⟩
def ie(hT:bu P E)(a:P.follows .mixedOrders=T){B id:Nat}{q:Box Q}(p:List Nat)(y:List (List Nat×List Nat×List Nat×Bool))(l:Nat)(b:DY ops y l=T)(w:z p=l)(ad:p.Nodup)
 (h:jQ (spB P B) E p (jO ops.toList y) s (bx λW=>Q .normal W)):ly (spB P B) E id ops s q:=by
 obtain⟨U,I,c,e,i⟩:=Ea (Q:=Q) p y l b w ad h;exact Ht hT a U I c e i
end
section steps
variable{ar:Sp}{E:Nat->TI}{p:List Nat}{f:Nat->AV}{g:Nat->Nat}{ob:Nat->Option (List C)}{K:St->Prop}{k:Box K}{op:Op}{ty:TypeId}{ps:String}{af:Array Edge}{rd hd:List Nat}{r:List Ent}{d:Nat}
def aT{v:AV}(U:∀(fa:Nat->AV)(ga:Nat->Nat)(a:Nat->Option (List C))(K':St->Prop),K' ⟨upd (maskf rd f fa) d v,maskm p hd g ga,maskm p hd ob a⟩->opA ar E ⟨S d,op,ty,ps,af,N⟩ ⟨maskf rd f fa,maskm p hd g ga,maskm p hd ob a⟩ (bx K'))
 (b:jQ ar E p r ⟨upd f d v,g,ob⟩ k):jQ ar E p (⟨⟨S d,op,ty,ps,af,N⟩,rd,hd,[],F⟩::r) ⟨f,g,ob⟩ k:=by
 unfold jQ;exact⟨v,[],⟨rfl,λfa ga a K' J=>U fa ga a K' J⟩,b⟩
def db{v:AV}{a x:Nat}(U:∀(fa:Nat->AV)(ga:Nat->Nat)(b:Nat->Option (List C))(K':St->Prop),K' ⟨upd (maskf rd f fa) d v,upd (maskm p hd g ga) (p.getD a 0) x,upd (maskm p hd ob b) (p.getD a 0) y⟩->opA ar E ⟨S d,op,ty,ps,af,N⟩ ⟨maskf rd f fa,maskm p hd g ga,maskm p hd ob b⟩ (bx K'))
 (c:jQ ar E p r ⟨upd f d v,upd g (p.getD a 0) x,upd ob (p.getD a 0) y⟩ k):jQ ar E p (⟨⟨S d,op,ty,ps,af,N⟩,rd,hd,[a],F⟩::r) ⟨f,g,ob⟩ k:=by
 unfold jQ;exact⟨v,[(x,y)],⟨rfl,λfa ga b K' J=>U fa ga b K' J⟩,c⟩
def jY{a:Nat}(hv:p.getD a 0∉hd.map (λb=>p.getD b 0))(U:∀(fa:Nat->AV)(ga:Nat->Nat)(m:Nat->Option (List C))(K':St->Prop),K' ⟨maskf rd f fa,maskm p hd g ga,upd (maskm p hd ob m) (p.getD a 0) y⟩->opA ar E ⟨N,op,ty,ps,af,N⟩ ⟨maskf rd f fa,maskm p hd g ga,maskm p hd ob m⟩ (bx K'))
 (n:jQ ar E p r ⟨f,g,upd ob (p.getD a 0) y⟩ k):jQ ar E p (⟨⟨N,op,ty,ps,af,N⟩,rd,hd,[a],F⟩::r) ⟨f,g,ob⟩ k:=by
 have c:∀(A:Type)(h:Nat->A)(i:Nat),upd h i (h i)=h:=λA h i=>by funext j;simp only[upd];split<;>simp_all
 have l:∀ga:Nat->Nat,maskm p hd g ga (p.getD a 0)=g (p.getD a 0):=λga=>by
  clear U n
  induction hd with
  |nil=>rfl
  |cons b bs ih=>
    exact W9
 unfold jQ;refine⟨uv,[(g (p.getD a 0),y)],⟨rfl,λfa ga m K' J=>U fa ga m K' ?_⟩,?_⟩
 .have e:mG p ⟨⟨N,op,ty,ps,af,N⟩,rd,hd,[a],F⟩ uv [(g (p.getD a 0),y)] ⟨maskf rd f fa,maskm p hd g ga,maskm p hd ob m⟩=⟨maskf rd f fa,maskm p hd g ga,upd (maskm p hd ob m) (p.getD a 0) y⟩:=by
   simp only[mG,yC,setm,s6,x7];rw[<-l ga,c]
  rw[<-e];exact J
 .have e:mG p ⟨⟨N,op,ty,ps,af,N⟩,rd,hd,[a],F⟩ uv [(g (p.getD a 0),y)] ⟨f,g,ob⟩=⟨f,g,upd ob (p.getD a 0) y⟩:=by
   simp only[mG,yC,setm,s6,x7];rw[c]
  rw[e];exact n
def di{o:Oper}{ef:List Nat}(h:∀K':St->Prop,(∀B,K B->K' B)->opA ar E o ⟨f,g,ob⟩ (bx K')):jQ ar E p [⟨o,rd,hd,ef,T⟩] ⟨f,g,ob⟩ k:=by
 unfold jQ;exact h
end steps
@[go_sem]def TD:=A4 @maskf.eq_1 (A4 @maskf.eq_2 (A4 @maskm.eq_1 @maskm.eq_2))
attribute [go_sem] List.getD_cons_zero List.getD_cons_succ
@[go_sem]def Uu:jO [] ts=[]:=by cases ts<;>rfl
@[go_sem]def TF{o:Oper}{os:List Oper}{rd hd ef:List Nat}{fl:Bool}:jO (o::os) ((rd,hd,ef,fl)::ts)=⟨o,rd,hd,ef,fl⟩::jO os ts:=B9 rfl rfl
end
end
end Go.Am
