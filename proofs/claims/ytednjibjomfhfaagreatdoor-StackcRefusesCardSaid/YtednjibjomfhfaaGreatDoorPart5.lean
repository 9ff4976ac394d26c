/- A part of the proof; no conditions. -/
import Derived.Test.YtednjibjomfhfaaGreatDoorPart4
import Derived.Deep.Quiet
import Derived.Orders
set_option linter.all false
open List renaming length -> z
open Option renaming some -> S, none -> N
open Bool renaming true -> T, false -> F
set_option maxHeartbeats 64000000
set_option maxRecDepth 100000
namespace Go.Am
section
section
def scD:D->Value
 |.fn f=>.func (.func f) #[] #[]
 |.yld l=>.func (.yield l) #[] #[]
 |x=>dV x
def scC:C->Value
 |.d x=>scD x
 |_=>undef
def nK:AV->Value
 |.one c=>scC c
 |.agg cs=>.agg (cs.map scC).toArray
 |.tup A=>.tuple (A.map λt=>match t with|.one c=>scC c|_=>undef).toArray
 |.junk=>undef
 |.exact v=>v
variable{J:Nat->Prop}
section
variable{P:Program}{G:Nat->TI}{O:Bs}{β:Loc}{w:World}
def cr.scalar{x:D}{v:Value}(a:nb x=T)(h:cr J w x v):v=scD x:=by
 cases h<;>first|rfl|(simp[nb]at a;done)
def LI{x:D}(a:nb x=T):cr J w x (scD x):=by
 cases x<;>first|(simp[nb]at a;done)|constructor
def RVc.scalar{J:Nat->Prop}{c:C}{v:Value}(a:jo c=T)(h:RVc J w c v):v=scC c:=by
 obtain⟨x,rfl,I⟩:=h;exact I.scalar a
def yv{c:C}(a:jo c=T):RVc J w c (scC c):=by
 cases c<;>simp[jo]at a;exact⟨_,rfl,LI a⟩
def RVs.scalar{J:Nat->Prop}:∀{A:List AV}{vs:List Value},(A.all λt=>match t with|.one c=>jo c|_=>F)=T->RVs J w A vs->vs=A.map λt=>match t with|.one c=>scC c|_=>undef
 |[],_,_,h=>by simp only[RVs]at h;rw[h];rfl
 |t::A,vs,a,h=>by
   simp only[C4,l4]at a;simp only[RVs]at h;obtain⟨u,b,rfl,U,Y⟩:=h;rw[RVs.scalar a.2 Y];cases t with
   |one c=>simp only[RV]at U;simp only[l9,U.scalar a.1]
   |_=>simp at a
def RV.scalar{J:Nat->Prop}{x:AV}{v:Value}(a:ea x=T)(h:RV J w x v):v=nK x:=by
 cases x with
 |one c=>simp only[RV]at h;exact h.scalar a
 |agg cs=>
   simp only[RV]at h;obtain⟨vs,rfl,Y,d⟩:=h;simp only[ea,x7]at a;simp only[nK];congr 1;apply Array.ext
   .simp[Y]
   .intro i U f
    have b:i<z cs:=by simpa using f
    obtain⟨u,g,V⟩:=d i cs[i] (y8 b);have e:=(C8.1 g).2;rw[e,V.scalar (a _ (L3 b))];simp
 |tup A=>
   simp only[RV]at h;obtain⟨vs,rfl,Y⟩:=h;rw[RVs.scalar a Y];rfl
 |junk=>simp[ea]at a
 |exact=>simp[ea]at a
def vf{J:Nat->Prop}:∀{A:List AV},(A.all λt=>match t with|.one c=>jo c|_=>F)=T->RVs J w A (A.map λt=>match t with|.one c=>scC c|_=>undef)
 |[],_=>by simp only[v8,RVs]
 |t::A,a=>by
   simp only[C4,l4]at a;simp only[l9,RVs];refine⟨_,_,rfl,?_,vf a.2⟩;cases t with
   |one c=>simp only[RV];exact yv a.1
   |_=>simp at a
def xr{x:AV}(a:ea x=T):RV J w x (nK x):=by
 cases x with
 |one c=>simp only[RV,nK];exact yv a
 |agg cs=>
   simp only[RV,nK];refine⟨_,rfl,a8,λi c b=>?_⟩;simp only[ea,x7]at a;exact⟨scC c,by simp[b],yv (a c (l5 b))⟩
 |tup A=>
   simp only[RV,nK];exact⟨_,rfl,vf a⟩
 |junk=>simp[ea]at a
 |exact=>simp[ea]at a
def Wv(P:Program)(o:Oper)(s:St)(R:St->Prop):Prop:=∃(f:FuncId)(args:Array Operand)(tys:Array TypeId)(xs:List AV)(r:AV),
 o.op=.call ⟨.value (.func f),args,tys⟩/\eu s (args.toList.map s.ev) xs/\aF P f xs (·=r)/\ea r=T/\R (s.put o.dst r)
def spQ(P:Program)(B:Nat):Sp:=⟨Wv P,λ_ _ _=>False,λ_ _=>False,B⟩
def yw(G:Nat->TI)(o:Op):Bool:=eS G o||match o with|.call ⟨.value _,_,_⟩=>T|_=>F
def Ei(G:Nat->TI)(ops:Array Oper):Bool:=ops.toList.all (yw G ·.op)&&Region.lexB .any ops
def vg{av:Nat}{s:St}{a:Act}(V:Rel O av s β a w){w':World}(c:Ext w w'):∀(l:List Operand){xs:List AV},eu s (l.map s.ev) xs->RVs (Own O w') w' xs (l.map a.eval)
 |[],xs,h=>by simp only[v8,eu]at h;subst h;simp only[v8,RVs]
 |x::l,xs,h=>by
   simp only[l9,eu]at h;obtain⟨r,e,rfl,U,Y⟩:=h;simp only[l9,RVs];exact⟨_,_,rfl,RV.mono (λb d=>⟨⟨by have:=d.1;have:=c.1;omega,d.2⟩,c.2 b d.1⟩) r (U.rep V (V.ev x)),vg V c l Y⟩
def iG(hT:bp P G){B av:Nat}{ops:Array Oper}{Q:Act->Prop}{K:St->Prop}{k:Box K}:∀(l:List Oper){s:St}{a:Act},Rel O av s β a w->fP av l=T->l.all (yw G ·.op)=T->wpO (spQ P B) G ops l s k->
  (∀s' W,K s'->Rel O av s' β W w->s'.gen=s.gen->s'.obj=s.obj->Q W)->wpQuiet P ops (λw'=>Ext w w'/\w'.os=w.os/\w'.output=w.output) Q l a
 |[],s,a,V,_,_,h,hQ=>hQ s a h V rfl rfl
 |o::rest,s,a,V,b4,hp,h,hQ=>by
   obtain⟨hd,g⟩:=kh b4;simp only[C4,l4]at hp;unfold wpO at h;unfold wpQuiet
   have u:∀{s0:St},Rel O av s0 β a w->s0.gen=s.gen->s0.obj=s.obj->opA (spQ P B) G o s0 (bx λs'=>wpO (spQ P B) G ops rest s' k)->o.quiet P a (λw'=>Ext w w'/\w'.os=w.os/\w'.output=w.output) (wpQuiet P ops (λw'=>Ext w w'/\w'.os=w.os/\w'.output=w.output) Q rest):=λ{s0}cb A n h0=>by
    by_cases ad:eS G o.op=T
    .obtain⟨y,Z,U,Y,h3⟩:=rC hT cb ad h0
     refine⟨Z,λw' b0=>?_,iG hT rest (cb.put hd h3) g hp.2 U (λs' W k1 k2 k3 k4=>hQ s' W k1 k2 (by rw[k3,St.put_gen,A]) (by rw[k4,St.put_obj,n]))⟩;unfold Oper.quietAt;rw[Y w' b0.1];exact⟨rfl,rfl⟩
    .have hq:=hp.1
     simp only[yw,F3]at hq;have hq:=hq.resolve_left ad;obtain⟨dst,op,ty,ps,H,gd⟩:=o;cases op with
     |call c=>
       obtain⟨callee,args,tys⟩:=c;cases callee with
       |value fo=>
         have h0:bu (spQ P B) ⟨dst,.call ⟨.value fo,args,tys⟩,ty,ps,H,gd⟩ s0 (bx λs'=>wpO (spQ P B) G ops rest s' k):=h0;obtain⟨R,⟨f,E,bc,xs,r,ho,I,b1,an,hR⟩,J⟩:=h0;have J:=J _ hR;have bf:ag O β s0.gen s0.obj w r (nK r):=RV.rep r (xr an);refine⟨nK r,λw' b0=>?_,iG hT rest (cb.put hd bf) g hp.2 J (λs' W k1 k2 k3 k4=>hQ s' W k1 k2 (by rw[k3,St.put_gen,A]) (by rw[k4,St.put_obj,n]))⟩;unfold Oper.quietAt;rw[ki ho b1.1 w'];refine⟨rfl,?_⟩;have:=b1.2 (Own O w') w' (E.toList.map a.eval) (λ_ h=>h.1) (vg cb b0.1 _ I);rw[show (E.toList.map a.eval).toArray=E.map a.eval from H6 a8]at this;refine this.mono λe i⟨v,X,he,a1,hs,hh,q,hv⟩=>?_;subst a1;exact⟨by rw[he,hv.scalar an],b0.1.trans ⟨hs,hh⟩,q.1.trans b0.2.1,q.2.trans b0.2.2⟩
       |builtin b=>simp at hq
       |invoke r m=>simp at hq
     |_=>simp at hq
   cases hg:o.guard with
   |none=>
     rw[hg]at h;simp only at h;rw[l7 (by simp[Region.wanted,hg])];exact u V rfl rfl h
   |some p=>
     obtain⟨j,t⟩:=p;rw[hg]at h;simp only at h;obtain⟨d,hj,h⟩:=aQ h;unfold mV at h;split at h
     .rename_i b hb
      have hy:=V.yielded hj hb;have h:=jQ h;have bk:=V.reput hb;by_cases hw:b=t
      .rw[l7 hw]at h
       rw[l7 WT];exact u bk rfl rfl h
      .rw[j8 hw]at h
       rw[j8 WT];have L:=bk.put hd (x:=uv) (v:=undef) cL;exact U2
     .rename_i hb
      have hy:=V.yielded_u hj hb;rw[j8 Xo];have L:=V.put hd (x:=uv) (v:=undef) cL;exact U2
     .exact Ub
def dC(hT:bp P G)(d:P.follows .mixedOrders=T){B id:Nat}{ops:Array Oper}{s:St}{Q:Exit->St->Prop}{q:Box Q}(c:Ei G ops=T)(h:wpO (spQ P B) G ops ops.toList s (bx λs'=>Q .normal s')):ll (spB P B) G id ops s q:=by
 refine .inr ⟨λe s'=>e=.normal/\Q .normal s',λO f β a w g V=>?_,λe s'⟨U,Y⟩=>U▸Y⟩;simp only[Ei,l4]at c;have i:Rel O f s β a {w with drawn:=w.drawn+1}:=V.of_heap rfl;have u:Tr O β s w β s {w with drawn:=w.drawn+1}:=Tr.same rfl rfl rfl;refine wp_region_quiet d c.2 (C:=λw'=>Ext {w with drawn:=w.drawn+1} w'/\w'.os=w.os/\w'.output=w.output) ⟨.refl,rfl,rfl⟩ ?_;refine iG hT ops.toList i g c.1 h (λs' W j k l m w' b=>?_);obtain⟨n,o⟩:=k.grow b.1.1 b.1.2 ⟨b.2.1,b.2.2⟩;refine⟨s',β,⟨rfl,j⟩,n,u.trans (Tr.trans (Tr.same l m rfl) o)⟩
def cC{s:St}:∀{A:List AV},(A.all λt=>match t with|.one (.d x)=>(match x with|.nsl=>F|_=>T)|_=>F)=T->eu s A A
 |[],_=>rfl
 |t::A,h=>by
   simp only[C4,l4]at h;refine⟨t,A,rfl,?_,cC h.2⟩
   match t,h.1 with
   |.one (.d x),U=>
     refine⟨x,?_,rfl⟩;have:=Frz.d (s:=s) x;cases x<;>first|exact this|(simp at U;done)
def bm{o:Oper}{s:St}{K:St->Prop}{k:Box K}{B:Nat}{f:FuncId}{args:Array Operand}{tys:Array TypeId}(ho:o.op=.call ⟨.value (.func f),args,tys⟩){r:AV}{xs:List AV}
 (a:aF P f xs (·=r))(I:eu s (args.toList.map s.ev) xs)(b:ea r=T)(c:K (s.put o.dst r)):bu (spQ P B) o s k:=
 ⟨λd=>d=s.put o.dst r,⟨f,args,tys,xs,r,ho,I,a,b,rfl⟩,λ_ e=>e▸c⟩
end
end
section
section
variable{P:Program}{G:Nat->TI}{O:Bs}{β:Loc}{w:World}
end
end
section
variable{ops:Array Oper}
section
variable{P:Program}{G:Nat->TI}{O:Bs}{β:Loc}{w:World}
def count_set{l:Array Bool}{i:Nat}(h:l[i]?=S F):(l.setIfInBounds i T).toList.count F+1=l.toList.count F:=by
 obtain⟨b,c⟩:=C8.1 h;rw[Array.toList_setIfInBounds];have hl:l.toList[i]?=S F:=by simpa using h
 generalize l.toList=m at hl;clear h b c
 induction m generalizing i with
 |nil=>simp at hl
 |cons a m d=>
   cases i with
   |zero=>simp at hl;subst hl;simp
   |succ i=>
     simp only[Ot,List.count_cons];have:=d (i:=i) W8;omega
def Aa{hT:bp P G}{B av:Nat}{ops:Array Oper}{Q:Exit->Act->World->Prop}(hg:ops.toList.all (λo=>o.guard.isNone)=T)(b4:fP av ops.toList=T)(I:(Nat->Bool)->St->Prop)
 (J:∀(L:Nat->Bool)(s:St)(i:Nat)(o:Oper),I L s->ops[i]?=S o->L i=F->(∀e∈o.after.toList,Region.binds .any e=T->L e.on=T)->
    (∀j l,L j=T->ops[j]?=S l->∀e∈l.after.toList,Region.binds .any e=T->L e.on=T)->opA (spB P B) G o s (bx λr=>I (upd L i T) r))
 (X:∀L s E W w',(∀i,i<ops.size->L i=T)->I L s->Rel O av s E W w'->∀x A K,True->(Tr O A x K E s w'->Tr O A x K E s w')):
  ∀(q:Nat)(b:Array Bool){s:St}{β:Loc}{a:Act}{w:World},b.size=ops.size->b.toList.count F<=q->Rel O av s β a w->I (λi=>b.getD i F) s->
   (∀j l,b.getD j F=T->ops[j]?=S l->∀e∈l.after.toList,Region.binds .any e=T->b.getD e.on F=T)->
   (∀L r E W w',(∀i,i<ops.size->L i=T\/∃o,ops[i]?=S o)->I L r->(Region.ready .any ops b=[]->True)->Rel O av r E W w'->Tr O β s w E r w'->(∃c,L=(λi=>c.getD i F)/\c.size=ops.size/\Region.ready .any ops c=[])->Q .normal W w')->
   wpAny P .any ops Q q b a w
 |0,b,s,β,a,w,bc,Z,V,t,hid,v=>by
   have bs:∀i,i<ops.size->b.getD i T=T:=λi p=>by
    have cd:F∉b.toList:=λh=>by
     have:=Q1.2 h;omega
    rw[x8,A5 a6];simp only[A2];cases hq:b[i]'a6 with
    |true=>rfl
    |false=>exact absurd (hq▸O9.2 (R2 a6)) cd
   have an:Region.ready .any ops b=[]:=by
    unfold Region.ready;rw[L7];intro i p;simp[bs i (E4.1 p)]
   exact⟨an,v _ s β a w (λi p=>.inr ⟨_,A5 p⟩) t (λ_=>trivial) V Tr.refl ⟨b,rfl,bc,an⟩⟩
 |q+1,b,s,β,a,w,bc,Z,V,t,hid,v=>by
   refine⟨λan=>v _ s β a w (λi p=>.inr ⟨_,A5 p⟩) t (λ_=>trivial) V Tr.refl ⟨b,rfl,bc,an⟩,λi p=>?_⟩;unfold Region.ready at p;simp only[S8,E4,l4,H3]at p;obtain⟨b8,y,m⟩:=p;have ho:ops[i]?=S ops[i]:=A5 b8;rw[ho]at m;simp only[z8,A2,Ou,F3,H3]at m
   have bd:b[i]?=S F:=by
    exact VW
   have hL:b.getD i F=F:=by rw[x8,bd];rfl
   have f:∀e∈ops[i].after.toList,Region.binds .any e=T->b.getD e.on F=T:=λe he hb=>by
    exact T7
   have bf:(ops[i]).guard=N:=by
    have:=x7.1 hg ops[i] (G5 b8);exact Um
   have k:∀d,(ops[i]).dst=S d->d<av:=λd hd=>by
    exact UF
   unfold wpOp;rw[ho];simp only;rw[l7 (by simp[Region.wanted,bf])]
   have u:(λj=>(b.setIfInBounds i T).getD j F)=upd (λj=>b.getD j F) i T:=by
    funext j;exact tI
   refine .inl (mI hT V k (J _ s i ops[i] t ho hL f hid) (λr E W w' g bk b7=>?_));refine Aa (hT:=hT) hg b4 I J X q (b.setIfInBounds i T) (by simpa using bc) YD bk (by rw[u];exact g) (λj l hj H e he hb=>?_) (λL s2 bl a2 w2 U Y _ h4 h5 h6=>v L s2 bl a2 w2 U Y (λ_=>trivial) h4 (b7.trans h5) h6);exact km
def vh(ops:Array Oper):Bool:=(List.range ops.size).all λi=>((ops[i]?).map λo=>o.after.toList.all λe=>!Region.binds .any e||decide (e.on<i)).getD T
def sy(f:vh ops=T){b:Array Bool}(bc:b.size=ops.size)(h:Region.ready .any ops b=[]):∀i,i<ops.size->b.getD i F=T:=by
 intro i
 induction i using Nat.strongRecOn with
 |ind i g=>
   intro c;cases d:b.getD i F with
   |true=>rfl
   |false=>
     exfalso;unfold Region.ready at h;rw[L7]at h;refine h i (E4.2 c) ?_
     have j:b[i]?=S F:=by
      rw[x8,A5 a6]at d;rw[A5 a6];simpa using d
     rw[x8,j,A5 c];simp only[A2,I9,z8,w7,Ou,F3,H3];intro e k;cases a:Region.binds .any e with
     |false=>exact .inl rfl
     |true=>
       right;have U:=x7.1 f i (E4.2 c);rw[A5 c]at U;simp only[z8,A2]at U;have Y:=x7.1 U e (by simpa using k);rw[a]at Y;simp only[O8,R6,s7]at Y;exact g e.on Y a6
def Hu(hT:bp P G)(f:P.follows .mixedOrders=T){B id:Nat}{s:St}{Q:Exit->St->Prop}{q:Box Q}(d:(ops.toList.all (λo=>o.guard.isNone)&&vh ops)=T)(I:(Nat->Bool)->St->Prop)(h0:I (λ_=>F) s)
 (J:∀(L:Nat->Bool)(s:St)(i:Nat)(o:Oper),I L s->ops[i]?=S o->L i=F->(∀e∈o.after.toList,Region.binds .any e=T->L e.on=T)->
    (∀j l,L j=T->ops[j]?=S l->∀e∈l.after.toList,Region.binds .any e=T->L e.on=T)->opA (spB P B) G o s (bx λs'=>I (upd L i T) s'))
 (g:∀L s',I L s'->(∀i,i<ops.size->L i=T)->Q .normal s'):ll (spB P B) G id ops s q:=by
 rw[l4]at d;obtain⟨hg,bc⟩:=d;refine .inr ⟨λe s'=>e=.normal/\Q .normal s',λO k β a w m V=>?_,λe s'⟨U,Y⟩=>U▸Y⟩;have n:Rel O k s β a {w with drawn:=w.drawn+1}:=V.of_heap rfl;have u:Tr O β s w β s {w with drawn:=w.drawn+1}:=Tr.same rfl rfl rfl;refine wp_region_any f (Aa (hT:=hT) hg m I J (λ_ _ _ _ _ _ _ _ _ _ _ _ h=>h) ops.size (Array.replicate ops.size F) a8 a8 n ?_ (λj l c=>?_) (λL s' E W w' _ Y _ p r h6=>⟨s',E,⟨rfl,g L s' Y Xx⟩,p,u.trans r⟩))
 .exact tb
 .rw[x8,D0]at c
  split at c<;>simp at c
end
end
end
section
attribute[local congr]ite_cc
section
structure Ent where
 o:Oper
 rd:List Nat
 hd:List Nat
 ef:List Nat
 full:Bool
def jC:List Oper->List (List Nat×List Nat×List Nat×Bool)->List Ent
 |o::os,t::A=>⟨o,t.1,t.2.1,t.2.2.1,t.2.2.2⟩::jC os A
 |_,_=>[]
def maskf{α:Type}:List Nat->(Nat->α)->(Nat->α)->Nat->α
 |[],_,a=>a
 |r::rs,f,a=>upd (maskf rs f a) r (f r)
def maskm{α:Type}(p:List Nat):List Nat->(Nat->α)->(Nat->α)->Nat->α
 |[],g,_=>g
 |a::c,g,b=>upd (maskm p c g b) (p.getD a 0) (b (p.getD a 0))
def setm{α:Type}(p:List Nat):List Nat->List α->(Nat->α)->Nat->α
 |a::c,x::xs,g=>upd (setm p c xs g) (p.getD a 0) x
 |_,_,g=>g
def yz(f:Nat->AV):Option Nat->AV->Nat->AV
 |some d,v=>upd f d v
 |none,_=>f
def mD(p:List Nat)(e:Ent)(v:AV)(m:List (Nat×Option (List C)))(s:St):St:=
 ⟨yz s.f e.o.dst v,setm p e.ef (m.map (·.1)) s.gen,setm p e.ef (m.map (·.2)) s.obj⟩
def TB(an:Sp)(G:Nat->TI)(p:List Nat)(e:Ent)(s:St)(v:AV)(m:List (Nat×Option (List C))):Prop:=
 ∀(a:Nat->AV)(b:Nat->Nat)(c:Nat->Option (List C))(h:St->Prop),h (mD p e v m ⟨maskf e.rd s.f a,maskm p e.hd s.gen b,maskm p e.hd s.obj c⟩)->opA an G e.o ⟨maskf e.rd s.f a,maskm p e.hd s.gen b,maskm p e.hd s.obj c⟩ (bx h)
def OG(an:Sp)(G:Nat->TI)(o:Oper)(s:St)(K:St->Prop):Prop:=∀K':St->Prop,(∀P,K P->K' P)->opA an G o s (bx K')
def jE(an:Sp)(G:Nat->TI)(p:List Nat):List Ent->St->{K:St->Prop}->Box K->Prop
 |[],s,K,_=>K s
 |e::r,s,K,k=>match e.full with
   |true=>OG an G e.o s K
   |false=>∃v m,(z m=z e.ef/\TB an G p e s v m)/\jE an G p r (mD p e v m s) k
def pH(ops:Array Oper)(o:Oper)(s:St):Prop:=match o.guard with|none=>True|some (j,w)=>∃d,((ops[j]?).bind (·.dst))=S d/\s.f d=bv w
def GdE(ops:Array Oper)(e:Ent)(s:St):Prop:=match e.o.guard with|none=>True|some (j,w)=>∃d,((ops[j]?).bind (·.dst))=S d/\d∈e.rd/\s.f d=bv w
variable{ops:Array Oper}{α:Type}{s:St}{Q:Exit->St->Prop}{p ef:List Nat}{y:Option (List C)}{A:List (List Nat×List Nat×List Nat×Bool)}{xs:List α}
def GdE.ok{e:Ent}{s a:St}(h:GdE ops e s)(V:∀r∈e.rd,a.f r=s.f r):pH ops e.o a:=by
 unfold GdE at h;unfold pH;cases b:e.o.guard with
 |none=>trivial
 |some p=>
   obtain⟨j,w⟩:=p;rw[b]at h;obtain⟨d,U,Y,c⟩:=h;exact⟨d,U,by rw[V d Y];exact c⟩
def fal(o:Oper):Bool:=match o.op with|.call ⟨.value _,_,_⟩=>T|_=>F
def OH(an:Sp)(G:Nat->TI)(ops:Array Oper)(p:List Nat)(X:Prop)(e:Ent)(s:St)(v:AV)(m:List (Nat×Option (List C))):Prop:=
 (∀(a:Nat->AV)(b:Nat->Nat)(c:Nat->Option (List C))(h:St->Prop),((fal e.o=T->X)->h (mD p e v m ⟨maskf e.rd s.f a,maskm p e.hd s.gen b,maskm p e.hd s.obj c⟩))->opA an G e.o ⟨maskf e.rd s.f a,maskm p e.hd s.gen b,maskm p e.hd s.obj c⟩ (bx h))/\GdE ops e s
def OI(an:Sp)(G:Nat->TI)(ops:Array Oper)(X:Prop)(e:Ent)(s:St)(K:St->Prop):Prop:=((fal e.o=T->X)/\OG an G e.o s K)/\GdE ops e s
def eU(an:Sp)(G:Nat->TI)(ops:Array Oper)(p:List Nat)(X:Prop):List Ent->St->{K:St->Prop}->Box K->Prop
 |[],s,K,_=>K s
 |e::r,s,K,k=>match e.full with
   |true=>OI an G ops X e s K
   |false=>∃v m,(z m=z e.ef/\OH an G ops p X e s v m)/\eU an G ops p X r (mD p e v m s) k
def vk{an:Sp}{G:Nat->TI}{ops:Array Oper}{p:List Nat}{X:Prop}{K:St->Prop}{k:Box K}:∀(l:List Ent)(s:St),eU an G ops p X l s k->(∀i e,l[i]?=S e->e.full=T->i+1=z l)->
  ∃t:Nat->St,t 0=s/\(∀i e,l[i]?=S e->e.full=F->∃v m,(z m=z e.ef/\OH an G ops p X e (t i) v m)/\t (i+1)=mD p e v m (t i))/\(∀i e,l[i]?=S e->e.full=T->OI an G ops X e (t i) K)/\
   ((∀(i:Nat)(e:Ent),l[i]?=S e->e.full=F)->K (t (z l)))
 |[],s,h,_=>⟨λ_=>s,rfl,λi e hi=>(by simp at hi),λi e hi=>(by simp at hi),λ_=>h⟩
 |e::r,s,h,hl=>by
   unfold eU at h;cases b:e.full with
   |true=>
     rw[b]at h;have j:=hl 0 e rfl b;have:r=[]:=r0 (by simpa using j);subst this;refine⟨λ_=>s,rfl,λi B hi a=>?_,λi B hi _=>?_,λc=>?_⟩
     .cases i with
      |zero=>simp at hi;subst hi;rw[b]at a;cases a
      |succ i=>simp at hi
     .cases i with
      |zero=>simp at hi;subst hi;exact h
      |succ i=>simp at hi
     .have:=c 0 e rfl;rw[b]at this;cases this
   |false=>
     rw[b]at h;obtain⟨v,m,n,V⟩:=h;obtain⟨t,o,q,u,x⟩:=vk r _ V (λi B hi a=>by have:=hl (i+1) B Xv a;simpa using this);refine⟨λi=>match i with|0=>s|i+1=>t i,rfl,λi B hi a=>?_,λi B hi a=>?_,λc=>?_⟩
     .cases i with
      |zero=>simp at hi;subst hi;exact⟨v,m,n,o⟩
      |succ i=>exact q i B Xv a
     .cases i with
      |zero=>simp at hi;subst hi;rw[b]at a;cases a
      |succ i=>exact u i B Xv a
     .exact x (λi B hi=>c (i+1) B (by rw[v7];exact hi))
def PQ(n:List (List Nat))(o:Oper):List Nat:=(o.after.toList.filter (Region.binds .any ·)).foldl (λq e=>(e.on::(n[e.on]?).getD []).foldl (λa j=>if a.contains j then a else j::a) q) []
def OJ(ops:Array Oper):List (List Nat):=ops.toList.foldl (λn o=>n++[PQ n o]) []
def qf(n:List (List Nat))(i j:Nat):Bool:=((n[i]?).getD []).contains j
def TC(ops:Array Oper)(n:List (List Nat)):Bool:=(List.range ops.size).all λi=>((n[i]?).getD []).all λj=>decide (j<i)&&((ops[i]?).map λo=>o.after.toList.any λe=>Region.binds .any e&&(e.on==j||qf n e.on j)&&decide (e.on<i)).getD F
def Ej(ops:Array Oper)(y:List (List Nat×List Nat×List Nat×Bool))(g:Nat)(n:List (List Nat)):Bool:=
 vh ops&&TC ops n&&(z y==ops.size) &&
 (List.range ops.size).all λi=>(((ops[i]?).bind λo=>(y[i]?).map λt=>
   (t.1.all λr=>(List.range ops.size).all λj=>qf n i j||((y[j]?).map λb=>b.2.2.2).getD F||((ops[j]?).map λl=>decide (l.dst≠S r)).getD F) &&
   ((List.range ops.size).all λj=>i==j||((ops[j]?).map λl=>l.dst.isNone||decide (l.dst≠o.dst)).getD F) &&
   ((List.range g).all λa=>t.2.1.contains a||(List.range ops.size).all λj=>qf n i j||qf n j i||i==j||((y[j]?).map λb=>!b.2.2.1.contains a).getD F) &&
   (t.2.1.all λa=>decide (a<g))&&(t.2.2.1.all λa=>decide (a<g))&&(t.2.2.1.all λa=>(List.range ops.size).all λj=>qf n i j||qf n j i||i==j||((y[j]?).map λb=>!b.2.2.1.contains a).getD F) &&
   (!t.2.2.2||(i+1==ops.size&&(List.range i).all λj=>qf n i j))).getD F)
def vl(ops:Array Oper)(y:List (List Nat×List Nat×List Nat×Bool))(g:Nat):Bool:=Ej ops y g (OJ ops)
def Ek(ops:Array Oper)(y:List (List Nat×List Nat×List Nat×Bool))(g:Nat):Bool:=ops.toList.all (λo=>o.guard.isNone)&&vl ops y g
def pI{n:List (List Nat)}(t:TC ops n=T){L:Nat->Bool}(u:∀j l,L j=T->ops[j]?=S l->∀e∈l.after.toList,Region.binds .any e=T->L e.on=T):
  ∀(i:Nat)(o:Oper),ops[i]?=S o->(∀e∈o.after.toList,Region.binds .any e=T->L e.on=T)->∀j,qf n i j=T->L j=T/\j<i:=by
 intro i
 induction i using Nat.strongRecOn with
 |ind i v=>
   intro o ho c j x;have E:=(C8.1 ho).1;have U:=x7.1 t i (E4.2 E);have Y:=x7.1 U j (by simpa[qf]using x);rw[ho]at Y;simp only[z8,A2,l4,s7,O6,F3,I5]at Y;obtain⟨I,e,b,⟨m,a⟩,J⟩:=Y;refine⟨?_,I⟩;rcases a with a|a
   .rw[<-a];exact c e b m
   .have q:=c e b m
    have W:e.on<ops.size:=a6;exact(v e.on J _ (A5 W) (λB V X=>u e.on _ q (A5 W) B V X) j a).1
def CF{rd:List Nat}{f fa:Nat->α}(h:∀r∈rd,fa r=f r):maskf rd f fa=fa:=by
 induction rd with
 |nil=>rfl
 |cons r rs a=>
   unfold maskf;rw[a (λX V=>h X (by simp[V]))];funext j;simp only[upd];split
   .rename_i e;subst e;rw[h _ a8]
   .rfl
def vm{p hd:List Nat}{g i:Nat->α}(h:∀id,(∀a∈hd,p.getD a 0≠id)->i id=g id):maskm p hd g i=i:=by
 funext id
 have:∀hd:List Nat,maskm p hd g i id=if ∃a∈hd,p.getD a 0=id then i id else g id:=by
  intro hd
  induction hd with
  |nil=>simp[maskm]
  |cons a c l=>
    simp only[maskm,upd];by_cases U:id=p.getD a 0
    .rw[l7 U,l7 ⟨a,a8,U.symm⟩,<-U]
    .rw[j8 U,l]
     by_cases Y:∃a∈c,p.getD a 0=id
     .rw[l7 Y,l7 (by obtain⟨b,j,e⟩:=Y;exact⟨b,by simp[j],e⟩)]
     .rw[j8 Y,j8 (by
       rintro⟨b,j,e⟩;rcases y9.1 j with rfl|j
       .exact U e.symm
       .exact Y ⟨b,j,e⟩)]
 rw[this];by_cases U:∃a∈hd,p.getD a 0=id
 .rw[l7 U]
 .rw[j8 U]
  exact(h id (λa m e=>U ⟨a,m,e⟩)).symm
def nf{g:Nat->α}{id:Nat}(h:∀a∈ef,p.getD a 0≠id):setm p ef xs g id=g id:=by
 induction ef generalizing xs with
 |nil=>rfl
 |cons a c i=>
   cases xs with
   |nil=>rfl
   |cons x xs=>
     simp only[setm,upd];rw[j8 (λe=>h a a8 e.symm)];exact i (λb hb=>h b Xg)
def xt{g g':Nat->α}(hl:z xs=z ef){id:Nat}(h:∃a∈ef,p.getD a 0=id):setm p ef xs g id=setm p ef xs g' id:=by
 induction ef generalizing xs with
 |nil=>obtain⟨a,j,_⟩:=h;simp at j
 |cons a c l=>
   cases xs with
   |nil=>simp at hl
   |cons x xs=>
     simp only[setm,upd];split
     .rfl
     .rename_i bl
      refine l W8 ?_;obtain⟨b,i,e⟩:=h;rcases y9.1 i with rfl|i
      .exact absurd e.symm bl
      .exact⟨b,i,e⟩
def lq:∀{os:List Oper}{A:List (List Nat×List Nat×List Nat×Bool)}{i:Nat}{e:Ent},(jC os A)[i]?=S e->os[i]?=S e.o/\A[i]?=S (e.rd,e.hd,e.ef,e.full)
 |[],_,i,e,h=>by simp[jC]at h
 |_::_,[],i,e,h=>by simp[jC]at h
 |o::os,t::A,0,e,h=>by simp[jC]at h;subst h;exact⟨rfl,rfl⟩
 |o::os,t::A,i+1,e,h=>by
   have:=lq (os:=os) (A:=A) (i:=i) (e:=e) (by simpa[jC]using h);exact Um
def Ac:∀{os:List Oper}{A:List (List Nat×List Nat×List Nat×Bool)},z A=z os->z (jC os A)=z os
 |[],[],_=>rfl
 |o::os,t::A,h=>by simp only[jC,j6];rw[Ac Xm]
 |[],_::_,h=>by simp at h
 |_::_,[],h=>by simp at h
section
variable{P:Program}{G:Nat->TI}{O:Bs}{β:Loc}{w:World}
structure TD (n:Nat) (dst:Nat->Option Nat) (ef:Nat->List Nat) (p:List Nat) (t:Nat->St) (L:Nat->Bool) (s:St):Prop where
 f:∀i d,i<n->dst i=some d->L i=true->s.f d=(t (i+1)).f d
 f0:∀d,(∀i,i<n->dst i≠some d)->s.f d=(t 0).f d
 m:∀id k,k<=n->(∀j a,j<n->a∈ef j->p.getD a 0=id->(L j=true↔j<k))->s.gen id=(t k).gen id/\s.obj id=(t k).obj id
def vn{an:Sp}{X:Prop}(p:List Nat)(y:List (List Nat×List Nat×List Nat×Bool))(g:Nat)(bd:vl ops y g=T)(w:z p=g)(b5:p.Nodup)
 (h:eU an G ops p X (jC ops.toList y) s (bx λs'=>X->Q .normal s')):vh ops=T/\∃I:(Nat->Bool)->St->Prop,I (λ_=>F) s/\
    (∀(L:Nat->Bool)(s:St)(i:Nat)(o:Oper),I L s->ops[i]?=S o->L i=F->(∀e∈o.after.toList,Region.binds .any e=T->L e.on=T)->
      (∀j l,L j=T->ops[j]?=S l->∀e∈l.after.toList,Region.binds .any e=T->L e.on=T)->pH ops o s/\opA an G o s (bx λs'=>I (upd L i T) s'))/\
    (∀L s',I L s'->(∀i,i<ops.size->L i=T)->((∃(i:Nat)(o:Oper),ops[i]?=S o/\fal o=T)\/X)->Q .normal s'):=by
 subst w;unfold vl Ej at bd;generalize OJ ops=n at bd;simp only[l4,I5]at bd;obtain⟨⟨⟨bc,b4⟩,Z⟩,bs⟩:=bd;have b0:z (jC ops.toList y)=ops.size:=by rw[Ac (by simpa using Z)];simp
 have x:∀i,i<ops.size->∃e,(jC ops.toList y)[i]?=S e/\ops[i]?=S e.o/\y[i]?=S (e.rd,e.hd,e.ef,e.full):=λi hi=>by
  have U:i<z (jC ops.toList y):=a6;refine⟨_,y8 U,?_⟩;have:=lq (y8 U);exact Um
 have c':∀a b,a<z p->b<z p->p.getD a 0=p.getD b 0->a=b:=λa b ha hb e=>by
  rw[D5,D5,y8 ha,y8 hb]at e;simp only[A2]at e;exact(List.getElem_inj b5).1 e
 -- et e8,by operation
 have O:∀(i:Nat)(e:Ent),i<ops.size->ops[i]?=S e.o->y[i]?=S (e.rd,e.hd,e.ef,e.full)->
   (∀r∈e.rd,∀(j:Nat)(B:Oper),j<ops.size->ops[j]?=S B->B.dst=S r->(((y[j]?).map λt'=>t'.2.2.2).getD F)=F->qf n i j=T)/\
   (∀(j:Nat)(l:Oper),j<ops.size->j≠i->ops[j]?=S l->l.dst=N\/l.dst≠e.o.dst)/\
   (∀a,a<z p->a∉e.hd->∀j t',j<ops.size->y[j]?=S t'->a∈t'.2.2.1->qf n i j=T\/qf n j i=T\/i=j)/\
   (∀a∈e.hd,a<z p)/\(∀a∈e.ef,a<z p)/\
   (∀a∈e.ef,∀j t',j<ops.size->y[j]?=S t'->a∈t'.2.2.1->qf n i j=T\/qf n j i=T\/i=j)/\
   (e.full=T->i+1=ops.size/\∀j,j<i->qf n i j=T):=by
  intro i e hi ho ht;have U:=x7.1 bs i (E4.2 hi);rw[ho,ht]at U;simp only[I8,z8,A2,l4]at U;obtain⟨⟨⟨⟨⟨⟨c1,c2⟩,c3⟩,c4⟩,c5⟩,c6⟩,c7⟩:=U;refine⟨λr V j l hj H hd cu=>?_,λj l hj bl H=>?_,λa ha b3 j t' hj ev A=>?_,λa ha=>?_,λa ha=>?_,λa ha j t' hj ev A=>?_,λhf=>?_⟩
  .have:=x7.1 (x7.1 c1 r V) j (E4.2 hj)
   rw[H,cu]at this;simp only[z8,A2,Bool.or_false,F3,s7]at this;rcases this with h|h
   .exact h
   .exact absurd hd h
  .have:=x7.1 c2 j (E4.2 hj)
   rw[H]at this;simp only[z8,A2,F3,s7,I5,Q6]at this;rcases this with h|h|h
   .exact absurd h.symm bl
   .exact .inl h
   .exact .inr h
  .have:=x7.1 c3 a (E4.2 ha)
   simp only[F3,H8,x7,E4]at this;rcases this with h|h
   .exact absurd h b3
   .have:=h j hj
    rw[ev]at this;simp only[z8,A2,I5,H3]at this;exact Ug
  .exact M4 (x7.1 c4 a ha)
  .exact M4 (x7.1 c5 a ha)
  .have:=x7.1 (x7.1 c6 a ha) j (E4.2 hj)
   rw[ev]at this;simp only[z8,A2,F3,I5,H3]at this;exact Ug
  .rw[hf]at c7
   simp only[O8,R6,l4,I5,x7,E4]at c7;exact c7
 have K:∀(i:Nat)(e:Ent),(jC ops.toList y)[i]?=S e->e.full=T->i+1=z (jC ops.toList y):=λi e hi hf=>by
  have af:i<ops.size:=by rw[<-b0];exact(l8.1 hi).1
  have Y:=lq hi;rw[b0];exact((O i e af (by simpa using Y.1) Y.2).2.2.2.2.2.2 hf).1
 obtain⟨t,t0,t1,t2,t3⟩:=vk _ _ h K
 let dst:Nat->Option Nat:=λi=>(ops[i]?).bind (·.dst)
 let ef:Nat->List Nat:=λi=>((y[i]?).map (·.2.2.1)).getD []
 -- fa et trace goes
 have tf:∀(i:Nat)(e:Ent),i<ops.size->(jC ops.toList y)[i]?=S e->e.full=F->∀d,dst i≠S d->(t (i+1)).f d=(t i).f d:=λi e hi he hf d hd=>by
  obtain⟨v,m,_,Y⟩:=t1 i e he hf;rw[Y];have h3:ops[i]?=S e.o:=by simpa using(lq he).1
  simp only[dst,h3,I8]at hd;simp only[mD];cases hq:e.o.dst with
  |none=>rfl
  |some d'=>simp only[yz,upd];rw[j8 (λB=>hd (by rw[hq,B]))]
 have tm:∀(i:Nat)(e:Ent),i<ops.size->(jC ops.toList y)[i]?=S e->e.full=F->∀id,(∀a∈ef i,p.getD a 0≠id)->(t (i+1)).gen id=(t i).gen id/\(t (i+1)).obj id=(t i).obj id:=λi e hi he hf id hd=>by
  obtain⟨v,m,_,Y⟩:=t1 i e he hf;rw[Y];have h3:=(lq he).2;simp only[ef,h3,z8,A2]at hd;simp only[mD];exact⟨nf hd,nf hd⟩
 -- fa many e0 walked by ek
 obtain⟨av,hN,dk,dz⟩:∃av,av<=ops.size/\(∀(i:Nat)(e:Ent),i<av->(jC ops.toList y)[i]?=S e->e.full=F)/\(av=ops.size\/(av+1=ops.size/\∃e,(jC ops.toList y)[av]?=S e/\e.full=T)):=by
  by_cases cv:∃(i:Nat)(e:Ent),(jC ops.toList y)[i]?=S e/\e.full=T
  .obtain⟨i,e,he,hf⟩:=cv
   have U:=K i e he hf;rw[b0]at U;refine⟨i,a6,λj B hj cb=>?_,.inr ⟨U,e,he,hf⟩⟩;cases hq:B.full with
   |false=>rfl
   |true=>have:=K j B cb hq;rw[b0]at this;omega
  .refine⟨ops.size,l0 _,λj B hj cb=>?_,.inl rfl⟩
   cases hq:B.full with
   |false=>rfl
   |true=>exact absurd ⟨j,B,cb,hq⟩ cv
 have ec:∀(d k i:Nat),i<=k->k<=av->(∀j,i<=j->j<k->dst j≠S d)->(t k).f d=(t i).f d:=by
  intro d k
  induction k with
  |zero=>intro i hi _ _;rw[show i=0 by omega]
  |succ k ih=>
    intro i hi hk hd;by_cases dd:i=k+1
    .subst dd;rfl
    .obtain⟨e,he,_,_⟩:=x k a6
     rw[tf k e a6 he (dk k e a6 he) d (hd k a6 a6)];exact ih i a6 a6 (λj U Y=>hd j U a6)
 have e1:∀(id k i:Nat),i<=k->k<=av->(∀j,i<=j->j<k->∀a∈ef j,p.getD a 0≠id)->(t k).gen id=(t i).gen id/\(t k).obj id=(t i).obj id:=by
  intro id k
  induction k with
  |zero=>intro i hi _ _;rw[show i=0 by omega];exact⟨rfl,rfl⟩
  |succ k ih=>
    intro i hi hk hd;by_cases dd:i=k+1
    .subst dd;exact⟨rfl,rfl⟩
    .obtain⟨e,he,_,_⟩:=x k a6
     obtain⟨m1,m2⟩:=tm k e a6 he (dk k e a6 he) id (hd k a6 a6);rw[m1,m2];exact ih i a6 a6 (λj U Y=>hd j U a6)
 have cx:∀(i j d:Nat),i<ops.size->j<ops.size->dst i=S d->dst j=S d->i=j:=λi j d hi hj U Y=>by
  rcases Sv i j with fl|fl
  .exact u2
  .rcases Sv j i with b6|b6
   .exact u2
   .omega
 -- where all have fo up,it is et e9 fm
 have dp:∀(k:Nat)(L:Nat->Bool)(s':St),k=av->(∀i,i<k->L i=T)->TD av dst ef p t L s'->s'=t k:=by
  rintro k L ⟨f',g',l⟩ rfl hL hI
  have U:f'=(t k).f:=by
   funext d;by_cases hd:∃i,i<k/\dst i=S d
   .obtain⟨i,hi,hd⟩:=hd
    rw[show f' d=_ from hI.f i d hi hd (hL i hi)];exact(ec d k (i+1) a6 (l0 _) (λj U Y h3=>by have:=cx i j d a6 a6 hd h3;omega)).symm
   .have h0:∀i,i<k->dst i≠S d:=λi hi h=>hd ⟨i,hi,h⟩
    rw[show f' d=_ from hI.f0 d h0];exact(ec d k 0 a6 (l0 _) (λj _ Y=>h0 j Y)).symm
  have Y:g'=(t k).gen:=funext λid=>(hI.m id k (l0 _) (λj a hj _ _=>⟨λ_=>hj,λ_=>hL j hj⟩)).1;have h3:l=(t k).obj:=funext λid=>(hI.m id k (l0 _) (λj a hj _ _=>⟨λ_=>hj,λ_=>hL j hj⟩)).2;rw[U,Y,h3]
 refine⟨bc,λL s'=>((av<ops.size->L av=T->X->Q .normal s')/\((av<ops.size->L av=F)->TD av dst ef p t L s'))/\∀(i:Nat)(o:Oper),L i=T->ops[i]?=S o->fal o=T->X,?_,?_,?_⟩
 .refine⟨⟨λ_ h=>(by cases h),λ_=>⟨λi d _ _ h=>(by cases h),λd _=>by rw[t0],λid k hk hc=>?_⟩⟩,λ_ _ h=>(by cases h)⟩
  have:=e1 id k 0 a6 hk (λj _ hj a ha e=>by have:=(hc j a a6 ha e).2 hj;cases this);rw[this.1,this.2,t0];exact⟨rfl,rfl⟩
 .intro L s' i o hI ho hL c b'
  have hi:=(C8.1 ho).1;obtain⟨e,he,a1,b1⟩:=x i hi;obtain rfl:o=e.o:=by rw[ho]at a1;cases a1;rfl
  have c0:=pI b4 b' i e.o ho c;have E:=O i e hi ho b1;by_cases eh:i<av
  .have e4:av<ops.size->L av=F:=λaf=>by
    cases hq:L av with
    |false=>rfl
    |true=>
      exfalso;rcases dz with h|⟨h,e2,ca,cy⟩
      .omega
      .have hz:=lq ca
       have cz:ops[av]?=S e2.o:=by simpa using hz.1
       have:=(O av e2 af cz hz.2).2.2.2.2.2.2 cy;have h3:=pI b4 b' av e2.o cz (λB ad cm=>b' av _ hq cz B ad cm) i (this.2 i eh);rw[hL]at h3;exact absurd h3.1 a8
   have W:=hI.1.2 e4;obtain⟨v,m,⟨bf,b7,bo⟩,hn⟩:=t1 i e he (dk i e eh he)
   have b2:∀r∈e.rd,s'.f r=(t i).f r:=λr V=>by
    by_cases hd:∃j,j<av/\dst j=S r
    .obtain⟨j,hj,hd⟩:=hd
     obtain⟨e2,ca,cz,J⟩:=x j a6;have cd:e2.o.dst=S r:=by simpa[dst,cz]using hd
     obtain⟨q,b6⟩:=c0 j (E.1 r V j e2.o a6 cz cd (by rw[J];exact dk j e2 hj ca));rw[W.f j r hj hd q];exact(ec r i (j+1) a6 a6 (λk U Y h3=>by have:=cx j k r a6 a6 hd h3;omega)).symm
    .have h0:∀j,j<av->dst j≠S r:=λj hj h=>hd ⟨j,hj,h⟩
     rw[W.f0 r h0];exact(ec r i 0 a6 a6 (λj _ Y=>h0 j a6)).symm
   have r1:maskf e.rd (t i).f s'.f=s'.f:=CF b2
   have eo:∀id,(∀a∈e.hd,p.getD a 0≠id)->s'.gen id=(t i).gen id/\s'.obj id=(t i).obj id:=λid hv=>by
    refine W.m id i a6 (λj a hj ha bk=>?_);obtain⟨e2,ca,cz,J⟩:=x j a6;have ch:a∈e2.ef:=by simpa[ef,J]using ha
    have ds:a<z p:=(O j e2 a6 cz J).2.2.2.2.1 a ch;rcases E.2.2.1 a ds (λh=>hv a h bk) j _ a6 J ch with h|h|h
    .have:=c0 j h
     exact⟨λ_=>this.2,λ_=>this.1⟩
    .constructor
     .intro q
      exact Uw
     .intro b6
      exfalso;have U:=x7.1 b4 j (E4.2 a6);have Y:=x7.1 U i (by simpa[qf]using h);simp only[l4,s7]at Y;omega
    .subst h
     rw[hL];exact⟨λh=>(by cases h),λh=>a6⟩
   have r2:maskm p e.hd (t i).gen s'.gen=s'.gen:=vm λid hv=>(eo id hv).1;have r3:maskm p e.hd (t i).obj s'.obj=s'.obj:=vm λid hv=>(eo id hv).2;have U:=b7 s'.f s'.gen s'.obj;rw[r1,r2,r3]at U
   refine⟨bo.ok b2,U _ λhz=>⟨?_,λj o2 q H cu=>by
    simp only[upd]at q;by_cases b6:j=i
    .subst b6
     rw[ho]at H;cases H;exact hz cu
    .rw[j8 b6]at q
     exact hI.2 j o2 q H cu⟩⟩
   refine⟨λaf h=>?_,λ_=>⟨λj d hj hd q=>?_,λd hd=>?_,λid k hk hc=>?_⟩⟩
   .simp only[upd]at h
    rw[j8 a6,e4 af]at h;cases h
   .simp only[upd]at q
    by_cases b6:j=i
    .subst b6
     have cd:e.o.dst=S d:=by simpa[dst,ho]using hd
     rw[hn];simp only[mD,cd,yz,upd,B5]
    .rw[j8 b6]at q
     have bl:e.o.dst≠S d:=λh=>b6 (cx j i d a6 hi hd (by simpa[dst,ho]using h));rw[<-W.f j d hj hd q];simp only[mD];cases hq:e.o.dst with
     |none=>rfl
     |some d'=>simp only[yz,upd];rw[j8 (λB=>bl (by rw[hq,B]))]
   .rw[<-W.f0 d hd]
    have bl:e.o.dst≠S d:=λh=>hd i eh (by simpa[dst,ho]using h);simp only[mD];cases hq:e.o.dst with
    |none=>rfl
    |some d'=>simp only[yz,upd];rw[j8 (λB=>bl (by rw[hq,B]))]
   .have e5:ef i=e.ef:=by simp[ef,b1]
    by_cases dx:∃a∈e.ef,p.getD a 0=id
    .obtain⟨a,ha,bk⟩:=dx
     have dd:i<k:=(hc i a eh (by rw[e5];exact ha) bk).1 Wq;have ds:=E.2.2.2.2.1 a ha
     have:=e1 id k (i+1) a6 hk (λj U Y b hb bz=>by
      obtain⟨e2,ca,cz,J⟩:=x j a6;have cf:b∈e2.ef:=by simpa[ef,J]using hb
      have e6:=(O j e2 a6 cz J).2.2.2.2.1 b cf;obtain rfl:a=b:=c' a b ds e6 (by rw[bk,bz])
      have q:L j=T:=by
       have:=(hc j a a6 hb bz).2 Y;simp only[upd]at this
       rwa [j8 a6]at this
      rcases E.2.2.2.2.2.1 a ha j _ a6 J cf with h|h|h
      .have:=(c0 j h).2;omega
      .exact Uw
      .omega)
     rw[this.1,this.2,hn];simp only[mD];exact⟨xt (by simpa using bf) ⟨a,ha,bk⟩,xt (by simpa using bf) ⟨a,ha,bk⟩⟩
    .have u:∀a∈e.ef,p.getD a 0≠id:=λa ha h=>dx ⟨a,ha,h⟩
     simp only[mD];rw[nf u,nf u];refine W.m id k hk (λj a hj ha bk=>?_);have b6:j≠i:=λh=>by subst h;rw[e5]at ha;exact u a ha bk
     have:=hc j a hj ha bk;simp only[upd]at this
     rwa [j8 b6]at this
  .have e7:i=av:=by
    rcases dz with h|⟨h,_⟩<;>omega
   subst e7;rcases dz with h|⟨h,e2,ca,cy⟩
   .omega
   .obtain rfl:e=e2:=by rw[he]at ca;cases ca;rfl
    have W:=hI.1.2 (λ_=>hL);have a':∀j,j<i->L j=T:=λj hj=>(c0 j ((E.2.2.2.2.2.2 cy).2 j hj)).1;rw[dp i L s' rfl a' W];obtain⟨cc,bo⟩:=t2 i e he cy;refine⟨bo.ok λ_ _=>rfl,cc.2 _ (λP hs=>?_)⟩;refine⟨⟨λ_ _=>hs,λhh=>by have:=hh hi;simp[upd]at this⟩,λj o2 q H cu=>?_⟩;simp only[upd]at q;by_cases b6:j=i
    .subst b6
     rw[ho]at H;cases H;exact cc.1 cu
    .rw[j8 b6]at q
     exact hI.2 j o2 q H cu
 .intro L s' hI hL b8
  have hz:X:=b8.elim (λ⟨i0,o0,dh,dc⟩=>hI.2 i0 o0 (hL i0 (C8.1 dh).1) dh dc) id;rcases dz with h|⟨h,_⟩
  .subst h
   have W:=hI.1.2 (λh=>absurd h a6);have U:=t3 (λi e he=>dk i e (by rw[<-b0];exact(l8.1 he).1) he);rw[b0]at U;rw[dp _ L s' rfl hL W];exact U hz
  .exact hI.1.1 a6 (hL av a6) hz
def El{an:Sp}{ops:Array Oper}{p:List Nat}{K:St->Prop}:∀(l:List Ent)(s:St),(∀e∈l,e.o.guard=N)->jE an G p l s (bx K)->eU an G ops p True l s (bx λi=>True->K i)
 |[],s,_,h=>by
   unfold jE at h;unfold eU;exact λ_=>h
 |e::r,s,hg,h=>by
   have b:GdE ops e s:=by unfold GdE;rw[hg e (I6 ..)];trivial
   unfold jE at h;unfold eU;cases c:e.full with
   |true=>
     rw[c]at h;exact⟨⟨λ_=>trivial,λa J=>h a λP q=>J P λ_=>q⟩,b⟩
   |false=>
     rw[c]at h;obtain⟨v,m,⟨j,n⟩,V⟩:=h;exact⟨v,m,⟨j,λt u B a J=>n t u B a (J λ_=>trivial),b⟩,El r _ (λx I=>hg x (Pz _ I)) V⟩
def Em{an:Sp}(p:List Nat)(y:List (List Nat×List Nat×List Nat×Bool))(g:Nat)(n:Ek ops y g=T)(w:z p=g)(q:p.Nodup)
 (h:jE an G p (jC ops.toList y) s (bx λm=>Q .normal m)):(ops.toList.all (λo=>o.guard.isNone)&&vh ops)=T/\∃I:(Nat->Bool)->St->Prop,I (λ_=>F) s/\
    (∀(L:Nat->Bool)(s:St)(i:Nat)(o:Oper),I L s->ops[i]?=S o->L i=F->(∀e∈o.after.toList,Region.binds .any e=T->L e.on=T)->
      (∀j l,L j=T->ops[j]?=S l->∀e∈l.after.toList,Region.binds .any e=T->L e.on=T)->opA an G o s (bx λm=>I (upd L i T) m))/\
    (∀L m,I L m->(∀i,i<ops.size->L i=T)->Q .normal m):=by
 unfold Ek at n;rw[l4]at n
 have t:∀e∈jC ops.toList y,e.o.guard=N:=λe u=>by
  obtain⟨i,v⟩:=C9 u;have:=x7.1 n.1 e.o (l5 (lq v).1);exact Q6.1 this
 obtain⟨U,I,Y,x,B⟩:=vn (X:=True) (Q:=Q) p y g n.2 w q (El _ _ t h);exact⟨by rw[l4];exact⟨n.1,U⟩,I,Y,λL s i o a b c d e=>(x L s i o a b c d e).2,λL m a b=>B L m a b (.inr trivial)⟩
def fV(hT:bp P G)(a:P.follows .mixedOrders=T){B id:Nat}{q:Box Q}(p:List Nat)(y:List (List Nat×List Nat×List Nat×Bool))(g:Nat)(b:Ek ops y g=T)(w:z p=g)(c:p.Nodup)
 (h:jE (spB P B) G p (jC ops.toList y) s (bx λe=>Q .normal e)):ll (spB P B) G id ops s q:=by
 obtain⟨U,I,Y,i,j⟩:=Em (Q:=Q) p y g b w c h;exact Hu hT a U I Y i j
end
section steps
variable{an:Sp}{G:Nat->TI}{p:List Nat}{f:Nat->AV}{g:Nat->Nat}{ob:Nat->Option (List C)}{K:St->Prop}{k:Box K}{op:Op}{ty:TypeId}{ps:String}{H:Array Edge}{rd hd:List Nat}{r:List Ent}{d:Nat}
def aM{v:AV}(U:∀(fa:Nat->AV)(a:Nat->Nat)(b:Nat->Option (List C))(K':St->Prop),K' ⟨upd (maskf rd f fa) d v,maskm p hd g a,maskm p hd ob b⟩->opA an G ⟨S d,op,ty,ps,H,N⟩ ⟨maskf rd f fa,maskm p hd g a,maskm p hd ob b⟩ (bx K'))
 (Y:jE an G p r ⟨upd f d v,g,ob⟩ k):jE an G p (⟨⟨S d,op,ty,ps,H,N⟩,rd,hd,[],F⟩::r) ⟨f,g,ob⟩ k:=by
 unfold jE;exact⟨v,[],⟨rfl,λfa a b K' J=>U fa a b K' J⟩,Y⟩
def cX{v:AV}{a x:Nat}(U:∀(fa:Nat->AV)(b:Nat->Nat)(c:Nat->Option (List C))(K':St->Prop),K' ⟨upd (maskf rd f fa) d v,upd (maskm p hd g b) (p.getD a 0) x,upd (maskm p hd ob c) (p.getD a 0) y⟩->opA an G ⟨S d,op,ty,ps,H,N⟩ ⟨maskf rd f fa,maskm p hd g b,maskm p hd ob c⟩ (bx K'))
 (Y:jE an G p r ⟨upd f d v,upd g (p.getD a 0) x,upd ob (p.getD a 0) y⟩ k):jE an G p (⟨⟨S d,op,ty,ps,H,N⟩,rd,hd,[a],F⟩::r) ⟨f,g,ob⟩ k:=by
 unfold jE;exact⟨v,[(x,y)],⟨rfl,λfa b c K' J=>U fa b c K' J⟩,Y⟩
def jO{a:Nat}(hv:p.getD a 0∉hd.map (λb=>p.getD b 0))(U:∀(fa:Nat->AV)(m:Nat->Nat)(n:Nat->Option (List C))(K':St->Prop),K' ⟨maskf rd f fa,maskm p hd g m,upd (maskm p hd ob n) (p.getD a 0) y⟩->opA an G ⟨N,op,ty,ps,H,N⟩ ⟨maskf rd f fa,maskm p hd g m,maskm p hd ob n⟩ (bx K'))
 (Y:jE an G p r ⟨f,g,upd ob (p.getD a 0) y⟩ k):jE an G p (⟨⟨N,op,ty,ps,H,N⟩,rd,hd,[a],F⟩::r) ⟨f,g,ob⟩ k:=by
 have c:∀(α:Type)(h:Nat->α)(i:Nat),upd h i (h i)=h:=λα h i=>by funext j;simp only[upd];split<;>simp_all
 have l:∀m:Nat->Nat,maskm p hd g m (p.getD a 0)=g (p.getD a 0):=λm=>by
  clear U Y
  induction hd with
  |nil=>rfl
  |cons b I ih=>
    exact VY
 unfold jE;refine⟨uv,[(g (p.getD a 0),y)],⟨rfl,λfa m n K' J=>U fa m n K' ?_⟩,?_⟩
 .have e:mD p ⟨⟨N,op,ty,ps,H,N⟩,rd,hd,[a],F⟩ uv [(g (p.getD a 0),y)] ⟨maskf rd f fa,maskm p hd g m,maskm p hd ob n⟩=⟨maskf rd f fa,maskm p hd g m,upd (maskm p hd ob n) (p.getD a 0) y⟩:=by
   simp only[mD,yz,setm,l9,v8];rw[<-l m,c]
  rw[<-e];exact J
 .have e:mD p ⟨⟨N,op,ty,ps,H,N⟩,rd,hd,[a],F⟩ uv [(g (p.getD a 0),y)] ⟨f,g,ob⟩=⟨f,g,upd ob (p.getD a 0) y⟩:=by
   simp only[mD,yz,setm,l9,v8];rw[c]
  rw[e];exact Y
def db{o:Oper}{ef:List Nat}(h:∀K':St->Prop,(∀P,K P->K' P)->opA an G o ⟨f,g,ob⟩ (bx K')):jE an G p [⟨o,rd,hd,ef,T⟩] ⟨f,g,ob⟩ k:=by
 unfold jE;exact h
end steps
@[go_sem]def SK:=x6 @maskf.eq_1 (x6 @maskf.eq_2 (x6 @maskm.eq_1 @maskm.eq_2))
attribute [go_sem] List.getD_cons_zero List.getD_cons_succ
@[go_sem]def TE:jC [] A=[]:=by cases A<;>rfl
@[go_sem]def SL{o:Oper}{os:List Oper}{rd hd ef:List Nat}{fl:Bool}:jC (o::os) ((rd,hd,ef,fl)::A)=⟨o,rd,hd,ef,fl⟩::jC os A:=A6 rfl rfl
end
end
end Go.Am
