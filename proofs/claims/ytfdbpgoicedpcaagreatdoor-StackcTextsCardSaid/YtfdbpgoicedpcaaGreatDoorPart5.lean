/- A part; no conditions. -/
import Derived.Test.YtfdbpgoicedpcaaGreatDoorPart4
import Derived.Orders
set_option linter.all false
open List renaming length -> z
open Option renaming some -> S, none -> N
open Bool renaming true -> T, false -> F
set_option maxHeartbeats 64000000
set_option maxRecDepth 100000
namespace Go.Am
section
section
def scD:D->Value|.fn f=>.func (.func f) #[] #[]|.yld l=>.func (.yield l) #[] #[]|x=>dV x
def scC:C->Value|.d x=>scD x|_=>undef
def qF:AV->Value|.one c=>scC c|.agg cs=>.agg (cs.map scC).toArray|.tup A=>.tuple (A.map λt=>match t with|.one c=>scC c|_=>undef).toArray|.junk=>undef|.exact v=>v
variable{J:Nat->Prop}{P:Program}{G:Nat->TI}{O:Bs}{β:Loc}{w:World}
def cX.scalar{x}{v}(a:pV x=T)(h:cX J w x v):v=scD x:=by cases h<;>first|rfl|(simp[pV]at a;done)
def Rj{x}(a:pV x=T):cX J w x (scD x):=by cases x<;>first|(simp[pV]at a;done)|constructor
def RVc.scalar{J}{c}{v}(a:kO c=T)(h:RVc J w c v):v=scC c:=by obtain⟨x,rfl,I⟩:=h;exact I.scalar a
def BO{c}(a:kO c=T):RVc J w c (scC c):=by cases c<;>simp[kO]at a;exact⟨_,rfl,Rj a⟩
def RVs.scalar{J}:∀{A}{vs},(A.all λt=>match t with|.one c=>kO c|_=>F)=T->RVs J w A vs->vs=A.map λt=>match t with|.one c=>scC c|_=>undef
 |[],_,_,h=>by grind[RVs];|t::A,vs,a,h=>by simp only[D1,l6]at a;obtain⟨u,W,rfl,U,Z⟩:=h;rw[RVs.scalar a.2 Z];cases t with|one c=>simp only[s7,U.scalar a.1];|_=>simp at a
def RV.scalar{J}{x}{v}(a:eZ x=T)(h:RV J w x v):v=qF x:=by cases x with|one c=>simp only[RV]at h;exact h.scalar a;|agg cs=>
 obtain⟨vs,rfl,Z,d⟩:=h;simp only[eZ,z7]at a;simp only[qF];congr 1;apply Array.ext;.simp[Z]
 .intro i U f;have b:i<z cs:=by simpa using f
  obtain⟨u,L,V⟩:=d i cs[i] (x9 b);have e:=(F1.1 L).2;rw[e,V.scalar (a _ (N6 b))];simp;|tup A=>obtain⟨vs,rfl,Z⟩:=h;rw[RVs.scalar a Z];rfl;|junk=>simp[eZ]at a;|exact=>simp[eZ]at a
def yl{J}:∀{A},(A.all λt=>match t with|.one c=>kO c|_=>F)=T->RVs J w A (A.map λt=>match t with|.one c=>scC c|_=>undef)|[],_=>by rfl;|t::A,a=>by simp only[D1,l6]at a;simp only[s7,RVs];refine⟨_,_,rfl,?_,yl a.2⟩;cases t with|one c=>simp_all[RV,BO];|_=>simp at a
def AI{x}(a:eZ x=T):RV J w x (qF x):=by cases x with|one c=>simp only[RV,qF];exact BO a;|agg cs=>simp only[RV,qF];refine⟨_,rfl,b9,λi c b=>?_⟩;simp only[eZ,z7]at a;exact⟨scC c,by simp[b],BO (a c (l8 b))⟩;|tup A=>simp only[RV,qF];exact⟨_,rfl,yl a⟩;|junk=>simp[eZ]at a;|exact=>simp[eZ]at a
def adQ(P:Program)(o:Oper)(s:St)(R:St->Prop):Prop:=∃(f:FuncId)(args:Array Operand)(tys:Array TypeId)(xs:List AV)(r:AV),o.op=.call ⟨.value (.func f),args,tys⟩/\fv s (args.toList.map s.ev) xs/\aR P f xs (·=r)/\eZ r=T/\R (s.put o.dst r)
def spQ(P:Program)(B:Nat):Sp:=⟨adQ P,λ_ _ _=>False,λ_ _=>False,B⟩
def BP(G:Nat->TI)(o:Op):Bool:=fY G o||match o with|.call ⟨.value _,_,_⟩=>T|_=>F
def Im(G:Nat->TI)(ops:Array Oper):Bool:=ops.toList.all (BP G ·.op)&&Region.lexB .any ops
def ym{al}{s}{a}(V:Rel O al s β a w){w'}(c:Ext w w'):∀(l:List Operand){xs},fv s (l.map s.ev) xs->RVs (Own O w') w' xs (l.map a.eval)|[],xs,h=>by simp only[x7,fv]at h;subst h;rfl;|x::l,xs,h=>by simp only[s7,fv]at h;obtain⟨r,e,rfl,U,Z⟩:=h;simp only[s7,RVs];exact⟨_,_,rfl,RV.mono (λb d=>⟨⟨by have:=d.1;have:=c.1;omega,d.2⟩,c.2 b d.1⟩) r (U.rep V (V.ev x)),ym V c l Z⟩
def jW(hT:bK P G){B al}{ops}{Q}{K}{k:Box K}:∀l{s}{a},Rel O al s β a w->iO al l=T->l.all (BP G ·.op)=T->wpO (spQ P B) G ops l s k->(∀s' W,K s'->Rel O al s' β W w->s'.gen=s.gen->s'.obj=s.obj->Q W)->wpQuiet P ops (λw'=>Ext w w'/\w'.os=w.os/\w'.output=w.output) Q l a
 |[],s,a,V,_,_,h,hQ=>hQ s a h V rfl rfl|o::rest,s,a,V,ar,hp,h,hQ=>by
  obtain⟨hd,g⟩:=mg ar;simp only[D1,l6]at hp;unfold wpO at h;unfold wpQuiet;have u:∀{s0:St},Rel O al s0 β a w->s0.gen=s.gen->s0.obj=s.obj->opA (spQ P B) G o s0 (bx λs'=>wpO (spQ P B) G ops rest s' k)->o.quiet P a (λw'=>Ext w w'/\w'.os=w.os/\w'.output=w.output) (wpQuiet P ops (λw'=>Ext w w'/\w'.os=w.os/\w'.output=w.output) Q rest):=λ{s0}bz an ad h0=>by
   by_cases L:fY G o.op=T;.obtain⟨y,Y,U,Z,h3⟩:=uK hT bz L h0;refine⟨Y,λw' bc=>?_,jW hT rest (bz.put hd h3) g hp.2 U (λs' W k1 k2 k3 k4=>hQ s' W k1 k2 (by rw[k3,St.put_gen,an]) (by rw[k4,St.put_obj,ad]))⟩;unfold Oper.quietAt;rw[Z w' bc.1];exact⟨rfl,rfl⟩
   .have hq:=hp.1;simp only[BP,G9]at hq;have hq:=hq.resolve_left L;obtain⟨dst,op,ty,ps,af,gd⟩:=o;cases op with
  |call c=>obtain⟨callee,args,tys⟩:=c;cases callee with|value fo=>obtain⟨R,⟨f,A,a1,xs,r,ho,I,bo,az,hR⟩,J⟩:=h0;refine⟨qF r,λw' bc=>?_,jW hT rest (bz.put hd (RV.rep r (AI az))) g hp.2 (J _ hR) (λs' W k1 k2 k3 k4=>hQ s' W k1 k2 (by rw[k3,St.put_gen,an]) (by rw[k4,St.put_obj,ad]))⟩;unfold Oper.quietAt;rw[mh ho bo.1 w'];refine⟨rfl,?_⟩;have:=bo.2 (Own O w') w' (A.toList.map a.eval) (λ_ h=>h.1) (ym bz bc.1 _ I);rw[show (A.toList.map a.eval).toArray=A.map a.eval from H8 b9]at this;refine this.mono λe i⟨v,q,he,H,hs,hh,E,hv⟩=>?_;subst H;exact⟨by rw[he,hv.scalar az],bc.1.trans ⟨hs,hh⟩,E.1.trans bc.2.1,E.2.trans bc.2.2⟩;|builtin b=>simp at hq;|invoke r m=>simp at hq
  |_=>simp at hq
  cases hg:o.guard with|none=>rw[hg]at h;rw[s5 (by simp[Region.wanted,hg])];grind;|some p=>
 obtain⟨j,n⟩:=p;rw[hg]at h;obtain⟨d,hj,h⟩:=bh h;unfold pN at h;split at h
 .rename_i b hb;have hy:=V.yielded hj hb;have h:=lL h;have av:=V.reput hb;by_cases hw:b=n;.rw[s5 hw]at h;rw[s5 abd];grind
  .rw[l4 hw]at h;rw[l4 abd];have t:=av.put hd du;exact Wj
 .rename_i hb;have hy:=V.yielded_u hj hb;rw[l4 abH];have t:=V.put hd du;exact Wj
 grind
def eu(hT:bK P G)(b:P.follows .mixedOrders=T){B id}{ops}{s}{Q}{q:Box Q}(an:Im G ops=T)(h:wpO (spQ P B) G ops ops.toList s (bx λs'=>Q .normal s')):nF (spB P B) G id ops s q:=by refine .inr ⟨λe s'=>e=.normal/\Q .normal s',λO al β a w c V=>?_,λe s'⟨U,Z⟩=>U▸Z⟩;simp only[Im,l6]at an;have u:Tr O β s w β s {w with drawn:=w.drawn+1}:=Tr.same rfl rfl rfl;refine wp_region_quiet b an.2 (C:=λw'=>Ext {w with drawn:=w.drawn+1} w'/\w'.os=w.os/\w'.output=w.output) ⟨.refl,rfl,rfl⟩ ?_;refine jW hT ops.toList (V.of_heap rfl) c an.1 h (λs' W f g i j w' bc=>?_);obtain⟨k,l⟩:=g.grow bc.1.1 bc.1.2 ⟨bc.2.1,bc.2.2⟩;refine⟨s',β,⟨rfl,f⟩,k,u.trans (Tr.trans (Tr.same i j rfl) l)⟩
def dj{s}:∀{A},(A.all λt=>match t with|.one (.d x)=>(match x with|.nsl=>F|_=>T)|_=>F)=T->fv s A A|[],_=>rfl|t::A,h=>by simp only[D1,l6]at h;refine⟨t,A,rfl,?_,dj h.2⟩;match t,h.1 with|.one (.d x),U=>refine⟨x,?_,rfl⟩;have:=Frz.d (s:=s) x;cases x<;>first|exact this|(simp at U;done)
def bF{o}{s}{K}{k:Box K}{B}{f}{args}{tys}(ho:o.op=.call ⟨.value (.func f),args,tys⟩){r}{xs}(a:aR P f xs (·=r))(I:fv s (args.toList.map s.ev) xs)(b:eZ r=T)(c:K (s.put o.dst r)):bE (spQ P B) o s k:=⟨λd=>d=s.put o.dst r,⟨f,args,tys,xs,r,ho,I,a,b,rfl⟩,λ_ e=>e▸c⟩
end
section
variable{P:Program}{G:Nat->TI}{O:Bs}{β:Loc}{w:World}
def St.rename(s:St)(id L o j:Nat)(c:C)(cs cells:List C):St:={s with gen:=upd s.gen L (nxC (code (s.gen id)) (s.gen L)),obj:=λi=>if i=o then S (cells.set j c)else if i=L then S cs else if i=id then N else s.obj i}
def JZ{s}{id L o j t sz off len an I Y}{cs cells}(ht:s.f t=.one (.osl o (s.gen o) an I Y))(U:s.obj id=S cs)(Z:s.obj L=N)(ho:s.obj o=S cells)(n1:o≠id)(n2:o≠L)(n3:id≠L)(hc:cells[j]?=S (.osl id (s.gen id) sz off len)):ai s (s.rename id L o j (.osl L (nxC (code (s.gen id)) (s.gen L)) sz off len) cs cells):=by
 intro O al β a w V;let E:Loc:=λi=>if i=L then β id else β i;have n:∀i,((s.rename id L o j (.osl L (nxC (code (s.gen id)) (s.gen L)) sz off len) cs cells).obj i).isSome=T->(i=L/\E i=β id)\/(i≠L/\i≠id/\(s.obj i).isSome=T/\E i=β i):=λi J=>by grind[St.rename]
 have q:ik O β s.gen s.obj w E (s.rename id L o j (.osl L (nxC (code (s.gen id)) (s.gen L)) sz off len) cs cells).gen (s.rename id L o j (.osl L (nxC (code (s.gen id)) (s.gen L)) sz off len) cs cells).obj w:=by
  refine⟨λb y=>⟨⟨y.1,y.2.1,λi W J H=>?_⟩,rfl⟩,λi=>?_,λi hg J=>?_⟩
  .rcases n i J with⟨_,e⟩|⟨_,_,x,A⟩;.exact y.2.2 id W ZN ZN
   .exact y.2.2 i W x ZN
  .simp only[St.rename,upd];split;.simp_all[M1,vB]
   simp
  .rcases n i J with⟨e,_⟩|⟨_,_,x,A⟩;.simp_all[St.rename,upd,yf]
   grind
 have g:∀K,β o=S K->K.spot=N:=by have hv:=V.f t;rw[ht]at hv;simp only[ao]at hv;exact(iV hv rfl ZN).spot
 refine⟨E,⟨V.defers,V.size,λi=>ao.keep q _ (V.f i),λi m l=>?_,λQ G a1 a2 l1 l2 b1 b2 y=>?_,V.base⟩,l7 _,λ_ _=>rfl,q,rfl,rfl⟩
 .simp only[St.rename]at l;by_cases x:i=o
  .subst x;simp only[B3,w7]at l;subst l;have bk:=V.obj i cells ho;have B:E i=β i:=by simp[E,n2]
   rw[B];cases H:β i with|none=>rw[H]at bk;have:cells=[]:=bk;grind;|some K=>
   rw[H]at bk;obtain⟨g1,arr,el,lo,J,g2,g3,g4,g5⟩:=bk.cells (g K H);refine .ofCells (g K H) ⟨g1,arr,el,lo,J,g2,by simpa[St.rename,upd,n2]using g3,by grind,λk c hk=>?_⟩;by_cases h:k=j;.subst h;have af:=(l9.1 hc).1;rw[P7 af]at hk;cases hk;obtain⟨v,hv,X⟩:=g5 k _ hc;refine⟨v,hv,X.1,by simp[St.rename,upd],λ_ _=>?_⟩;have:=iV X rfl ZN;grind
   .exact W7
  .by_cases A:i=L;.subst A;simp only[l4 x,B3,w7]at l;subst l;have:=((V.obj id cs U).keep q (λ_ _=>rfl)).recode (e':=nxC (code (s.gen id)) (s.gen i)) (by simp[vC,Rk]);simpa[E,St.rename,upd]using this
   .by_cases e3:i=id;.grind
    .simp only[x,A,e3,B1]at l;have:=(V.obj i m l).keep q (λ_ _=>rfl);simpa[E,A,St.rename,upd]using this
 .rcases n Q l1 with⟨x,f1⟩|⟨x,d,r,f1⟩<;>rcases n G l2 with⟨A,f2⟩|⟨A,p,u,f2⟩;.rw[x,A]
  .exact absurd (V.inj id G a1 a2 ZN u ZN ZN y).symm p
  .exact absurd (V.inj Q id a1 a2 r ZN ZN ZN y) d
  .exact V.inj Q G a1 a2 r u ZN ZN y
end
variable{ops:Array Oper}{P:Program}{G:Nat->TI}{O:Bs}{β:Loc}{w:World}
def count_set{l:Array Bool}{i}(h:l[i]?=S F):(l.setIfInBounds i T).toList.count F+1=l.toList.count F:=by grind
def Dt{hT:bK P G}{B al}{ops}{Q}(hg:ops.toList.all (λo=>o.guard.isNone)=T)(ar:iO al ops.toList=T)(I:(Nat->Bool)->St->Prop)(X:∀L s i o,I L s->ops[i]?=S o->L i=F->(∀e∈o.after.toList,Region.binds .any e=T->L e.on=T)->(∀j y,L j=T->ops[j]?=S y->∀e∈y.after.toList,Region.binds .any e=T->L e.on=T)->opA (spB P B) G o s (bx λn=>I (upd L i T) n))(b4:∀L s E W w',(∀i,i<ops.size->L i=T)->I L s->Rel O al s E W w'->∀H bc K,True->(Tr O bc H K E s w'->Tr O bc H K E s w')):∀q b{s}{β}{a}{w},b.size=ops.size->b.toList.count F<=q->Rel O al s β a w->I (λi=>b.getD i F) s->(∀j y,b.getD j F=T->ops[j]?=S y->∀e∈y.after.toList,Region.binds .any e=T->b.getD e.on F=T)->(∀L n E W w',(∀i,i<ops.size->L i=T\/∃o,ops[i]?=S o)->I L n->(Region.ready .any ops b=[]->True)->Rel O al n E W w'->Tr O β s w E n w'->(∃c,L=(λi=>c.getD i F)/\c.size=ops.size/\Region.ready .any ops c=[])->Q .normal W w')->wpAny P .any ops Q q b a w
 |0,b,s,β,a,w,az,hc,V,t,hid,v=>by
  have bs:∀i,i<ops.size->b.getD i T=T:=λi m=>by
   have cf:F∉b.toList:=λh=>by grind
   rw[y9,B9 a7];grind
  have x:Region.ready .any ops b=[]:=by unfold Region.ready;rw[M3];intro i m;simp[bs i (E0.1 m)]
  exact⟨x,v _ s β a w (λi m=>.inr ⟨_,B9 m⟩) t (λ_=>trivial) V Tr.refl ⟨b,rfl,az,x⟩⟩;|q+1,b,s,β,a,w,az,hc,V,t,hid,v=>by
  refine⟨λx=>v _ s β a w (λi m=>.inr ⟨_,B9 m⟩) t (λ_=>trivial) V Tr.refl ⟨b,rfl,az,x⟩,λi m=>?_⟩;unfold Region.ready at m;simp only[UO,E0,l6,J7]at m;obtain⟨A,J,l⟩:=m;have ho:=B9 A;rw[ho]at l;simp only[A5,B6,P0,G9,J7]at l;have an:b[i]?=S F:=by exact X6
  have g:∀e∈ops[i].after.toList,Region.binds .any e=T->b.getD e.on F=T:=λe he hb=>by grind
  have f:(ops[i]).guard=N:=by have:=z7.1 hg ops[i] (H0 A);simpa using this
  have k:∀d,(ops[i]).dst=S d->d<al:=λd hd=>by have:=z7.1 ar ops[i] (H0 A);grind
  unfold wpOp;rw[ho];simp only;rw[s5 (by simp[Region.wanted,f])];have u:(λj=>(b.setIfInBounds i T).getD j F)=upd (λj=>b.getD j F) i T:=by funext j;exact R1
  refine .inl (px hT V k (X _ s i ops[i] t ho (by rw[y9,an];rfl) g hid) (λn E W w' r av p=>?_));refine Dt (hT:=hT) hg ar I X b4 q (b.setIfInBounds i T) ZN ZN av ZN (λj y hj bk e he hb=>?_) (λL s2 bf a2 w2 U Z _ h4 h5 h6=>v L s2 bf a2 w2 U Z (λ_=>trivial) h4 (p.trans h5) h6);have Y:=congrFun u;simp only[upd]at Y;rw[Y]at hj|-;grind
def yn(ops:Array Oper):Bool:=(List.range ops.size).all λi=>((ops[i]?).map λo=>o.after.toList.all λe=>!Region.binds .any e||decide (e.on<i)).getD T
def vF(f:yn ops=T){b}(az:b.size=ops.size)(h:Region.ready .any ops b=[]):∀i,i<ops.size->b.getD i F=T:=by intro i;induction i using Nat.strongRecOn with|ind i j=>intro c;cases d:b.getD i F with|true=>rfl;|false=>
 exfalso;unfold Region.ready at h;rw[M3]at h;refine h i (E0.2 c) ?_;have g:b[i]?=S F:=by rw[y9,B9 a7]at d;rw[B9 a7];simpa using d
 rw[y9,g,B9 c];simp only[B6,I4,A5,A7,P0,G9,J7];intro e k;cases a:Region.binds .any e with|false=>simp;|true=>right;have U:=z7.1 f i (E0.2 c);grind
def LW(hT:bK P G)(c:P.follows .mixedOrders=T){B id}{s}{Q}{q:Box Q}(an:(ops.toList.all (λo=>o.guard.isNone)&&yn ops)=T)(I:(Nat->Bool)->St->Prop)(n:I (λ_=>F) s)(X:∀L s i o,I L s->ops[i]?=S o->L i=F->(∀e∈o.after.toList,Region.binds .any e=T->L e.on=T)->(∀j y,L j=T->ops[j]?=S y->∀e∈y.after.toList,Region.binds .any e=T->L e.on=T)->opA (spB P B) G o s (bx λs'=>I (upd L i T) s'))(d:∀L s',I L s'->(∀i,i<ops.size->L i=T)->Q .normal s'):nF (spB P B) G id ops s q:=by
 rw[l6]at an;obtain⟨hg,K⟩:=an;refine .inr ⟨λe s'=>e=.normal/\Q .normal s',λO al β a w f V=>?_,λe s'⟨U,Z⟩=>U▸Z⟩;have u:Tr O β s w β s {w with drawn:=w.drawn+1}:=Tr.same rfl rfl rfl;refine wp_region_any c (Dt (hT:=hT) hg f I X (λ_ _ _ _ _ _ _ _ _ _ _ _ h=>h) ops.size (Array.replicate ops.size F) b9 b9 (V.of_heap rfl) ?_ (λj y k=>?_) (λL s' E W w' _ Z _ l m h6=>⟨s',E,⟨rfl,d L s' Z abU⟩,l,u.trans m⟩))
 .have:(λi=>(Array.replicate ops.size F).getD i F)=λ_=>F:=by funext i;rw[y9,D7];split<;>rfl
  grind
 .rw[y9,D7]at k;grind
end
attribute[local congr]ite_cc
def gdD{P:Prop}(h:P:=by first|exact A6|exact⟨_,rfl,by decide,rfl⟩):P:=h
structure Ent where
 o:Oper
 rd:List Nat
 hd:List Nat
 ef:List Nat
 full:Bool
def lx:List Oper->List (List Nat×List Nat×List Nat×Bool)->List Ent|o::os,t::A=>⟨o,t.1,t.2.1,t.2.2.1,t.2.2.2⟩::lx os A|_,_=>[]
def maskf{H:Type}:List Nat->(Nat->H)->(Nat->H)->Nat->H|[],_,a=>a|r::rs,f,a=>upd (maskf rs f a) r (f r)
def maskm{H:Type}(p:List Nat):List Nat->(Nat->H)->(Nat->H)->Nat->H|[],g,_=>g|a::b,g,ga=>upd (maskm p b g ga) (p.getD a 0) (ga (p.getD a 0))
def setm{H:Type}(p:List Nat):List Nat->List H->(Nat->H)->Nat->H|a::b,x::xs,g=>upd (setm p b xs g) (p.getD a 0) x|_,_,g=>g
def BT(f:Nat->AV):Option Nat->AV->Nat->AV|some d,v=>upd f d v|none,_=>f
def po(p:List Nat)(e:Ent)(v:AV)(m:List (Nat×Option (List C)))(s:St):St:=⟨BT s.f e.o.dst v,setm p e.ef (m.map (·.1)) s.gen,setm p e.ef (m.map (·.2)) s.obj⟩
def aak(ar:Sp)(G:Nat->TI)(p:List Nat)(e:Ent)(s:St)(v:AV)(m:List (Nat×Option (List C))):Prop:=∀(a:Nat->AV)(ga:Nat->Nat)(b:Nat->Option (List C))(c:St->Prop),c (po p e v m ⟨maskf e.rd s.f a,maskm p e.hd s.gen ga,maskm p e.hd s.obj b⟩)->opA ar G e.o ⟨maskf e.rd s.f a,maskm p e.hd s.gen ga,maskm p e.hd s.obj b⟩ (bx c)
def UZ(ar:Sp)(G:Nat->TI)(o:Oper)(s:St)(K:St->Prop):Prop:=∀K':St->Prop,(∀A,K A->K' A)->opA ar G o s (bx K')
def ly(ar:Sp)(G:Nat->TI)(p:List Nat):List Ent->St->{K:St->Prop}->Box K->Prop|[],s,K,_=>K s|e::r,s,K,k=>match e.full with|true=>UZ ar G e.o s K|false=>∃v m,(z m=z e.ef/\aak ar G p e s v m)/\ly ar G p r (po p e v m s) k
def sf(ops:Array Oper)(o:Oper)(s:St):Prop:=match o.guard with|none=>True|some (j,w)=>∃d,((ops[j]?).bind (·.dst))=S d/\s.f d=bv w
def GdE(ops:Array Oper)(e:Ent)(s:St):Prop:=match e.o.guard with|none=>True|some (j,w)=>∃d,((ops[j]?).bind (·.dst))=S d/\d∈e.rd/\s.f d=bv w
variable{ops:Array Oper}{H:Type}{s:St}{Q:Exit->St->Prop}{p ef:List Nat}{y:Option (List C)}{A:List (List Nat×List Nat×List Nat×Bool)}{xs:List H}
def GdE.ok{e}{s a}(h:GdE ops e s)(V:∀r∈e.rd,a.f r=s.f r):sf ops e.o a:=by unfold GdE at h;grind[sf]
def fal(o:Oper):Bool:=match o.op with|.call ⟨.value _,_,_⟩=>T|_=>F
def Va(ar:Sp)(G:Nat->TI)(ops:Array Oper)(p:List Nat)(X:Prop)(e:Ent)(s:St)(v:AV)(m:List (Nat×Option (List C))):Prop:=(∀(a:Nat->AV)(ga:Nat->Nat)(b:Nat->Option (List C))(c:St->Prop),((fal e.o=T->X)->c (po p e v m ⟨maskf e.rd s.f a,maskm p e.hd s.gen ga,maskm p e.hd s.obj b⟩))->opA ar G e.o ⟨maskf e.rd s.f a,maskm p e.hd s.gen ga,maskm p e.hd s.obj b⟩ (bx c))/\GdE ops e s
def Vb(ar:Sp)(G:Nat->TI)(ops:Array Oper)(X:Prop)(e:Ent)(s:St)(K:St->Prop):Prop:=((fal e.o=T->X)/\UZ ar G e.o s K)/\GdE ops e s
def fZ(ar:Sp)(G:Nat->TI)(ops:Array Oper)(p:List Nat)(X:Prop):List Ent->St->{K:St->Prop}->Box K->Prop|[],s,K,_=>K s|e::r,s,K,k=>match e.full with|true=>Vb ar G ops X e s K|false=>∃v m,(z m=z e.ef/\Va ar G ops p X e s v m)/\fZ ar G ops p X r (po p e v m s) k
def yp{ar}{G}{ops}{p}{X}{K}{k:Box K}:∀l s,fZ ar G ops p X l s k->(∀i e,l[i]?=S e->e.full=T->i+1=z l)->∃t:Nat->St,t 0=s/\(∀i e,l[i]?=S e->e.full=F->∃v m,(z m=z e.ef/\Va ar G ops p X e (t i) v m)/\t (i+1)=po p e v m (t i))/\(∀i e,l[i]?=S e->e.full=T->Vb ar G ops X e (t i) K)/\((∀(i:Nat) e,l[i]?=S e->e.full=F)->K (t (z l)))|[],s,h,_=>⟨λ_=>s,rfl,λi e b=>(by simp at b),λi e b=>(by simp at b),λ_=>h⟩|e::r,s,h,hl=>by unfold fZ at h;cases j:e.full with
 |true=>
 rw[j]at h;have q:=hl 0 e rfl j;have:r=[]:=v7 ZN;subst this;refine⟨λ_=>s,rfl,λi c b a=>?_,λi c b _=>?_,λn=>?_⟩;.grind
 .grind
 .have:=n 0 e rfl;grind;|false=>
 rw[j]at h;obtain⟨v,m,u,V⟩:=h;obtain⟨t,t0,x,B,o⟩:=yp r _ V (λi c b a=>by have:=hl (i+1) c ZN a;grind);refine⟨λi=>match i with|0=>s|i+1=>t i,rfl,λi c b a=>?_,λi c b a=>?_,λn=>?_⟩;.grind
 .grind
 .exact o (λi c b=>n (i+1) c ZN)
def Wt(l:List (List Nat))(o:Oper):List Nat:=(o.after.toList.filter (Region.binds .any ·)).foldl (λq e=>(e.on::(l[e.on]?).getD []).foldl (λa j=>if a.contains j then a else j::a) q) []
def Vc(ops:Array Oper):List (List Nat):=ops.toList.foldl (λl o=>l++[Wt l o]) []
def sQ(l:List (List Nat))(i j:Nat):Bool:=((l[i]?).getD []).contains j
def aal(ops:Array Oper)(l:List (List Nat)):Bool:=(List.range ops.size).all λi=>((l[i]?).getD []).all λj=>decide (j<i)&&((ops[i]?).map λo=>o.after.toList.any λe=>Region.binds .any e&&(e.on==j||sQ l e.on j)&&decide (e.on<i)).getD F
def Io(ops:Array Oper)(n:List (List Nat×List Nat×List Nat×Bool))(g:Nat)(l:List (List Nat)):Bool:=yn ops&&aal ops l&&(z n==ops.size)&&(List.range ops.size).all λi=>(((ops[i]?).bind λo=>(n[i]?).map λt=>(t.1.all λr=>(List.range ops.size).all λj=>sQ l i j||((n[j]?).map λb=>b.2.2.2).getD F||((ops[j]?).map λy=>decide (y.dst≠S r)).getD F)&&((List.range ops.size).all λj=>i==j||((ops[j]?).map λy=>y.dst.isNone||decide (y.dst≠o.dst)).getD F)&&((List.range g).all λa=>t.2.1.contains a||(List.range ops.size).all λj=>sQ l i j||sQ l j i||i==j||((n[j]?).map λb=>!b.2.2.1.contains a).getD F)&&(t.2.1.all λa=>decide (a<g))&&(t.2.2.1.all λa=>decide (a<g))&&(t.2.2.1.all λa=>(List.range ops.size).all λj=>sQ l i j||sQ l j i||i==j||((n[j]?).map λb=>!b.2.2.1.contains a).getD F)&&(!t.2.2.2||(i+1==ops.size&&(List.range i).all λj=>sQ l i j))).getD F)
def yq(ops:Array Oper)(n:List (List Nat×List Nat×List Nat×Bool))(g:Nat):Bool:=Io ops n g (Vc ops)
def Ip(ops:Array Oper)(n:List (List Nat×List Nat×List Nat×Bool))(g:Nat):Bool:=ops.toList.all (λo=>o.guard.isNone)&&yq ops n g
def sh{l}(an:aal ops l=T){L:Nat->Bool}(h:∀j y,L j=T->ops[j]?=S y->∀e∈y.after.toList,Region.binds .any e=T->L e.on=T):∀i o,ops[i]?=S o->(∀e∈o.after.toList,Region.binds .any e=T->L e.on=T)->∀j,sQ l i j=T->L j=T/\j<i:=by intro i;induction i using Nat.strongRecOn with|ind i m=>intro o ho c j a;have Z:=z7.1 (z7.1 an i (E0.2 ((F1.1 ho).1))) j (by grind[sQ]);rw[ho]at Z;simp only[A5,B6,l6,v8,Q2,G9,L2]at Z;obtain⟨af,e,n,⟨q,t⟩,bs⟩:=Z;grind
def Gs{rd}{f fa:Nat->H}(h:∀r∈rd,fa r=f r):maskf rd f fa=fa:=by induction rd with|nil=>rfl;|cons r rs a=>unfold maskf;rw[a (λq V=>h q (by simp[V]))];grind[upd]
def yr{p hd}{g ga:Nat->H}(h:∀id,(∀a∈hd,p.getD a 0≠id)->ga id=g id):maskm p hd g ga=ga:=by
 funext id;have:∀hd:List Nat,maskm p hd g ga id=if∃a∈hd,p.getD a 0=id then ga id else g id:=by intro hd;induction hd with|nil=>rfl;|cons a b c=>
  simp only[maskm,upd];by_cases U:id=p.getD a 0;.simp_all
  .rw[l4 U,c];by_cases Z:∃a∈b,p.getD a 0=id;.simp_all
   grind
 simp_all
def pZ{g}{id}(h:∀a∈ef,p.getD a 0≠id):setm p ef xs g id=g id:=by induction ef generalizing xs with|nil=>rfl;|cons a b c=>cases xs with|nil=>rfl;|cons x xs=>simp only[setm,upd];grind
def AJ{g g'}(hl:z xs=z ef){id}(h:∃a∈ef,p.getD a 0=id):setm p ef xs g id=setm p ef xs g' id:=by induction ef generalizing xs with|nil=>grind;|cons a b c=>cases xs with|nil=>simp at hl;|cons x xs=>simp only[setm,upd];grind
def nH:∀{os}{A}{i:Nat}{e},(lx os A)[i]?=S e->os[i]?=S e.o/\A[i]?=S (e.rd,e.hd,e.ef,e.full)|[],_,i,e,h=>by simp[lx]at h;|_::_,[],i,e,h=>by simp[lx]at h;|o::os,t::A,0,e,h=>by grind[lx];|o::os,t::A,i+1,e,h=>by have:=nH (os:=os) (A:=A) (i:=i) (e:=e) (by grind[lx]);grind
def Dv:∀{os}{A},z A=z os->z (lx os A)=z os|[],[],_=>rfl|o::os,t::A,h=>by simp only[lx,j8];rw[Dv ZN];|[],_::_,h=>by rfl;|_::_,[],h=>by simp at h
section
variable{P:Program}{G:Nat->TI}{O:Bs}{β:Loc}{w:World}
structure aam (n:Nat) (dst:Nat->Option Nat) (ef:Nat->List Nat) (p:List Nat) (t:Nat->St) (L:Nat->Bool) (s:St):Prop where
 f:∀i d,i<n->dst i=some d->L i=true->s.f d=(t (i+1)).f d
 f0:∀d,(∀i,i<n->dst i≠some d)->s.f d=(t 0).f d
 m:∀id k,k<=n->(∀j a,j<n->a∈ef j->p.getD a 0=id->(L j=true↔j<k))->s.gen id=(t k).gen id/\s.obj id=(t k).obj id
def yu{ar}{X} p n g(an:yq ops n g=T)(w:z p=g)(ad:p.Nodup)
 (h:fZ ar G ops p X (lx ops.toList n) s (bx λs'=>X->Q .normal s')):yn ops=T/\∃I:(Nat->Bool)->St->Prop,I (λ_=>F) s/\
    (∀ L s i o,I L s->ops[i]?=S o->L i=F->(∀e∈o.after.toList,Region.binds .any e=T->L e.on=T)->
      (∀j y,L j=T->ops[j]?=S y->∀e∈y.after.toList,Region.binds .any e=T->L e.on=T)->sf ops o s/\opA ar G o s (bx λs'=>I (upd L i T) s'))/\
    (∀L s',I L s'->(∀i,i<ops.size->L i=T)->((∃(i:Nat)(o:Oper),ops[i]?=S o/\fal o=T)\/X)->Q .normal s'):=by
 subst w;unfold yq Io at an;generalize Vc ops=l at an;simp only[l6,L2]at an;obtain⟨⟨⟨K,bo⟩,Y⟩,bs⟩:=an;have bc:z (lx ops.toList n)=ops.size:=by rw[Dv a7];simp
 have B:∀i,i<ops.size->∃e,(lx ops.toList n)[i]?=S e/\ops[i]?=S e.o/\n[i]?=S (e.rd,e.hd,e.ef,e.full):=λi hi=>by
  have U:i<z (lx ops.toList n):=a7;refine⟨_,x9 U,?_⟩;have:=nH (x9 U)
  grind
 have dk:∀a b,a<z p->b<z p->p.getD a 0=p.getD b 0->a=b:=λa b ha hb e=>by
  rw[N3,N3,x9 ha,x9 hb]at e;exact(List.getElem_inj ad).1 e
 -- cu e1,by operation
 have J:∀(i:Nat)(e:Ent),i<ops.size->ops[i]?=S e.o->n[i]?=S (e.rd,e.hd,e.ef,e.full)->
   (∀r∈e.rd,∀(j:Nat)(e':Oper),j<ops.size->ops[j]?=S e'->e'.dst=S r->(((n[j]?).map λt'=>t'.2.2.2).getD F)=F->sQ l i j=T)/\
   (∀(j:Nat)(y:Oper),j<ops.size->j≠i->ops[j]?=S y->y.dst=N\/y.dst≠e.o.dst)/\
   (∀a,a<z p->a∉e.hd->∀j t',j<ops.size->n[j]?=S t'->a∈t'.2.2.1->sQ l i j=T\/sQ l j i=T\/i=j)/\
   (∀a∈e.hd,a<z p)/\(∀a∈e.ef,a<z p)/\
   (∀a∈e.ef,∀j t',j<ops.size->n[j]?=S t'->a∈t'.2.2.1->sQ l i j=T\/sQ l j i=T\/i=j)/\
   (e.full=T->i+1=ops.size/\∀j,j<i->sQ l i j=T):=by
  intro i e hi ho ht;have U:=z7.1 bs i (E0.2 hi);rw[ho,ht]at U;simp only[I9,A5,B6,l6]at U;obtain⟨⟨⟨⟨⟨⟨c1,c2⟩,c3⟩,c4⟩,c5⟩,c6⟩,c7⟩:=U;refine⟨λr V j y hj bk hd cd=>?_,λj y hj bz bk=>?_,λa ha bn j t' hj e4 b4=>?_,λa ha=>?_,λa ha=>?_,λa ha j t' hj e4 b4=>?_,λhf=>?_⟩
  .grind
  .have:=z7.1 c2 j (E0.2 hj)
   rw[bk]at this;simp only[A5,B6,G9,v8,L2,Option.isNone_iff_eq_none]at this
   grind
  .have:=z7.1 c3 a (E0.2 ha)
   grind
  .grind
  .grind
  .grind
  .grind
 have O:∀(i:Nat)(e:Ent),(lx ops.toList n)[i]?=S e->e.full=T->i+1=z (lx ops.toList n):=λi e hi hf=>by
  have Z:=nH hi;rw[bc];exact((J i e (by rw[<-bc];exact(l9.1 hi).1) (by simpa using Z.1) Z.2).2.2.2.2.2.2 hf).1
 obtain⟨t,t0,t1,t2,t3⟩:=yp _ _ h O
 let dst:Nat->Option Nat:=λi=>(ops[i]?).bind (·.dst)
 let ef:Nat->List Nat:=λi=>((n[i]?).map (·.2.2.1)).getD []
 -- dz cu trace goes
 have tf:∀(i:Nat)(e:Ent),i<ops.size->(lx ops.toList n)[i]?=S e->e.full=F->∀d,dst i≠S d->(t (i+1)).f d=(t i).f d:=λi e hi he hf d hd=>by
  obtain⟨v,m,_,Z⟩:=t1 i e he hf;rw[Z];simp only[dst,by simpa using(nH he).1,I9]at hd;simp[po];cases hq:e.o.dst with
  |none=>rfl
  |some d'=>simp only[BT,upd];rw[l4 (λe'=>hd (by rw[hq,e']))]
 have tm:∀(i:Nat)(e:Ent),i<ops.size->(lx ops.toList n)[i]?=S e->e.full=F->∀id,(∀a∈ef i,p.getD a 0≠id)->(t (i+1)).gen id=(t i).gen id/\(t (i+1)).obj id=(t i).obj id:=λi e hi he hf id hd=>by
  obtain⟨v,m,_,Z⟩:=t1 i e he hf;rw[Z];simp only[ef,(nH he).2,A5,B6]at hd;simp[po];exact⟨pZ hd,pZ hd⟩
 -- dz many ec walked by dp
 obtain⟨al,hN,cv,dc⟩:∃al,al<=ops.size/\(∀(i:Nat)(e:Ent),i<al->(lx ops.toList n)[i]?=S e->e.full=F)/\(al=ops.size\/(al+1=ops.size/\∃e,(lx ops.toList n)[al]?=S e/\e.full=T)):=by
  by_cases b':∃(i:Nat)(e:Ent),(lx ops.toList n)[i]?=S e/\e.full=T
  .obtain⟨i,e,he,hf⟩:=b'
   have U:=O i e he hf;rw[bc]at U;refine⟨i,a7,λj e' hj ch=>?_,.inr ⟨U,e,he,hf⟩⟩;cases hq:e'.full with
   |false=>rfl
   |true=>have:=O j e' ch hq;omega
  .refine⟨ops.size,l7 _,λj e' hj ch=>?_,.inl rfl⟩
   cases hq:e'.full with
   |false=>rfl
   |true=>exact absurd ⟨j,e',ch,hq⟩ b'
 have dd:∀(d k i:Nat),i<=k->k<=al->(∀j,i<=j->j<k->dst j≠S d)->(t k).f d=(t i).f d:=by
  intro d k
  induction k with
  |zero=>simp
  |succ k ih=>
    intro i hi hk hd;by_cases cm:i=k+1
    .subst cm;rfl
    .obtain⟨e,he,_,_⟩:=B k a7
     rw[tf k e a7 he (cv k e a7 he) d (hd k a7 a7)];exact ih i a7 a7 (λj U Z=>hd j U a7)
 have eh:∀(id k i:Nat),i<=k->k<=al->(∀j,i<=j->j<k->∀a∈ef j,p.getD a 0≠id)->(t k).gen id=(t i).gen id/\(t k).obj id=(t i).obj id:=by
  intro id k
  induction k with
  |zero=>simp
  |succ k ih=>
    intro i hi hk hd;by_cases cm:i=k+1
    .subst cm;simp
    .obtain⟨e,he,_,_⟩:=B k a7
     obtain⟨m1,m2⟩:=tm k e a7 he (cv k e a7 he) id (hd k a7 a7);rw[m1,m2];exact ih i a7 a7 (λj U Z=>hd j U a7)
 have bf:∀(i j d:Nat),i<ops.size->j<ops.size->dst i=S d->dst j=S d->i=j:=λi j d hi hj U Z=>by
  rcases U4 i j with dx|dx
  .exact oL
  .rcases U4 j i with bd|bd
   .exact oL
   .omega
 -- where all have e6 up,it is cu e3 e5
 have cy:∀(k:Nat)(L:Nat->Bool)(s':St),k=al->(∀i,i<k->L i=T)->aam al dst ef p t L s'->s'=t k:=by
  rintro k L ⟨f',g',y⟩ rfl hL hI
  have U:f'=(t k).f:=by
   funext d;by_cases hd:∃i,i<k/\dst i=S d
   .obtain⟨i,hi,hd⟩:=hd
    rw[show f' d=_ from hI.f i d hi hd (hL i hi)];exact(dd d k (i+1) a7 (l7 _) (λj U Z h3=>by have:=bf i j d a7 a7 hd h3;omega)).symm
   .have h0:∀i,i<k->dst i≠S d:=λi hi h=>hd ⟨i,hi,h⟩
    rw[show f' d=_ from hI.f0 d h0];exact(dd d k 0 a7 (l7 _) (λj _ Z=>h0 j Z)).symm
  have Z:g'=(t k).gen:=funext λid=>(hI.m id k (l7 _) (λj a hj _ _=>⟨λ_=>hj,λ_=>hL j hj⟩)).1;have h3:y=(t k).obj:=funext λid=>(hI.m id k (l7 _) (λj a hj _ _=>⟨λ_=>hj,λ_=>hL j hj⟩)).2;rw[U,Z,h3]
 refine⟨K,λL s'=>((al<ops.size->L al=T->X->Q .normal s')/\((al<ops.size->L al=F)->aam al dst ef p t L s'))/\∀(i:Nat)(o:Oper),L i=T->ops[i]?=S o->fal o=T->X,?_,?_,?_⟩
 .refine⟨⟨λ_ h=>(by cases h),λ_=>⟨λi d _ _ h=>(by cases h),λd _=>by rw[t0],λid k hk hc=>?_⟩⟩,λ_ _ h=>(by cases h)⟩
  have:=eh id k 0 a7 hk (λj _ hj a ha e=>by have:=(hc j a a7 ha e).2 hj;cases this);rw[this.1,this.2,t0];simp
 .intro L s' i o hI ho hL c b7
  have hi:=(F1.1 ho).1;obtain⟨e,he,a1,P⟩:=B i hi;obtain rfl:o=e.o:=by rw[ho]at a1;cases a1;rfl
  have bl:=sh bo b7 i e.o ho c;have E:=J i e hi ho P;by_cases dh:i<al
  .have eo:al<ops.size->L al=F:=λaf=>by
    cases hq:L al with
    |false=>rfl
    |true=>
      exfalso;rcases dc with h|⟨h,e2,b6,a'⟩
      .omega
      .have hz:=nH b6
       have b2:ops[al]?=S e2.o:=by simpa using hz.1
       have:=(J al e2 af b2 hz.2).2.2.2.2.2.2 a';have h3:=sh bo b7 al e2.o b2 (λe' cc cz=>b7 al _ hq b2 e' cc cz) i (this.2 i dh);rw[hL]at h3;exact absurd h3.1 b9
   have hD:=hI.1.2 eo;obtain⟨v,m,⟨az,b3,ca⟩,hn⟩:=t1 i e he (cv i e dh he)
   have b1:∀r∈e.rd,s'.f r=(t i).f r:=λr V=>by
    by_cases hd:∃j,j<al/\dst j=S r
    .obtain⟨j,hj,hd⟩:=hd
     obtain⟨e2,b6,b2,H⟩:=B j a7;obtain⟨x,bd⟩:=bl j (E.1 r V j e2.o a7 b2 (by simpa[dst,b2]using hd) (by rw[H];exact cv j e2 hj b6));rw[hD.f j r hj hd x];exact(dd r i (j+1) a7 a7 (λk U Z h3=>by have:=bf j k r a7 a7 hd h3;omega)).symm
    .have h0:∀j,j<al->dst j≠S r:=λj hj h=>hd ⟨j,hj,h⟩
     rw[hD.f0 r h0];exact(dd r i 0 a7 a7 (λj _ Z=>h0 j a7)).symm
   have ds:∀id,(∀a∈e.hd,p.getD a 0≠id)->s'.gen id=(t i).gen id/\s'.obj id=(t i).obj id:=λid hv=>by
    refine hD.m id i a7 (λj a hj ha q=>?_);obtain⟨e2,b6,b2,H⟩:=B j a7;have cb:a∈e2.ef:=by simpa[ef,H]using ha
    rcases E.2.2.1 a ((J j e2 a7 b2 H).2.2.2.2.1 a cb) (λh=>hv a h q) j _ a7 H cb with h|h|h
    .have:=bl j h
     exact⟨λ_=>this.2,λ_=>this.1⟩
    .constructor
     .intro x
      exact R3
     .intro bd
      exfalso;have Z:=z7.1 (z7.1 bo j (E0.2 a7)) i (by simpa[sQ]using h);simp only[l6,v8]at Z;omega
    .subst h
     rw[hL];simp
   have U:=b3 s'.f s'.gen s'.obj;rw[Gs b1,yr λid hv=>(ds id hv).1,yr λid hv=>(ds id hv).2]at U
   refine⟨ca.ok b1,U _ λhz=>⟨?_,λj o2 x bk cd=>by
    simp only[upd]at x;by_cases bd:j=i
    .subst bd
     rw[ho]at bk;cases bk;exact hz cd
    .rw[l4 bd]at x
     exact hI.2 j o2 x bk cd⟩⟩
   refine⟨λaf h=>?_,λ_=>⟨λj d hj hd x=>?_,λd hd=>?_,λid k hk hc=>?_⟩⟩
   .simp only[upd]at h
    rw[l4 a7,eo af]at h;cases h
   .simp only[upd]at x
    by_cases bd:j=i
    .subst bd
     rw[hn];simp[po,by simpa[dst,ho]using hd,BT,upd]
    .rw[l4 bd]at x
     have bz:e.o.dst≠S d:=λh=>bd (bf j i d a7 hi hd (by simpa[dst,ho]using h));rw[<-hD.f j d hj hd x];simp[po];cases hq:e.o.dst with
     |none=>rfl
     |some d'=>simp only[BT,upd];rw[l4 (λe'=>bz (by rw[hq,e']))]
   .rw[<-hD.f0 d hd]
    have bz:e.o.dst≠S d:=λh=>hd i dh (by simpa[dst,ho]using h);simp[po];cases hq:e.o.dst with
    |none=>rfl
    |some d'=>simp only[BT,upd];rw[l4 (λe'=>bz (by rw[hq,e']))]
   .have et:ef i=e.ef:=by simp[ef,P]
    by_cases c':∃a∈e.ef,p.getD a 0=id
    .obtain⟨a,ha,q⟩:=c'
     have cm:=(hc i a dh (by rw[et];exact ha) q).1 (by simp[upd]);have c0:=E.2.2.2.2.1 a ha
     have:=eh id k (i+1) a7 hk (λj U Z b hb W=>by
      obtain⟨e2,b6,b2,H⟩:=B j a7;have b8:b∈e2.ef:=by simpa[ef,H]using hb
      have ev:=(J j e2 a7 b2 H).2.2.2.2.1 b b8;obtain rfl:a=b:=dk a b c0 ev a7
      have x:L j=T:=by
       have:=(hc j a a7 hb W).2 Z;simp only[upd]at this
       rwa [l4 a7]at this
      rcases E.2.2.2.2.2.1 a ha j _ a7 H b8 with h|h|h
      .have:=(bl j h).2;omega
      .exact R3
      .omega)
     rw[this.1,this.2,hn];simp[po];exact⟨AJ (by simpa using az) ⟨a,ha,q⟩,AJ (by simpa using az) ⟨a,ha,q⟩⟩
    .have u:∀a∈e.ef,p.getD a 0≠id:=λa ha h=>c' ⟨a,ha,h⟩
     simp[po];rw[pZ u,pZ u];refine hD.m id k hk (λj a hj ha q=>?_);have bd:j≠i:=λh=>by subst h;rw[et]at ha;exact u a ha q
     have:=hc j a hj ha q;simp only[upd]at this
     rwa [l4 bd]at this
  .have e0:i=al:=by
    rcases dc with h|⟨h,_⟩<;>omega
   subst e0;rcases dc with h|⟨h,e2,b6,a'⟩
   .omega
   .obtain rfl:e=e2:=by rw[he]at b6;cases b6;rfl
    have hD:=hI.1.2 (λ_=>hL);have a6:∀j,j<i->L j=T:=λj hj=>(bl j ((E.2.2.2.2.2.2 a').2 j hj)).1;rw[cy i L s' rfl a6 hD];obtain⟨b0,ca⟩:=t2 i e he a';refine⟨ca.ok λ_ _=>rfl,b0.2 _ (λA hs=>?_)⟩;refine⟨⟨λ_ _=>hs,λhh=>by have:=hh hi;simp[upd]at this⟩,λj o2 x bk cd=>?_⟩;simp only[upd]at x;by_cases bd:j=i
    .subst bd
     rw[ho]at bk;cases bk;exact b0.1 cd
    .rw[l4 bd]at x
     exact hI.2 j o2 x bk cd
 .intro L s' hI hL b5
  have hz:=b5.elim (λ⟨i0,o0,cx,cf⟩=>hI.2 i0 o0 (hL i0 (F1.1 cx).1) cx cf) id;rcases dc with h|⟨h,_⟩
  .subst h
   have hD:=hI.1.2 (λh=>absurd h a7);have U:=t3 (λi e he=>cv i e (by rw[<-bc];exact(l9.1 he).1) he);rw[bc]at U;rw[cy _ L s' rfl hL hD];exact U hz
  .exact hI.1.1 a7 (hL al a7) hz
def Iq{ar}{ops}{p}{K}:∀l s,(∀e∈l,e.o.guard=N)->ly ar G p l s (bx K)->fZ ar G ops p True l s (bx λi=>True->K i)
 |[],s,_,h=>by grind[ly,fZ];|e::r,s,hg,h=>by
  have b:GdE ops e s:=by unfold GdE;rw[hg e (I7 ..)];trivial
  unfold ly at h;unfold fZ;cases c:e.full with|true=>rw[c]at h;exact⟨⟨λ_=>trivial,λa J=>h a λA q=>J A λ_=>q⟩,b⟩;|false=>rw[c]at h;obtain⟨v,m,⟨j,n⟩,V⟩:=h;exact⟨v,m,⟨j,λt ga u a J=>n t ga u a (J λ_=>trivial),b⟩,Iq r _ (λx I=>hg x (Q5 _ I)) V⟩
def Ir{ar} p n g(an:Ip ops n g=T)(w:z p=g)(ad:p.Nodup)(h:ly ar G p (lx ops.toList n) s (bx λl=>Q .normal l)):(ops.toList.all (λo=>o.guard.isNone)&&yn ops)=T/\∃I:(Nat->Bool)->St->Prop,I (λ_=>F) s/\(∀L s i o,I L s->ops[i]?=S o->L i=F->(∀e∈o.after.toList,Region.binds .any e=T->L e.on=T)->(∀j y,L j=T->ops[j]?=S y->∀e∈y.after.toList,Region.binds .any e=T->L e.on=T)->opA ar G o s (bx λl=>I (upd L i T) l))/\(∀L l,I L l->(∀i,i<ops.size->L i=T)->Q .normal l):=by
 unfold Ip at an;rw[l6]at an;have m:∀e∈lx ops.toList n,e.o.guard=N:=λe q=>by obtain⟨i,t⟩:=C9 q;have:=z7.1 an.1 e.o (l8 (nH t).1);simp_all
 obtain⟨U,I,Z,u,v⟩:=yu (Q:=Q) p n g an.2 w ad (Iq _ _ m h);exact⟨by grind,I,Z,λL s i o a b c d e=>(u L s i o a b c d e).2,λL l a b=>v L l a b (.inr trivial)⟩
def iU(hT:bK P G)(a:P.follows .mixedOrders=T){B id}{q:Box Q} p n g(an:Ip ops n g=T)(w:z p=g)(ad:p.Nodup)(h:ly (spB P B) G p (lx ops.toList n) s (bx λb=>Q .normal b)):nF (spB P B) G id ops s q:=by obtain⟨U,I,Z,c,e⟩:=Ir p n g an w ad h;exact LW hT a U I Z c e
end
section steps
variable{ar:Sp}{G:Nat->TI}{p:List Nat}{f:Nat->AV}{g:Nat->Nat}{ob:Nat->Option (List C)}{K:St->Prop}{k:Box K}{op:Op}{ty:TypeId}{ps:String}{af:Array Edge}{rd hd:List Nat}{r:List Ent}{d:Nat}
def aX{v}(U:∀fa ga a K',K' ⟨upd (maskf rd f fa) d v,maskm p hd g ga,maskm p hd ob a⟩->opA ar G ⟨S d,op,ty,ps,af,N⟩ ⟨maskf rd f fa,maskm p hd g ga,maskm p hd ob a⟩ (bx K'))(Z:ly ar G p r ⟨upd f d v,g,ob⟩ k):ly ar G p (⟨⟨S d,op,ty,ps,af,N⟩,rd,hd,[],F⟩::r) ⟨f,g,ob⟩ k:=by unfold ly;exact⟨v,[],⟨rfl,λfa ga a K' J=>U fa ga a K' J⟩,Z⟩
def dJ{v}{a x}(U:∀fa ga b K',K' ⟨upd (maskf rd f fa) d v,upd (maskm p hd g ga) (p.getD a 0) x,upd (maskm p hd ob b) (p.getD a 0) y⟩->opA ar G ⟨S d,op,ty,ps,af,N⟩ ⟨maskf rd f fa,maskm p hd g ga,maskm p hd ob b⟩ (bx K'))(Z:ly ar G p r ⟨upd f d v,upd g (p.getD a 0) x,upd ob (p.getD a 0) y⟩ k):ly ar G p (⟨⟨S d,op,ty,ps,af,N⟩,rd,hd,[a],F⟩::r) ⟨f,g,ob⟩ k:=by unfold ly;exact⟨v,[(x,y)],⟨rfl,λfa ga b K' J=>U fa ga b K' J⟩,Z⟩
def lJ{a}(n:p.getD a 0∉hd.map (λb=>p.getD b 0))(U:∀fa ga m K',K' ⟨maskf rd f fa,maskm p hd g ga,upd (maskm p hd ob m) (p.getD a 0) y⟩->opA ar G ⟨N,op,ty,ps,af,N⟩ ⟨maskf rd f fa,maskm p hd g ga,maskm p hd ob m⟩ (bx K'))(Z:ly ar G p r ⟨f,g,upd ob (p.getD a 0) y⟩ k):ly ar G p (⟨⟨N,op,ty,ps,af,N⟩,rd,hd,[a],F⟩::r) ⟨f,g,ob⟩ k:=by
 have c:∀(H:Type)(h:Nat->H)(i:Nat),upd h i (h i)=h:=λH h i=>by grind[upd]
 have l:∀ga:Nat->Nat,maskm p hd g ga (p.getD a 0)=g (p.getD a 0):=λga=>by clear U Z;induction hd with|nil=>rfl;|cons b bs o=>simp_all[maskm,upd]
 unfold ly;refine⟨uv,[(g (p.getD a 0),y)],⟨rfl,λfa ga m K' J=>U fa ga m K' ?_⟩,?_⟩
 .have e:po p ⟨⟨N,op,ty,ps,af,N⟩,rd,hd,[a],F⟩ uv [(g (p.getD a 0),y)] ⟨maskf rd f fa,maskm p hd g ga,maskm p hd ob m⟩=⟨maskf rd f fa,maskm p hd g ga,upd (maskm p hd ob m) (p.getD a 0) y⟩:=by simp only[po,BT,setm,s7,x7];rw[<-l ga,c]
  grind
 .have e:po p ⟨⟨N,op,ty,ps,af,N⟩,rd,hd,[a],F⟩ uv [(g (p.getD a 0),y)] ⟨f,g,ob⟩=⟨f,g,upd ob (p.getD a 0) y⟩:=by simp only[po,BT,setm,s7,x7];rw[c]
  rw[e];exact Z
def dQ{o}{ef}(h:∀K':St->Prop,(∀A,K A->K' A)->opA ar G o ⟨f,g,ob⟩ (bx K')):ly ar G p [⟨o,rd,hd,ef,T⟩] ⟨f,g,ob⟩ k:=by unfold ly;exact h
end steps
@[go_sem]def ZA:=y7 @maskf.eq_1 (y7 @maskf.eq_2 (y7 @maskm.eq_1 @maskm.eq_2))
attribute [go_sem] List.getD_cons_zero List.getD_cons_succ
@[go_sem]def aan:lx [] A=[]:=c8
@[go_sem]def ZB{o}{os}{rd hd ef}{fl}:lx (o::os) ((rd,hd,ef,fl)::A)=⟨o,rd,hd,ef,fl⟩::lx os A:=B7 rfl rfl
end Go.Am

