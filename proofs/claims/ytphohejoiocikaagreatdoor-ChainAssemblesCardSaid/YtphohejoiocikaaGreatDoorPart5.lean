/- A part of the proof; no conditions. -/
import Derived.Test.YtphohejoiocikaaGreatDoorPart4
import Derived.Deep.Quiet
import Derived.Orders
set_option linter.unusedSimpArgs false
set_option linter.unusedVariables false
set_option maxHeartbeats 64000000
set_option maxRecDepth 100000
namespace Go.Am
section
section
def scD:D→Value
 |.fn f=>.func (.func f) #[] #[]
 |.yld l=>.func (.yield l) #[] #[]
 |x=>dV x
def scC:C→Value
 |.d x=>scD x
 |_=>undef
def jf:AV→Value
 |.one c=>scC c
 |.agg cs=>.agg (cs.map scC).toArray
 |.tup ts=>.tuple (ts.map fun t=>match t with|.one c=>scC c|_=>undef).toArray
 |.junk=>undef
 |.exact v=>v
variable {J:Nat→Prop}
section
variable {P:Program}{T:Nat→TI}{b₀:Bs}{β:Loc}{w:World}
theorem bm.scalar{x:D}{v:Value} (hs:iJ x=true) (h:bm J w x v):v=scD x:=by
 cases h <;> first|rfl|(simp[iJ] at hs;done)
theorem Bh{x:D} (hs:iJ x=true):bm J w x (scD x):=by
 cases x <;> first|(simp[iJ] at hs;done)|constructor
theorem RVc.scalar {J:Nat→Prop}{c:C}{v:Value} (hs:eM c=true) (h:RVc J w c v):v=scC c:=by
 obtain⟨x,rfl,hx⟩:=h
 exact hx.scalar hs
theorem qK{c:C} (hs:eM c=true):RVc J w c (scC c):=by
 cases c <;> simp[eM] at hs
 exact⟨_,rfl,Bh hs⟩
theorem RVs.scalar {J:Nat→Prop}:∀{ts:List AV}{vs:List Value},(ts.all fun t=>match t with|.one c=>eM c|_=>false)=true→RVs J w ts vs→vs=ts.map fun t=>match t with|.one c=>scC c|_=>undef
 |[],_,_,h=>by simp only[RVs] at h;rw[h];rfl
 |t::ts,vs,hs,h=>by
   simp only[w8,l5] at hs
   simp only[RVs] at h
   obtain⟨u,us,rfl,h1,h2⟩:=h
   rw[RVs.scalar hs.2 h2]
   cases t with
   |one c=>simp only[RV] at h1;simp only[j8,h1.scalar hs.1]
   |_=>simp at hs
theorem RV.scalar {J:Nat→Prop}{x:AV}{v:Value} (hs:bX x=true) (h:RV J w x v):v=jf x:=by
 cases x with
 |one c=>simp only[RV] at h;exact h.scalar hs
 |agg cs=>
   simp only[RV] at h
   obtain⟨vs,rfl,h2,h3⟩:=h
   simp only[bX,l7] at hs
   simp only[jf]
   congr 1
   apply Array.ext
   ·simp[h2]
   ·intro i h1 h4
    have hi:i<cs.length:=by simpa using h4
    obtain⟨u,hu,hr⟩:=h3 i cs[i] (p7 hi)
    have e:=(s9.1 hu).2
    rw[e,hr.scalar (hs _ (List.getElem_mem hi))]
    simp
 |tup ts=>
   simp only[RV] at h
   obtain⟨vs,rfl,h2⟩:=h
   rw[RVs.scalar hs h2];rfl
 |junk=>simp[bX] at hs
 |exact=>simp[bX] at hs
theorem oq {J:Nat→Prop}:∀{ts:List AV},(ts.all fun t=>match t with|.one c=>eM c|_=>false)=true→RVs J w ts (ts.map fun t=>match t with|.one c=>scC c|_=>undef)
 |[],_=>by simp only[n0,RVs]
 |t::ts,hs=>by
   simp only[w8,l5] at hs
   simp only[j8,RVs]
   refine⟨_,_,rfl,?_,oq hs.2⟩
   cases t with
   |one c=>simp only[RV];exact qK hs.1
   |_=>simp at hs
theorem qa{x:AV} (hs:bX x=true):RV J w x (jf x):=by
 cases x with
 |one c=>simp only[RV,jf];exact qK hs
 |agg cs=>
   simp only[RV,jf]
   refine⟨_,rfl,a7,fun i c hc=>?_⟩
   simp only[bX,l7] at hs
   exact⟨scC c,by simp[hc],qK (hs c (l4 hc))⟩
 |tup ts=>
   simp only[RV,jf]
   exact⟨_,rfl,oq hs⟩
 |junk=>simp[bX] at hs
 |exact=>simp[bX] at hs
def Kw (P:Program) (o:Oper) (s:St) (R:St→Prop):Prop:=∃(f:FuncId) (args:Array Operand) (tys:Array TypeId) (xs:List AV) (r:AV),
 o.op=.call ⟨.value (.func f),args,tys⟩∧ce s (args.toList.map s.ev) xs∧ap P f xs (· = r)∧bX r=true∧R (s.put o.dst r)
def spQ (P:Program) (B:Nat):Sp:=⟨Kw P,fun _ _ _=>False,fun _ _=>False,B⟩
def qL (T:Nat→TI) (o:Op):Bool:=cB T o||match o with|.call ⟨.value _,_,_⟩=>true|_=>false
def vg (T:Nat→TI) (ops:Array Oper):Bool:=ops.toList.all (qL T ·.op)&&Region.lexB .any ops
theorem ot {N:Nat}{s:St}{a:Act} (hr:Rel b₀ N s β a w) {w':World} (he:Ext w w'):∀(l:List Operand) {xs:List AV},ce s (l.map s.ev) xs→RVs (Own b₀ w') w' xs (l.map a.eval)
 |[],xs,h=>by simp only[n0,ce] at h;subst h;simp only[n0,RVs]
 |x::l,xs,h=>by
   simp only[j8,ce] at h
   obtain⟨r,rs,rfl,h1,h2⟩:=h
   simp only[j8,RVs]
   exact⟨_,_,rfl,RV.mono (fun b hb=>⟨⟨by have:=hb.1;have:=he.1;omega,hb.2⟩,he.2 b hb.1⟩) r (h1.rep hr (hr.ev x)),ot hr he l h2⟩
theorem dN (hT:aI P T) {B N:Nat}{ops:Array Oper}{Q:Act→Prop}{K:St→Prop}{k:Box K}:∀(l:List Oper) {s:St}{a:Act},Rel b₀ N s β a w→de N l=true→l.all (qL T ·.op)=true→wpO (spQ P B) T ops l s k→
  (∀s' a',K s'→Rel b₀ N s' β a' w→s'.gen=s.gen→s'.obj=s.obj→Q a')→wpQuiet P ops (fun w'=>Ext w w'∧w'.os=w.os∧w'.output=w.output) Q l a
 |[],s,a,hr,_,_,h,hQ=>hQ s a h hr rfl rfl
 |o::rest,s,a,hr,hds,hp,h,hQ=>by
   obtain⟨hd,hds'⟩:=fH hds
   simp only[w8,l5] at hp
   unfold wpO at h
   unfold wpQuiet
   have hop:∀{s0:St},Rel b₀ N s0 β a w→s0.gen=s.gen→s0.obj=s.obj→opA (spQ P B) T o s0 (bx fun s'=>wpO (spQ P B) T ops rest s' k)→o.quiet P a (fun w'=>Ext w w'∧w'.os=w.os∧w'.output=w.output) (wpQuiet P ops (fun w'=>Ext w w'∧w'.os=w.os∧w'.output=w.output) Q rest):=fun {s0} hr0 hg0 ho0 h0=>by
    by_cases hpo:cB T o.op=true
    ·obtain⟨y,cv,h1,h2,h3⟩:=lz hT hr0 hpo h0
     refine⟨cv,fun w' hw'=>?_,dN hT rest (hr0.put hd h3) hds' hp.2 h1 (fun s' a' k1 k2 k3 k4=>hQ s' a' k1 k2 (by rw[k3,St.put_gen,hg0]) (by rw[k4,St.put_obj,ho0]))⟩
     unfold Oper.quietAt
     rw[h2 w' hw'.1]
     exact⟨rfl,rfl⟩
    ·have hq:=hp.1
     simp only[qL,B1] at hq
     have hq:=hq.resolve_left hpo
     obtain⟨dst,op,ty,ps,af,gd⟩:=o
     cases op with
     |call c=>
       obtain⟨callee,args,tys⟩:=c
       cases callee with
       |value fo=>
         have h0:br (spQ P B) ⟨dst,.call ⟨.value fo,args,tys⟩,ty,ps,af,gd⟩ s0 (bx fun s'=>wpO (spQ P B) T ops rest s' k):=h0
         obtain⟨R,⟨f,args',tys',xs,r,ho,hx,hpr,hsc,hR⟩,hK⟩:=h0
         have hK:=hK _ hR
         have hrv:ab b₀ β s0.gen s0.obj w r (jf r):=RV.rep r (qa hsc)
         refine⟨jf r,fun w' hw'=>?_,dN hT rest (hr0.put hd hrv) hds' hp.2 hK (fun s' a' k1 k2 k3 k4=>hQ s' a' k1 k2 (by rw[k3,St.put_gen,hg0]) (by rw[k4,St.put_obj,ho0]))⟩
         unfold Oper.quietAt
         rw[eP ho hpr.1 w']
         refine⟨rfl,?_⟩
         have:=hpr.2 (Own b₀ w') w' (args'.toList.map a.eval) (fun _ h=>h.1) (ot hr0 hw'.1 _ hx)
         rw[show (args'.toList.map a.eval).toArray=args'.map a.eval from E5 a7] at this
         refine this.mono fun e w'' ⟨v,r',he,hRr,hs,hh,hos,hv⟩=>?_
         subst hRr
         exact⟨by rw[he,hv.scalar hsc],hw'.1.trans ⟨hs,hh⟩,hos.1.trans hw'.2.1,hos.2.trans hw'.2.2⟩
       |builtin b=>simp at hq
       |invoke r m=>simp at hq
     |_=>simp at hq
   cases hg:o.guard with
   |none=>
     rw[hg] at h
     simp only at h
     rw[if_pos (by simp[Region.wanted,hg])]
     exact hop hr rfl rfl h
   |some p=>
     obtain⟨j,want⟩:=p
     rw[hg] at h
     simp only at h
     obtain⟨d,hj,h⟩:=aq h
     unfold iD at h
     split at h
     ·rename_i b hb
      have hy:=hr.yielded hj hb
      have h:=fy h
      have hr':=hr.reput hb
      by_cases hw:b=want
      ·rw[if_pos hw] at h
       rw[if_pos Oh]
       exact hop hr' rfl rfl h
      ·rw[if_neg hw] at h
       rw[if_neg Oh]
       have hp':=hr'.put hd (x:=uv) (v:=undef) bJ
       exact Nv
     ·rename_i hb
      have hy:=hr.yielded_u hj hb
      rw[if_neg OH]
      have hp':=hr.put hd (x:=uv) (v:=undef) bJ
      exact Nv
     ·exact M4
theorem ep (hT:aI P T) (hm:P.follows .mixedOrders=true) {B id:Nat}{ops:Array Oper}{s:St}{Q:Exit→St→Prop}{q:Box Q} (hok:vg T ops=true) (h:wpO (spQ P B) T ops ops.toList s (bx fun s'=>Q .normal s')):gY (spB P B) T id ops s q:=by
 refine .inr ⟨fun e s'=>e=.normal∧Q .normal s',fun b₀ N β a w hc hr=>?_,fun e s' ⟨h1,h2⟩=>h1▸h2⟩
 simp only[vg,l5] at hok
 have hr1:Rel b₀ N s β a { w with drawn:=w.drawn+1 }:=hr.of_heap rfl
 have ht1:Tr b₀ β s w β s { w with drawn:=w.drawn+1 }:=Tr.same rfl rfl rfl
 refine wp_region_quiet hm hok.2 (C:=fun w'=>Ext { w with drawn:=w.drawn+1 } w'∧w'.os=w.os∧w'.output=w.output) ⟨.refl,rfl,rfl⟩ ?_
 refine dN hT ops.toList hr1 hc hok.1 h (fun s' a' k1 k2 k3 k4 w' hw'=>?_)
 obtain⟨g1,g2⟩:=k2.grow hw'.1.1 hw'.1.2 ⟨hw'.2.1,hw'.2.2⟩
 refine⟨s',β,⟨rfl,k1⟩,g1,ht1.trans (Tr.trans (Tr.same k3 k4 rfl) g2)⟩
theorem co {s:St}:∀{ts:List AV},(ts.all fun t=>match t with|.one (.d x)=>(match x with|.nsl=>false|_=>true)|_=>false)=true→ce s ts ts
 |[],_=>rfl
 |t::ts,h=>by
   simp only[w8,l5] at h
   refine⟨t,ts,rfl,?_,co h.2⟩
   match t,h.1 with
   |.one (.d x),h1=>
     refine⟨x,?_,rfl⟩
     have:=Frz.d (s:=s) x
     cases x <;> first|exact this|(simp at h1;done)
theorem bd {o:Oper}{s:St}{K:St→Prop}{k:Box K}{B:Nat}{f:FuncId}{args:Array Operand}{tys:Array TypeId} (ho:o.op=.call ⟨.value (.func f),args,tys⟩) {r:AV}{xs:List AV}
  (hp:ap P f xs (· = r)) (hx:ce s (args.toList.map s.ev) xs) (hs:bX r=true) (hk:K (s.put o.dst r)):br (spQ P B) o s k:=
 ⟨fun s'=>s'=s.put o.dst r,⟨f,args,tys,xs,r,ho,hx,hp,hs,rfl⟩,fun _ e=>e▸hk⟩
end
end
section
section
variable {P:Program}{T:Nat→TI}{b₀:Bs}{β:Loc}{w:World}
end
end
section
variable {ops:Array Oper}
section
variable {P:Program}{T:Nat→TI}{b₀:Bs}{β:Loc}{w:World}
theorem count_set {l:Array Bool}{i:Nat} (h:l[i]? = some false):(l.setIfInBounds i true).toList.count false+1=l.toList.count false:=by
 obtain⟨hi,he⟩:=s9.1 h
 rw[Array.toList_setIfInBounds]
 have hl:l.toList[i]? = some false:=by simpa using h
 generalize l.toList=m at hl
 clear h hi he
 induction m generalizing i with
 |nil=>simp at hl
 |cons a m ih=>
   cases i with
   |zero=>simp at hl;subst hl;simp
   |succ i=>
     simp only[List.set_cons_succ,List.count_cons]
     have:=ih (i:=i) OF
     omega
theorem rP {hT:aI P T}{B N:Nat}{ops:Array Oper}{Q:Exit→Act→World→Prop} (hg:ops.toList.all (fun o=>o.guard.isNone)=true) (hds:de N ops.toList=true) (I:(Nat→Bool)→St→Prop)
  (hstep:∀(L:Nat→Bool) (s:St) (i:Nat) (o:Oper),I L s→ops[i]? = some o→L i=false→(∀e∈o.after.toList,Region.binds .any e=true→L e.on=true)→
    (∀j o',L j=true→ops[j]? = some o'→∀e∈o'.after.toList,Region.binds .any e=true→L e.on=true)→opA (spB P B) T o s (bx fun s'=>I (upd L i true) s'))
  (hend:∀L s β' a' w',(∀i,i<ops.size→L i=true)→I L s→Rel b₀ N s β' a' w'→∀s0 β0 w0,True→(Tr b₀ β0 s0 w0 β' s w'→Tr b₀ β0 s0 w0 β' s w')) :
  ∀(fuel:Nat) (listed:Array Bool) {s:St}{β:Loc}{a:Act}{w:World},listed.size=ops.size→listed.toList.count false≤fuel→Rel b₀ N s β a w→I (fun i=>listed.getD i false) s→
   (∀j o',listed.getD j false=true→ops[j]? = some o'→∀e∈o'.after.toList,Region.binds .any e=true→listed.getD e.on false=true)→
   (∀L s' β' a' w',(∀i,i<ops.size→L i=true∨∃o,ops[i]? = some o)→I L s'→(Region.ready .any ops listed=[]→True)→Rel b₀ N s' β' a' w'→Tr b₀ β s w β' s' w'→(∃listed',L=(fun i=>listed'.getD i false)∧listed'.size=ops.size∧Region.ready .any ops listed'=[])→Q .normal a' w')→
   wpAny P .any ops Q fuel listed a w
 |0,listed,s,β,a,w,hsz,hc,hr,hI,hid,hQ=>by
   have hall:∀i,i<ops.size→listed.getD i true=true:=fun i hi=>by
    have hnf:false∉listed.toList:=fun h=>by
     have:=LG.2 h;omega
    rw[j7,o9 a6]
    simp only[s5]
    cases hq:listed[i]'a6 with
    |true=>rfl
    |false=>exact absurd (hq▸K3.2 (LL a6)) hnf
   have hrd:Region.ready .any ops listed=[]:=by
    unfold Region.ready
    rw[G9]
    intro i hi
    simp[hall i (A2.1 hi)]
   exact⟨hrd,hQ _ s β a w (fun i hi=>.inr ⟨_,o9 hi⟩) hI (fun _=>trivial) hr Tr.refl ⟨listed,rfl,hsz,hrd⟩⟩
 |fuel+1,listed,s,β,a,w,hsz,hc,hr,hI,hid,hQ=>by
   refine⟨fun hrd=>hQ _ s β a w (fun i hi=>.inr ⟨_,o9 hi⟩) hI (fun _=>trivial) hr Tr.refl ⟨listed,rfl,hsz,hrd⟩,fun i hi=>?_⟩
   unfold Region.ready at hi
   simp only[LV,A2,l5,C4] at hi
   obtain⟨hi1,hi2,hi3⟩:=hi
   have ho:ops[i]? = some ops[i]:=o9 hi1
   rw[ho] at hi3
   simp only[r0,s5,J2,B1,C4] at hi3
   have hli:listed[i]? = some false:=by
    exact NG
   have hL:listed.getD i false=false:=by rw[j7,hli];rfl
   have hedge:∀e∈ops[i].after.toList,Region.binds .any e=true→listed.getD e.on false=true:=fun e he hb=>by
    exact MZ
   have hgi:(ops[i]).guard=none:=by
    have:=l7.1 hg ops[i] (B5 hi1)
    simpa using this
   have hdi:∀d,(ops[i]).dst=some d→d<N:=fun d hd=>by
    exact Nb
   unfold wpOp
   rw[ho]
   simp only
   rw[if_pos (by simp[Region.wanted,hgi])]
   have hset:(fun j=>(listed.setIfInBounds i true).getD j false)=upd (fun j=>listed.getD j false) i true:=by
    funext j
    exact MA
   refine .inl (io hT hr hdi (hstep _ s i ops[i] hI ho hL hedge hid) (fun s' β' a' w' hI' hr' ht'=>?_))
   refine rP (hT:=hT) hg hds I hstep hend fuel (listed.setIfInBounds i true) (by simpa using hsz) O6 hr' (by rw[hset];exact hI') (fun j o' hj hoj e he hb=>?_) (fun L s2 β2 a2 w2 h1 h2 _ h4 h5 h6=>hQ L s2 β2 a2 w2 h1 h2 (fun _=>trivial) h4 (ht'.trans h5) h6)
   exact Mb
def ou (ops:Array Oper):Bool:=(List.range ops.size).all fun i=>((ops[i]?).map fun o=>o.after.toList.all fun e=>!Region.binds .any e||decide (e.on<i)).getD true
theorem mj (hb:ou ops=true) {listed:Array Bool} (hsz:listed.size=ops.size) (h:Region.ready .any ops listed=[]):∀i,i<ops.size→listed.getD i false=true:=by
 intro i
 induction i using Nat.strongRecOn with
 |ind i ih=>
   intro hi
   cases hq:listed.getD i false with
   |true=>rfl
   |false=>
     exfalso
     unfold Region.ready at h
     rw[G9] at h
     refine h i (A2.2 hi) ?_
     have hli:listed[i]? = some false:=by
      rw[j7,o9 a6] at hq
      rw[o9 a6]
      simpa using hq
     rw[j7,hli,o9 hi]
     simp only[s5,Bool.not_false,r0,A0,J2,B1,C4]
     intro e he
     cases hbd:Region.binds .any e with
     |false=>exact .inl rfl
     |true=>
       right
       have h1:=l7.1 hb i (A2.2 hi)
       rw[o9 hi] at h1
       simp only[r0,s5] at h1
       have h2:=l7.1 h1 e (by simpa using he)
       rw[hbd] at h2
       simp only[LN,LO,z8] at h2
       exact ih e.on h2 a6
theorem xD (hT:aI P T) (hm:P.follows .mixedOrders=true) {B id:Nat}{s:St}{Q:Exit→St→Prop}{q:Box Q} (hok:(ops.toList.all (fun o=>o.guard.isNone)&&ou ops)=true) (I:(Nat→Bool)→St→Prop) (h0:I (fun _=>false) s)
  (hstep:∀(L:Nat→Bool) (s:St) (i:Nat) (o:Oper),I L s→ops[i]? = some o→L i=false→(∀e∈o.after.toList,Region.binds .any e=true→L e.on=true)→
    (∀j o',L j=true→ops[j]? = some o'→∀e∈o'.after.toList,Region.binds .any e=true→L e.on=true)→opA (spB P B) T o s (bx fun s'=>I (upd L i true) s'))
  (hend:∀L s',I L s'→(∀i,i<ops.size→L i=true)→Q .normal s'):gY (spB P B) T id ops s q:=by
 rw[l5] at hok
 obtain⟨hg,hbk⟩:=hok
 refine .inr ⟨fun e s'=>e=.normal∧Q .normal s',fun b₀ N β a w hc hr=>?_,fun e s' ⟨h1,h2⟩=>h1▸h2⟩
 have hr1:Rel b₀ N s β a { w with drawn:=w.drawn+1 }:=hr.of_heap rfl
 have ht1:Tr b₀ β s w β s { w with drawn:=w.drawn+1 }:=Tr.same rfl rfl rfl
 refine wp_region_any hm (rP (hT:=hT) hg hc I hstep (fun _ _ _ _ _ _ _ _ _ _ _ _ h=>h) ops.size (Array.replicate ops.size false) a7 a7 hr1 ?_ (fun j o' hj=>?_) (fun L s' β' a' w' _ h2 _ h4 h5 h6=>⟨s',β',⟨rfl,hend L s' h2 OK⟩,h4,ht1.trans h5⟩))
 ·exact Mx
 ·rw[j7,w7] at hj
  split at hj <;> simp at hj
end
end
end
section
attribute [local congr] Go.Am.ite_cc
section
structure Ent where
 o:Oper
 rd:List Nat
 hd:List Nat
 ef:List Nat
 full:Bool
def ff:List Oper→List (List Nat×List Nat×List Nat×Bool)→List Ent
 |o::os,t::ts=>⟨o,t.1,t.2.1,t.2.2.1,t.2.2.2⟩::ff os ts
 |_,_=>[]
def maskf {α:Type}:List Nat→(Nat→α)→(Nat→α)→Nat→α
 |[],_,fa=>fa
 |r::rs,f,fa=>upd (maskf rs f fa) r (f r)
def maskm {α:Type} (ids:List Nat):List Nat→(Nat→α)→(Nat→α)→Nat→α
 |[],g,_=>g
 |a::aas,g,ga=>upd (maskm ids aas g ga) (ids.getD a 0) (ga (ids.getD a 0))
def setm {α:Type} (ids:List Nat):List Nat→List α→(Nat→α)→Nat→α
 |a::aas,x::xs,g=>upd (setm ids aas xs g) (ids.getD a 0) x
 |_,_,g=>g
def tW (f:Nat→AV):Option Nat→AV→Nat→AV
 |some d,v=>upd f d v
 |none,_=>f
def kq (ids:List Nat) (e:Ent) (v:AV) (m:List (Nat×Option (List C))) (s:St):St:=
 ⟨tW s.f e.o.dst v,setm ids e.ef (m.map (·.1)) s.gen,setm ids e.ef (m.map (·.2)) s.obj⟩
def Ih (S:Sp) (T:Nat→TI) (ids:List Nat) (e:Ent) (s:St) (v:AV) (m:List (Nat×Option (List C))):Prop:=
 ∀(fa:Nat→AV) (ga:Nat→Nat) (oa:Nat→Option (List C)) (K':St→Prop),K' (kq ids e v m ⟨maskf e.rd s.f fa,maskm ids e.hd s.gen ga,maskm ids e.hd s.obj oa⟩)→opA S T e.o ⟨maskf e.rd s.f fa,maskm ids e.hd s.gen ga,maskm ids e.hd s.obj oa⟩ (bx K')
def CV (S:Sp) (T:Nat→TI) (o:Oper) (s:St) (K:St→Prop):Prop:=∀K':St→Prop,(∀s'',K s''→K' s'')→opA S T o s (bx K')
def gp (S:Sp) (T:Nat→TI) (ids:List Nat):List Ent→St→{K:St→Prop}→Box K→Prop
 |[],s,K,_=>K s
 |e::r,s,K,k=>match e.full with
   |true=>CV S T e.o s K
   |false=>∃v m,(m.length=e.ef.length∧Ih S T ids e s v m)∧gp S T ids r (kq ids e v m s) k
def jZ (ops:Array Oper) (o:Oper) (s:St):Prop:=match o.guard with|none=>True|some (j,w)=>∃d,((ops[j]?).bind (·.dst))=some d∧s.f d=bv w
def GdE (ops:Array Oper) (e:Ent) (s:St):Prop:=match e.o.guard with|none=>True|some (j,w)=>∃d,((ops[j]?).bind (·.dst))=some d∧d∈e.rd∧s.f d=bv w
variable {α:Type}{ops:Array Oper}{s:St}{Q:Exit→St→Prop}{ids ef:List Nat}{ts:List (List Nat×List Nat×List Nat×Bool)}{f fa:Nat→α}{g ga:Nat→α}{xs:List α}
theorem GdE.ok{e:Ent}{s s':St} (h:GdE ops e s) (hr:∀r∈e.rd,s'.f r=s.f r):jZ ops e.o s':=by
 unfold GdE at h
 unfold jZ
 cases hg:e.o.guard with
 |none=>trivial
 |some p=>
   obtain⟨j,w⟩:=p
   rw[hg] at h
   obtain⟨d,h1,h2,h3⟩:=h
   exact⟨d,h1,by rw[hr d h2];exact h3⟩
def fal (o:Oper):Bool:=match o.op with|.call ⟨.value _,_,_⟩=>true|_=>false
def CW (S:Sp) (T:Nat→TI) (ops:Array Oper) (ids:List Nat) (z:Prop) (e:Ent) (s:St) (v:AV) (m:List (Nat×Option (List C))):Prop:=
 (∀(fa:Nat→AV) (ga:Nat→Nat) (oa:Nat→Option (List C)) (K':St→Prop),((fal e.o=true→z)→K' (kq ids e v m ⟨maskf e.rd s.f fa,maskm ids e.hd s.gen ga,maskm ids e.hd s.obj oa⟩))→opA S T e.o ⟨maskf e.rd s.f fa,maskm ids e.hd s.gen ga,maskm ids e.hd s.obj oa⟩ (bx K'))∧GdE ops e s
def CX (S:Sp) (T:Nat→TI) (ops:Array Oper) (z:Prop) (e:Ent) (s:St) (K:St→Prop):Prop:=((fal e.o=true→z)∧CV S T e.o s K)∧GdE ops e s
def cg (S:Sp) (T:Nat→TI) (ops:Array Oper) (ids:List Nat) (z:Prop):List Ent→St→{K:St→Prop}→Box K→Prop
 |[],s,K,_=>K s
 |e::r,s,K,k=>match e.full with
   |true=>CX S T ops z e s K
   |false=>∃v m,(m.length=e.ef.length∧CW S T ops ids z e s v m)∧cg S T ops ids z r (kq ids e v m s) k
theorem ow {S:Sp}{T:Nat→TI}{ops:Array Oper}{ids:List Nat}{z:Prop}{K:St→Prop}{k:Box K}:∀(l:List Ent) (s:St),cg S T ops ids z l s k→(∀i e,l[i]? = some e→e.full=true→i+1=l.length)→
  ∃t:Nat→St,t 0=s∧(∀i e,l[i]? = some e→e.full=false→∃v m,(m.length=e.ef.length∧CW S T ops ids z e (t i) v m)∧t (i+1)=kq ids e v m (t i))∧(∀i e,l[i]? = some e→e.full=true→CX S T ops z e (t i) K)∧
   ((∀(i:Nat) (e:Ent),l[i]? = some e→e.full=false)→K (t l.length))
 |[],s,h,_=>⟨fun _=>s,rfl,fun i e hi=>(by simp at hi),fun i e hi=>(by simp at hi),fun _=>h⟩
 |e::r,s,h,hl=>by
   unfold cg at h
   cases hf:e.full with
   |true=>
     rw[hf] at h
     have h0:=hl 0 e rfl hf
     have:r=[]:=j5 (by simpa using h0)
     subst this
     refine⟨fun _=>s,rfl,fun i e' hi hf'=>?_,fun i e' hi _=>?_,fun ha=>?_⟩
     ·cases i with
      |zero=>simp at hi;subst hi;rw[hf] at hf';cases hf'
      |succ i=>simp at hi
     ·cases i with
      |zero=>simp at hi;subst hi;exact h
      |succ i=>simp at hi
     ·have:=ha 0 e rfl;rw[hf] at this;cases this
   |false=>
     rw[hf] at h
     obtain⟨v,m,hs,hr⟩:=h
     obtain⟨t,t0,t1,t2,t3⟩:=ow r _ hr (fun i e' hi hf'=>by have:=hl (i+1) e' OU hf';simpa using this)
     refine⟨fun i=>match i with|0=>s|i+1=>t i,rfl,fun i e' hi hf'=>?_,fun i e' hi hf'=>?_,fun ha=>?_⟩
     ·cases i with
      |zero=>simp at hi;subst hi;exact⟨v,m,hs,t0⟩
      |succ i=>exact t1 i e' OU hf'
     ·cases i with
      |zero=>simp at hi;subst hi;rw[hf] at hf';cases hf'
      |succ i=>exact t2 i e' OU hf'
     ·exact t3 (fun i e' hi=>ha (i+1) e' (by rw[s8];exact hi))
def Eu (tab:List (List Nat)) (o:Oper):List Nat:=(o.after.toList.filter (Region.binds .any ·)).foldl (fun acc e=>(e.on::(tab[e.on]?).getD []).foldl (fun a j=>if a.contains j then a else j::a) acc) []
def CY (ops:Array Oper):List (List Nat):=ops.toList.foldl (fun tab o=>tab++[Eu tab o]) []
def kr (tab:List (List Nat)) (i j:Nat):Bool:=((tab[i]?).getD []).contains j
def Ii (ops:Array Oper) (tab:List (List Nat)):Bool:=(List.range ops.size).all fun i=>((tab[i]?).getD []).all fun j=>decide (j<i)&&((ops[i]?).map fun o=>o.after.toList.any fun e=>Region.binds .any e&&(e.on==j||kr tab e.on j)&&decide (e.on<i)).getD false
def vj (ops:Array Oper) (tb:List (List Nat×List Nat×List Nat×Bool)) (nid:Nat) (tab:List (List Nat)):Bool:=
 ou ops&&Ii ops tab&&(tb.length==ops.size) &&
 (List.range ops.size).all fun i=>(((ops[i]?).bind fun o=>(tb[i]?).map fun t=>
   (t.1.all fun r=>(List.range ops.size).all fun j=>kr tab i j||((tb[j]?).map fun t'=>t'.2.2.2).getD false||((ops[j]?).map fun o'=>decide (o'.dst≠some r)).getD false) &&
   ((List.range ops.size).all fun j=>i==j||((ops[j]?).map fun o'=>o'.dst.isNone||decide (o'.dst≠o.dst)).getD false) &&
   ((List.range nid).all fun a=>t.2.1.contains a||(List.range ops.size).all fun j=>kr tab i j||kr tab j i||i==j||((tb[j]?).map fun t'=>!t'.2.2.1.contains a).getD false) &&
   (t.2.1.all fun a=>decide (a<nid))&&(t.2.2.1.all fun a=>decide (a<nid))&&(t.2.2.1.all fun a=>(List.range ops.size).all fun j=>kr tab i j||kr tab j i||i==j||((tb[j]?).map fun t'=>!t'.2.2.1.contains a).getD false) &&
   (!t.2.2.2||(i+1==ops.size&&(List.range i).all fun j=>kr tab i j))).getD false)
def oz (ops:Array Oper) (tb:List (List Nat×List Nat×List Nat×Bool)) (nid:Nat):Bool:=vj ops tb nid (CY ops)
def vk (ops:Array Oper) (tb:List (List Nat×List Nat×List Nat×Bool)) (nid:Nat):Bool:=ops.toList.all (fun o=>o.guard.isNone)&&oz ops tb nid
theorem ka{tab:List (List Nat)} (hok:Ii ops tab=true) {L:Nat→Bool} (hid:∀j o',L j=true→ops[j]? = some o'→∀e∈o'.after.toList,Region.binds .any e=true→L e.on=true) :
  ∀(i:Nat) (o:Oper),ops[i]? = some o→(∀e∈o.after.toList,Region.binds .any e=true→L e.on=true)→∀j,kr tab i j=true→L j=true∧j<i:=by
 intro i
 induction i using Nat.strongRecOn with
 |ind i ih=>
   intro o ho hdep j hj
   have hi:=(s9.1 ho).1
   have h1:=l7.1 hok i (A2.2 hi)
   have h2:=l7.1 h1 j (by simpa[kr] using hj)
   rw[ho] at h2
   simp only[r0,s5,l5,z8,K0,B1,D1] at h2
   obtain⟨hlt,e,he,⟨hb,h3⟩,hlt2⟩:=h2
   refine⟨?_,hlt⟩
   rcases h3 with h3|h3
   ·rw[←h3];exact hdep e he hb
   ·have hLe:=hdep e he hb
    have hes:e.on<ops.size:=a6
    exact(ih e.on hlt2 _ (o9 hes) (fun e' he' hb'=>hid e.on _ hLe (o9 hes) e' he' hb') j h3).1
theorem tX{rd:List Nat} (h:∀r∈rd,fa r=f r):maskf rd f fa=fa:=by
 induction rd with
 |nil=>rfl
 |cons r rs ih=>
   unfold maskf
   rw[ih (fun r' hr=>h r' (by simp[hr]))]
   funext j
   simp only[upd]
   split
   ·rename_i e;subst e;rw[h _ a7]
   ·rfl
theorem oA{ids hd:List Nat} (h:∀id,(∀a∈hd,ids.getD a 0≠id)→ga id=g id):maskm ids hd g ga=ga:=by
 funext id
 have:∀hd:List Nat,maskm ids hd g ga id=if ∃a∈hd,ids.getD a 0=id then ga id else g id:=by
  intro hd
  induction hd with
  |nil=>simp[maskm]
  |cons a aas ih=>
    simp only[maskm,upd]
    by_cases h1:id=ids.getD a 0
    ·rw[if_pos h1,if_pos ⟨a,a7,h1.symm⟩,←h1]
    ·rw[if_neg h1,ih]
     by_cases h2:∃a∈aas,ids.getD a 0=id
     ·rw[if_pos h2,if_pos (by obtain⟨b,hb,e⟩:=h2;exact⟨b,by simp[hb],e⟩)]
     ·rw[if_neg h2,if_neg (by
       rintro⟨b,hb,e⟩
       rcases s7.1 hb with rfl|hb
       ·exact h1 e.symm
       ·exact h2 ⟨b,hb,e⟩)]
 rw[this]
 by_cases h1:∃a∈hd,ids.getD a 0=id
 ·rw[if_pos h1]
 ·rw[if_neg h1]
  exact(h id (fun a ha e=>h1 ⟨a,ha,e⟩)).symm
theorem iM{g:Nat→α}{id:Nat} (h:∀a∈ef,ids.getD a 0≠id):setm ids ef xs g id=g id:=by
 induction ef generalizing xs with
 |nil=>rfl
 |cons a aas ih=>
   cases xs with
   |nil=>rfl
   |cons x xs=>
     simp only[setm,upd]
     rw[if_neg (fun e=>h a a7 e.symm)]
     exact ih (fun b hb=>h b (by simp[hb]))
theorem qc{g g':Nat→α} (hl:xs.length=ef.length) {id:Nat} (h:∃a∈ef,ids.getD a 0=id):setm ids ef xs g id=setm ids ef xs g' id:=by
 induction ef generalizing xs with
 |nil=>obtain⟨a,ha,_⟩:=h;simp at ha
 |cons a aas ih=>
   cases xs with
   |nil=>simp at hl
   |cons x xs=>
     simp only[setm,upd]
     split
     ·rfl
     ·rename_i hne
      refine ih OF ?_
      obtain⟨b,hb,e⟩:=h
      rcases s7.1 hb with rfl|hb
      ·exact absurd e.symm hne
      ·exact⟨b,hb,e⟩
theorem gq:∀{os:List Oper}{ts:List (List Nat×List Nat×List Nat×Bool)}{i:Nat}{e:Ent},(ff os ts)[i]? = some e→os[i]? = some e.o∧ts[i]? = some (e.rd,e.hd,e.ef,e.full)
 |[],_,i,e,h=>by simp[ff] at h
 |_::_,[],i,e,h=>by simp[ff] at h
 |o::os,t::ts,0,e,h=>by simp[ff] at h;subst h;exact⟨rfl,rfl⟩
 |o::os,t::ts,i+1,e,h=>by
   have:=gq (os:=os) (ts:=ts) (i:=i) (e:=e) (by simpa[ff] using h)
   simpa using this
theorem rQ:∀{os:List Oper}{ts:List (List Nat×List Nat×List Nat×Bool)},ts.length=os.length→(ff os ts).length=os.length
 |[],[],_=>rfl
 |o::os,t::ts,h=>by simp only[ff,e8];rw[rQ (by simpa using h)]
 |[],_::_,h=>by simp at h
 |_::_,[],h=>by simp at h
section
variable {P:Program}{T:Nat→TI}{b₀:Bs}{β:Loc}{w:World}
structure Ij (n:Nat) (dst:Nat→Option Nat) (ef:Nat→List Nat) (ids:List Nat) (t:Nat→St) (L:Nat→Bool) (s:St):Prop where
 f:∀i d,i<n→dst i=some d→L i=true→s.f d=(t (i+1)).f d
 f0:∀d,(∀i,i<n→dst i≠some d)→s.f d=(t 0).f d
 m:∀id k,k≤n→(∀j a,j<n→a∈ef j→ids.getD a 0=id→(L j=true↔j<k))→s.gen id=(t k).gen id∧s.obj id=(t k).obj id
theorem oB {S:Sp}{z:Prop} (ids:List Nat) (tb:List (List Nat×List Nat×List Nat×Bool)) (nid:Nat) (hok:oz ops tb nid=true) (hnid:ids.length=nid) (hnd:ids.Nodup)
  (h:cg S T ops ids z (ff ops.toList tb) s (bx fun s'=>z→Q .normal s')):ou ops=true∧∃I:(Nat→Bool)→St→Prop,I (fun _=>false) s∧
    (∀(L:Nat→Bool) (s:St) (i:Nat) (o:Oper),I L s→ops[i]? = some o→L i=false→(∀e∈o.after.toList,Region.binds .any e=true→L e.on=true)→
      (∀j o',L j=true→ops[j]? = some o'→∀e∈o'.after.toList,Region.binds .any e=true→L e.on=true)→jZ ops o s∧opA S T o s (bx fun s'=>I (upd L i true) s'))∧
    (∀L s',I L s'→(∀i,i<ops.size→L i=true)→((∃(i:Nat) (o:Oper),ops[i]? = some o∧fal o=true)∨z)→Q .normal s'):=by
 subst hnid
 unfold oz vj at hok
 generalize CY ops=tab at hok
 simp only[l5,D1] at hok
 obtain⟨⟨⟨hbk,hcl⟩,htl⟩,hall⟩:=hok
 have hzl:(ff ops.toList tb).length=ops.size:=by rw[rQ (by simpa using htl)];simp
 have hent:∀i,i<ops.size→∃e,(ff ops.toList tb)[i]? = some e∧ops[i]? = some e.o∧tb[i]? = some (e.rd,e.hd,e.ef,e.full):=fun i hi=>by
  have h1:i<(ff ops.toList tb).length:=a6
  refine⟨_,p7 h1,?_⟩
  have:=gq (p7 h1)
  simpa using this
 have hinj:∀a b,a<ids.length→b<ids.length→ids.getD a 0=ids.getD b 0→a=b:=fun a b ha hb e=>by
  rw[D7,D7,p7 ha,p7 hb] at e
  simp only[s5] at e
  exact(List.getElem_inj hnd).1 e
 -- the checks,by operation
 have hchk:∀(i:Nat) (e:Ent),i<ops.size→ops[i]? = some e.o→tb[i]? = some (e.rd,e.hd,e.ef,e.full)→
   (∀r∈e.rd,∀(j:Nat) (e':Oper),j<ops.size→ops[j]? = some e'→e'.dst=some r→(((tb[j]?).map fun t'=>t'.2.2.2).getD false)=false→kr tab i j=true)∧
   (∀(j:Nat) (o':Oper),j<ops.size→j≠i→ops[j]? = some o'→o'.dst=none∨o'.dst≠e.o.dst)∧
   (∀a,a<ids.length→a∉e.hd→∀j t',j<ops.size→tb[j]? = some t'→a∈t'.2.2.1→kr tab i j=true∨kr tab j i=true∨i=j)∧
   (∀a∈e.hd,a<ids.length)∧(∀a∈e.ef,a<ids.length)∧
   (∀a∈e.ef,∀j t',j<ops.size→tb[j]? = some t'→a∈t'.2.2.1→kr tab i j=true∨kr tab j i=true∨i=j)∧
   (e.full=true→i+1=ops.size∧∀j,j<i→kr tab i j=true):=by
  intro i e hi ho ht
  have h1:=l7.1 hall i (A2.2 hi)
  rw[ho,ht] at h1
  simp only[D6,r0,s5,l5] at h1
  obtain⟨⟨⟨⟨⟨⟨c1,c2⟩,c3⟩,c4⟩,c5⟩,c6⟩,c7⟩:=h1
  refine⟨fun r hr j o' hj hoj hd hfj=>?_,fun j o' hj hne hoj=>?_,fun a ha hna j t' hj htj hat=>?_,fun a ha=>?_,fun a ha=>?_,fun a ha j t' hj htj hat=>?_,fun hf=>?_⟩
  ·have:=l7.1 (l7.1 c1 r hr) j (A2.2 hj)
   rw[hoj,hfj] at this
   simp only[r0,s5,Bool.or_false,B1,z8] at this
   rcases this with h|h
   ·exact h
   ·exact absurd hd h
  ·have:=l7.1 c2 j (A2.2 hj)
   rw[hoj] at this
   simp only[r0,s5,B1,z8,D1,LH] at this
   rcases this with h|h|h
   ·exact absurd h.symm hne
   ·exact .inl h
   ·exact .inr h
  ·have:=l7.1 c3 a (A2.2 ha)
   simp only[B1,D3,l7,A2] at this
   rcases this with h|h
   ·exact absurd h hna
   ·have:=h j hj
    rw[htj] at this
    simp only[r0,s5,D1,C4] at this
    exact M6
  ·exact D8 (l7.1 c4 a ha)
  ·exact D8 (l7.1 c5 a ha)
  ·have:=l7.1 (l7.1 c6 a ha) j (A2.2 hj)
   rw[htj] at this
   simp only[r0,s5,B1,D1,C4] at this
   exact M6
  ·rw[hf] at c7
   simp only[LN,LO,l5,D1,l7,A2] at c7
   exact c7
 have hfull:∀(i:Nat) (e:Ent),(ff ops.toList tb)[i]? = some e→e.full=true→i+1=(ff ops.toList tb).length:=fun i e hi hf=>by
  have hlt:i<ops.size:=by rw[←hzl];exact(j0.1 hi).1
  have h2:=gq hi
  rw[hzl]
  exact((hchk i e hlt (by simpa using h2.1) h2.2).2.2.2.2.2.2 hf).1
 obtain⟨t,t0,t1,t2,t3⟩:=ow _ _ h hfull
 let dst:Nat→Option Nat:=fun i=>(ops[i]?).bind (·.dst)
 let ef:Nat→List Nat:=fun i=>((tb[i]?).map (·.2.2.1)).getD []
 -- how the trace goes
 have tf:∀(i:Nat) (e:Ent),i<ops.size→(ff ops.toList tb)[i]? = some e→e.full=false→∀d,dst i≠some d→(t (i+1)).f d=(t i).f d:=fun i e hi he hf d hd=>by
  obtain⟨v,m,_,h2⟩:=t1 i e he hf
  rw[h2]
  have h3:ops[i]? = some e.o:=by simpa using(gq he).1
  simp only[dst,h3,D6] at hd
  simp only[kq]
  cases hq:e.o.dst with
  |none=>rfl
  |some d'=>simp only[tW,upd];rw[if_neg (fun e'=>hd (by rw[hq,e']))]
 have tm:∀(i:Nat) (e:Ent),i<ops.size→(ff ops.toList tb)[i]? = some e→e.full=false→∀id,(∀a∈ef i,ids.getD a 0≠id)→(t (i+1)).gen id=(t i).gen id∧(t (i+1)).obj id=(t i).obj id:=fun i e hi he hf id hd=>by
  obtain⟨v,m,_,h2⟩:=t1 i e he hf
  rw[h2]
  have h3:=(gq he).2
  simp only[ef,h3,r0,s5] at hd
  simp only[kq]
  exact⟨iM hd,iM hd⟩
 -- how many are walked by themselves
 obtain⟨N,hN,hNf,hNl⟩:∃N,N≤ops.size∧(∀(i:Nat) (e:Ent),i<N→(ff ops.toList tb)[i]? = some e→e.full=false)∧(N=ops.size∨(N+1=ops.size∧∃e,(ff ops.toList tb)[N]? = some e∧e.full=true)):=by
  by_cases hlast:∃(i:Nat) (e:Ent),(ff ops.toList tb)[i]? = some e∧e.full=true
  ·obtain⟨i,e,he,hf⟩:=hlast
   have h1:=hfull i e he hf
   rw[hzl] at h1
   refine⟨i,a6,fun j e' hj hj'=>?_,.inr ⟨h1,e,he,hf⟩⟩
   cases hq:e'.full with
   |false=>rfl
   |true=>have:=hfull j e' hj' hq;rw[hzl] at this;omega
  ·refine⟨ops.size,b9 _,fun j e' hj hj'=>?_,.inl rfl⟩
   cases hq:e'.full with
   |false=>rfl
   |true=>exact absurd ⟨j,e',hj',hq⟩ hlast
 have tfs:∀(d k i:Nat),i≤k→k≤N→(∀j,i≤j→j<k→dst j≠some d)→(t k).f d=(t i).f d:=by
  intro d k
  induction k with
  |zero=>intro i hi _ _;rw[show i=0 by omega]
  |succ k ih=>
    intro i hi hk hd
    by_cases hik:i=k+1
    ·subst hik;rfl
    ·obtain⟨e,he,_,_⟩:=hent k a6
     rw[tf k e a6 he (hNf k e a6 he) d (hd k a6 a6)]
     exact ih i a6 a6 (fun j h1 h2=>hd j h1 a6)
 have tms:∀(id k i:Nat),i≤k→k≤N→(∀j,i≤j→j<k→∀a∈ef j,ids.getD a 0≠id)→(t k).gen id=(t i).gen id∧(t k).obj id=(t i).obj id:=by
  intro id k
  induction k with
  |zero=>intro i hi _ _;rw[show i=0 by omega];exact⟨rfl,rfl⟩
  |succ k ih=>
    intro i hi hk hd
    by_cases hik:i=k+1
    ·subst hik;exact⟨rfl,rfl⟩
    ·obtain⟨e,he,_,_⟩:=hent k a6
     obtain⟨m1,m2⟩:=tm k e a6 he (hNf k e a6 he) id (hd k a6 a6)
     rw[m1,m2]
     exact ih i a6 a6 (fun j h1 h2=>hd j h1 a6)
 have hdist:∀(i j d:Nat),i<ops.size→j<ops.size→dst i=some d→dst j=some d→i=j:=fun i j d hi hj h1 h2=>by
  rcases Nat.lt_or_ge i j with hij|hij
  ·exact Mz
  ·rcases Nat.lt_or_ge j i with hji|hji
   ·exact Mz
   ·omega
 -- where all have come up,it is the text's state
 have hsame:∀(k:Nat) (L:Nat→Bool) (s':St),k=N→(∀i,i<k→L i=true)→Ij N dst ef ids t L s'→s'=t k:=by
  rintro k L ⟨f',g',o'⟩ rfl hL hI
  have h1:f'=(t k).f:=by
   funext d
   by_cases hd:∃i,i<k∧dst i=some d
   ·obtain⟨i,hi,hd⟩:=hd
    rw[show f' d=_ from hI.f i d hi hd (hL i hi)]
    exact(tfs d k (i+1) a6 (b9 _) (fun j h1 h2 h3=>by have:=hdist i j d a6 a6 hd h3;omega)).symm
   ·have h0:∀i,i<k→dst i≠some d:=fun i hi h=>hd ⟨i,hi,h⟩
    rw[show f' d=_ from hI.f0 d h0]
    exact(tfs d k 0 a6 (b9 _) (fun j _ h2=>h0 j h2)).symm
  have h2:g'=(t k).gen:=funext fun id=>(hI.m id k (b9 _) (fun j a hj _ _=>⟨fun _=>hj,fun _=>hL j hj⟩)).1
  have h3:o'=(t k).obj:=funext fun id=>(hI.m id k (b9 _) (fun j a hj _ _=>⟨fun _=>hj,fun _=>hL j hj⟩)).2
  rw[h1,h2,h3]
 refine⟨hbk,fun L s'=>((N<ops.size→L N=true→z→Q .normal s')∧((N<ops.size→L N=false)→Ij N dst ef ids t L s'))∧∀(i:Nat) (o:Oper),L i=true→ops[i]? = some o→fal o=true→z,?_,?_,?_⟩
 ·refine⟨⟨fun _ h=>OY,fun _=>⟨fun i d _ _ h=>OY,fun d _=>by rw[t0],fun id k hk hc=>?_⟩⟩,fun _ _ h=>OY⟩
  have:=tms id k 0 a6 hk (fun j _ hj a ha e=>by have:=(hc j a a6 ha e).2 hj;cases this)
  rw[this.1,this.2,t0]
  exact⟨rfl,rfl⟩
 ·intro L s' i o hI ho hL hdep hid
  have hi:=(s9.1 ho).1
  obtain⟨e,he,ho',htb⟩:=hent i hi
  obtain rfl:o=e.o:=by rw[ho] at ho';cases ho';rfl
  have hcls:=ka hcl hid i e.o ho hdep
  have hck:=hchk i e hi ho htb
  by_cases hiN:i<N
  ·have hLN:N<ops.size→L N=false:=fun hlt=>by
    cases hq:L N with
    |false=>rfl
    |true=>
      exfalso
      rcases hNl with h|⟨h,e2,he2,hf2⟩
      ·omega
      ·have hz:=gq he2
       have ho2:ops[N]? = some e2.o:=by simpa using hz.1
       have:=(hchk N e2 hlt ho2 hz.2).2.2.2.2.2.2 hf2
       have h3:=ka hcl hid N e2.o ho2 (fun e' he' hb'=>hid N _ hq ho2 e' he' hb') i (this.2 i hiN)
       rw[hL] at h3
       exact absurd h3.1 a7
   have hD:=hI.1.2 hLN
   obtain⟨v,m,⟨hml,hst,hgd⟩,hn⟩:=t1 i e he (hNf i e hiN he)
   have hr1:∀r∈e.rd,s'.f r=(t i).f r:=fun r hr=>by
    by_cases hd:∃j,j<N∧dst j=some r
    ·obtain⟨j,hj,hd⟩:=hd
     obtain⟨e2,he2,ho2,htb2⟩:=hent j a6
     have hd2:e2.o.dst=some r:=by simpa[dst,ho2] using hd
     obtain⟨hLj,hji⟩:=hcls j (hck.1 r hr j e2.o a6 ho2 hd2 (by rw[htb2];exact hNf j e2 hj he2))
     rw[hD.f j r hj hd hLj]
     exact(tfs r i (j+1) a6 a6 (fun k h1 h2 h3=>by have:=hdist j k r a6 a6 hd h3;omega)).symm
    ·have h0:∀j,j<N→dst j≠some r:=fun j hj h=>hd ⟨j,hj,h⟩
     rw[hD.f0 r h0]
     exact(tfs r i 0 a6 a6 (fun j _ h2=>h0 j a6)).symm
   have r1:maskf e.rd (t i).f s'.f=s'.f:=tX hr1
   have hvis:∀id,(∀a∈e.hd,ids.getD a 0≠id)→s'.gen id=(t i).gen id∧s'.obj id=(t i).obj id:=fun id hv=>by
    refine hD.m id i a6 (fun j a hj ha hai=>?_)
    obtain⟨e2,he2,ho2,htb2⟩:=hent j a6
    have ha2:a∈e2.ef:=by simpa[ef,htb2] using ha
    have halt:a<ids.length:=(hchk j e2 a6 ho2 htb2).2.2.2.2.1 a ha2
    rcases hck.2.2.1 a halt (fun h=>hv a h hai) j _ a6 htb2 ha2 with h|h|h
    ·have:=hcls j h
     exact⟨fun _=>this.2,fun _=>this.1⟩
    ·constructor
     ·intro hLj
      exact M7
     ·intro hji
      exfalso
      have h1:=l7.1 hcl j (A2.2 a6)
      have h2:=l7.1 h1 i (by simpa[kr] using h)
      simp only[l5,z8] at h2
      omega
    ·subst h
     rw[hL]
     exact⟨fun h=>OY,fun h=>a6⟩
   have r2:maskm ids e.hd (t i).gen s'.gen=s'.gen:=oA fun id hv=>(hvis id hv).1
   have r3:maskm ids e.hd (t i).obj s'.obj=s'.obj:=oA fun id hv=>(hvis id hv).2
   have h1:=hst s'.f s'.gen s'.obj
   rw[r1,r2,r3] at h1
   refine⟨hgd.ok hr1,h1 _ fun hz=>⟨?_,fun j o2 hLj hoj hfj=>by
    simp only[upd] at hLj
    by_cases hji:j=i
    ·subst hji
     rw[ho] at hoj
     cases hoj
     exact hz hfj
    ·rw[if_neg hji] at hLj
     exact hI.2 j o2 hLj hoj hfj⟩⟩
   refine⟨fun hlt h=>?_,fun _=>⟨fun j d hj hd hLj=>?_,fun d hd=>?_,fun id k hk hc=>?_⟩⟩
   ·simp only[upd] at h
    rw[if_neg a6,hLN hlt] at h
    cases h
   ·simp only[upd] at hLj
    by_cases hji:j=i
    ·subst hji
     have hd2:e.o.dst=some d:=by simpa[dst,ho] using hd
     rw[hn]
     simp only[kq,hd2,tW,upd,A9]
    ·rw[if_neg hji] at hLj
     have hne:e.o.dst≠some d:=fun h=>hji (hdist j i d a6 hi hd (by simpa[dst,ho] using h))
     rw[←hD.f j d hj hd hLj]
     simp only[kq]
     cases hq:e.o.dst with
     |none=>rfl
     |some d'=>simp only[tW,upd];rw[if_neg (fun e'=>hne (by rw[hq,e']))]
   ·rw[←hD.f0 d hd]
    have hne:e.o.dst≠some d:=fun h=>hd i hiN (by simpa[dst,ho] using h)
    simp only[kq]
    cases hq:e.o.dst with
    |none=>rfl
    |some d'=>simp only[tW,upd];rw[if_neg (fun e'=>hne (by rw[hq,e']))]
   ·have hef:ef i=e.ef:=by simp[ef,htb]
    by_cases hmine:∃a∈e.ef,ids.getD a 0=id
    ·obtain⟨a,ha,hai⟩:=hmine
     have hik:i<k:=(hc i a hiN (by rw[hef];exact ha) hai).1 Oe
     have halt:=hck.2.2.2.2.1 a ha
     have:=tms id k (i+1) a6 hk (fun j h1 h2 b hb hbi=>by
      obtain⟨e2,he2,ho2,htb2⟩:=hent j a6
      have hb2:b∈e2.ef:=by simpa[ef,htb2] using hb
      have hblt:=(hchk j e2 a6 ho2 htb2).2.2.2.2.1 b hb2
      obtain rfl:a=b:=hinj a b halt hblt (by rw[hai,hbi])
      have hLj:L j=true:=by
       have:=(hc j a a6 hb hbi).2 h2
       simp only[upd] at this
       rwa [if_neg a6] at this
      rcases hck.2.2.2.2.2.1 a ha j _ a6 htb2 hb2 with h|h|h
      ·have:=(hcls j h).2;omega
      ·exact M7
      ·omega)
     rw[this.1,this.2,hn]
     simp only[kq]
     exact⟨qc (by simpa using hml) ⟨a,ha,hai⟩,qc (by simpa using hml) ⟨a,ha,hai⟩⟩
    ·have hno:∀a∈e.ef,ids.getD a 0≠id:=fun a ha h=>hmine ⟨a,ha,h⟩
     simp only[kq]
     rw[iM hno,iM hno]
     refine hD.m id k hk (fun j a hj ha hai=>?_)
     have hji:j≠i:=fun h=>by subst h;rw[hef] at ha;exact hno a ha hai
     have:=hc j a hj ha hai
     simp only[upd] at this
     rwa [if_neg hji] at this
  ·have hiN':i=N:=by
    rcases hNl with h|⟨h,_⟩ <;> omega
   subst hiN'
   rcases hNl with h|⟨h,e2,he2,hf2⟩
   ·omega
   ·obtain rfl:e=e2:=by rw[he] at he2;cases he2;rfl
    have hD:=hI.1.2 (fun _=>hL)
    have hall2:∀j,j<i→L j=true:=fun j hj=>(hcls j ((hck.2.2.2.2.2.2 hf2).2 j hj)).1
    rw[hsame i L s' rfl hall2 hD]
    obtain⟨hla,hgd⟩:=t2 i e he hf2
    refine⟨hgd.ok fun _ _=>rfl,hla.2 _ (fun s'' hs=>?_)⟩
    refine⟨⟨fun _ _=>hs,fun hh=>by have:=hh hi;simp[upd] at this⟩,fun j o2 hLj hoj hfj=>?_⟩
    simp only[upd] at hLj
    by_cases hji:j=i
    ·subst hji
     rw[ho] at hoj
     cases hoj
     exact hla.1 hfj
    ·rw[if_neg hji] at hLj
     exact hI.2 j o2 hLj hoj hfj
 ·intro L s' hI hL hex
  have hz:z:=hex.elim (fun⟨i0,o0,hi0,hf0⟩=>hI.2 i0 o0 (hL i0 (s9.1 hi0).1) hi0 hf0) id
  rcases hNl with h|⟨h,_⟩
  ·subst h
   have hD:=hI.1.2 (fun h=>absurd h a6)
   have h1:=t3 (fun i e he=>hNf i e (by rw[←hzl];exact(j0.1 he).1) he)
   rw[hzl] at h1
   rw[hsame _ L s' rfl hL hD]
   exact h1 hz
  ·exact hI.1.1 a6 (hL N a6) hz
theorem vl {S:Sp}{ops:Array Oper}{ids:List Nat}{K:St→Prop}:∀(l:List Ent) (s:St),(∀e∈l,e.o.guard=none)→gp S T ids l s (bx K)→cg S T ops ids True l s (bx fun s'=>True→K s')
 |[],s,_,h=>by
   unfold gp at h
   unfold cg
   exact fun _=>h
 |e::r,s,hg,h=>by
   have hge:GdE ops e s:=by unfold GdE;rw[hg e (List.mem_cons_self ..)];trivial
   unfold gp at h
   unfold cg
   cases hf:e.full with
   |true=>
     rw[hf] at h
     exact⟨⟨fun _=>trivial,fun K' hK=>h K' fun s'' q=>hK s'' fun _=>q⟩,hge⟩
   |false=>
     rw[hf] at h
     obtain⟨v,m,⟨hm,hs⟩,hr⟩:=h
     exact⟨v,m,⟨hm,fun fa ga oa K' hK=>hs fa ga oa K' (hK fun _=>trivial),hge⟩,vl r _ (fun x hx=>hg x (List.mem_cons_of_mem _ hx)) hr⟩
theorem vm {S:Sp} (ids:List Nat) (tb:List (List Nat×List Nat×List Nat×Bool)) (nid:Nat) (hok:vk ops tb nid=true) (hnid:ids.length=nid) (hnd:ids.Nodup)
  (h:gp S T ids (ff ops.toList tb) s (bx fun s'=>Q .normal s')):(ops.toList.all (fun o=>o.guard.isNone)&&ou ops)=true∧∃I:(Nat→Bool)→St→Prop,I (fun _=>false) s∧
    (∀(L:Nat→Bool) (s:St) (i:Nat) (o:Oper),I L s→ops[i]? = some o→L i=false→(∀e∈o.after.toList,Region.binds .any e=true→L e.on=true)→
      (∀j o',L j=true→ops[j]? = some o'→∀e∈o'.after.toList,Region.binds .any e=true→L e.on=true)→opA S T o s (bx fun s'=>I (upd L i true) s'))∧
    (∀L s',I L s'→(∀i,i<ops.size→L i=true)→Q .normal s'):=by
 unfold vk at hok
 rw[l5] at hok
 have hg:∀e∈ff ops.toList tb,e.o.guard=none:=fun e he=>by
  obtain⟨i,hi⟩:=B4 he
  have:=l7.1 hok.1 e.o (l4 (gq hi).1)
  exact LH.1 this
 obtain⟨h1,I,h2,h3,h4⟩:=oB (z:=True) (Q:=Q) ids tb nid hok.2 hnid hnd (vl _ _ hg h)
 exact⟨by rw[l5];exact⟨hok.1,h1⟩,I,h2,fun L s i o a b c d e=>(h3 L s i o a b c d e).2,fun L s' a b=>h4 L s' a b (.inr trivial)⟩
theorem jx (hT:aI P T) (hm:P.follows .mixedOrders=true) {B id:Nat}{q:Box Q} (ids:List Nat) (tb:List (List Nat×List Nat×List Nat×Bool)) (nid:Nat) (hok:vk ops tb nid=true) (hnid:ids.length=nid) (hnd:ids.Nodup)
  (h:gp (spB P B) T ids (ff ops.toList tb) s (bx fun s'=>Q .normal s')):gY (spB P B) T id ops s q:=by
 obtain⟨h1,I,h2,h3,h4⟩:=vm (Q:=Q) ids tb nid hok hnid hnd h
 exact xD hT hm h1 I h2 h3 h4
end
section steps
variable {S:Sp}{T:Nat→TI}{ids:List Nat}{f:Nat→AV}{g:Nat→Nat}{ob:Nat→Option (List C)}{K:St→Prop}{k:Box K}{op:Op}{ty:TypeId}{ps:String}{af:Array Edge}{rd hd:List Nat}{r:List Ent}{d:Nat}
theorem bp {v:AV} (h1:∀(fa:Nat→AV) (ga:Nat→Nat) (oa:Nat→Option (List C)) (K':St→Prop),K' ⟨upd (maskf rd f fa) d v,maskm ids hd g ga,maskm ids hd ob oa⟩→opA S T ⟨some d,op,ty,ps,af,none⟩ ⟨maskf rd f fa,maskm ids hd g ga,maskm ids hd ob oa⟩ (bx K'))
  (h2:gp S T ids r ⟨upd f d v,g,ob⟩ k):gp S T ids (⟨⟨some d,op,ty,ps,af,none⟩,rd,hd,[],false⟩::r) ⟨f,g,ob⟩ k:=by
 unfold gp
 exact⟨v,[],⟨rfl,fun fa ga oa K' hK=>h1 fa ga oa K' hK⟩,h2⟩
theorem lj {v:AV}{a x:Nat}{y:Option (List C)} (h1:∀(fa:Nat→AV) (ga:Nat→Nat) (oa:Nat→Option (List C)) (K':St→Prop),K' ⟨upd (maskf rd f fa) d v,upd (maskm ids hd g ga) (ids.getD a 0) x,upd (maskm ids hd ob oa) (ids.getD a 0) y⟩→opA S T ⟨some d,op,ty,ps,af,none⟩ ⟨maskf rd f fa,maskm ids hd g ga,maskm ids hd ob oa⟩ (bx K'))
  (h2:gp S T ids r ⟨upd f d v,upd g (ids.getD a 0) x,upd ob (ids.getD a 0) y⟩ k):gp S T ids (⟨⟨some d,op,ty,ps,af,none⟩,rd,hd,[a],false⟩::r) ⟨f,g,ob⟩ k:=by
 unfold gp
 exact⟨v,[(x,y)],⟨rfl,fun fa ga oa K' hK=>h1 fa ga oa K' hK⟩,h2⟩
theorem ij {o:Oper}{ef:List Nat} (h:∀K':St→Prop,(∀s'',K s''→K' s'')→opA S T o ⟨f,g,ob⟩ (bx K')):gp S T ids [⟨o,rd,hd,ef,true⟩] ⟨f,g,ob⟩ k:=by
 unfold gp;exact h
end steps
@[go_sem] theorem GX:maskf [] f fa=fa:=b8 rfl rfl
@[go_sem] theorem Ew{r:Nat}{rs:List Nat}:maskf (r::rs) f fa=upd (maskf rs f fa) r (f r):=b8 rfl rfl
@[go_sem] theorem GY{ids:List Nat}:maskm ids [] f fa=f:=b8 rfl rfl
@[go_sem] theorem Ey{ids:List Nat}{a:Nat}{aas:List Nat}:maskm ids (a::aas) g ga=upd (maskm ids aas g ga) (ids.getD a 0) (ga (ids.getD a 0)):=b8 rfl rfl
attribute [go_sem] List.getD_cons_zero List.getD_cons_succ
@[go_sem] theorem Ik:ff [] ts=[]:=by cases ts <;> rfl
@[go_sem] theorem GZ {o:Oper}{os:List Oper}{rd hd ef:List Nat}{fl:Bool}:ff (o::os) ((rd,hd,ef,fl)::ts)=⟨o,rd,hd,ef,fl⟩::ff os ts:=b8 rfl rfl
end
end
end Go.Am
