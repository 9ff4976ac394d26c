/- A part of the proof; no conditions. -/
import Derived.Test.YtlglgadejgdpcaaGreatDoorPart5
import Derived.RangeFuncSeq
import Derived.Below
import Derived.Lib.UnsafeStr
import Derived.Laws.Externs
import Derived.Handed
import Derived.Lay
import Derived.LaidMore
import Derived.SevenTiedAt
import Derived.Stop.Joined
import Derived.KernelRfl
import Derived.Test.YtlglgadejgdpcaaGreatDoorProg
import Derived.Lib.Bytealg
import Derived.Shelf.Strings.IndexAnyAll
import Derived.Laws.RangeAny
import Derived.WalkMore
import Derived.Shelf.RegionOpenPlain
import Derived.BigQuiet
import Derived.Laws.Runes
import Derived.Shelf.Small.Utf8
import Derived.Lib.QuoteLoop
import Derived.Lib.TrimU
import Derived.Lib.OthersKept
import Derived.Shelf.Strings.SlTrimAscii
import Derived.Shelf.Strings.Runes
set_option linter.unusedSimpArgs false
set_option linter.unusedVariables false
set_option maxHeartbeats 64000000
set_option maxRecDepth 100000
namespace Go.Am
section
section
variable {B B' id:Nat}{ops:Array Oper}{Q:Exit→St→Prop}
section
variable {P:Program}{T:Nat→TI}{b₀:Bs}{w:World}{rd:Option Nat}{Φ:St→Loc→List Deferred→World→Prop}{Ψ:fF}
theorem sP {hT:aF P T} (hΦ:aE b₀ Φ) {B N:Nat}{ops:Array Oper}{ds:List Deferred}{Q:Exit→Act→World→Prop} (hnd:ops.toList.all aA=true) (hg:ops.toList.all (fun o=>o.guard.isNone)=true) (hds:dZ N ops.toList=true) (I:(Nat→Bool)→St→Prop)
  (hstep:∀(L:Nat→Bool) (s:St) (i:Nat) (o:Oper),I L s→ops[i]? = some o→L i=false→(∀e∈o.after.toList,Region.binds .any e=true→L e.on=true)→
    (∀j o',L j=true→ops[j]? = some o'→∀e∈o'.after.toList,Region.binds .any e=true→L e.on=true)→opA (spB P B) T o s (bx fun s'=>I (upd L i true) s')) :
  ∀(fuel:Nat) (listed:Array Bool) {s:St}{β:Loc}{a:Act}{w:World},listed.size=ops.size→listed.toList.count false≤fuel→Rel b₀ N s β a w→Φ s β ds w→I (fun i=>listed.getD i false) s→
   (∀j o',listed.getD j false=true→ops[j]? = some o'→∀e∈o'.after.toList,Region.binds .any e=true→listed.getD e.on false=true)→
   (∀L s' β' a' w',I L s'→Rel b₀ N s' β' a' w'→Φ s' β' ds w'→(∃listed',L=(fun i=>listed'.getD i false)∧listed'.size=ops.size∧Region.ready .any ops listed'=[])→Q .normal { a' with defers:=ds } w')→
   wpAnyIn (fen rd) 0 P .any ops Q fuel listed { a with defers:=ds } w
 |0,listed,s,β,a,w,hsz,hc,hr,hφ,hI,hid,hQ=>by
   have hall:∀i,i<ops.size→listed.getD i true=true:=fun i hi=>by
    have hnf:false∉listed.toList:=fun h=>by
     have:=Q0.2 h;omega
    rw[u1,y1 a7]
    simp only[x6]
    cases hq:listed[i]'a7 with
    |true=>rfl
    |false=>exact absurd (hq▸P1.2 (Q4 a7)) hnf
   have hrd:Region.ready .any ops listed=[]:=by
    unfold Region.ready
    rw[L1]
    intro i hi
    simp[hall i (z8.1 hi)]
   exact⟨hrd,hQ _ s β a w hI hr hφ ⟨listed,rfl,hsz,hrd⟩⟩
 |fuel+1,listed,s,β,a,w,hsz,hc,hr,hφ,hI,hid,hQ=>by
   refine⟨fun hrd=>hQ _ s β a w hI hr hφ ⟨listed,rfl,hsz,hrd⟩,fun i hi=>?_⟩
   unfold Region.ready at hi
   simp only[RH,z8,l9,D4] at hi
   obtain⟨hi1,hi2,hi3⟩:=hi
   have ho:ops[i]? = some ops[i]:=y1 hi1
   rw[ho] at hi3
   simp only[w7,x6,N7,B5,D4] at hi3
   have hli:listed[i]? = some false:=by
    rw[u1,y1 a7] at hi2
    rw[y1 a7]
    simpa using hi2
   have hL:listed.getD i false=false:=by rw[u1,hli];rfl
   have hedge:∀e∈ops[i].after.toList,Region.binds .any e=true→listed.getD e.on false=true:=fun e he hb=>by
    rcases hi3 e (by simpa using he) with h|h
    ·rw[hb] at h;cases h
    ·exact h
   have hgi:(ops[i]).guard=none:=by
    have:=s7.1 hg ops[i] (E9 hi1)
    simpa using this
   have hdi:∀d,(ops[i]).dst=some d→d<N:=fun d hd=>by
    have:=s7.1 hds ops[i] (E9 hi1)
    rw[hd] at this
    simpa using this
   have hni:aA ops[i]=true:=s7.1 hnd ops[i] (E9 hi1)
   unfold wpOpIn
   rw[ho]
   simp only
   rw[if_pos (by simp[Region.wanted,hgi])]
   have hset:(fun j=>(listed.setIfInBounds i true).getD j false)=upd (fun j=>listed.getD j false) i true:=by
    funext j
    simp only[upd,u1,L3]
    by_cases hj:i=j
    ·subst hj;simp[hsz,hi1]
    ·have:¬j=i:=fun e=>hj e.symm
     simp[hj,this]
   refine eL hni (ka hT hr hdi (hstep _ s i ops[i] hI ho hL hedge hid) (fun s' β' a' w' hI' hr' ht'=>⟨hr'.defers,?_⟩))
   refine sP (hT:=hT) hΦ hnd hg hds I hstep fuel (listed.setIfInBounds i true) (by simpa using hsz) (by have:=count_set hli;omega) hr' (hΦ _ _ _ _ _ _ _ hφ ht') (by rw[hset];exact hI') (fun j o' hj hoj e he hb=>?_) hQ
   have e1:=congrFun hset
   simp only[upd] at e1
   rw[e1] at hj ⊢
   by_cases hej:e.on=i
   ·rw[if_pos hej]
   ·rw[if_neg hej]
    by_cases hji:j=i
    ·subst hji
     rw[ho] at hoj
     cases hoj
     exact hedge e he hb
    ·rw[if_neg hji] at hj
     exact hid j o' hj hoj e he hb
theorem oB (hT:aF P T) (hm:P.follows .mixedOrders=true) (hΦ:aE b₀ Φ){s:St}{q:Box Q} (hnd:ops.toList.all aA=true) (hok:(ops.toList.all (fun o=>o.guard.isNone)&&nz ops)=true) (I:(Nat→Bool)→St→Prop) (h0:I (fun _=>false) s)
  (hstep:∀(L:Nat→Bool) (s:St) (i:Nat) (o:Oper),I L s→ops[i]? = some o→L i=false→(∀e∈o.after.toList,Region.binds .any e=true→L e.on=true)→
    (∀j o',L j=true→ops[j]? = some o'→∀e∈o'.after.toList,Region.binds .any e=true→L e.on=true)→opA (spB P B) T o s (bx fun s'=>I (upd L i true) s'))
  (hend:∀L s',I L s'→(∀i,i<ops.size→L i=true)→Q .normal s'):iL (spF P rd b₀ Φ B' Ψ) T id ops s q:=by
 rw[l9] at hok
 obtain⟨hg,hbk⟩:=hok
 refine .inr ⟨fun e s'=>e=.normal∧Q .normal s',fun N β a ds w hc hr hφ=>?_,fun e s' ⟨h1,h2⟩=>h1▸h2⟩
 have hr1:Rel b₀ N s β a { w with drawn:=w.drawn+1 }:=hr.of_heap rfl
 have hφ1:Φ s β ds { w with drawn:=w.drawn+1 }:=hΦ _ _ _ _ _ _ _ hφ (Tr.same rfl rfl rfl)
 refine wpIn_region_any hm (sP (hT:=hT) hΦ hnd hg hc I hstep ops.size (Array.replicate ops.size false) a8 a8 hr1 hφ1 ?_ (fun j o' hj=>?_) (fun L s' β' a' w' h2 h4 h5 h6=>⟨s',β',a',ds,rfl,.inl ⟨rfl,hend L s' h2 (by obtain⟨listed,rfl,e1,e2⟩:=h6;exact oA hbk e1 e2)⟩,h4,h5⟩))
 ·have:(fun i=>(Array.replicate ops.size false).getD i false)=fun _=>false:=by
   funext i
   rw[u1,B1]
   split <;> rfl
  rw[this];exact h0
 ·rw[u1,B1] at hj
  split at hj <;> simp at hj
theorem ml (hT:aF P T) (hm:P.follows .mixedOrders=true) (hΦ:aE b₀ Φ){s:St}{q:Box Q} (ids:List Nat) (tb:List (List Nat×List Nat×List Nat×Bool)) (nid:Nat) (hnd0:ops.toList.all aA=true) (hok:yD ops tb nid=true) (hnid:ids.length=nid) (hnd:ids.Nodup)
  (h:iq (spB P B) T ids (cW ops.toList tb) s (bx fun s'=>Q .normal s')):iL (spF P rd b₀ Φ B' Ψ) T id ops s q:=by
 obtain⟨h1,I,h2,h3,h4⟩:=yE (Q:=Q) ids tb nid hok hnid hnd h
 exact oB hT hm hΦ hnd0 h1 I h2 h3 h4
end
end
section
def xt (P:Program) (b₀:Bs) (Φ:(Nat→Nat)→Obs→Loc→World→Prop) (l:Nat) (xs:List AV) (g:Nat→Nat) (ob:Obs) (R:AV→(Nat→Nat)→Obs→Prop):Prop:=
 ∀(N:Nat) (β:Loc) (a:Act) (fa:Nat→AV) (w:World) (vs:List Value),Rel b₀ N ⟨fa,g,ob⟩ β a w→Φ g ob β w→ax b₀ β g ob w xs vs→
  YieldAt (fen none) 0 P l vs.toArray w fun e w'=>∃v r g' ob' β',e=.returned v∧R r g' ob'∧ag b₀ β' g' ob' w' r v∧
   (∀id cells,ob' id=some cells→bX b₀ β' g' ob' w' (g' id) cells (β' id))∧(∀id id' a a',(ob' id).isSome=true→(ob' id').isSome=true→β' id=some a→β' id'=some a'→a.block=a'.block→id=id')∧
   Tr b₀ β ⟨fa,g,ob⟩ w β' ⟨fa,g',ob'⟩ w'
def qK (Φ:(Nat→Nat)→Obs→Loc→World→Prop):St→Loc→List Deferred→World→Prop:=fun s β ds w=>ds=[]∧Φ s.gen s.obj β w
section
variable {P:Program}{T:Nat→TI}{b₀:Bs}{w:World}
theorem xu {o:Oper}{s:St}{K:St→Prop}{k:Box K}{B:Nat}{t:Nat}{args:Array Operand}{tys:Array TypeId} (ho:o.op=.call ⟨.value (.tmp t),args,tys⟩) {l:Nat} (hf:s.f t=.one (.d (.yld l)))
  {Φ:(Nat→Nat)→Obs→Loc→World→Prop} (hΦ:aE b₀ (qK Φ)) {R:AV→(Nat→Nat)→Obs→Prop} (hY:xt P b₀ Φ l (args.toList.map s.ev) s.gen s.obj R) (hk:∀r g' ob',R r g' ob'→K (St.put ⟨s.f,g',ob'⟩ o.dst r)) :
  aS (spF P none b₀ (qK Φ) B iN) o s k:=by
 refine⟨fun s'=>∃r g' ob',R r g' ob'∧s'=St.put ⟨s.f,g',ob'⟩ o.dst r,fun N β a ds w hr hφ hd next Q hn _=>?_,fun _ ⟨r,g',ob',hr,e⟩=>e▸hk r g' ob' hr⟩
 have hv:=hr.f t
 rw[hf] at hv
 simp only[ag,aw] at hv
 have hv:a.tmps.getD t undef=.func (.yield l) #[] #[]:=by generalize a.tmps.getD t undef=v at hv;cases hv;rfl
 obtain⟨fn,tmps,assign,body,hy,hR⟩:=hY N β a s.f w (args.toList.map a.eval) hr hφ.2 (fc hr _)
 rw[show (args.toList.map a.eval).toArray=args.map a.eval from F7 a8] at hy
 refine⟨fun _ _=>trivial,?_⟩
 have hrun:(o.semAt (fen none).round ({ a with defers:=ds }:Act).eval).run P w=.ok (.round l fn tmps assign body) w:=by
  show (execOp a.eval o).run P w=_
  simp[execOp,ho,resolve,Act.eval,hv,Deferred.ofValue,invoke]
  exact hy
 rw[hrun]
 simp only[Oper.uponIn]
 refine⟨fun h=>(by cases h),hR.mono ?_⟩
 rintro e w' ⟨v,r,g',ob',β',rfl,hR',hrep,h1,h2,h3⟩
 obtain⟨k1,k2⟩:=eQ hr hd hrep h1 h2 h3
 simp only
 rw[lA]
 exact hn _ β' _ w' ⟨r,g',ob',hR',rfl⟩ k1 (hΦ _ _ _ _ _ _ _ hφ k2)
def yF {α:Type} (P:Program) (f:FuncId) (caps:List AV) (own:Nat→Prop) (enc:α→List AV) (g0:Nat→Nat) (ob0:Obs) (xs:List α) (Fin:(Nat→Nat)→Obs→Prop):Prop:=
 uu P f∧∀(b₀:Bs) (Φ:(Nat→Nat)→Obs→Loc→World→Prop) (l:Nat) (J:Nat→(Nat→Nat)→Obs→Prop) (Jx:(Nat→Nat)→Obs→Prop),aE b₀ (qK Φ)→
  (∀k g ob g' ob',J k g ob→(∀id,¬own id→g' id=g id∧ob' id=ob id)→J k g' ob')→(∀g ob g' ob',Jx g ob→(∀id,¬own id→g' id=g id∧ob' id=ob id)→Jx g' ob')→
  (∀k x g ob,xs[k]? = some x→J k g ob→xt P b₀ Φ l (enc x) g ob (fun r g' ob'=>(∀id,own id→g' id=g id∧ob' id=ob id)∧((r=bv true∧J (k+1) g' ob')∨(r=bv false∧Jx g' ob'))))→
  J 0 g0 ob0→∀(N:Nat) (β:Loc) (a:Act) (fa:Nat→AV) (w:World) (vs:List Value),Rel b₀ N ⟨fa,g0,ob0⟩ β a w→Φ g0 ob0 β w→ax b₀ β g0 ob0 w caps vs→
   CallsIn (fen none) 0 P f (#[.func (.yield l) #[] #[]]++vs.toArray) w fun e w'=>∃v g' ob' β',e=.returned v∧((J xs.length g' ob'∧Fin g' ob')∨Jx g' ob')∧
    (∀id cells,ob' id=some cells→bX b₀ β' g' ob' w' (g' id) cells (β' id))∧(∀id id' a a',(ob' id).isSome=true→(ob' id').isSome=true→β' id=some a→β' id'=some a'→a.block=a'.block→id=id')∧b₀.B≤w'.heap.size∧Φ g' ob' β' w'
def MG (J:(Nat→Nat)→Obs→Prop) (Jx:(Nat→Nat)→Obs→Prop):Exit→St→Prop
 |.normal,s|.ret,s=>∃s',ah s s'∧(J s'.gen s'.obj∨Jx s'.gen s'.obj)
 |_,_=>False
theorem iw {N:Nat}{xs:List AV}{vs:List Value}{g:Nat→Nat}{ob:Obs}{β:Loc}{fa:Nat→AV}{M:Nat}{a:Act} (hargs:xs.length≤N) (hr0:Rel b₀ M ⟨fa,g,ob⟩ β a w) (hv:ax b₀ β g ob w xs vs) :
  Rel b₀ N ⟨bY xs,g,ob⟩ β { tmps:=vs.toArray++Array.replicate (N-vs.toArray.size) undef,defers:=[]} w:=by
 have hl:=hv.len
 refine⟨rfl,by simp;omega,fun i=>?_,hr0.obj,hr0.inj,hr0.base⟩
 simp only[bY]
 cases hx:xs[i]? with
 |some x=>
   obtain⟨v,h1,h2⟩:=hv.get hx
   have hlt:i<vs.length:=(l5.1 h1).1
   have:(vs.toArray++Array.replicate (N-vs.toArray.size) undef).getD i undef=v:=by
    rw[u1,C4 (by simpa using hlt)]
    simp[h1]
   rw[this]
   simpa only[x6] using h2
 |none=>
   have hge:xs.length≤i:=by simpa using hx
   have:(vs.toArray++Array.replicate (N-vs.toArray.size) undef).getD i undef=undef:=by
    rw[u1,E0 (by simp;omega)]
    simp[B1]
    split <;> rfl
   rw[this]
   exact bH
end
end
end
section
attribute [local congr] Go.Am.ite_cc
section
def Mk (b₀:Bs) (β:Loc) (ob:Obs) (w:World) (n₀:Nat):List Deferred→Prop
 |[]=>True
 |d::ds=>(∃D,d = { target:=.collected D,args:=#[]}∧n₀≤D∧Imm b₀ β ob w D∧w.heap[D]? = some (.deferred (some []))∧∀d'∈ds,d'≠d)∧Mk b₀ β ob w n₀ ds
def zN (b₀:Bs) (β0:Loc) (s0:St) (w0:World):St→Loc→List Deferred→World→Prop:=fun s β ds w=>Tr b₀ β0 s0 w0 β s w∧Mk b₀ β s.obj w w0.heap.size ds
theorem Mk.keep {b₀:Bs}{β β':Loc}{s s':St}{w w':World} (h:Tr b₀ β s w β' s' w') {n₀:Nat}:∀{ds:List Deferred},Mk b₀ β s.obj w n₀ ds→Mk b₀ β' s'.obj w' n₀ ds
 |[],_=>trivial
 |d::ds,hm=>by
   obtain⟨⟨D,h1,h2,h3,h4,h5⟩,hr⟩:=hm
   exact⟨⟨D,h1,h2,(h.imm D h3).1,by rw[(h.imm D h3).2];exact h4,h5⟩,Mk.keep h hr⟩
theorem eR {b₀:Bs}{β0:Loc}{s0:St}{w0:World}:aE b₀ (zN b₀ β0 s0 w0):=fun _ _ _ _ _ _ _ h ht=>⟨h.1.trans ht,h.2.keep ht⟩
def mJ (f:Nat→AV):List Nat→List AV→Nat→AV
 |p::ps,v::vs=>mJ (upd f p v) ps vs
 |_,_=>f
variable {f:Nat→AV}{g:Nat→Nat}{ob:Obs}{s:St}{vs:List AV}{Pr:Nat→Prop}{J1 Jx:(Nat→Nat)→Obs→Prop}{lam l:Nat}
@[go_sem] theorem IS{p:Nat}{ps:List Nat}{v:AV}:mJ f (p::ps) (v::vs)=mJ (upd f p v) ps vs:=l0 rfl rfl
@[go_sem] theorem Lo:mJ f [] vs=f:=l0 rfl rfl
def IT (Pr:Nat→Prop) (J1 Jx:(Nat→Nat)→Obs→Prop) (g:Nat→Nat) (ob:Obs):Exit→St→Prop
 |.normal,s=>(∀id,Pr id→s.gen id=g id∧s.obj id=ob id)∧J1 s.gen s.obj
 |.ret,s=>(∀id,Pr id→s.gen id=g id∧s.obj id=ob id)∧Jx s.gen s.obj
 |_,_=>False
@[go_sem] theorem Hz:IT Pr J1 Jx g ob .normal s=((∀id,Pr id→s.gen id=g id∧s.obj id=ob id)∧J1 s.gen s.obj):=l0 rfl rfl
def MH (P:Program) (T:Nat→TI) (b₀:Bs) (B lam l:Nat) (Pr:Nat→Prop) (body:Code) (J1 Jx:(Nat→Nat)→Obs→Prop) (g:Nat→Nat) (ob:Obs):Exit→St→Prop
 |.normal,s=>(∀id,Pr id→s.gen id=g id∧s.obj id=ob id)∧∀(o:Obj) (Φ:St→Loc→List Deferred→World→Prop),aE b₀ Φ→
    wpC (spF P (some l) b₀ Φ B iN) T body (bx (IT Pr J1 Jx s.gen (upd s.obj lam (some [.raw o])))) ⟨s.f,s.gen,upd s.obj lam (some [.raw o])⟩
 |_,_=>False
@[go_sem] theorem HA {P:Program}{T:Nat→TI}{b₀:Bs}{B lam l:Nat}{body:Code} :
  MH P T b₀ B lam l Pr body J1 Jx g ob .normal s=((∀id,Pr id→s.gen id=g id∧s.obj id=ob id)∧∀(o:Obj) (Φ:St→Loc→List Deferred→World→Prop),aE b₀ Φ→
   wpC (spF P (some l) b₀ Φ B iN) T body (bx (IT Pr J1 Jx s.gen (upd s.obj lam (some [.raw o])))) ⟨s.f,s.gen,upd s.obj lam (some [.raw o])⟩):=l0 rfl rfl
section
variable {P:Program}{T:Nat→TI}{b₀:Bs}{β:Loc}{w:World}
theorem qL {N:Nat}{a:Act} (hr:Rel b₀ N s β a w){o:Obj} (ho:s.obj lam=some [.raw o]) (hβ:β lam=some ⟨l,0,some 100⟩):w.heap[l]? = some o:=by
 have h:=hr.obj lam _ ho
 rw[hβ] at h
 obtain⟨_,⟨es,clock,_,h2⟩|⟨_,o',h1,h2⟩⟩:=h.map rfl
 ·generalize es.toList=el at h2
  cases h2
 ·simp only[N4,C.raw.injEq,I6] at h1
  subst h1;exact h2
theorem na {N:Nat}{a:Act} (hr:Rel b₀ N ⟨f,g,ob⟩ β a w){o:Obj} (ho:ob lam=some [.raw o]) (hβ:β lam=some ⟨l,0,some 100⟩) (o':Obj) (hno:∀arr el fr,o'≠.cells arr el fr) :
  Rel b₀ N ⟨f,g,upd ob lam (some [.raw o'])⟩ β a (w.putObj l o')∧Tr b₀ β ⟨f,g,ob⟩ w β ⟨f,g,upd ob lam (some [.raw o'])⟩ (w.putObj l o'):=by
 have hB:b₀.B≤l:=by
  have h:=hr.obj lam _ ho
  rw[hβ] at h
  exact h.block.1
 have hlt:l<w.heap.size:=(A1.1 (qL hr ho hβ)).1
 have hother:∀b,b≠l→(w.putObj l o').heap[b]? = w.heap[b]?:=fun b hb=>World.putObj_heap_other hb
 have hsome:∀i,(upd ob lam (some [.raw o']) i).isSome=(ob i).isSome:=fun i=>by
  simp only[upd]
  split
  ·rename_i he;rw[he,ho];rfl
  ·rfl
 have hkeep:dw b₀ β g ob w β g (upd ob lam (some [.raw o'])) (w.putObj l o'):=by
  refine⟨fun b hb=>?_,fun _=>l4 _,fun i _ hi'=>?_⟩
  ·have hne:b≠l:=fun he=>hb.2.2 lam _ (by simp[ho]) hβ he.symm
   exact⟨⟨by simpa using hb.1,hb.2.1,fun i a' hi'=>hb.2.2 i a' (by rw[←hsome i];exact hi')⟩,hother b hne⟩
  ·rw[hsome i] at hi'
   refine⟨hi',rfl,fun a' ha' arr1 el1 fr1 h1=>?_⟩
   by_cases hb:a'.block=l
   ·rw[hb,World.putObj_heap_same hlt] at h1
    exact absurd (C3 h1) (hno _ _ _)
   ·simp only[hother _ hb] at h1
    exact⟨arr1,el1,fr1,h1,l4 _⟩
 refine⟨⟨hr.defers,hr.size,fun i=>ag.keep hkeep _ (hr.f i),fun i cells' hc'=>?_,fun i i' a1 a2 h1 h2=>hr.inj i i' a1 a2 (by rw[←hsome i];exact h1) (by rw[←hsome i'];exact h2),by simpa using hr.base⟩,
  by simp,fun b hb=>hother b a7,hkeep,rfl,rfl⟩
 by_cases hid:i=lam
 ·subst hid
  simp only[upd,A4,u2] at hc'
  subst hc'
  rw[hβ]
  exact .ofMap (kd:=100) rfl ⟨hB,.inr ⟨rfl,o',rfl,World.putObj_heap_same hlt⟩⟩
 ·have hc'':ob i=some cells':=by simpa[upd,hid] using hc'
  exact(hr.obj i cells' hc'').keep hkeep (fun a' ha'=>hother _ (fun hb=>hid (hr.inj i lam a' ⟨l,0,some 100⟩ (by simp[hc'']) (by simp[ho]) ha' hβ hb)))
theorem sQ {g:Nat→Nat}{ob:Obs}:∀{ps:List Nat}{xs:List AV}{vs:List Value}{f:Nat→AV}{t:Array Value},(∀p∈ps,p<t.size)→(∀i,ag b₀ β g ob w (f i) (t.getD i undef))→ax b₀ β g ob w xs vs→
  (∀i,ag b₀ β g ob w (mJ f ps xs i) (((ps.zip vs).foldl (fun t (p:Nat×Value)=>t.setIfInBounds p.1 p.2) t).getD i undef))∧((ps.zip vs).foldl (fun t (p:Nat×Value)=>t.setIfInBounds p.1 p.2) t).size=t.size
 |[],xs,vs,f,t,_,h,_=>⟨by simpa[mJ] using h,rfl⟩
 |p::ps,[],vs,f,t,hp,h,hv=>by
   simp only[ax] at hv
   subst hv
   exact⟨by simpa[mJ] using h,rfl⟩
 |p::ps,x::xs,vs,f,t,hp,h,hv=>by
   simp only[ax] at hv
   obtain⟨u,us,rfl,h1,h2⟩:=hv
   simp only[List.zip_cons_cons,L4,mJ]
   have:=sQ (ps:=ps) (xs:=xs) (vs:=us) (f:=upd f p x) (t:=t.setIfInBounds p u) (fun q hq=>by simpa using hp q (by simp[hq])) (fun i=>by
    simp only[upd]
    have hlt:=hp p a8
    by_cases hi:i=p
    ·subst hi
     simpa[Array.getD,hlt] using h1
    ·have hf:=h i
     simp only[hi,A3]
     simpa[u1,H8 (y9 hi)] using hf) h2
   refine⟨this.1,by rw[this.2];simp⟩
end
end
section
section
variable {P:Program}{T:Nat→TI}{b₀:Bs}{β:Loc}{w:World}
theorem vu {β:Loc}{ob:Obs}{n₀:Nat}:∀{ds:List Deferred},Mk b₀ β ob w n₀ ds→∀d∈ds,d≠{ target:=.collected w.heap.size,args:=#[]}
 |[],_,d,hd,_=>by cases hd
 |d0::ds,hm,d,hd,he=>by
   obtain⟨⟨D,h1,_,h3,_,_⟩,hr⟩:=hm
   rcases x8.1 hd with rfl|hd
   ·rw[h1] at he
    simp only[Deferred.mk.injEq,Target.collected.injEq,I6] at he
    have:=h3.1
    omega
   ·exact vu hr d hd he
theorem nb {α:Type}{Fin:(Nat→Nat)→Obs→Prop} (hT:aF P T) {gop:Operand}{ps:Array Tmp}{assign body:Code}{s:St}{Q:Exit→St→Prop}{q:Box Q}{B:Nat}{β0:Loc}{s0:St}{w0:World}{fid:FuncId}{caps:List PC} (hg:s.ev gop=.one (.clo fid caps))
  (lam:Nat) (Pr own:Nat→Prop) (hPl:Pr lam) (hol:¬own lam) (hop:∀id,own id→Pr id) (enc:α→List AV) (xs:List α) (henc:∀x,(enc x).length=ps.size)
  (hcm:calm assign=true) (hcm2:calm body=true)
  (hit:∀g ob,(∀id,id≠lam→g id=s.gen id∧ob id=s.obj id)→yF P fid (caps.map fE) own enc g ob xs Fin)
  (hFin:∀g ob g' ob',Fin g ob→(∀id,id≠lam→g' id=g id∧ob' id=ob id)→Fin g' ob')
  (J:Nat→(Nat→Nat)→Obs→Prop) (Jx:(Nat→Nat)→Obs→Prop) (hJ:∀k g ob g' ob',J k g ob→(∀id,¬Pr id→g' id=g id∧ob' id=ob id)→J k g' ob') (hJx:∀g ob g' ob',Jx g ob→(∀id,¬Pr id→g' id=g id∧ob' id=ob id)→Jx g' ob')
  (h0:J 0 s.gen s.obj)
  (hround:∀(k:Nat) (x:α) (g:Nat→Nat) (ob:Obs),xs[k]? = some x→J k g ob→∀(l:Nat) (Φ:St→Loc→List Deferred→World→Prop),aE b₀ Φ→
    wpC (spF P (some l) b₀ Φ B iN) T assign (bx (MH P T b₀ B lam l Pr body (J (k+1)) Jx g ob)) ⟨mJ s.f ps.toList (enc x),g,ob⟩)
  (hdone:∀g' ob',J xs.length g' ob'→Fin g' ob'→Q .normal ⟨s.f,g',ob'⟩) (hret:∀g' ob',Jx g' ob'→Q .ret ⟨s.f,g',ob'⟩) (hf1:fid<1000000:=by decide) :
  yy (spF P none b₀ (zN b₀ β0 s0 w0) B iN) (.rangeFunc gop ps assign body) s q:=by
 refine⟨Q,fun N β a ds w hc hr hφ=>?_,fun _ _ h=>h⟩
 simp only[codeOk,l9] at hc
 have hsl:∀p∈ps.toList,p<N:=fun p hp=>G3 (s7.1 hc.1.1 p hp)
 have hc:codeOk N assign=true∧codeOk N body=true:=⟨hc.1.2,hc.2⟩
 refine wpIn_rangeFunc fun fn _=>?_
 obtain⟨rec,hrec⟩:∃rec:LoopState→Option Code→Loop,rec=fun st pe=>{ state:=st,pending:=pe,fn,tmps:=a.tmps,params:=ps,assign,body,defers:=w.heap.size }:=⟨_,rfl⟩
 obtain⟨f,g,ob⟩:=s
 -- the two blocks
 obtain⟨hrD,htD⟩:=hr.grow (w':=w.alloc (.deferred (some []))) a8 (fun b hb=>RowKit.Below.heap_alloc w _ b hb) ⟨rfl,rfl⟩
 have hD0:(w.alloc (.deferred (some []))).heap[w.heap.size]? = some (.deferred (some [])):=World.alloc_heap_new w _
 have himD:Imm b₀ β ob (w.alloc (.deferred (some []))) w.heap.size:=by
  refine⟨a8,fun h=>absurd hr.base a7,fun id a' ho hβ he=>?_⟩
  obtain⟨cells,hcells⟩:=G8.1 ho
  have:=hr.obj id cells hcells
  rw[hβ] at this
  have:=this.block.2
  omega
 obtain⟨W1,hW1⟩:∃W1,(w.alloc (.deferred (some []))).alloc (.loop (rec .ready none))=W1:=⟨_,rfl⟩
 have hsz1:(w.alloc (.deferred (some []))).heap.size=w.heap.size+1:=a8
 obtain⟨hr1,ht1⟩:=hrD.newAny (c:=0) lam (w':=(w.alloc (.deferred (some []))).alloc (.loop (rec .ready none))) (o:=.loop (rec .ready none)) (ad:=⟨w.heap.size+1,0,some 100⟩) (cs:=[.raw (.loop (rec .ready none))]) a8 rfl ⟨rfl,rfl⟩
  (fun _=>.ofMap (kd:=100) rfl ⟨by have:=hrD.base;simp at this ⊢;omega,.inr ⟨rfl,_,rfl,by have:=World.alloc_heap_new (w.alloc (.deferred (some []))) (.loop (rec .ready none));rwa [hsz1] at this⟩⟩)
 rw[hW1] at hr1 ht1
 obtain⟨l,hl⟩:∃l,w.heap.size+1=l:=⟨_,rfl⟩
 rw[hl] at hr1 ht1
 obtain⟨g1,hg1⟩:∃g1,upd g lam (nxC 0 (g lam))=g1:=⟨_,rfl⟩
 obtain⟨ob1,hob1⟩:∃ob1,upd ob lam (some [C.raw (.loop (rec .ready none))])=ob1:=⟨_,rfl⟩
 obtain⟨β1,hβ1⟩:∃β1,upd β lam (some (⟨l,0,some 100⟩:Addr))=β1:=⟨_,rfl⟩
 have hr1:Rel b₀ N ⟨f,g1,ob1⟩ β1 a W1:=by rw[←hg1,←hob1,←hβ1];exact hr1
 have ht1:Tr b₀ β ⟨f,g,ob⟩ (w.alloc (.deferred (some []))) β1 ⟨f,g1,ob1⟩ W1:=by rw[←hg1,←hob1,←hβ1];exact ht1
 have htW:Tr b₀ β ⟨f,g,ob⟩ w β1 ⟨f,g1,ob1⟩ W1:=htD.trans ht1
 have hob1l:ob1 lam=some [C.raw (.loop (rec .ready none))]:=by rw[←hob1];simp[upd]
 have hβ1l:β1 lam=some ⟨l,0,some 100⟩:=by rw[←hβ1];simp[upd]
 have hagree:∀id,id≠lam→g1 id=g id∧ob1 id=ob id:=fun id hid=>by rw[←hg1,←hob1];simp[upd,hid]
 -- the iterator
 obtain⟨hfine,hiter⟩:=hit g1 ob1 hagree
 have hvg:=hr.ev gop
 rw[hg] at hvg
 simp only[ag,aw] at hvg
 obtain⟨vs,hv1,hv2,hv3⟩:=hvg
 rw[nA hf1] at hv1
 have hcv:ax b₀ β g ob w (caps.map fE) vs.toList:=jR (by simpa using hv2) (fun i pc hi=>let ⟨u,h1,h2⟩:=hv3 i pc hi;⟨u,by simpa using h1,h2⟩)
 have hcv1:ax b₀ β1 g1 ob1 W1 (caps.map fE) vs.toList:=ax.keep htW.keep _ hcv
 obtain⟨Φ,hΦd⟩:∃Φ:(Nat→Nat)→Obs→Loc→World→Prop,Φ=fun g' ob' β' w'=>Tr b₀ β1 ⟨f,g1,ob1⟩ W1 β' ⟨f,g',ob'⟩ w':=⟨_,rfl⟩
 have hΦ:aE b₀ (qK Φ):=fun s β ds w s' β' w' h ht=>⟨h.1,by
  have h2:=h.2
  rw[hΦd] at h2 ⊢
  have ht':Tr b₀ β ⟨f,s.gen,s.obj⟩ w β' ⟨f,s'.gen,s'.obj⟩ w':=⟨ht.size,ht.old,ht.keep,ht.os⟩
  exact h2.trans ht'⟩
 -- the record's place stays
 have hplace:∀{g':Nat→Nat}{ob':Obs}{β':Loc}{w':World}{o:Obj},Φ g' ob' β' w'→g' lam=g1 lam→ob' lam=some [.raw o]→β' lam=some ⟨l,0,some 100⟩:=fun h h1 h2=>by
  rw[hΦd] at h
  obtain⟨_,h3,_⟩:=h.keep.live lam h1 (by simp[h2])
  rw[h3];exact hβ1l
 have hcalls:=hiter b₀ Φ l (fun k g' ob'=>J k g' ob'∧g' lam=g1 lam∧ob' lam=some [.raw (.loop (rec .ready none))]) (fun g' ob'=>Jx g' ob'∧g' lam=g1 lam∧ob' lam=some [.raw (.loop (rec .done (some .ret)))]) hΦ
  (fun k g2 ob2 g' ob' h hs=>⟨hJ _ _ _ _ _ h.1 (fun id hid=>hs id (fun ho=>hid (hop id ho))),by rw[(hs lam hol).1];exact h.2.1,by rw[(hs lam hol).2];exact h.2.2⟩)
  (fun g2 ob2 g' ob' h hs=>⟨hJx _ _ _ _ h.1 (fun id hid=>hs id (fun ho=>hid (hop id ho))),by rw[(hs lam hol).1];exact h.2.1,by rw[(hs lam hol).2];exact h.2.2⟩)
  ?round ⟨hJ 0 g ob g1 ob1 h0 (fun id hid=>hagree id (fun h=>hid (h▸hPl))),b9,hob1l⟩ N β1 a f W1 vs.toList hr1 (by rw[hΦd];exact Tr.refl) hcv1
 case round=>
  rintro k x g2 ob2 hx ⟨hJk,hgl,hol2⟩ N2 β2 a2 fa w2 us hr2 hφ2 hus
  have hβ2:=hplace hφ2 hgl hol2
  have hl2:=qL hr2 hol2 hβ2
  have ht2:Tr b₀ β1 ⟨f,g1,ob1⟩ W1 β2 ⟨f,g2,ob2⟩ w2:=by rw[hΦd] at hφ2;exact hφ2
  have hlen:us.length=ps.size:=by rw[hus.len,henc]
  have hy:=run_yield (P:=P) (args:=us.toArray) hl2 (by rw[hrec];simpa using hlen)
  obtain⟨hset,hsize⟩:=sQ (ps:=ps.toList) (xs:=enc x) (vs:=us) (f:=f) (t:=a.tmps) (fun p hp=>by rw[hr.size];exact hsl p hp) (fun i=>ag.keep ht2.keep _ (hr1.f i)) hus
  obtain⟨T0,hT0⟩:∃T0,(ps.toList.zip us).foldl (fun t (p:Nat×Value)=>t.setIfInBounds p.1 p.2) a.tmps=T0:=⟨_,rfl⟩
  rw[hT0] at hset hsize
  have hfold:((ps.zip us.toArray).foldl (fun tmps (t,v)=>tmps.setIfInBounds t v) a.tmps)=T0:=by
   rw[←hT0,←Array.foldl_toList]
   simp
  have hy:(Instr.yield l us.toArray).run P w2=.ok (.round l fn T0 assign body) w2:=by rw[hy,hrec];simp only;rw[hfold]
  refine⟨fn,T0,assign,body,hy,roundIn_of_wpIn trivial ?_⟩
  show Code.wpIn (fen (some l)) 0 P assign _ _ _
  have hrR:Rel b₀ N ⟨mJ f ps.toList (enc x),g2,ob2⟩ β2 { tmps:=T0,defers:=[]} w2:=⟨rfl,by simp only;rw[hsize,hr.size],hset,hr2.obj,hr2.inj,hr2.base⟩
  obtain⟨ΦR,hΦRd⟩:∃ΦR:(Nat→Nat)→Obs→Loc→World→Prop,ΦR=fun g' ob' β' w'=>Tr b₀ β2 ⟨fa,g2,ob2⟩ w2 β' ⟨fa,g',ob'⟩ w':=⟨_,rfl⟩
  have hΦR:aE b₀ (qK ΦR):=fun s β ds w s' β' w' h ht=>⟨h.1,by
   have h2:=h.2
   rw[hΦRd] at h2 ⊢
   have ht':Tr b₀ β ⟨fa,s.gen,s.obj⟩ w β' ⟨fa,s'.gen,s'.obj⟩ w':=⟨ht.size,ht.old,ht.keep,ht.os⟩
   exact h2.trans ht'⟩
  refine wpIn_mono (eM (rd:=some l) (B:=B) (ds:=[]) hT hΦR assign hcm hc.1 hrR ⟨rfl,by rw[hΦRd];exact Tr.refl⟩ (hround k x g2 ob2 hx hJk l _ hΦR)) (fun e a' w3 hp=>?_)
  obtain⟨s3,β3,a3,ds3,rfl,hQ,hr3,rfl,hφ3⟩:=hp.plain
  cases e with
  |normal=>
    obtain⟨hsame,hbody⟩:=hQ
    obtain⟨f3,g3,ob3⟩:=s3
    have ht3:Tr b₀ β2 ⟨fa,g2,ob2⟩ w2 β3 ⟨fa,g3,ob3⟩ w3:=by rw[hΦRd] at hφ3;exact hφ3
    have hs3:=hsame lam hPl
    simp only at hs3
    have hol3:ob3 lam=some [C.raw (.loop (rec .ready none))]:=by rw[hs3.2];exact hol2
    have hβ3:β3 lam=some ⟨l,0,some 100⟩:=by rw[(ht3.keep.live lam hs3.1 (by simp[hol3])).2.1];exact hβ2
    have hl3:=qL hr3 hol3 hβ3
    have hbeg:=run_beginRound (P:=P) hl3 (by rw[hrec])
    obtain⟨o4,ho4,hno4⟩:∃o4,Obj.loop { rec .ready none with state:=.busy }=o4∧∀arr el fr,o4≠.cells arr el fr:=⟨_,rfl,by intro _ _ _ h;cases h⟩
    rw[ho4] at hbeg
    obtain⟨hr4,t4⟩:=na hr3 hol3 hβ3 o4 hno4
    have t4':Tr b₀ β3 ⟨fa,g3,ob3⟩ w3 β3 ⟨fa,g3,upd ob3 lam (some [.raw o4])⟩ (w3.putObj l o4):=⟨t4.size,t4.old,t4.keep,t4.os⟩
    refine⟨_,hbeg,?_⟩
    show Code.wpIn (fen (some l)) 0 P body _ _ _
    refine wpIn_mono (eM (rd:=some l) (B:=B) (ds:=[]) hT hΦR body hcm2 hc.2 hr4 ⟨rfl,by rw[hΦRd];exact ht3.trans t4'⟩ (hbody o4 _ hΦR)) (fun e a' w5 hp=>?_)
    obtain⟨s5,β5,a5,ds5,rfl,hQ,hr5,rfl,hφ5⟩:=hp.plain
    obtain⟨f5,g5,ob5⟩:=s5
    have ht5:Tr b₀ β2 ⟨fa,g2,ob2⟩ w2 β5 ⟨fa,g5,ob5⟩ w5:=by rw[hΦRd] at hφ5;exact hφ5
    have fin:(∀id,Pr id→g5 id=g3 id∧ob5 id=upd ob3 lam (some [C.raw o4]) id)→∀(jump:Option Code) (st:LoopState),(if jump.isNone then LoopState.ready else .done)=st→
      ∃w6,(Instr.endRound l jump).run P w5=.ok (.bool jump.isNone) w6∧Rel b₀ N ⟨f5,g5,upd ob5 lam (some [.raw (.loop (rec st jump))])⟩ β5 a5 w6∧Tr b₀ β2 ⟨fa,g2,ob2⟩ w2 β5 ⟨fa,g5,upd ob5 lam (some [.raw (.loop (rec st jump))])⟩ w6∧
       (∀id,own id→g5 id=g2 id∧upd ob5 lam (some [.raw (.loop (rec st jump))]) id=ob2 id)∧g5 lam=g1 lam:=by
     intro hs jump st hst
     have h5:=hs lam hPl
     have hol5:ob5 lam=some [C.raw o4]:=by rw[h5.2];simp[upd]
     have hβ5:β5 lam=some ⟨l,0,some 100⟩:=by rw[(ht5.keep.live lam (by simp only;rw[h5.1,hs3.1]) (by simp[hol5])).2.1];exact hβ2
     have hl5:=qL hr5 hol5 hβ5
     rw[←ho4] at hl5
     have hend:=run_endRound (P:=P) jump hl5
     have ho6:Obj.loop { ({ rec .ready none with state:=.busy }:Loop) with state:=if jump.isNone then .ready else .done,pending:=jump }=.loop (rec st jump):=by rw[hst,hrec]
     rw[ho6] at hend
     obtain⟨r6,t6⟩:=na hr5 hol5 hβ5 (.loop (rec st jump)) (by intro _ _ _ h;cases h)
     have t6':Tr b₀ β5 ⟨fa,g5,ob5⟩ w5 β5 ⟨fa,g5,upd ob5 lam (some [.raw (.loop (rec st jump))])⟩ (w5.putObj l (.loop (rec st jump))):=⟨t6.size,t6.old,t6.keep,t6.os⟩
     refine⟨_,hend,r6,ht5.trans t6',fun id ho=>?_,by rw[h5.1,hs3.1,hgl]⟩
     have hne:id≠lam:=fun he=>hol (he▸ho)
     have e5:=hs id (hop id ho)
     have e3:=hsame id (hop id ho)
     simp only[upd,hne,A3] at e5 ⊢
     exact⟨e5.1.trans e3.1,e5.2.trans e3.2⟩
    cases e with
    |normal=>
      obtain⟨hs,hJ1⟩:=hQ
      obtain⟨w6,e1,e2,e3,e4,e5⟩:=fin hs none .ready rfl
      refine⟨_,w6,e1,_,bv true,g5,_,β5,rfl,⟨e4,.inl ⟨rfl,hJ _ _ _ _ _ hJ1 (fun id hid=>⟨rfl,?_⟩),e5,by simp[upd]⟩⟩,by simp only[ag,aw];exact .bool _,e2.obj,e2.inj,e3⟩
      simp only[upd];rw[if_neg (fun he=>hid (by rw[he];exact hPl))]
    |ret=>
      obtain⟨hs,hJ1⟩:=hQ
      obtain⟨w6,e1,e2,e3,e4,e5⟩:=fin hs (some .ret) .done rfl
      refine⟨_,w6,e1,_,bv false,g5,_,β5,rfl,⟨e4,.inr ⟨rfl,hJx _ _ _ _ hJ1 (fun id hid=>⟨rfl,?_⟩),e5,by simp[upd]⟩⟩,by simp only[ag,aw];exact .bool _,e2.obj,e2.inj,e3⟩
      simp only[upd];rw[if_neg (fun he=>hid (by rw[he];exact hPl))]
    |exit id=>exact hQ.elim
    |goto t=>exact hQ.elim
    |panic ch=>exact hQ.elim
    |outgrown=>exact hQ.elim
  |exit id=>exact hQ.elim
  |goto t=>exact hQ.elim
  |ret=>exact hQ.elim
  |panic ch=>exact hQ.elim
  |outgrown=>exact hQ.elim
 have henter:=run_enterLoop_outer (P:=P) (w:=w) fn a.tmps ps assign body
 rw[show ((w.alloc (.deferred (some []))).alloc (.loop { state:=.ready,pending:=none,fn,tmps:=a.tmps,params:=ps,assign,body,defers:=w.heap.size }))=W1 from by rw[←hW1,hrec],hl] at henter
 refine⟨l,[{ target:=.collected w.heap.size,args:=#[]}],W1,{ target:=.fn (.func fid) vs,args:=#[.func (.yield l) #[] #[]]},W1,fid,#[.func (.yield l) #[] #[]]++vs,W1,henter,?_,fun _ _=>trivial,?_,fun h=>(by cases h),?_⟩
 ·have:({ a with defers:=ds }:Act).eval gop=a.eval gop:=rfl
  simp only[resolve,this,hv1]
  simp[go_sem]
 ·obtain⟨fn',h1,h2,h3⟩:=hfine
  have h2:¬fn'.body=none:=by intro h;rw[h] at h2;simp at h2
  have h3:¬fn'.name = "runtime.NumGoroutine":=by simpa using h3
  simp[invoke,callFunc,h1,h2,h3]
 ·rw[show vs.toList.toArray=vs from F7 a8] at hcalls
  refine hcalls.mono ?_
  rintro e W3 ⟨v,g3,ob3,β3,rfl,hout,hob3,hin3,hB3,hφ3⟩
  have ht3:Tr b₀ β1 ⟨f,g1,ob1⟩ W1 β3 ⟨f,g3,ob3⟩ W3:=by rw[hΦd] at hφ3;exact hφ3
  have hr3:Rel b₀ N ⟨f,g3,ob3⟩ β3 a W3:=⟨hr.defers,hr.size,fun i=>ag.keep ht3.keep _ (hr1.f i),hob3,hin3,hB3⟩
  have fin:∀(st:LoopState) (pe:Option Code),st≠.busy→g3 lam=g1 lam→ob3 lam=some [C.raw (.loop (rec st pe))]→
    ∃w4 o4,(Instr.endLoop l).run P W3=.ok pe w4∧Rel b₀ N ⟨f,g3,upd ob3 lam (some [.raw o4])⟩ β3 a w4∧
     zN b₀ β0 s0 w0 ⟨f,g3,upd ob3 lam (some [.raw o4])⟩ β3 ([{ target:=.collected w.heap.size,args:=#[]}]++ds) w4:=by
   intro st pe hst h1 h2
   have hβ3:=hplace hφ3 h1 h2
   have hl3:=qL hr3 h2 hβ3
   have hend:=run_endLoop (P:=P) hl3 (by rw[hrec];exact hst)
   have hpe:(rec st pe).pending=pe:=by rw[hrec]
   obtain⟨o4,ho4,hno⟩:∃o4,Obj.loop { rec st pe with state:=.exhausted }=o4∧∀arr el fr,o4≠.cells arr el fr:=⟨_,rfl,by intro _ _ _ h;cases h⟩
   rw[ho4,hpe] at hend
   obtain⟨r4,t4⟩:=na hr3 h2 hβ3 o4 hno
   refine⟨_,o4,hend,r4,hφ.1.trans (htW.trans (ht3.trans t4)),⟨w.heap.size,rfl,hφ.1.size,?_,?_,fun d' hd' he=>?_⟩,hφ.2.keep (htW.trans (ht3.trans t4))⟩
   ·exact((ht1.trans (ht3.trans t4)).imm _ himD).1
   ·rw[((ht1.trans (ht3.trans t4)).imm _ himD).2];exact hD0
   ·exact vu hφ.2 d' hd' he
  rcases hout with⟨⟨hJn,h1,h2⟩,hFn⟩|⟨hJxn,h1,h2⟩
  ·obtain⟨w4,o4,e1,e2,e3⟩:=fin _ _ a8 h1 h2
   refine⟨none,w4,e1,_,β3,a,_,rfl,.inl<|hdone _ _ (hJ _ _ _ _ _ hJn (fun id hid=>⟨rfl,?_⟩)) (hFin _ _ _ _ hFn (fun id hid=>⟨rfl,by simp[upd,hid]⟩)),e2,e3⟩
   simp only[upd];rw[if_neg (fun he=>hid (by rw[he];exact hPl))]
  ·obtain⟨w4,o4,e1,e2,e3⟩:=fin _ _ a8 h1 h2
   refine⟨some .ret,w4,e1,wpIn_ret ⟨_,β3,a,_,rfl,.inl<|hret _ _ (hJx _ _ _ _ hJxn (fun id hid=>⟨rfl,?_⟩)),e2,e3⟩⟩
   simp only[upd];rw[if_neg (fun he=>hid (by rw[he];exact hPl))]
end
end
end
section
section
variable {cells:List C}
section
variable {P:Program}{T:Nat→TI}{b₀:Bs}{β:Loc}{w:World}
def St.claimAt (s:St) (o b j sz:Nat) (cells:List C):St:=⟨s.f,upd s.gen b (s.gen b+1),upd (upd s.obj o (some (cells.set j (.osl b (s.gen b+1) sz 0 0)))) b (some [])⟩
theorem vn {s:St}{t o b j sz:Nat} (ht:(∃off,s.f t=.one (.ptr o (s.gen o) off))∨∃sz off len,s.f t=.one (.osl o (s.gen o) sz off len)) (ho:s.obj o=some cells) (hj:cells[j]? = some (.d .nsl)) (n1:o≠b):ah s (s.claimAt o b j sz cells):=by
 intro b₀ N β a w hr
 let β':Loc:=fun i=>if i=b then none else β i
 have hlive:∀i,i≠b→((s.claimAt o b j sz cells).obj i).isSome=true→(s.obj i).isSome=true:=fun i hib hi=>by
  simp only[St.claimAt,upd,if_neg hib] at hi
  by_cases e2:i=o
  ·subst e2;rw[ho];rfl
  ·rwa [if_neg e2] at hi
 have hkeep:dw b₀ β s.gen s.obj w β' (s.claimAt o b j sz cells).gen (s.claimAt o b j sz cells).obj w:=by
  refine⟨fun x hx=>⟨⟨hx.1,hx.2.1,fun i a' hi hβ=>?_⟩,rfl⟩,fun i=>?_,fun i hg hi=>?_⟩
  ·by_cases hib:i=b
   ·simp[β',hib] at hβ
   ·simp only[β',if_neg hib] at hβ
    exact hx.2.2 i a' (hlive i hib hi) hβ
  ·simp only[St.claimAt,upd];split
   ·rename_i e;subst e;omega
   ·omega
  ·by_cases hib:i=b
   ·subst hib;simp[St.claimAt,upd] at hg
   ·exact⟨hlive i hib hi,by simp[β',hib],fun a' _ arr el fr h=>⟨arr,el,fr,h,l4 _⟩⟩
 have hspot:∀ad,β o=some ad→ad.spot=none:=fun ad hβ=>by
  have hv:=hr.f t
  rcases ht with⟨off,ht⟩|⟨sz,off,len,ht⟩
  ·rw[ht] at hv
   simp only[ag,aw] at hv
   obtain⟨a',h1,h2,_⟩:=hv.2.2 trivial (by rw[ho];rfl)
   rw[hβ] at h1;cases h1;exact h2
  ·rw[ht] at hv
   simp only[ag] at hv
   exact(gg hv rfl (by rw[ho];rfl)).spot ad hβ
 refine⟨β',⟨hr.defers,hr.size,fun i=>ag.keep hkeep _ (hr.f i),fun i cells' hc'=>?_,fun i1 i2 a1 a2 l1 l2 b1 b2 hb=>?_,hr.base⟩,l4 _,fun _ _=>rfl,hkeep,rfl,rfl⟩
 ·by_cases hib:i=b
  ·subst hib
   simp only[St.claimAt,upd,A4,u2] at hc'
   subst hc'
   simp only[β',A4]
   rfl
  ·by_cases e2:i=o
   ·subst e2
    simp only[St.claimAt,upd,if_neg hib,A4,u2] at hc'
    subst hc'
    have hob:=hr.obj i cells ho
    have hβ':β' i=β i:=by simp[β',n1]
    rw[hβ']
    cases hβ:β i with
    |none=>rw[hβ] at hob;have:cells=[]:=hob;subst this;simp at hj
    |some ad=>
      rw[hβ] at hob
      obtain⟨g1,arr,el,lo,hi,g2,g3,g4,g5⟩:=hob.cells (hspot ad hβ)
      refine .ofCells (hspot ad hβ) ⟨g1,arr,el,lo,hi,g2,by simpa[St.claimAt,upd,hib] using g3,by simpa using g4,fun k c hk=>?_⟩
      by_cases hkj:k=j
      ·subst hkj
       have hlt:=(l5.1 hj).1
       rw[List.getElem?_set_self hlt] at hk
       cases hk
       obtain⟨v,hv,hrv⟩:=g5 k _ hj
       simp only[aw] at hrv
       obtain rfl:=hrv.inv_nsl
       refine⟨_,hv,rfl,by simp[St.claimAt,upd],fun _ _=>?_⟩
       simp only[β',A4]
       exact⟨rfl,rfl⟩
      ·rw[P2 (y9 hkj)] at hk
       obtain⟨v,hv,hrv⟩:=g5 k c hk
       exact⟨v,hv,hrv.keep hkeep⟩
   ·simp only[St.claimAt,upd,if_neg hib,if_neg e2] at hc'
    have:=(hr.obj i cells' hc').keep hkeep (fun _ _=>rfl)
    simpa[β',hib,St.claimAt,upd] using this
 ·have h1:i1≠b:=fun e=>by simp[β',e] at b1
  have h2:i2≠b:=fun e=>by simp[β',e] at b2
  simp only[β',if_neg h1] at b1
  simp only[β',if_neg h2] at b2
  exact hr.inj i1 i2 a1 a2 (hlive i1 h1 l1) (hlive i2 h2 l2) b1 b2 hb
theorem cl {s:St}{t o b j sz off:Nat} (ht:s.f t=.one (.ptr o (s.gen o) off)) (ho:s.obj o=some cells) (hj:cells[j]? = some (.d .nsl)) (n1:o≠b):ah s (s.claimAt o b j sz cells):=
 vn (.inl ⟨off,ht⟩) ho hj n1
end
end
end
section
attribute [local congr] Go.Am.ite_cc
section
variable {s:St}{K:List AV→Prop}{T:Nat→TI}{fn:Func}{g:Nat→Nat}{rs:List ResultVar}{R:AV→Prop}{r:List ResultVar}{k:Box K}
section
variable {P:Program}{T:Nat→TI}{b₀:Bs}{β:Loc}{w:World}
def iu (T:Nat→TI) (s:St):List ResultVar→{K:List AV→Prop}→Box K→Prop
 |[],K,_=>K []
 |.tmp t::r,K,_=>iu T s r (bx fun vs=>K (s.f t::vs))
 |.cell a ty::r,K,_=>pF (T ty) s (s.f a) (bx fun v=>iu T s r (bx fun vs=>K (v::vs)))
theorem lz (hT:aF P T) {N:Nat}{s:St}{a:Act} (hr:Rel b₀ N s β a w) :
  ∀(rs:List ResultVar) {K:List AV→Prop}{k:Box K},iu T s rs k→∃vs avs,(∀g:ResultVar→Sem Value,(∀t,g (.tmp t)=pure (a.tmps.getD t undef))→(∀x t,g (.cell x t)=do loadVar t (←asAddr (a.tmps.getD x undef)))→(rs.mapM g).run P w=.ok vs w)∧K avs∧ax b₀ β s.gen s.obj w avs vs
 |[],K,k,h=>⟨[],[],fun _ _ _=>by simp,h,by simp only[ax]⟩
 |.tmp t::r,K,k,h=>by
   obtain⟨vs,avs,h1,h2,h3⟩:=lz hT hr r h
   refine⟨_::vs,_::avs,fun g hg hg2=>?_,h2,by simp only[ax];exact⟨_,_,rfl,hr.f t,h3⟩⟩
   simp only[O2,Sem.run_bind,hg,Sem.run_pure,Result.andThen_ok,h1 g hg hg2]
 |.cell x ty::r,K,k,h=>by
   unfold iu at h
   obtain⟨y,cv,hK,hrun,hrep⟩:=pM hT hr h (hr.f x)
   obtain⟨vs,avs,h1,h2,h3⟩:=lz hT hr r hK
   refine⟨cv::vs,y::avs,fun g hg hg2=>?_,h2,by simp only[ax];exact⟨_,_,rfl,hrep,h3⟩⟩
   have hl:=hrun w .refl
   have hcell:(g (.cell x ty)).run P w=.ok cv w:=by
    rw[hg2]
    unfold Instr.loadAt at hl
    cases hv:a.tmps.getD x undef with
    |pointer p=>
      rw[hv] at hl
      cases p with
      |some p=>simpa[Instr.sureAddr,asAddr] using hl
      |none=>simp[Instr.sureAddr] at hl
    |_=>rw[hv] at hl;simp[Instr.sureAddr] at hl
   simp only[O2,Sem.run_bind,hcell,Sem.run_pure,Result.andThen_ok,h1 g hg hg2]
def pack:List AV→AV
 |[t]=>t
 |ts=>.tup ts
def jU:List Value→Value
 |[v]=>v
 |vs=>.tuple vs.toArray
theorem vo{ob:Obs}:∀{avs:List AV}{vs:List Value},ax b₀ β g ob w avs vs→ag b₀ β g ob w (pack avs) (jU vs)
 |[],vs,h=>by simp only[ax] at h;subst h;simp only[pack,jU,ag,ax];exact⟨[],rfl,rfl⟩
 |[t],vs,h=>by simp only[ax] at h;obtain⟨u,us,rfl,h1,rfl⟩:=h;exact h1
 |t::t'::ts,vs,h=>by
   have h0:=h
   simp only[ax] at h
   obtain⟨u,us,rfl,h1,u',us',rfl,h2,h3⟩:=h
   simp only[pack,jU,ag]
   exact⟨_,rfl,h0⟩
theorem bS (hT:aF P T) {N:Nat}{a:Act} (hr:Rel b₀ N s β a w) (hres:fn.results=rs.toArray) (h:iu T s rs k) :
  ∃v avs,(results fn a.tmps).run P w=.ok v w∧K avs∧ag b₀ β s.gen s.obj w (pack avs) v∧∃vs,v=jU vs∧ax b₀ β s.gen s.obj w avs vs:=by
 obtain⟨vs,avs,h1,h2,h3⟩:=lz hT hr rs h
 refine⟨jU vs,avs,?_,h2,vo h3,vs,rfl,h3⟩
 unfold results
 simp only[hres,Q5,Sem.run_bind,Sem.run_map]
 rw[h1 _ (fun _=>rfl) (fun _ _=>rfl)]
 simp only[Result.andThen_ok,Sem.run_pure]
 match vs with
 |[]=>simp[jU]
 |[t]=>simp[jU]
 |t::t'::ts=>simp[jU]
def nC (T:Nat→TI) (rs:List ResultVar) (R:AV→(Nat→Nat)→Obs→Prop):Exit→St→Prop
 |.normal,s|.ret,s=>∃s',ah s s'∧iu T s' rs (bx fun avs=>R (pack avs) s'.gen s'.obj)
 |_,_=>False
theorem xq (B:Nat) (hT:aF P T) (hm:P.follows .mixedOrders=true) {f:FuncId}{c:Code} (hf:P.funcs[f]? = some fn) (hb:fn.body=some c) (hn:(fn.name == "runtime.NumGoroutine")=false)
  (rs:List ResultVar) (hres:fn.results=rs.toArray) (hok:codeOk fn.ntmps c=true) {xs:List AV} (hargs:xs.length≤fn.ntmps){ob:Obs}{R:AV→(Nat→Nat)→Obs→Prop}
  (h:wpC (spB P B) T c (bx (nC T rs R)) ⟨bY xs,g,ob⟩):gf P f xs g ob R:=by
 refine⟨⟨fn,hf,by rw[hb];rfl,hn⟩,fun b₀ N β a fa w vs hr0 hv=>?_⟩
 refine calls_of_wp hf hb ?_
 have hl:=hv.len
 have hr:Rel b₀ fn.ntmps ⟨bY xs,g,ob⟩ β { tmps:=vs.toArray++Array.replicate (fn.ntmps-vs.toArray.size) undef,defers:=[]} w:=by
  refine⟨rfl,by simp;omega,fun i=>?_,hr0.obj,hr0.inj,hr0.base⟩
  simp only[bY]
  cases hx:xs[i]? with
  |some x=>
    obtain⟨v,h1,h2⟩:=hv.get hx
    have hlt:i<vs.length:=(l5.1 h1).1
    have:(vs.toArray++Array.replicate (fn.ntmps-vs.toArray.size) undef).getD i undef=v:=by
     rw[u1,C4 (by simpa using hlt)]
     simp[h1]
    rw[this]
    simpa only[x6] using h2
  |none=>
    have hge:xs.length≤i:=by simpa using hx
    have:(vs.toArray++Array.replicate (fn.ntmps-vs.toArray.size) undef).getD i undef=undef:=by
     rw[u1,E0 (by simp;omega)]
     simp[B1]
     split <;> rfl
    rw[this]
    exact bH
 refine wp_mono (dq (B:=B) hT hm c hok hr h) (fun e a' w' hp=>?_)
 obtain⟨s',β',hQ,hr',ht⟩:=hp
 have hres':nC T rs R .ret s'→∃v,(results fn a'.tmps).run P w'=.ok v w'∧∃v' r g' ob' β',Ending.returned v=.returned v'∧R r g' ob'∧ag b₀ β' g' ob' w' r v'∧
   (∀id cells,ob' id=some cells→bX b₀ β' g' ob' w' (g' id) cells (β' id))∧(∀id id' a a',(ob' id).isSome=true→(ob' id').isSome=true→β' id=some a→β' id'=some a'→a.block=a'.block→id=id')∧
   Tr b₀ β ⟨fa,g,ob⟩ w β' ⟨fa,g',ob'⟩ w':=by
  rintro⟨s2,hvs,hR⟩
  obtain⟨β2,hr2,ht2⟩:=hvs b₀ fn.ntmps β' a' w' hr'
  have hta:=ht.trans ht2
  obtain⟨v,avs,h1,h2,h3,_⟩:=bS hT hr2 hres hR
  exact⟨v,h1,v,_,_,_,β2,rfl,h2,h3,hr2.obj,hr2.inj,⟨hta.size,hta.old,hta.keep,hta.os⟩⟩
 cases e with
 |normal=>exact⟨hr'.defers,hres' hQ⟩
 |ret=>exact⟨hr'.defers,hres' hQ⟩
 |exit id=>exact hQ.elim
 |goto l=>exact hQ.elim
 |panic ch=>exact hQ.elim
 |outgrown=>exact hQ.elim
def mZ (s:St):List AV→AV→Prop
 |[t],r=>kc s t r
 |ts,r=>∃rs,cC s ts rs∧r=.tup rs
theorem mZ.rep {N:Nat}{s:St}{a:Act} (hr:Rel b₀ N s β a w):∀{ts:List AV}{r:AV}{vs:List Value},mZ s ts r→ax b₀ β s.gen s.obj w ts vs→RV (Own b₀ w) w r (jU vs):=by
 have hmany:∀(ts rs:List AV) (vs:List Value),cC s ts rs→ax b₀ β s.gen s.obj w ts vs→RVs (Own b₀ w) w rs vs:=by
  intro ts
  induction ts with
  |nil=>intro rs vs h hv;simp only[cC] at h;simp only[ax] at hv;subst h hv;simp only[RVs]
  |cons t ts ih=>
    intro rs vs h hv
    simp only[cC] at h
    simp only[ax] at hv
    obtain⟨r,rs',rfl,h1,h2⟩:=h
    obtain⟨u,us,rfl,h3,h4⟩:=hv
    simp only[RVs]
    exact⟨_,_,rfl,h1.rep hr h3,ih _ _ h2 h4⟩
 intro ts r vs h hv
 match ts,h with
 |[],⟨rs,h1,h2⟩=>
   subst h2
   have:=hmany _ _ _ h1 hv
   simp only[ax] at hv
   subst hv
   simp only[RV,jU];exact⟨_,rfl,this⟩
 |[t],h=>
   simp only[ax] at hv
   obtain⟨u,us,rfl,h1,rfl⟩:=hv
   exact kc.rep hr h h1
 |t::t'::ts,⟨rs,h1,h2⟩=>
   subst h2
   have:=hmany _ _ _ h1 hv
   simp only[ax] at hv
   obtain⟨u,us,rfl,_,u',us',rfl,_,_⟩:=hv
   simp only[RV,jU];exact⟨_,rfl,this⟩
def qI (T:Nat→TI) (rs:List ResultVar) (R:AV→Prop):Exit→St→Prop
 |.normal,s|.ret,s=>iu T s rs (bx fun avs=>∃r,mZ s avs r∧R r)
 |_,_=>False
theorem bO (hT:aF P T) (hm:P.follows .mixedOrders=true) {f:FuncId}{c:Code} (hf:P.funcs[f]? = some fn) (hb:fn.body=some c) (hn:(fn.name == "runtime.NumGoroutine")=false)
  (rs:List ResultVar) (hres:fn.results=rs.toArray) (hok:codeOk fn.ntmps c=true) {args:List AV} (hargs:args.length≤fn.ntmps)
  (h:∀g,wpC (sp P) T c (bx (qI T rs R)) ⟨bY args,g,fun _=>none⟩):ba P f args R:=by
 refine⟨⟨fn,hf,by rw[hb];rfl,hn⟩,fun J w vs hJ hv=>?_⟩
 refine calls_of_wp hf hb ?_
 have hlen:∀(l:List AV) (vs:List Value),RVs J w l vs→vs.length=l.length:=by
  intro l
  induction l with
  |nil=>intro vs h;simp only[RVs] at h;subst h;rfl
  |cons x l ih=>intro vs h;simp only[RVs] at h;obtain⟨u,us,rfl,_,h⟩:=h;simp[ih us h]
 have hl:=hlen _ _ hv
 let J':Nat→Prop:=J
 have hr:Rel ⟨w.heap.size,J'⟩ fn.ntmps ⟨bY args,fun _=>0,fun _=>none⟩ (fun _=>none) { tmps:=vs.toArray++Array.replicate (fn.ntmps-vs.toArray.size) undef,defers:=[]} w:=by
  refine⟨rfl,by simp;omega,fun i=>?_,fun id cells ho=>(by cases ho),fun id id' a a' ho=>(by cases ho),l4 _⟩
  have hget:∀(l:List AV) (vs:List Value),RVs J w l vs→∀(i:Nat) (x:AV),l[i]? = some x→∃v,vs[i]? = some v∧RV J w x v:=by
   intro l
   induction l with
   |nil=>intro vs _ i x h;simp at h
   |cons y l ih=>
     intro vs h i x hx
     simp only[RVs] at h
     obtain⟨u,us,rfl,h1,h2⟩:=h
     cases i with
     |zero=>simp at hx;subst hx;exact⟨u,rfl,h1⟩
     |succ i=>simpa using ih us h2 i x (by simpa using hx)
  simp only[bY]
  cases hx:args[i]? with
  |some x=>
    obtain⟨v,h1,h2⟩:=hget _ _ hv i x hx
    have hlt:i<vs.length:=(l5.1 h1).1
    have:(vs.toArray++Array.replicate (fn.ntmps-vs.toArray.size) undef).getD i undef=v:=by
     rw[u1,C4 (by simpa using hlt)]
     simp[h1]
    rw[this]
    simp only[x6]
    exact RV.rep x (RV.mono (fun b hb=>⟨⟨hJ b hb,fun _=>hb,fun id a ho=>by cases ho⟩,rfl⟩) x h2)
  |none=>
    have hge:args.length≤i:=by simpa using hx
    have:(vs.toArray++Array.replicate (fn.ntmps-vs.toArray.size) undef).getD i undef=undef:=by
     rw[u1,E0 (by simp;omega)]
     simp[B1]
     split <;> rfl
    rw[this]
    exact bH
 refine wp_mono (dq hT hm c hok hr (h _)) (fun e a' w' hp=>?_)
 obtain⟨s',β',hQ,hr',ht⟩:=hp
 have hres':qI T rs R .ret s'→∃v,(results fn a'.tmps).run P w'=.ok v w'∧∃r,R r∧RV (Own ⟨w.heap.size,J'⟩ w') w' r v:=by
  intro hQ
  obtain⟨v,avs,h1,⟨r,h2,h3⟩,_,vs',rfl,h4⟩:=bS hT hr' hres hQ
  exact⟨_,h1,r,h3,h2.rep hr' h4⟩
 cases e with
 |normal=>
   obtain⟨v,h1,r,h2,h3⟩:=hres' hQ
   exact⟨hr'.defers,v,h1,v,r,rfl,h2,ht.size,fun b hb=>ht.old b hb,ht.os,h3⟩
 |ret=>
   obtain⟨v,h1,r,h2,h3⟩:=hres' hQ
   exact⟨hr'.defers,v,h1,v,r,rfl,h2,ht.size,fun b hb=>ht.old b hb,ht.os,h3⟩
 |exit id=>exact hQ.elim
 |goto l=>exact hQ.elim
 |panic ch=>exact hQ.elim
 |outgrown=>exact hQ.elim
end
@[go_sem] theorem Lk:iu T s [] k=K []:=l0 rfl rfl
@[go_sem] theorem Ll{t:Nat}:iu T s (.tmp t::r) k=iu T s r (bx fun vs=>K (s.f t::vs)):=l0 rfl rfl
@[go_sem] theorem IQ{a ty:Nat}:iu T s (.cell a ty::r) k=pF (T ty) s (s.f a) (bx fun v=>iu T s r (bx fun vs=>K (v::vs))):=l0 rfl rfl
@[go_sem] theorem Ln:qI T rs R .ret s=iu T s rs (bx fun avs=>∃r,mZ s avs r∧R r):=l0 rfl rfl
@[go_sem] theorem ME{t r:AV}:mZ s [t] r=kc s t r:=l0 rfl rfl
theorem cZ {α:Type}{id g sz n:Nat}{cells:List C} (hg:s.gen id=g) (l:List α) (enc:α→List D) (ho:s.obj id=some cells) (hc:cells=l.flatMap (fun a=>(enc a).map .d)) (hn:∀a∈l,∀x∈enc a,fg x=x) (hs:∀a∈l,(enc a).length=sz) (hl:l.length=n) :
  Frz s (.osl id g sz 0 n) (.sl (l.map enc)):=by
 have hfl:cells=(l.map enc).flatten.map .d:=by rw[hc];clear hn hs hl hc ho;induction l with|nil=>rfl|cons a l ih=>simp[ih]
 have hlen:cells.length=n*sz:=by
  rw[hfl,j6]
  clear hfl hc hn ho
  subst hl
  induction l with
  |nil=>simp
  |cons a l ih=>
    simp only[l7,G6,j5,j7,hs a a8,ih (fun b hb=>hs b (by simp[hb]))]
    rw[D8];omega
 refine .osl hg ho a7 (by simpa using hl) (fun e he=>by obtain⟨a,ha,rfl⟩:=I2.1 he;exact hs a ha) (fun j=>(cells[0+j]?).getD (.d .nsl)) (fun j x hx=>?_) (fun j x hx=>?_)
 ·rw[hfl,C9,x7,hx];rfl
 ·rw[hfl,C9,x7,hx]
  simp only[w7,x6]
  have hxn:fg x=x:=by
   have hm:=l8 hx
   obtain⟨e,he,hxe⟩:=List.mem_flatten.1 hm
   obtain⟨a,ha,rfl⟩:=I2.1 he
   exact hn a ha x hxe
  have:=Frz.d (s:=s) x
  rwa [hxn] at this
end
end
section
section
structure kC (b₀:Bs) (β:Loc) (ob:Obs) (n₀:Nat) (w w':World):Prop where
 size:w'.heap.size=w.heap.size
 os:w'.os=w.os∧w'.output=w.output
 same:∀b,w'.heap[b]? = w.heap[b]?∨(n₀≤b∧Imm b₀ β ob w b∧(∃x,w.heap[b]? = some (.deferred x))∧∃x,w'.heap[b]? = some (.deferred x))
section
variable {P:Program}{T:Nat→TI}{b₀:Bs}{β:Loc}{g:Nat→Nat}{ob:Obs}{n₀:Nat}{w w':World}
theorem kC.refl:kC b₀ β ob n₀ w w:=⟨rfl,⟨rfl,rfl⟩,fun _=>.inl rfl⟩
theorem kC.trans {w'':World} (h:kC b₀ β ob n₀ w w') (h':kC b₀ β ob n₀ w' w''):kC b₀ β ob n₀ w w'':=by
 refine⟨h'.size.trans h.size,⟨h'.os.1.trans h.os.1,h'.os.2.trans h.os.2⟩,fun b=>?_⟩
 rcases h.same b with e|⟨e1,e2,e3,e4⟩
 ·rcases h'.same b with e'|⟨e1',e2',e3',e4'⟩
  ·exact .inl (e'.trans e)
  ·exact .inr ⟨e1',by unfold Imm at *;rw[h.size] at e2';exact e2',by rw[←e];exact e3',e4'⟩
 ·rcases h'.same b with e'|⟨e1',e2',e3',e4'⟩
  ·exact .inr ⟨e1,e2,e3,by rw[e'];exact e4⟩
  ·exact .inr ⟨e1,e2,e3,e4'⟩
theorem kC.cell (h:kC b₀ β ob n₀ w w') {a:Addr}{v:Value} (hc:w.cell? a=some v):w'.cell? a=some v:=by
 rcases h.same a.block with e|⟨_,_,⟨x,e⟩,_⟩
 ·rw[jK e];exact hc
 ·simp[World.cell?,e] at hc
theorem kC.imm (h:kC b₀ β ob n₀ w w') {b:Nat} (hb:Imm b₀ β ob w b):Imm b₀ β ob w' b:=by unfold Imm at *;rw[h.size];exact hb
theorem bA.shut {J J':Nat→Prop}{x:D}{v:Value} (h:bA J w x v) (hJ:∀b,J b→J' b) (hc:∀a v,w.cell? a=some v→w'.cell? a=some v):bA J' w' x v:=by
 induction h with
 |bool b=>exact .bool b
 |int k n=>exact .int k n
 |str s=>exact .str s
 |nsl=>exact .nsl
 |nilp=>exact .nilp
 |nilf=>exact .nilf
 |nili=>exact .nili
 |nilm=>exact .nilm
 |fn f=>exact .fn f
 |yld l=>exact .yld l
 |sl0=>exact .sl0
 |sl vals hcap hj hsz hcl hr ih=>exact .sl vals hcap (fun h=>hJ _ (hj h)) hsz (fun i e he j x hx=>hc _ _ (hcl i e he j x hx)) ih
 |iptr vals hj hcl hr ih=>exact .iptr vals (fun h=>hJ _ (hj h)) (fun j x hx=>hc _ _ (hcl j x hx)) ih
theorem iM.shut (h:kC b₀ β ob n₀ w w') {c:PC}{v:Value} (hr:iM b₀ β g ob w c v):iM b₀ β g ob w' c v:=by
 cases c with
 |d x=>exact bA.shut hr (fun _=>h.imm) (fun _ _=>h.cell)
 |ptr id g1 off=>exact hr
theorem aw.shut (h:kC b₀ β ob n₀ w w') {c:C}{v:Value} (hr:aw b₀ β g ob w c v):aw b₀ β g ob w' c v:=by
 cases c with
 |d x=>exact bA.shut hr (fun _=>h.imm) (fun _ _=>h.cell)
 |osl id g1 sz off len=>
   obtain⟨h1,h2,h3⟩:=hr
   refine⟨h1,h2,fun hg ho=>?_⟩
   have h4:=h3 hg ho
   cases hβ:β id with
   |none=>rw[hβ] at h4;exact h4
   |some a=>
     rw[hβ] at h4
     obtain⟨h5,h6⟩:=h4
     refine⟨h5,?_⟩
     rcases h6 with⟨cap,q1,q2,q3⟩|h6
     ·refine .inl ⟨cap,q1,q2,fun arr el fr hh=>?_⟩
      rcases h.same a.block with e|⟨_,_,_,⟨x,e⟩⟩
      ·exact q3 arr el fr (by rw[←e];exact hh)
      ·rw[e] at hh;cases hh
     ·exact .inr h6
 |ptr id g1 off=>exact hr
 |clo f caps=>
   obtain⟨vs,h1,h2,h3⟩:=hr
   exact⟨vs,h1,h2,fun i pc hp=>let ⟨u,hu,hr⟩:=h3 i pc hp;⟨u,hu,hr.shut h⟩⟩
 |mp id g1 kd=>exact hr
 |lsl n=>exact hr
 |raw o=>exact hr
theorem jT.shut (h:kC b₀ β ob n₀ w w') {cs:List C}{vs:Array Value} (hr:jT b₀ β g ob w cs vs):jT b₀ β g ob w' cs vs:=
 ⟨hr.1,fun i c hc=>let ⟨u,hu,hr⟩:=hr.2 i c hc;⟨u,hu,hr.shut h⟩⟩
mutual
theorem ag.shut (h:kC b₀ β ob n₀ w w'):(x:AV)→{v:Value}→ag b₀ β g ob w x v→ag b₀ β g ob w' x v
 |.one _,_,hr=>by simp only[ag] at hr ⊢;exact aw.shut h hr
 |.agg _,_,hr=>by simp only[ag] at hr ⊢;obtain⟨vs,h1,h2⟩:=hr;exact⟨vs,h1,h2.shut h⟩
 |.tup ts,_,hr=>by simp only[ag] at hr ⊢;obtain⟨vs,h1,h2⟩:=hr;exact⟨vs,h1,ax.shut h ts h2⟩
 |.junk,_,_=>by simp only[ag]
 |.exact _,_,hr=>by simp only[ag] at hr ⊢;exact hr
theorem ax.shut (h:kC b₀ β ob n₀ w w'):(x:List AV)→{v:List Value}→ax b₀ β g ob w x v→ax b₀ β g ob w' x v
 |[],_,hr=>by simp only[ax] at hr ⊢;exact hr
 |t::ts,_,hr=>by simp only[ax] at hr ⊢;obtain⟨u,us,h1,h2,h3⟩:=hr;exact⟨u,us,h1,ag.shut h t h2,ax.shut h ts h3⟩
end
theorem Rel.shut {N:Nat}{s:St}{a:Act} (hr:Rel b₀ N s β a w) (h:kC b₀ β s.obj n₀ w w'):Rel b₀ N s β a w':=by
 refine⟨hr.defers,hr.size,fun i=>ag.shut h _ (hr.f i),fun id cells ho=>?_,hr.inj,by rw[h.size];exact hr.base⟩
 have h1:=hr.obj id cells ho
 cases hβ:β id with
 |none=>rw[hβ] at h1;exact h1
 |some ad=>
   rw[hβ] at h1
   have he:w'.heap[ad.block]? = w.heap[ad.block]?:=by
    rcases h.same ad.block with e|⟨_,e,_⟩
    ·exact e
    ·exact absurd rfl (e.2.2 id ad (by simp[ho]) hβ)
   cases hs:ad.spot with
   |none=>
     obtain⟨h2,arr,el,lo,hi,h3,h4,h5,h6⟩:=h1.cells hs
     exact .ofCells hs ⟨h2,arr,el,lo,hi,by rw[he];exact h3,h4,h5,fun j c hc=>let ⟨v,hv,hr⟩:=h6 j c hc;⟨v,hv,hr.shut h⟩⟩
   |some kd=>
     obtain⟨h2,⟨es,clock,h3,h4⟩|⟨hk100,o,h3,h4⟩⟩:=h1.map hs
     ·exact .ofMap hs ⟨h2,.inl ⟨es,clock,by rw[he];exact h3,h4.mono fun _ _ q=>by
       unfold gy at q ⊢
       split
       ·rename_i hk
        rw[if_pos hk] at q
        exact aw.shut h q
       ·rename_i hk
        rw[if_neg hk] at q
        obtain⟨ds,vs,q1,q2,q3,q4⟩:=q
        exact⟨ds,vs,q1,q2,q3,fun i x hx=>let ⟨u,hu,hr⟩:=q4 i x hx;⟨u,hu,bA.shut hr (fun _=>h.imm) (fun _ _=>h.cell)⟩⟩⟩⟩
     ·exact .ofMap hs ⟨h2,.inr ⟨hk100,o,h3,by rw[he];exact h4⟩⟩
theorem Mk.put {D:Nat}{o:Obj}:∀{ds:List Deferred},Mk b₀ β ob w n₀ ds→(∀d'∈ds,d'≠{ target:=.collected D,args:=#[]})→Mk b₀ β ob (w.putObj D o) n₀ ds
 |[],_,_=>trivial
 |d::ds,hm,hne=>by
   obtain⟨⟨E,h1,h2,h3,h4,h5⟩,hr⟩:=hm
   have hE:E≠D:=fun he=>hne d a8 (by rw[h1,he])
   exact⟨⟨E,h1,h2,by unfold Imm at *;simpa using h3,by rw[World.putObj_heap_other hE];exact h4,h5⟩,hr.put (fun d' hd'=>hne d' (by simp[hd']))⟩
theorem iU {fn:Func}{tmps:Array Value}{R:Ending→World→Prop}:∀{ds:List Deferred}{w:World},Mk b₀ β ob w n₀ ds→
  (∀w5,kC b₀ β ob n₀ w w5→∃v,(results fn tmps).run P w5=.ok v w5∧R (.returned v) w5)→LeavesInM (fen none) 0 P fn tmps R ds .returning w
 |[],w,_,h=>h w .refl
 |d::ds,w,hm,h=>by
   obtain⟨⟨D,h1,h2,h3,h4,h5⟩,hr⟩:=hm
   refine⟨a8,.inl ⟨D,_,by rw[h1],run_takeDeferred h4,?_⟩⟩
   have hlt:D<w.heap.size:=h3.1
   have hsh:kC b₀ β ob n₀ w (w.putObj D (.deferred none)):=⟨a8,⟨rfl,rfl⟩,fun b=>by
    by_cases hb:b=D
    ·subst hb
     exact .inr ⟨h2,h3,⟨_,h4⟩,⟨none,World.putObj_heap_same hlt⟩⟩
    ·exact .inl (World.putObj_heap_other hb)⟩
   exact iU (hr.put (fun d' hd'=>by rw[←h1];exact h5 d' hd')) (fun w5 h6=>h w5 (hsh.trans h6))
end
end
section
variable {s:St}{o:Oper}{K:St→Prop}{B:Nat}{x:Operand}{tys:Array TypeId}{p n:Operand}{k:Box K}
section
variable {P:Program}{T:Nat→TI}{b₀:Bs}{β:Loc}{w:World}
theorem uh (ho:o.op=.call ⟨.builtin .unsafeSliceData,#[x],tys⟩) (hx:s.ev x=.one (.d .nsl)) (hk:K (s.put o.dst (.one (.d .nilp)))):aS (spB P B) o s k:=by
 refine⟨fun s'=>s'=s.put o.dst (.one (.d .nilp)),fun b₀ N β a w hr hd next Q hn=>?_,fun _ e=>e▸hk⟩
 have hv:=hr.ev x
 rw[hx] at hv
 simp only[ag,aw] at hv
 have hv:=hv.inv_nsl
 have hex:(execOp a.eval o).run P w=.ok (.value (.pointer none)) w:=by
  simp[execOp,ho,resolve,invoke,hv,builtin,Lib.run_unsafeSliceData_nil]
 exact cM hex (hn _ β _ w rfl (hr.put hd (by simp only[ag,aw];exact .nilp)) (Tr.same (St.put_gen _ _ _) (St.put_obj _ _ _) rfl))
theorem Bz (ho:o.op=.call ⟨.builtin .unsafeSliceData,#[x],tys⟩) {id g off len:Nat} (hx:s.ev x=.one (.osl id g 1 off len)) (hg:s.gen id=g) (hob:(s.obj id).isSome=true) (hl:0<len)
  (hk:K (s.put o.dst (.one (.ptr id g off)))):aS (spB P B) o s k:=by
 refine⟨fun s'=>s'=s.put o.dst (.one (.ptr id g off)),fun b₀ N β a w hr hd next Q hn=>?_,fun _ e=>e▸hk⟩
 have hv:=hr.ev x
 rw[hx] at hv
 simp only[ag,aw] at hv
 obtain⟨_,hle,hat⟩:=hv
 have hat:=hat hg hob
 cases hβ:β id with
 |none=>rw[hβ] at hat;have:=hat.1;omega
 |some ad=>
   rw[hβ] at hat
   obtain⟨hsp,⟨cap,hv,hc,_⟩|⟨h0,_⟩⟩:=hat
   ·have hex:(execOp a.eval o).run P w=.ok (.value (.pointer (some ⟨ad.block,ad.off+off,none⟩))) w:=by
     have:=Lib.run_unsafeSliceData_row (P:=P) (w:=w) tys o.type ⟨ad.block,ad.off+off,none⟩ len cap a7
     simp[execOp,ho,resolve,invoke,hv,builtin,this]
    refine cM hex (hn _ β _ w rfl (hr.put hd ?_) (Tr.same (St.put_gen _ _ _) (St.put_obj _ _ _) rfl))
    simp only[ag,aw]
    exact⟨rfl,hle,fun _ _=>⟨ad,hβ,hsp,rfl⟩⟩
   ·omega
theorem si{t1 t2:TypeId} (ho:o.op=.call ⟨.builtin .unsafeString,#[p,n],#[t1,t2]⟩) (hp:s.ev p=.one (.d .nilp)) (hn0:s.ev n=iv .i64 0) (hk:K (s.put o.dst (sv []))):aS (spB P B) o s k:=by
 refine⟨fun s'=>s'=s.put o.dst (sv []),fun b₀ N β a w hr hd next Q hn=>?_,fun _ e=>e▸hk⟩
 have hv:=hr.ev p
 have hw:=hr.ev n
 rw[hp] at hv
 rw[hn0] at hw
 simp only[ag,aw] at hv hw
 have hw:=hw.inv_int
 have hv:a.eval p=.pointer none:=by generalize a.eval p=v at hv;cases hv;rfl
 have hex:(execOp a.eval o).run P w=.ok (.value (.string .empty)) w:=by
  simp[execOp,ho,resolve,invoke,hv,hw,builtin,Lib.run_unsafeString_none]
 refine cM hex (hn _ β _ w rfl (hr.put hd ?_) (Tr.same (St.put_gen _ _ _) (St.put_obj _ _ _) rfl))
 simp only[ag,aw]
 exact .str []
theorem vw (w:World) (a:Addr) (n:Nat):(w.freeze a n).heap.size=w.heap.size:=by unfold World.freeze;split <;> simp
theorem zS (w:World) (a:Addr) (n:Nat):(w.freeze a n).os=w.os∧(w.freeze a n).output=w.output:=by unfold World.freeze;split <;> exact⟨rfl,rfl⟩
theorem ui (w:World) (a:Addr) (n:Nat) {b:Nat} (hb:b≠a.block):(w.freeze a n).heap[b]? = w.heap[b]?:=by
 unfold World.freeze
 split
 ·rfl
 ·simp only[J2]
  rw[if_neg (fun e=>hb e.symm)]
theorem BA {N:Nat}{a:Act} (hr:Rel b₀ N s β a w) {id:Nat}{ad:Addr} (ho:(s.obj id).isSome=true) (hβ:β id=some ad) {w':World} (hsz:w'.heap.size=w.heap.size) (hos:w'.os=w.os∧w'.output=w.output) (hoth:∀b,b≠ad.block→w'.heap[b]? = w.heap[b]?) :
  Rel b₀ N { s with obj:=upd s.obj id none } β a w'∧Tr b₀ β s w β { s with obj:=upd s.obj id none } w':=by
 have hB:b₀.B≤ad.block:=by
  obtain⟨cells,hc⟩:=G8.1 ho
  have:=hr.obj id cells hc
  rw[hβ] at this
  exact this.block.1
 have hlive:∀i,(upd s.obj id none i).isSome=true→i≠id∧(s.obj i).isSome=true:=fun i hi=>by
  simp only[upd] at hi
  by_cases hid:i=id
  ·simp[hid] at hi
  ·rw[if_neg hid] at hi;exact⟨hid,hi⟩
 have hne:∀i a',(upd s.obj id none i).isSome=true→β i=some a'→a'.block≠ad.block:=fun i a' hi ha' hb=>(hlive i hi).1 (hr.inj i id a' ad (hlive i hi).2 ho ha' hβ hb)
 have hkeep:dw b₀ β s.gen s.obj w β s.gen (upd s.obj id none) w':=by
  refine⟨fun b hb=>?_,fun _=>l4 _,fun i _ hi=>?_⟩
  ·have hnb:b≠ad.block:=fun he=>hb.2.2 id ad ho hβ he.symm
   exact⟨⟨by rw[hsz];exact hb.1,hb.2.1,fun i a' hi=>hb.2.2 i a' (hlive i hi).2⟩,hoth b hnb⟩
  ·refine⟨(hlive i hi).2,rfl,fun a' ha' arr1 el1 fr1 h1=>?_⟩
   rw[hoth _ (hne i a' hi ha')] at h1
   exact⟨arr1,el1,fr1,h1,l4 _⟩
 refine⟨⟨hr.defers,hr.size,fun i=>ag.keep hkeep _ (hr.f i),fun i cells' hc'=>?_,fun i i' a1 a2 h1 h2=>hr.inj i i' a1 a2 (hlive i h1).2 (hlive i' h2).2,by rw[hsz];exact hr.base⟩,by rw[hsz];exact l4 _,fun b hb=>hoth b a7,hkeep,hos⟩
 have hi:(upd s.obj id none i).isSome=true:=by
  have:upd s.obj id none i=some cells':=hc'
  rw[this];rfl
 have hc'':s.obj i=some cells':=by
  have h:=hc'
  simp only[upd,if_neg (hlive i hi).1] at h
  exact h
 exact(hr.obj i cells' hc'').keep hkeep (fun a' ha'=>hoth _ (hne i a' hi ha'))
theorem zT{t1 t2 e:TypeId} (ho:o.op=.call ⟨.builtin .unsafeString,#[p,n],#[t1,t2]⟩) (ht:P.underlying t1=some (.pointer e)) (hce:P.cellsOf e=1) {id g:Nat}{l:List UInt8}
  (hp:s.ev p=.one (.ptr id g 0)) (hn0:s.ev n=iv .i64 l.length) (hg:s.gen id=g) (hcode:code g=e+1) {cells:List C} (hob:s.obj id=some cells) (hfit:cells.take l.length=l.map fun b=>.d (iI b)) (hl:l≠[]) (h63:l.length≤9223372036854775807)
  (hk:K (St.put { s with obj:=upd s.obj id none } o.dst (sv l))):aS (spB P B) o s k:=by
 refine⟨fun s'=>s'=St.put { s with obj:=upd s.obj id none } o.dst (sv l),fun b₀ N β a w hr hd next Q hn=>?_,fun _ e=>e▸hk⟩
 have hv:=hr.ev p
 have hw:=hr.ev n
 rw[hp] at hv
 rw[hn0] at hw
 simp only[ag,aw] at hv hw
 have hw:=hw.inv_int
 obtain⟨ad,hβ,hsp,hv⟩:=hv.2.2 hg (by rw[hob];rfl)
 have hobj:=hr.obj id cells hob
 rw[hβ] at hobj
 obtain⟨_,arr,el,lo,hi,hblk,⟨_,hcl⟩,hlen,hcells⟩:=hobj.cells hsp
 rw[hg,hcode] at hcl
 obtain⟨hel,hoff⟩:=hcl a7
 have hel:el=e:=Nat.add_right_cancel hel
 subst hel
 have hll:l.length≤cells.length:=by
  have:=congrArg List.length hfit
  simp at this
  omega
 have hrun:=Lib.run_unsafeString_row (P:=P) (w:=w) t1 t2 o.type el ht hce ad.block (arr.size) (by simp[World.shape?,hblk]) l hl a7 h63 (fun j x hx=>by
  have hjl:=(l5.1 hx).1
  have hcj:cells[j]? = some (.d (iI x)):=by
   have:=congrArg (fun m:List C=>m[j]?) hfit
   simp only[G0,hjl,A4,x7,hx,w7] at this
   exact this
  obtain⟨u,hu,hru⟩:=hcells j _ hcj
  simp only[aw,iI] at hru
  have hru:=hru.inv_int
  rw[hoff,C9] at hu
  rw[cr,C9,cp hblk,hu,hru])
 have hex:(execOp a.eval o).run P w=.ok (.value (.string ⟨l.toArray⟩)) (w.freeze ⟨ad.block,0,none⟩ l.length):=by
  rw[hoff] at hv
  simp[execOp,ho,resolve,invoke,hv,hw,builtin,hrun]
 obtain⟨r1,t1⟩:=BA hr (by rw[hob];rfl) hβ (vw w ⟨ad.block,0,none⟩ l.length) (zS _ _ _) (fun b hb=>ui w ⟨ad.block,0,none⟩ l.length hb)
 refine cM hex (hn _ β _ _ rfl (r1.put hd ?_) (t1.trans (Tr.same (St.put_gen _ _ _) (St.put_obj _ _ _) rfl)))
 simp only[ag,aw]
 exact .str l
end
end
end
section
attribute [local congr] Go.Am.ite_cc
section
variable {s:St}{res:List Nat}{R:AV→(Nat→Nat)→Obs→Prop}
theorem lC (p:Nat→Bool):ah s ⟨s.f,s.gen,fun i=>if p i=true then none else s.obj i⟩:=by
 refine oz (fun i=>p i=true) rfl (fun i=>.inl rfl) (fun i cells' hc=>?_)
 simp only at hc
 by_cases h:p i=true
 ·rw[if_pos h] at hc;cases hc
 ·rw[if_neg h] at hc
  exact⟨h,cells',hc,rfl,fun j c c' e1 e2=>.inl (by rw[e1] at e2;exact(C3 e2).symm)⟩
theorem bg (p:Nat→Bool) (h:R (gK s.f res) s.gen (fun i=>if p i=true then none else s.obj i)):xo res R .normal s:=⟨_,lC p,h⟩
theorem fM (p:Nat→Bool) (h:R (gK s.f res) s.gen (fun i=>if p i=true then none else s.obj i)):xo res R .ret s:=⟨_,lC p,h⟩
@[go_sem] theorem Lp:rY .nilIface=.one (.d .nili):=l0 rfl rfl
@[go_sem] theorem Lq:rY .nilFunc=.one (.d .nilf):=l0 rfl rfl
end
section
variable {s:St}{o:Oper}{K:St→Prop}{f:FuncId}{args:Array Operand}{tys:Array TypeId}{R:AV→Prop}{Q:Exit→St→Prop}{k:Box K}
section
variable {P:Program}{T:Nat→TI}{b₀:Bs}{rd:Option Nat}{Φ:St→Loc→List Deferred→World→Prop}{Ψ:fF}{B0:Nat}
theorem ak {B:(Exit→St→Prop)→St→Prop}{b:Box B}{q:Box Q} (I:Nat→St→Prop) (n:Nat) (h0:I n s)
  (hr:∀n f g ob,I n ⟨f,g,ob⟩→B (jz (bx fun s'=>∃n' s₁,n'<n∧(spF P rd b₀ Φ B0 Ψ).vs s' s₁∧I n' s₁) q) ⟨f,g,ob⟩):qD (spF P rd b₀ Φ B0 Ψ) b q s:=
 ⟨I,⟨n,s,ah.refl s,h0⟩,fun n s hs=>hr n s.f s.gen s.obj hs⟩
theorem ai {I:Nat→St→Prop}{n:Nat} (n':Nat) (h:n'<n) (hI:I n' s):∃n' s₁,n'<n∧(spF P rd b₀ Φ B0 Ψ).vs s s₁∧I n' s₁:=⟨n',s,h,ah.refl s,hI⟩
theorem aR (hΦ:aE b₀ Φ) (ho:o.op=.call ⟨.value (.func f),args,tys⟩)
  (hp:ba P f (args.toList.map s.ev) R) (hd:(args.toList.map s.ev).all eE=true) (hk:∀r,R r→K (s.put o.dst r)):aS (spF P rd b₀ Φ B0 Ψ) o s k:=
 vt hΦ (by simp[aA,ho]) (sL (B:=0) (k:=k) ho hp hd hk)
theorem bL (hΦ:aE b₀ Φ) (ho:o.op=.call ⟨.value (.func f),args,tys⟩) {R:AV→(Nat→Nat)→Obs→Prop}
  (hp:gf P f (args.toList.map s.ev) s.gen s.obj R) (hk:∀r g' ob',R r g' ob'→K (St.put ⟨s.f,g',ob'⟩ o.dst r)):aS (spF P rd b₀ Φ B0 Ψ) o s k:=
 vt hΦ (by simp[aA,ho]) (ei (B:=0) (k:=k) ho hp hk)
theorem dr{B:Nat}{t:Nat} (ho:o.op=.call ⟨.value (.tmp t),args,tys⟩) (hf:s.f t=.one (.d (.fn f)))
  (hp:ba P f (args.toList.map s.ev) R) (hd:(args.toList.map s.ev).all eE=true) (hk:∀r,R r→K (s.put o.dst r)):aS (spB P B) o s k:=by
 refine⟨fun s'=>∃r,R r∧s'=s.put o.dst r,?_,fun _ ⟨r,hr,e⟩=>e▸hk r hr⟩
 intro b₀ N β a w hr hdst next Q hn
 have hv:=hr.f t
 rw[hf] at hv
 simp only[ag,aw] at hv
 have hv:a.tmps.getD t undef=.func (.func f) #[] #[]:=by generalize a.tmps.getD t undef=v at hv;cases hv;rfl
 have hrun:(execOp a.eval o).run P w=.ok (.enter f (args.map a.eval)) w:=by
  obtain⟨fn,h1,h2,h3⟩:=hp.1
  have h2:¬fn.body=none:=by intro h;rw[h] at h2;simp at h2
  have h3:¬fn.name = "runtime.NumGoroutine":=by simpa using h3
  simp[execOp,ho,resolve,Act.eval,hv,Deferred.ofValue,invoke,callFunc,h1,h2,h3]
 unfold Oper.wp
 rw[hrun]
 simp only[Oper.upon]
 have hargs:∀l:List Operand,(l.map s.ev).all eE=true→RVs (Imm b₀ β s.obj w) w (l.map s.ev) (l.map a.eval):=by
  intro l
  induction l with
  |nil=>intro _;simp only[v7,RVs]
  |cons x l ih=>
    intro h
    simp only[l7,D1,l9] at h
    simp only[l7,RVs]
    exact⟨_,_,rfl,ag.data h.1 (hr.ev x),ih h.2⟩
 have:=hp.2 (Imm b₀ β s.obj w) w (args.toList.map a.eval) (fun _ h=>h.1) (hargs _ hd)
 rw[show (args.toList.map a.eval).toArray=args.map a.eval from F7 a8] at this
 refine this.mono fun e w' ⟨v,r,he,hR,hs,hh,hos,hv⟩=>?_
 subst he
 obtain⟨g1,g2⟩:=hr.grow hs hh hos
 refine hn _ β _ w' ⟨r,hR,rfl⟩ (g1.put hdst (RV.rep r (RV.mono (fun b hb=>⟨qs hr (fun _ h=>h) hb,rfl⟩) r hv))) (g2.trans (Tr.same (St.put_gen _ _ _) (St.put_obj _ _ _) rfl))
theorem oJ (hΦ:aE b₀ Φ){t:Nat} (ho:o.op=.call ⟨.value (.tmp t),args,tys⟩) (hf:s.f t=.one (.d (.fn f)))
  (hp:ba P f (args.toList.map s.ev) R) (hd:(args.toList.map s.ev).all eE=true) (hk:∀r,R r→K (s.put o.dst r)):aS (spF P rd b₀ Φ B0 Ψ) o s k:=
 vt hΦ (by simp[aA,ho]) (dr (B:=0) (k:=k) ho hf hp hd hk)
end
section
variable {S:Sp}{T:Nat→TI}
@[go_sem] theorem Eo {fo:Operand}{ps:Array Tmp}{x y:Code}{f:Nat→AV}{g:Nat→Nat}{ob:Nat→Option (List C)}{q:Box Q}:wpC S T (.rangeFunc fo ps x y) q ⟨f,g,ob⟩=yy S (.rangeFunc fo ps x y) ⟨f,g,ob⟩ q:=l0 rfl rfl
end
end
end
section
open Go.ChangeShapes Go.WideShapes Go.ChangeAt Go.RowKit
section
variable {H:Type}{enc:TypeId×Value→H}
end
end
section
section
abbrev bF:=Nat→Option Obj
def nf (gb:Nat) (o:bF) (w:World):Prop:=gb<w.heap.size∧∀b,b≤gb→w.heap[b]? = o b
variable {o:bF}{f:FuncId}{s:St}{w:World}{R:AV→Prop}{Φ:St→Loc→List Deferred→World→Prop}{K:St→Prop}{gb gb':Nat}{P:Program}{args:List AV}{tys:Array TypeId}{k:Box K}
theorem nf.lt {gb:Nat} (h:nf gb o w):gb<w.heap.size:=h.1
theorem nf.down (hl:gb≤gb') (h:nf gb' o w):nf gb o w:=⟨L2 hl h.1,fun b hb=>h.2 b (A9 hb hl)⟩
def nF (b₀:Bs) (gb:Nat) (o:bF) (w:World):Prop:=(gb<b₀.B∧∀b,b≤gb→b₀.I b)∧nf gb o w
def bj (P:Program) (gb:Nat) (o:bF) (f:FuncId) (args:List AV) (R:AV→Prop):Prop:=
 uu P f∧∀(J:Nat→Prop) (w:World) (vs:List Value),nf gb o w→(∀b,J b→b<w.heap.size)→RVs J w args vs→
  Calls P f vs.toArray w fun e w'=>∃v r,e=.returned v∧R r∧w.heap.size≤w'.heap.size∧(∀b,b<w.heap.size→w'.heap[b]? = w.heap[b]?)∧(w'.os=w.os∧w'.output=w.output)∧RV (fun b=>b<w'.heap.size∧(b<w.heap.size→J b∨b≤gb)) w' r v
theorem ba.toG{gb:Nat} (h:ba P f args R):bj P gb o f args R:=
 ⟨h.1,fun J w vs _ h1 h2=>(h.2 J w vs h1 h2).mono fun _ _ ⟨v,r,q1,q2,q3,q4,q5,q6⟩=>⟨v,r,q1,q2,q3,q4,q5,RV.mono (fun _ hb=>⟨⟨hb.1,fun hl=>.inl (hb.2 hl)⟩,rfl⟩) r q6⟩⟩
def sj (P:Program) (gb:Nat) (o:bF) (f:FuncId) (xs:List AV) (g:Nat→Nat) (ob:Obs) (R:AV→(Nat→Nat)→Obs→Prop):Prop:=
 uu P f∧∀(b₀:Bs) (N:Nat) (β:Loc) (a:Act) (fa:Nat→AV) (w:World) (vs:List Value),gb<b₀.B→nF b₀ gb o w→Rel b₀ N ⟨fa,g,ob⟩ β a w→ax b₀ β g ob w xs vs→
  Calls P f vs.toArray w fun e w'=>∃v r g' ob' β',e=.returned v∧R r g' ob'∧ag b₀ β' g' ob' w' r v∧
   (∀id cells,ob' id=some cells→bX b₀ β' g' ob' w' (g' id) cells (β' id))∧(∀id id' a a',(ob' id).isSome=true→(ob' id').isSome=true→β' id=some a→β' id'=some a'→a.block=a'.block→id=id')∧
   Tr b₀ β ⟨fa,g,ob⟩ w β' ⟨fa,g',ob'⟩ w'
def MJ (gb:Nat) (o:bF) (b₀:Bs) (β0:Loc) (s0:St) (w0:World):St→Loc→List Deferred→World→Prop:=fun s β ds w=>(gb<b₀.B∧nF b₀ gb o w)∧zN b₀ β0 s0 w0 s β ds w
section
variable {P:Program}{T:Nat→TI}{b₀:Bs}{rd:Option Nat}{gb:Nat}{o:bF}{Ψ:fF}{B0:Nat}{β0:Loc}{s0:St}{w0:World}
theorem ab:aE b₀ (MJ gb o b₀ β0 s0 w0):=fun _ _ _ _ _ _ _ h ht=>⟨⟨h.1.1,h.1.2.1,F0 h.1.2.2.1 ht.size,fun b hb=>by rw[ht.old b (L2 hb h.1.1)];exact h.1.2.2.2 b hb⟩,eR _ _ _ _ _ _ _ h.2 ht⟩
theorem qO {N:Nat}{β:Loc}{a:Act} (hr:Rel b₀ N s β a w) (hG:nF b₀ gb o w) {b:Nat} (hb:b≤gb):Imm b₀ β s.obj w b:=by
 refine⟨L2 hb hG.2.1,fun _=>hG.1.2 b hb,fun id a' ho hβ he=>?_⟩
 obtain⟨cells,hc⟩:=G8.1 ho
 have h:=hr.obj id cells hc
 rw[hβ] at h
 have h1:=h.block.1
 have h2:=hG.1.1
 omega
theorem aj (hΦ:aE b₀ Φ) (hG:∀s β ds w,Φ s β ds w→nF b₀ gb o w) {op:Oper}{args:Array Operand} (ho:op.op=.call ⟨.value (.func f),args,tys⟩)
  (hp:bj P gb o f (args.toList.map s.ev) R) (hd:(args.toList.map s.ev).all eE=true) (hk:∀r,R r→K (s.put op.dst r)):aS (spF P rd b₀ Φ B0 Ψ) op s k:=by
 refine⟨fun s'=>∃r,R r∧s'=s.put op.dst r,?_,fun _ ⟨r,hr,e⟩=>e▸hk r hr⟩
 intro N β a ds w hr hφ hdst next Q hn _
 have hnd:aA op=true:=by simp[aA,ho]
 refine eL hnd ?_
 unfold Oper.wp
 rw[gk ho hp.1 w]
 simp only[Oper.upon]
 have hargs:∀l:List Operand,(l.map s.ev).all eE=true→RVs (Imm b₀ β s.obj w) w (l.map s.ev) (l.map a.eval):=by
  intro l
  induction l with
  |nil=>intro _;simp only[v7,RVs]
  |cons x l ih=>
    intro h
    simp only[l7,D1,l9] at h
    simp only[l7,RVs]
    exact⟨_,_,rfl,ag.data h.1 (hr.ev x),ih h.2⟩
 have:=hp.2 (Imm b₀ β s.obj w) w (args.toList.map a.eval) (hG _ _ _ _ hφ).2 (fun _ h=>h.1) (hargs _ hd)
 rw[show (args.toList.map a.eval).toArray=args.map a.eval from F7 a8] at this
 refine this.mono fun e w' ⟨v,r,he,hR,hs,hh,hos,hv⟩=>?_
 subst he
 obtain⟨g1,g2⟩:=hr.grow hs hh hos
 have g3:=g2.trans (Tr.same (St.put_gen s op.dst r) (St.put_obj s op.dst r) rfl)
 have h1:=g1.put hdst (RV.rep r (RV.mono (fun b hb=>⟨qs hr (J:=fun b=>Imm b₀ β s.obj w b∨b≤gb) (fun b h=>h.elim id (qO hr (hG _ _ _ _ hφ))) hb,rfl⟩) r hv))
 exact⟨h1.defers,hn _ β _ w' ⟨r,hR,rfl⟩ h1 (hΦ _ _ _ _ _ _ _ hφ g3)⟩
theorem jV (hΦ:aE b₀ Φ) (hG:∀s β ds w,Φ s β ds w→nF b₀ gb o w) (hT:aF P T) {dst:Option Tmp}{t n e gi:Nat}{ix:Operand}{ty:TypeId}{ps:String}{af:Array Edge}{gd:Option (Nat×Bool)}
  (ht:(T t).desc=.array n e) (he:okD (T e).desc=true) (hgi:gi≤gb) {kd:IntKind}{i:Nat} (hix:s.ev ix=iv kd i) (hi:i<n) {cs:List D} (hcs:∀(j:Nat) (x:D),cs[j]? = some x→ji x=true)
  (hrow:∀w:World,nf gb o w→∀(j:Nat) (x:D),cs[j]? = some x→w.cell? ⟨gi,i*(T e).size+j,none⟩=some (dV x)) (hk:K (s.put dst (.one (.d (.iptr cs))))) :
  aS (spF P rd b₀ Φ B0 Ψ) ⟨dst,.indexAddr t (.global gi) ix,ty,ps,af,gd⟩ s k:=by
 refine⟨fun s'=>s'=s.put dst (.one (.d (.iptr cs))),fun N β a ds w hr hφ hd next Q hn _=>?_,fun _ e=>e▸hk⟩
 refine eL rfl ?_
 have hH:=hG _ _ _ _ hφ
 have hvi:=hr.ev ix
 rw[hix] at hvi
 simp only[ag,aw] at hvi
 have hvi:=hvi.inv_int
 have hu:=(hT t (by rw[ht];rfl)).desc
 rw[ht] at hu
 have hte:=hT e he
 have hex:(execOp a.eval ⟨dst,.indexAddr t (.global gi) ix,ty,ps,af,gd⟩).run P w=.ok (.value (.pointer (some ⟨gi,i*(T e).size,none⟩))) w:=by
  simp[execOp,hvi,show a.eval (.global gi)=.pointer (some ⟨gi,0,none⟩) from rfl,Instr.indexAt,asIntOf,run_underlying hu,hi,aW hte,cr,Instr.sureAddr]
 have hr':=hr.put hd (x:=.one (.d (.iptr cs))) (v:=.pointer (some ⟨gi,i*(T e).size,none⟩)) (by
  simp only[ag,aw]
  refine .iptr (fun j=>dV (cs.getD j .nsl)) (fun _=>qO hr hH hgi) (fun j x hx=>?_) (fun j x hx=>?_)
  ·rw[hrow w hH.2 j x hx];simp[D2,hx]
  ·rw[show cs.getD j .nsl=x by simp[D2,hx]];exact bA.of_plain (hcs j x hx))
 exact cM hex ⟨hr'.defers,hn _ β _ w rfl hr' (hΦ _ _ _ _ _ _ _ hφ (Tr.same (St.put_gen _ _ _) (St.put_obj _ _ _) rfl))⟩
theorem jW (hΦ:aE b₀ Φ) (hG:∀s β ds w,Φ s β ds w→gb<b₀.B∧nF b₀ gb o w) {op:Oper}{args:Array Operand} (ho:op.op=.call ⟨.value (.func f),args,tys⟩) {R:AV→(Nat→Nat)→Obs→Prop}
  (hp:sj P gb o f (args.toList.map s.ev) s.gen s.obj R) (hk:∀r g' ob',R r g' ob'→K (St.put ⟨s.f,g',ob'⟩ op.dst r)):aS (spF P rd b₀ Φ B0 Ψ) op s k:=by
 refine⟨fun s'=>∃r g' ob',R r g' ob'∧s'=St.put ⟨s.f,g',ob'⟩ op.dst r,?_,fun _ ⟨r,g',ob',hr,e⟩=>e▸hk r g' ob' hr⟩
 intro N β a ds w hr hφ hdst next Q hn _
 have hnd:aA op=true:=by simp[aA,ho]
 refine eL hnd ?_
 unfold Oper.wp
 rw[gk ho hp.1 w]
 simp only[Oper.upon]
 obtain⟨hg1,hg2⟩:=hG _ _ _ _ hφ
 have:=hp.2 b₀ N β a s.f w (args.toList.map a.eval) hg1 hg2 hr (fc hr _)
 rw[show (args.toList.map a.eval).toArray=args.map a.eval from F7 a8] at this
 refine this.mono fun e w' ⟨v,r,g',ob',β',he,hR,hv,h1,h2,h3⟩=>?_
 subst he
 obtain⟨k1,k2⟩:=eQ hr hdst hv h1 h2 h3
 exact⟨k1.defers,hn _ β' _ w' ⟨r,g',ob',hR,rfl⟩ k1 (hΦ _ _ _ _ _ _ _ hφ k2)⟩
end
def MK (gb:Nat) (o:bF) (b₀:Bs) (β0:Loc) (s0:St) (w0:World):St→Loc→List Deferred→World→Prop:=fun s β ds w=>(gb<b₀.B∧nF b₀ gb o w)∧ds=[]∧Tr b₀ β0 s0 w0 β s w
section
variable {P:Program}{T:Nat→TI}{gb:Nat}{o:bF}
theorem dH {b₀:Bs}{β0:Loc}{s0:St}{w0:World}:aE b₀ (MK gb o b₀ β0 s0 w0):=fun _ _ _ _ _ _ _ h ht=>⟨⟨h.1.1,h.1.2.1,F0 h.1.2.2.1 ht.size,fun b hb=>by rw[ht.old b (L2 hb h.1.1)];exact h.1.2.2.2 b hb⟩,h.2.1,h.2.2.trans ht⟩
end
theorem bj.up (hl:gb≤gb') (h:bj P gb o f args R):bj P gb' o f args R:=
 ⟨h.1,fun J w vs hG h1 h2=>(h.2 J w vs (hG.down hl) h1 h2).mono fun _ _ ⟨v,r,q1,q2,q3,q4,q5,q6⟩=>⟨v,r,q1,q2,q3,q4,q5,RV.mono (fun _ hb=>⟨⟨hb.1,fun hw=>(hb.2 hw).imp id (fun h=>A9 h hl)⟩,rfl⟩) r q6⟩⟩
end
section
variable {a:Act}{c:Code}{s:St}{K:Act→Prop}{ds:List Deferred}{Q:Exit→Act→World→Prop}{k:List Item}{cs:List Frame}
section
variable {P:Program}{T:Nat→TI}{b₀:Bs}{w:World}{rd:Option Nat}{Φ:St→Loc→List Deferred→World→Prop}{Ψ:fF}{B:Nat}{ops:Array Oper}
theorem qP (ha:a.defers=[]) (d:Option Nat) (v:Value):(a.put d v).defers=[]:=by cases d <;> exact ha
theorem uj {o:Oper} (ha:a.defers=[]) (h:o.still P a w K):o.still P a w (fun a'=>a'.defers=[]∧K a'):=by
 unfold Oper.still at *
 generalize (execOp a.eval o).run P w=r at *
 cases r with
 |ok n w'=>
   cases n <;> simp only[Oper.stillUpon] at h ⊢
   case enter f args=>obtain⟨h1,v,hc,hn⟩:=h;exact⟨h1,v,hc,qP ha _ _,hn⟩
   all_goals exact⟨h.1,qP ha _ _,h.2⟩
 |halt x w'=>simp only[Oper.stillUpon] at h
theorem lD {i:Nat}{K':Act→World→Prop}{Q':Exit→Act→World→Prop} (ha:a.defers=[]) (hnd:ops.toList.all aA=true) (h:∀a',a'.defers=[]→K a'→K' { a' with defers:=ds } w) (hh:stOp P ops w i K a) :
  wpOpIn (fen rd) 0 P ops Q' i K' { a with defers:=ds } w:=by
 unfold stOp at hh
 unfold wpOpIn
 cases ho:ops[i]? with
 |none=>simp only[ho] at hh ⊢;exact h _ ha hh
 |some o=>
   simp only[ho] at hh ⊢
   have hno:aA o=true:=s7.1 hnd o (by
    obtain⟨hi,e⟩:=A1.1 ho
    rw[←e];exact E9 hi)
   by_cases hw:Region.wanted o (yielded ops a.tmps)=true
   ·rw[if_pos hw] at hh ⊢
    exact eL hno (Oper.wp_of_still (K':=fun a' w'=>a'.defers=[]∧K' { a' with defers:=ds } w') (fun a' hk=>⟨hk.1,h a' hk.1 hk.2⟩) (uj ha hh))
   ·rw[if_neg hw] at hh ⊢
    refine⟨fun _ _=>trivial,?_⟩
    rw[lA]
    exact h _ (qP ha _ _) hh
theorem kU {n g:Nat}{ds:List Deferred}{L:Array Bool→Act→Prop}{Q':Exit→Act→World→Prop} (hnd:ops.toList.all aA=true) (hL:∀listed a,a.defers=[]→L listed a→wpAnyIn (fen rd) 0 P .any ops Q' g listed { a with defers:=ds } w) :
  ∀(f:Nat) (listed:Array Bool) (a:Act),a.defers=[]→wpAnyL P .any ops w n L f listed a→wpAnyIn (fen rd) 0 P .any ops Q' (f+g) listed { a with defers:=ds } w
 |0,listed,a,ha,h=>by rw[C9];exact hL _ _ ha h
 |f+1,listed,a,ha,h=>by
   rw[show f+1+g=(f+g)+1 by omega]
   exact⟨fun h0=>absurd h0 h.1,fun i hi=>lD ha hnd (fun a' ha' h'=>kU hnd hL f _ a' ha' h') (h.2 i hi).2⟩
theorem jX {ds:List Deferred}{Q:Act→Prop}{Q':Exit→Act→World→Prop} (hnd:ops.toList.all aA=true) (hQ:∀a,a.defers=[]→Q a→Q' .normal { a with defers:=ds } w):∀(fuel:Nat) (listed:Array Bool) (a:Act),a.defers=[]→
  wpAnyS P .any ops w Q fuel listed a→wpAnyIn (fen rd) 0 P .any ops Q' fuel listed { a with defers:=ds } w
 |0,_,_,ha,h=>⟨h.1,hQ _ ha h.2⟩
 |fuel+1,_,_,ha,h=>⟨fun h0=>hQ _ ha (h.1 h0),fun i hi=>lD ha hnd (fun a' ha'=>jX hnd hQ fuel _ a' ha') (h.2 i hi)⟩
theorem lE {F:Fence}{n:Nat}{Q':Exit→Act→World→Prop}:∀(l:List Oper) (k:Nat) (listed:Array Bool) (a:Act) (w:World),(∀j,l[j]? = ops[k+j]?)→
  Region.seqB .any ops l.length k listed=true→wpListIn F n P ops Q' l a w→wpAnyIn F n P .any ops Q' l.length listed a w
 |[],_,_,_,_,_,hB,h=>⟨by simpa[Region.seqB] using hB,h⟩
 |o::l,k,listed,a,w,hl,hB,h=>by
   have h0:ops[k]? = some o:=by simpa using(hl 0).symm
   simp only[j7,Region.seqB,l9,A5] at hB
   refine⟨fun h1=>(by rw[hB.1] at h1;cases h1),fun i hi=>?_⟩
   rw[hB.1] at hi
   have hik:i=k:=by simpa using hi
   subst hik
   have hw:wpOpIn F n P ops Q' i (wpListIn F n P ops Q' l) a w:=by unfold wpOpIn;simp only[h0];exact h
   exact wpOpIn_mono (fun a' w' h'=>lE l (i+1) _ a' w' (fun j=>by have:=hl (j+1);simpa[B6,Nat.add_comm 1 j] using this) hB.2 h') hw
theorem zU {o:Oper} (hp:cH T o.op=true){K:St→Prop}{k:Box K} (h:opA (spF P rd b₀ Φ B Ψ) T o s k):opA (spB P B) T o s k:=by
 obtain⟨dst,op,ty,ps,af,gd⟩:=o
 cases op with
 |slice t x lo hi mx=>cases mx <;> first|exact h|(simp[cH] at hp;done)
 |indexAddr t x ix=>cases x <;> first|(simp[cH] at hp;done)|exact h
 |makeFunc f=>cases f <;> first|exact h|(simp[cH] at hp;done)
 |call c=>
   obtain⟨callee,args,tys⟩:=c
   cases callee with
   |value f=>simp[cH] at hp
   |invoke r m=>simp[cH] at hp
   |builtin b=>cases b <;> first|exact h|(simp[cH] at hp;done)
 |_=>first|exact h|(simp[cH] at hp;done)
theorem eN (hT:aF P T) {N:Nat}{β:Loc}{Q:Act→Prop}{K:St→Prop}{k:Box K} (more:List Oper):∀(l:List Oper) {s:St}{a:Act},Rel b₀ N s β a w→dZ N l=true→l.all (cH T ·.op)=true→wpO (spF P rd b₀ Φ B Ψ) T ops (l++more) s k→
  (∀s' a',wpO (spF P rd b₀ Φ B Ψ) T ops more s' k→Rel b₀ N s' β a' w→Tr b₀ β s w β s' w→Q a')→wpStill P ops w Q l a
 |[],s,a,hr,_,_,h,hQ=>hQ s a h hr Tr.refl
 |o::rest,s,a,hr,hds,hp,h,hQ=>by
   obtain⟨hd,hds'⟩:=iz hds
   simp only[D1,l9] at hp
   rw[z6] at h
   unfold wpO at h
   unfold wpStill
   have hop:∀{s0:St},Rel b₀ N s0 β a w→Tr b₀ β s w β s0 w→opA (spF P rd b₀ Φ B Ψ) T o s0 (bx fun s'=>wpO (spF P rd b₀ Φ B Ψ) T ops (rest++more) s' k)→o.still P a w (wpStill P ops w Q rest):=fun {s0} hr0 ht0 h0=>by
    obtain⟨y,cv,h1,h2,h3⟩:=nK hT hr0 hp.1 (zU hp.1 h0)
    unfold Oper.still
    rw[h2 w .refl]
    refine⟨rfl,eN hT more rest (hr0.put hd h3) hds' hp.2 h1 (fun s' a' k1 k2 k3=>hQ s' a' k1 k2 (ht0.trans (Tr.trans (Tr.same (St.put_gen _ _ _) (St.put_obj _ _ _) rfl) k3)))⟩
   cases hg:o.guard with
   |none=>
     rw[hg] at h
     simp only at h
     rw[if_pos (by simp[Region.wanted,hg])]
     exact hop hr Tr.refl h
   |some p=>
     obtain⟨j,want⟩:=p
     rw[hg] at h
     simp only at h
     obtain⟨d,hj,h⟩:=aB h
     unfold ks at h
     split at h
     ·rename_i b hb
      have hy:=hr.yielded hj hb
      have h:=gW h
      have hr':=hr.reput hb
      by_cases hw:b=want
      ·rw[if_pos hw] at h
       rw[if_pos (by simp[Region.wanted,hg,hy,hw])]
       exact hop hr' (Tr.same rfl rfl rfl) h
      ·rw[if_neg hw] at h
       rw[if_neg (by simp[Region.wanted,hg,hy,hw])]
       have hp':=hr'.put hd (x:=uv) (v:=undef) bH
       exact eN hT more rest hp' hds' hp.2 h (fun s2 a2 k1 k2 k3=>hQ _ _ k1 k2 (Tr.trans (Tr.same (by rw[St.put_gen]) (by rw[St.put_obj]) rfl) k3))
     ·rename_i hb
      have hy:=hr.yielded_u hj hb
      rw[if_neg (by simp[Region.wanted,hg,hy])]
      have hp':=hr.put hd (x:=uv) (v:=undef) bH
      exact eN hT more rest hp' hds' hp.2 h (fun s2 a2 k1 k2 k3=>hQ _ _ k1 k2 (Tr.trans (Tr.same (by rw[St.put_gen]) (by rw[St.put_obj]) rfl) k3))
     ·exact h.elim
theorem ng (hT:aF P T) (hm:P.follows .mixedOrders=true) (hΦ:aE b₀ Φ) {N id:Nat}{β:Loc}{K:St→Prop}{k:Box K} (hr:Rel b₀ N s β a w) (hφ:Φ s β ds w) (hnd:ops.toList.all aA=true) (hd:dZ N ops.toList=true) (hok:jh T ops=true)
  (h:wpO (spF P rd b₀ Φ B Ψ) T ops ops.toList s k) (hQ:∀s' β' a' w',K s'→Rel b₀ N s' β' a' w'→Φ s' β' ds w'→Q .normal { a' with defers:=ds } w') (hX:∀ch s' β' a' w',Ψ ch s'→Rel b₀ N s' β' a' w'→Φ s' β' ds w'→Q (.panic ch) { a' with defers:=ds } w'):(Code.region id ops true).wpIn (fen rd) 0 P Q { a with defers:=ds } w:=by
 have hr1:Rel b₀ N s β a { w with drawn:=w.drawn+1 }:=hr.of_heap rfl
 have hφ1:Φ s β ds { w with drawn:=w.drawn+1 }:=hΦ _ _ _ _ _ _ _ hφ (Tr.same rfl rfl rfl)
 simp only[jh,B5,l9,M6] at hok
 refine wpIn_region_any hm ?_
 rcases hok with⟨hp,hB⟩|⟨m,_,hp,hB⟩
 ·simp only[Region.lexB,l9] at hB
  refine jX (Q:=fun a'=>a'.defers=[]→Q .normal { a' with defers:=ds } { w with drawn:=w.drawn+1 }) hnd (fun a' ha h=>h ha) _ _ _ hr.defers ?_
  have hst:wpStill P ops { w with drawn:=w.drawn+1 } (fun a'=>a'.defers=[]→Q .normal { a' with defers:=ds } { w with drawn:=w.drawn+1 }) ops.toList a:=
   eN hT [] ops.toList hr1 hd hp (by rw[n0];exact h) (fun s' a' k1 k2 k3 _=>hQ _ _ _ _ k1 k2 (hΦ _ _ _ _ _ _ _ hφ1 k3))
  have:=wpAnyS_lex (md:=.any) hB.1 ops.toList 0 (Array.replicate ops.size false) a a8 (by simpa using hB.2) hst
  simpa using this
 ·obtain⟨l,rfl⟩:∃l:List Oper,ops=l.toArray:=⟨ops.toList,a8⟩
  generalize hn0:l.toArray.size-m=n at hp hB
  simp only[Region.lexTailB,l9,A5] at hB
  obtain⟨⟨⟨⟨hsel,hn⟩,hs⟩,hc⟩,hlex⟩:=hB
  have hn':n<l.length:=by simpa using hn
  have htl:(l.take n).length=n:=by simp;omega
  have hdl:(l.drop n).length=l.toArray.size-n:=a8
  have inv0:HeadInv .any l.toArray n (Array.replicate l.toArray.size false):=
   ⟨a8,fun j oj _ hl=>(by rw[getD_replicate_false] at hl;cases hl),fun t _ ht=>getD_in (by simpa using ht) (getD_replicate_false _ _)⟩
  obtain⟨d1,d2⟩:=pQ hd n
  have hnd2:(l.drop n).all aA=true:=s7.2 fun o ho=>s7.1 hnd o (by simpa using P3 ho)
  have hst:wpStill P l.toArray { w with drawn:=w.drawn+1 } (fun a'=>a'.defers=[]→wpListIn (fen rd) 0 P l.toArray Q (l.drop n) { a' with defers:=ds } { w with drawn:=w.drawn+1 }) (l.take n) a:=by
   refine eN hT (l.drop n) (l.take n) hr1 d1 hp (by rw[G2];simpa using h) (fun s' a' k1 k2 k3 _=>?_)
   exact fG hT hΦ (l.drop n) k2 (hΦ _ _ _ _ _ _ _ hφ1 k3) hnd2 d2 k1 hQ hX
  have H:=wpAnyL_lex (md:=.any) (g:=l.toArray.size-n) hsel hs hc hn (l.take n) 0 _ a (fun j hj=>by
   have hj':j<n:=by rw[htl] at hj;exact hj
   simp[hj']) (by simpa using htl) inv0 (by rw[htl];exact hlex) hst
  have:=kU (Q':=Q) (ds:=ds) (rd:=rd) (g:=l.toArray.size-n) hnd (fun listed a' ha hL=>by
   have:=lE (Q':=Q) (F:=fen rd) (n:=0) (l.drop n) n listed { a' with defers:=ds } { w with drawn:=w.drawn+1 } (fun j=>by simp[G1]) (by rw[hdl];exact hL.1) (hL.2 ha)
   rwa [hdl] at this) _ _ _ hr.defers H
  rw[htl,show n+(l.toArray.size-n)=l.toArray.size by omega] at this
  exact this
theorem fN {P:Program}{b:Frame}{w:World}:step P (lone (b.atR a (.code (.scope c)::k)) cs w)=.next (lone (b.atR a (.code c::.inScope c::k)) cs w):=
 step_lone_go (by simp[stepG,stepG.exec,Frame.atR])
theorem sk {P:Program}{b:Frame}{w:World}:step P (lone (b.atR a (.inScope c::k)) cs w)=.next (lone (b.atR a k) cs w):=
 step_lone_go (by simp[stepG,stepG.exec,Frame.atR])
theorem xy {F:Fence}{n:Nat}{P:Program}{w:World} (h:c.wpIn F n P (Exit.noGoto Q) a w):(Code.scope c).wpIn F n P Q a w:=by
 intro b k cs hro hb hr
 have h0:(lone (b.atR a (.code (.scope c)::k)) cs w).fenced P F:=fenced_calm hb hr rfl
 obtain⟨e,a₁,w₁,hq,harr⟩:=h b (.inScope c::k) cs hro hb hr
 cases e with
 |normal=>exact⟨.normal,a₁,w₁,hq,.head h0 fN (StepsIn.trans harr (.one (fenced_calm hb hr rfl) sk))⟩
 |exit id'=>
   have hx:exitTo id' (.inScope c::k)=exitTo id' k:=by simp[exitTo]
   exact⟨.exit id',a₁,w₁,hq,fun k' hk=>.head h0 fN (harr.1 k' (by rw[hx];exact hk)),
    fun hr' hk=>let ⟨k₁,h1,h2⟩:=harr.2 hr' (by rw[hx];exact hk);⟨k₁,h1,.head h0 fN h2⟩⟩
 |goto l=>exact hq.elim
 |ret=>exact⟨_,a₁,w₁,hq,.of_steps (.one h0 fN) harr⟩
 |panic ch=>exact⟨_,a₁,w₁,hq,.of_steps (.one h0 fN) harr⟩
 |outgrown=>exact⟨_,a₁,w₁,hq,.of_steps (.one h0 fN) harr⟩
def eO:Code→Bool
 |.region _ ops _=>ops.toList.all aA
 |.seq x y=>eO x&&eO y
 |.cond _ x y=>eO x&&eO y
 |.block _ c=>eO c
 |.loop c=>eO c
 |.scope c=>eO c
 |_=>true
theorem bb (hT:aF P T) (hm:P.follows .mixedOrders=true) (hΦ:aE b₀ Φ) {N:Nat}:∀(c:Code) {Q:Exit→St→Prop}{q:Box Q}{s:St}{β:Loc}{a:Act}{ds:List Deferred}{w:World},eO c=true→codeOk N c=true→Rel b₀ N s β a w→Φ s β ds w→wpC (spF P rd b₀ Φ B Ψ) T c q s→c.wpIn (fen rd) 0 P (vp b₀ N Φ Ψ Q) { a with defers:=ds } w
 |.skip,_,_,s,β,a,ds,_,_,_,hr,hφ,h=>wpIn_skip ⟨s,β,a,ds,rfl,.inl h,hr,hφ⟩
 |.label _,_,_,s,β,a,ds,_,_,_,hr,hφ,h=>wpIn_label ⟨s,β,a,ds,rfl,.inl h,hr,hφ⟩
 |.exit _,_,_,s,β,a,ds,_,_,_,hr,hφ,h=>wpIn_exit ⟨s,β,a,ds,rfl,.inl h,hr,hφ⟩
 |.goto _,_,_,s,β,a,ds,_,_,_,hr,hφ,h=>wpIn_goto ⟨s,β,a,ds,rfl,.inl h,hr,hφ⟩
 |.ret,_,_,s,β,a,ds,_,_,_,hr,hφ,h=>wpIn_ret ⟨s,β,a,ds,rfl,.inl h,hr,hφ⟩
 |.region id ops b,Q,q,s,β,a,ds,w,hcm,hc,hr,hφ,h=>by
   simp only[eO] at hcm
   cases b with
   |false=>
     have h:wpO (spF P rd b₀ Φ B Ψ) T ops ops.toList s (bx fun s'=>Q .normal s'):=h
     exact wpIn_region_list (fG hT hΦ ops.toList hr hφ hcm hc h (fun s' β' a' w' h1 h2 h3=>⟨s',β',a',ds,rfl,.inl h1,h2,h3⟩) (fun ch s' β' a' w' h1 h2 h3=>⟨s',β',a',ds,rfl,.inr ⟨ch,rfl,h1⟩,h2,h3⟩))
   |true=>
     rcases h with⟨hok,h⟩|⟨R,hR,hK⟩
     ·exact ng hT hm hΦ hr hφ hcm hc hok h (fun s' β' a' w' h1 h2 h3=>⟨s',β',a',ds,rfl,.inl h1,h2,h3⟩) (fun ch s' β' a' w' h1 h2 h3=>⟨s',β',a',ds,rfl,.inr ⟨ch,rfl,h1⟩,h2,h3⟩)
     ·exact wpIn_mono (hR N β a ds w hc hr hφ) (fun e a' w' ⟨s',β',a0,ds',h0,h1,h2,h3⟩=>⟨s',β',a0,ds',h0,h1.imp (hK _ _) (fun h=>h),h2,h3⟩)
 |.seq x y,Q,q,s,β,a,ds,w,hcm,hc,hr,hφ,h=>by
   simp only[codeOk,l9] at hc
   simp only[eO,l9] at hcm
   have h:wpC (spF P rd b₀ Φ B Ψ) T x (bx (jz (bx fun s'=>wpC (spF P rd b₀ Φ B Ψ) T y q s') q)) s:=h
   refine wpIn_seq (wpIn_mono (bb hT hm hΦ x hcm.1 hc.1 hr hφ h) (fun e a' w' hp=>?_))
   obtain⟨s',β',a0,ds',rfl,h1,h2,h3⟩:=hp
   rcases h1 with h1|⟨ch,rfl,h1⟩
   ·cases e with
    |normal=>exact bb hT hm hΦ y hcm.2 hc.2 h2 h3 h1
    |_=>exact⟨s',β',a0,ds',rfl,.inl h1,h2,h3⟩
   ·exact⟨s',β',a0,ds',rfl,.inr ⟨ch,rfl,h1⟩,h2,h3⟩
 |.cond c x y,Q,q,s,β,a,ds,w,hcm,hc,hr,hφ,h=>by
   simp only[codeOk,l9] at hc
   simp only[eO,l9] at hcm
   obtain⟨b,hb,h⟩:=kB h (hr.ev c)
   refine wpIn_cond (t:=b) hb ?_
   cases b
   ·exact bb hT hm hΦ y hcm.2 hc.2 hr hφ h
   ·exact bb hT hm hΦ x hcm.1 hc.1 hr hφ h
 |.block id c,Q,q,s,β,a,ds,w,hcm,hc,hr,hφ,h=>by
   have h:wpC (spF P rd b₀ Φ B Ψ) T c (bx (eK id q)) s:=h
   refine wpIn_block (wpIn_mono (bb hT hm hΦ c hcm hc hr hφ h) (fun e a' w' hp=>?_))
   obtain⟨s',β',a0,ds',rfl,h1,h2,h3⟩:=hp
   rcases h1 with h1|⟨ch,rfl,h1⟩
   ·cases e with
    |exit i=>
      simp only[Exit.inBlock,eK] at h1 ⊢
      split at h1
      ·rename_i he;rw[if_pos he];exact⟨s',β',a0,ds',rfl,.inl h1,h2,h3⟩
      ·rename_i he;rw[if_neg he];exact⟨s',β',a0,ds',rfl,.inl h1,h2,h3⟩
    |_=>exact⟨s',β',a0,ds',rfl,.inl h1,h2,h3⟩
   ·exact⟨s',β',a0,ds',rfl,.inr ⟨ch,rfl,h1⟩,h2,h3⟩
 |.scope c,Q,q,s,β,a,ds,w,hcm,hc,hr,hφ,h=>by
   have h:wpC (spF P rd b₀ Φ B Ψ) T c (bx (ny q)) s:=h
   refine xy (wpIn_mono (bb hT hm hΦ c hcm hc hr hφ h) (fun e a' w' hp=>?_))
   obtain⟨s',β',a0,ds',rfl,h1,h2,h3⟩:=hp
   rcases h1 with h1|⟨ch,rfl,h1⟩
   ·cases e with
    |goto l=>exact h1.elim
    |_=>exact⟨s',β',a0,ds',rfl,.inl h1,h2,h3⟩
   ·exact⟨s',β',a0,ds',rfl,.inr ⟨ch,rfl,h1⟩,h2,h3⟩
 |.loop c,Q,q,s,β,a,ds,w,hcm,hc,hr,hφ,h=>by
   obtain⟨I,⟨n,s₁,hvs,h0⟩,hround⟩:=h
   obtain⟨β₁,hr1,ht1⟩:=hvs b₀ N β a w hr
   refine kS (fun n a' w'=>∃s' β' a0 ds',a' = { a0 with defers:=ds' }∧I n s'∧Rel b₀ N s' β' a0 w'∧Φ s' β' ds' w') n ⟨s₁,β₁,a,ds,rfl,h0,hr1,hΦ _ _ _ _ _ _ _ hφ ht1⟩ ?_
   rintro n a' w' ⟨s',β',a0,ds',rfl,h1,h2,h3⟩
   refine wpIn_mono (bb hT hm hΦ c hcm hc h2 h3 (hround n s' h1)) (fun e a2 w2 hp=>?_)
   obtain⟨s2,β2,a02,ds2,rfl,k1,k2,k3⟩:=hp
   rcases k1 with k1|⟨ch,rfl,k1⟩
   ·cases e with
    |normal=>
      obtain⟨n',s3,hlt,hvs',hI⟩:=k1
      obtain⟨β3,hr3,ht3⟩:=hvs' b₀ N β2 a02 w2 k2
      exact⟨n',hlt,s3,β3,a02,ds2,rfl,hI,hr3,hΦ _ _ _ _ _ _ _ k3 ht3⟩
    |_=>exact⟨s2,β2,a02,ds2,rfl,.inl k1,k2,k3⟩
   ·exact⟨s2,β2,a02,ds2,rfl,.inr ⟨ch,rfl,k1⟩,k2,k3⟩
 |.rangeFunc f ps x y,Q,q,s,β,a,ds,w,hcm,hc,hr,hφ,h=>by
   obtain⟨R,hR,hK⟩:=h
   exact wpIn_mono (hR N β a ds w hc hr hφ) (fun e a' w' ⟨s',β',a0,ds',h0,h1,h2,h3⟩=>⟨s',β',a0,ds',h0,h1.imp (hK _ _) (fun h=>h),h2,h3⟩)
 |.refuse y,Q,q,s,β,a,ds,w,hcm,hc,hr,hφ,h=>by
   obtain⟨R,hR,hK⟩:=h
   exact wpIn_mono (hR N β a ds w hc hr hφ) (fun e a' w' ⟨s',β',a0,ds',h0,h1,h2,h3⟩=>⟨s',β',a0,ds',h0,h1.imp (hK _ _) (fun h=>h),h2,h3⟩)
theorem aI {B0:Nat}{id:Nat}{ops:Array Oper}{Q:Exit→St→Prop}{q:Box Q} (hok:jh T ops=true) (h:wpO (spF P rd b₀ Φ B0 Ψ) T ops ops.toList s (bx fun s'=>Q .normal s')):iL (spF P rd b₀ Φ B0 Ψ) T id ops s q:=.inl ⟨hok,h⟩
end
section
variable {P:Program}{T:Nat→TI}{gb:Nat}{o:bF}
theorem ap (B gb:Nat) (o:bF) (hT:aF P T) (hm:P.follows .mixedOrders=true) {f:FuncId}{fn:Func} (hf:P.funcs[f]? = some fn) (hb:fn.body=some c) (hn:(fn.name == "runtime.NumGoroutine")=false)
  (rs:List ResultVar) (hres:fn.results=rs.toArray) (hcm:eO c=true) (hok:codeOk fn.ntmps c=true) {args:List AV} (hargs:args.length≤fn.ntmps) {R:AV→Prop}
  (h:∀b₀ β0 s0 w0 g,wpC (spF P none b₀ (MJ gb o b₀ β0 s0 w0) B iN) T c (bx (qI T rs R)) ⟨bY args,g,fun _=>none⟩):bj P gb o f args R:=by
 refine⟨⟨fn,hf,by rw[hb];rfl,hn⟩,fun J w vs hheld hJ hv=>?_⟩
 refine dS (n:=0) (callsIn_of_wp_marks hf hb trivial ?_)
 have hlen:∀(l:List AV) (vs:List Value),RVs J w l vs→vs.length=l.length:=by
  intro l
  induction l with
  |nil=>intro vs h;simp only[RVs] at h;subst h;rfl
  |cons x l ih=>intro vs h;simp only[RVs] at h;obtain⟨u,us,rfl,_,h⟩:=h;simp[ih us h]
 have hl:=hlen _ _ hv
 let J':Nat→Prop:=fun b=>J b∨b≤gb
 have hr:Rel ⟨w.heap.size,J'⟩ fn.ntmps ⟨bY args,fun _=>0,fun _=>none⟩ (fun _=>none) { tmps:=vs.toArray++Array.replicate (fn.ntmps-vs.toArray.size) undef,defers:=[]} w:=by
  refine⟨rfl,by simp;omega,fun i=>?_,fun id cells ho=>(by cases ho),fun id id' a a' ho=>(by cases ho),l4 _⟩
  have hget:∀(l:List AV) (vs:List Value),RVs J w l vs→∀(i:Nat) (x:AV),l[i]? = some x→∃v,vs[i]? = some v∧RV J w x v:=by
   intro l
   induction l with
   |nil=>intro vs _ i x h;simp at h
   |cons y l ih=>
     intro vs h i x hx
     simp only[RVs] at h
     obtain⟨u,us,rfl,h1,h2⟩:=h
     cases i with
     |zero=>simp at hx;subst hx;exact⟨u,rfl,h1⟩
     |succ i=>simpa using ih us h2 i x (by simpa using hx)
  simp only[bY]
  cases hx:args[i]? with
  |some x=>
    obtain⟨v,h1,h2⟩:=hget _ _ hv i x hx
    have hlt:i<vs.length:=(l5.1 h1).1
    have:(vs.toArray++Array.replicate (fn.ntmps-vs.toArray.size) undef).getD i undef=v:=by
     rw[u1,C4 (by simpa using hlt)]
     simp[h1]
    rw[this]
    simp only[x6]
    exact RV.rep x (RV.mono (fun b hb=>⟨⟨hJ b hb,fun _=>.inl hb,fun id a ho=>by cases ho⟩,rfl⟩) x h2)
  |none=>
    have hge:args.length≤i:=by simpa using hx
    have:(vs.toArray++Array.replicate (fn.ntmps-vs.toArray.size) undef).getD i undef=undef:=by
     rw[u1,E0 (by simp;omega)]
     simp[B1]
     split <;> rfl
    rw[this]
    exact bH
 refine wpIn_mono (bb (rd:=none) (B:=B) (ds:=[]) hT hm ab c hcm hok hr ⟨⟨hheld.lt,⟨hheld.lt,fun b hb=>.inr hb⟩,hheld⟩,Tr.refl,trivial⟩ (h _ _ _ w _)) (fun e a' w' hp=>?_)
 obtain⟨s',β',a0,ds',rfl,hQ,hr',_,ht,hmk⟩:=hp.plain
 have hres':qI T rs R .ret s'→bodyPostM (fen none) 0 P fn (fun e w'=>∃v r,e=.returned v∧R r∧w.heap.size≤w'.heap.size∧(∀b,b<w.heap.size→w'.heap[b]? = w.heap[b]?)∧(w'.os=w.os∧w'.output=w.output)∧RV (Own ⟨w.heap.size,J'⟩ w') w' r v) .ret { a0 with defers:=ds' } w':=by
  intro hQ
  refine iU hmk (fun w5 h5=>?_)
  obtain⟨v,avs,h1,⟨r,h2,h3⟩,_,vs',rfl,h4⟩:=bS hT (hr'.shut h5) hres hQ
  refine⟨_,h1,_,r,rfl,h3,by rw[h5.size];exact ht.size,fun b hb=>?_,⟨h5.os.1.trans ht.os.1,h5.os.2.trans ht.os.2⟩,h2.rep (hr'.shut h5) h4⟩
  rcases h5.same b with e|⟨e,_⟩
  ·rw[e];exact ht.old b hb
  ·omega
 cases e with
 |normal=>exact hres' hQ
 |ret=>exact hres' hQ
 |exit id=>exact hQ.elim
 |goto l=>exact hQ.elim
 |panic ch=>exact hQ.elim
 |outgrown=>exact hQ.elim
theorem lF (B gb:Nat) (o:bF) (hT:aF P T) (hm:P.follows .mixedOrders=true) {f:FuncId}{fn:Func} (hf:P.funcs[f]? = some fn) (hb:fn.body=some c) (hn:(fn.name == "runtime.NumGoroutine")=false)
  (rs:List ResultVar) (hres:fn.results=rs.toArray) (hcm:eO c=true) (hok:codeOk fn.ntmps c=true) {xs:List AV} (hargs:xs.length≤fn.ntmps) {g:Nat→Nat}{ob:Obs}{R:AV→(Nat→Nat)→Obs→Prop}
  (h:∀b₀ β0 s0 w0,wpC (spF P none b₀ (MK gb o b₀ β0 s0 w0) B iN) T c (bx (nC T rs R)) ⟨bY xs,g,ob⟩):sj P gb o f xs g ob R:=by
 refine⟨⟨fn,hf,by rw[hb];rfl,hn⟩,fun b₀ N β a fa w vs hgb hheld hr0 hv=>?_⟩
 refine dS (n:=0) (callsIn_of_wp hf hb trivial ?_)
 have hr:=iw (N:=fn.ntmps) hargs hr0 hv
 refine wpIn_mono (bb (rd:=none) (B:=B) (ds:=[]) hT hm dH c hcm hok hr ⟨⟨hgb,hheld⟩,rfl,Tr.refl⟩ (h b₀ β ⟨bY xs,g,ob⟩ w)) (fun e a' w' hp=>?_)
 obtain⟨s',β',a0,ds',rfl,hQ,hr',_,rfl,ht⟩:=hp.plain
 have hres':nC T rs R .ret s'→∃v,(results fn a0.tmps).run P w'=.ok v w'∧∃v' r g' ob' β',Ending.returned v=.returned v'∧R r g' ob'∧ag b₀ β' g' ob' w' r v'∧
   (∀id cells,ob' id=some cells→bX b₀ β' g' ob' w' (g' id) cells (β' id))∧(∀id id' a a',(ob' id).isSome=true→(ob' id').isSome=true→β' id=some a→β' id'=some a'→a.block=a'.block→id=id')∧
   Tr b₀ β ⟨fa,g,ob⟩ w β' ⟨fa,g',ob'⟩ w':=by
  rintro⟨s2,hvs,hR⟩
  obtain⟨β2,hr2,ht2⟩:=hvs b₀ fn.ntmps β' a0 w' hr'
  have hta:=ht.trans ht2
  obtain⟨v,avs,h1,h2,h3,_⟩:=bS hT hr2 hres hR
  exact⟨v,h1,v,_,_,_,β2,rfl,h2,h3,hr2.obj,hr2.inj,⟨hta.size,hta.old,hta.keep,hta.os⟩⟩
 cases e with
 |normal=>exact⟨rfl,hres' hQ⟩
 |ret=>exact⟨rfl,hres' hQ⟩
 |exit id=>exact hQ.elim
 |goto l=>exact hQ.elim
 |panic ch=>exact hQ.elim
 |outgrown=>exact hQ.elim
theorem sj.mono {f:FuncId}{xs:List AV}{g:Nat→Nat}{ob:Obs}{R R':AV→(Nat→Nat)→Obs→Prop} (h:sj P gb o f xs g ob R) (hr:∀r g' ob',R r g' ob'→R' r g' ob'):sj P gb o f xs g ob R':=
 ⟨h.1,fun b₀ N β a fa w vs h0 h0' h1 h2=>(h.2 b₀ N β a fa w vs h0 h0' h1 h2).mono fun _ _ ⟨v,r,g',ob',β',q1,q2,q3⟩=>⟨v,r,g',ob',β',q1,hr _ _ _ q2,q3⟩⟩
end
end
section
def dOf:Value→D
 |.bool b=>.bool b
 |.int k n=>.int k n
 |.string s=>.str s.data.toList
 |.slice none 0 0=>.nsl
 |.pointer none=>.nilp
 |.nilFunc=>.nilf
 |.nilIface=>.nili
 |.map none=>.nilm
 |_=>.sl []
theorem BM {v:Value} (h:ji (dOf v)=true):dV (dOf v)=v:=by
 unfold dOf at h ⊢
 split at h <;> first|(cases h;done)|rfl
def nM:Value→Bool
 |.agg _=>false
 |_=>true
theorem dVs:∀{l:List Value},(l.map dOf).all ji=true→l=(l.map dOf).map dV
 |[],_=>rfl
 |v::l,h=>by
   simp only[l7,D1,l9] at h
   rw[l7,l7,BM h.1,←dVs h.2]
def IX (P:Program) (t:Nat):Option TI:=
 match P.underlying t,P.info? t with
 |some d,some i=>match i.zero with
   |some z=>
     let zs:=z.cells.toList.map dOf
     bif zs.all ji && zs.length == i.size && (cG d || nM z) then some ⟨d,i.size,i.bytes,zs⟩ else none
   |none=>none
 |_,_=>none
variable {P:Program}
theorem Fc{t:Nat}{ti:TI} (h:IX P t=some ti):nD P t ti:=by
 unfold IX at h
 split at h
 ·next d i hd hi=>
  split at h
  ·next z hz=>
   simp only[cond_eq_ite] at h
   split at h
   ·next hc=>
    cases h
    simp only[l9,B5,E7] at hc
    obtain⟨⟨h1,h2⟩,h3⟩:=hc
    refine ET (z:=z) hd (by rw[hi];simp[hz]) (dVs h1) h1 h2 (h3.imp id fun ho=>?_)
    have hz1:z.cells.toList=[z]:=by cases z <;> first|rfl|cases ho
    rw[hz1] at h1 ⊢
    simp only[l7,v7,D1,List.all_nil,I8] at h1
    exact(BM h1).symm
   ·cases h
  ·cases h
 ·cases h
theorem Ab{l:List (Nat×TI)} (h:(l.map fun p=>IX P p.1)=l.map fun p=>some p.2):aF P (yG l):=
 sf fun p hp=>Fc (by
  have:=List.map_inj_left.1 h p hp
  exact this)
end
end
end Go.Am
namespace Go.Proofs.YtlglgadejgdpcaaGreatDoor
section
attribute [local congr] Go.Am.ite_cc
open Go Go.Am
def ti2:TI:=⟨.int .i64,1,8,[.int .i64 0]⟩
def ti4:TI:=⟨.bool,1,1,[.bool false]⟩
def ti5:TI:=⟨.int .u8,1,1,[.int .u8 0]⟩
def ti7:TI:=⟨.struct #[⟨ "x",2,0,false,"","runtime",0⟩,⟨ "y",3,1,false,"","runtime",8⟩,⟨ "signed",4,2,false,"","runtime",16⟩,⟨ "code",6,3,false,"","runtime",17⟩],4,24,[.int .i64 0,.int .i64 0,.bool false,.int .u8 0]⟩
def ti9:TI:=⟨.string,1,16,[.str []]⟩
def MU:TI:=⟨.pointer 302,1,8,[.nilp]⟩
def MV:TI:=⟨.interface #[],1,16,[.nili]⟩
def Jf:TI:=⟨.slice 9,1,24,[.nsl]⟩
def MW:TI:=⟨.func #[35] #[9,23] false,1,8,[.nilf]⟩
def Fi:TI:=⟨.int .u32,1,4,[.int .u32 0]⟩
def Jg:TI:=⟨.slice 32,1,24,[.nsl]⟩
def Fj:TI:=⟨.struct #[⟨ "Code",33,0,false,"","",0⟩,⟨ "Data",3,1,false,"","",24⟩],2,32,[.nsl,.int .i64 0]⟩
def Jh:TI:=⟨.slice 112,1,24,[.nsl]⟩
def Ji:TI:=⟨.slice 115,1,24,[.nsl]⟩
def Fk:TI:=⟨.struct #[⟨ "Vars",26,0,false,"","",0⟩,⟨ "Arrays",36,1,false,"","",24⟩,⟨ "Funcs",37,2,false,"","",48⟩],3,72,[.nsl,.nsl,.nsl]⟩
def MX:TI:=⟨.func #[39] #[35,23] false,1,8,[.nilf]⟩
def Fl:TI:=⟨.func #[] #[9,23] false,1,8,[.nilf]⟩
def Jj:TI:=⟨.slice 47,1,24,[.nsl]⟩
def Fm:TI:=⟨.struct #[⟨ "End",3,0,false,"","",0⟩,⟨ "Out",9,1,false,"","",8⟩,⟨ "Steps",3,2,false,"","",24⟩],3,32,[.int .i64 0,.str [],.int .i64 0]⟩
def Fo:TI:=⟨.pointer 58,1,8,[.nilp]⟩
def Jk:TI:=⟨.slice 5,1,24,[.nsl]⟩
def Ca:TI:=⟨.struct #[⟨ "addr",55,0,false,"","strings",0⟩,⟨ "buf",56,1,false,"","strings",8⟩],2,32,[.nilp,.nsl]⟩
def Cb:TI:=⟨.struct #[⟨ "Op",3,0,false,"","",0⟩,⟨ "A",3,1,false,"","",8⟩,⟨ "B",3,2,false,"","",16⟩,⟨ "C",3,3,false,"","",24⟩],4,32,[.int .i64 0,.int .i64 0,.int .i64 0,.int .i64 0]⟩
def MY:TI:=⟨.pointer 105,1,8,[.nilp]⟩
def MZ:TI:=⟨.func #[71] #[] false,1,8,[.nilf]⟩
def Jl:TI:=⟨.slice 130,1,24,[.nsl]⟩
def Fp:TI:=⟨.struct #[⟨ "Words",3,0,false,"","",0⟩,⟨ "Funcs",75,1,false,"","",8⟩],2,32,[.int .i64 0,.nsl]⟩
def Jm:TI:=⟨.slice 146,1,24,[.nsl]⟩
def Fq:TI:=⟨.struct #[⟨ "Words",3,0,false,"","",0⟩,⟨ "Funcs",82,1,false,"","",8⟩],2,32,[.int .i64 0,.nsl]⟩
def Na:TI:=⟨.func #[77] #[35,23] false,1,8,[.nilf]⟩
def Fs:TI:=⟨.slice 3,1,24,[.nsl]⟩
def Ft:TI:=⟨.int .u64,1,8,[.int .u64 0]⟩
def Nb:TI:=⟨.pointer 5,1,8,[.nilp]⟩
def Jn:TI:=⟨.slice 108,1,24,[.nsl]⟩
def yN:TI:=⟨.struct #[⟨ "at",3,0,false,"","seedcorn/parse",0⟩],1,8,[.int .i64 0]⟩
def yO:TI:=⟨.struct #[⟨ "tokens",99,0,false,"","seedcorn/parse",0⟩,⟨ "next",3,1,false,"","seedcorn/parse",24⟩,⟨ "end",3,2,false,"","seedcorn/parse",32⟩],3,40,[.nsl,.int .i64 0,.int .i64 0]⟩
def vL:TI:=⟨.struct #[⟨ "Kind",3,0,false,"","",0⟩,⟨ "Text",9,1,false,"","",8⟩,⟨ "Num",32,2,false,"","",24⟩,⟨ "At",3,3,false,"","",32⟩],4,40,[.int .i64 0,.str [],.int .u32 0,.int .i64 0]⟩
def vM:TI:=⟨.struct #[⟨ "Name",9,0,false,"","",0⟩,⟨ "Size",3,1,false,"","",16⟩],2,24,[.str [],.int .i64 0]⟩
def Cc:TI:=⟨.slice 178,1,24,[.nsl]⟩
def vN:TI:=⟨.struct #[⟨ "Name",9,0,false,"","",0⟩,⟨ "Params",26,1,false,"","",16⟩,⟨ "Locals",26,2,false,"","",40⟩,⟨ "Word",4,3,false,"","",64⟩,⟨ "Body",113,4,false,"","",72⟩],5,96,[.str [],.nsl,.nsl,.bool false,.nsl]⟩
def Cd:TI:=⟨.map 9 126,1,8,[.nilm]⟩
def yP:TI:=⟨.struct #[⟨ "outside",120,0,false,"","seedcorn/core",0⟩,⟨ "inside",120,1,false,"","seedcorn/core",8⟩],2,16,[.nilm,.nilm]⟩
def yQ:TI:=⟨.struct #[⟨ "slot",3,0,false,"","seedcorn/core",0⟩,⟨ "size",3,1,false,"","seedcorn/core",8⟩],2,16,[.int .i64 0,.int .i64 0]⟩
def Ce:TI:=⟨.slice 185,1,24,[.nsl]⟩
def vO:TI:=⟨.struct #[⟨ "Params",3,0,false,"","",0⟩,⟨ "Slots",3,1,false,"","",8⟩,⟨ "First",3,2,false,"","",16⟩,⟨ "Word",4,3,false,"","",24⟩,⟨ "Body",127,4,false,"","",32⟩],5,56,[.int .i64 0,.int .i64 0,.int .i64 0,.bool false,.nsl]⟩
def Cf:TI:=⟨.slice 92,1,24,[.nsl]⟩
def yR:TI:=⟨.struct #[⟨ "depths",131,0,false,"","seedcorn/emit",0⟩,⟨ "back",92,1,false,"","seedcorn/emit",24⟩,⟨ "base",92,2,false,"","seedcorn/emit",48⟩,⟨ "data",3,3,false,"","seedcorn/emit",72⟩],4,80,[.nsl,.nsl,.nsl,.int .i64 0]⟩
def HL:TI:=⟨.pointer 139,1,8,[.nilp]⟩
def Cg:TI:=⟨.slice 65,1,24,[.nsl]⟩
def Ch:TI:=⟨.slice 193,1,24,[.nsl]⟩
def yS:TI:=⟨.struct #[⟨ "s",84,0,false,"","seedcorn/emit",0⟩,⟨ "plan",133,2,false,"","seedcorn/emit",32⟩,⟨ "code",136,6,false,"","seedcorn/emit",112⟩,⟨ "entry",92,7,false,"","seedcorn/emit",136⟩,⟨ "places",131,8,false,"","seedcorn/emit",160⟩,⟨ "holes",137,9,false,"","seedcorn/emit",184⟩,⟨ "f",3,10,false,"","seedcorn/emit",208⟩,⟨ "depth",3,11,false,"","seedcorn/emit",216⟩],12,224,[.int .i64 0,.nsl,.nsl,.nsl,.nsl,.int .i64 0,.nsl,.nsl,.nsl,.nsl,.int .i64 0,.int .i64 0]⟩
def Ci:TI:=⟨.slice 243,1,24,[.nsl]⟩
def vP:TI:=⟨.struct #[⟨ "Params",3,0,false,"","",0⟩,⟨ "Slots",3,1,false,"","",8⟩,⟨ "First",3,2,false,"","",16⟩,⟨ "Word",4,3,false,"","",24⟩,⟨ "Code",143,4,false,"","",32⟩],5,56,[.int .i64 0,.int .i64 0,.int .i64 0,.bool false,.nsl]⟩
def HM:TI:=⟨.array 16 5,16,16,[.int .u8 0,.int .u8 0,.int .u8 0,.int .u8 0,.int .u8 0,.int .u8 0,.int .u8 0,.int .u8 0,.int .u8 0,.int .u8 0,.int .u8 0,.int .u8 0,.int .u8 0,.int .u8 0,.int .u8 0,.int .u8 0]⟩
def Cj:TI:=⟨.func #[198] #[] false,1,8,[.nilf]⟩
def Ck:TI:=⟨.slice 156,1,24,[.nsl]⟩
def vQ:TI:=⟨.struct #[⟨ "Ins",65,0,true,"","",0⟩,⟨ "note",9,4,false,"","seedcorn/seed",32⟩],5,48,[.int .i64 0,.int .i64 0,.int .i64 0,.int .i64 0,.str []]⟩
def HN:TI:=⟨.array 16 32,16,64,[.int .u32 0,.int .u32 0,.int .u32 0,.int .u32 0,.int .u32 0,.int .u32 0,.int .u32 0,.int .u32 0,.int .u32 0,.int .u32 0,.int .u32 0,.int .u32 0,.int .u32 0,.int .u32 0,.int .u32 0,.int .u32 0]⟩
def yT:TI:=⟨.struct #[⟨ "PC",3,0,false,"","",0⟩,⟨ "Reg",157,1,false,"","",8⟩,⟨ "Mem",33,17,false,"","",72⟩,⟨ "Read",3,18,false,"","",96⟩,⟨ "Out",9,19,false,"","",104⟩,⟨ "Steps",3,20,false,"","",120⟩,⟨ "End",3,21,false,"","",128⟩],22,136,[.int .i64 0,.int .u32 0,.int .u32 0,.int .u32 0,.int .u32 0,.int .u32 0,.int .u32 0,.int .u32 0,.int .u32 0,.int .u32 0,.int .u32 0,.int .u32 0,.int .u32 0,.int .u32 0,.int .u32 0,.int .u32 0,.int .u32 0,.nsl,.int .i64 0,.str [],.int .i64 0,.int .i64 0]⟩
def HO:TI:=⟨.unsafePointer,1,8,[.nilp]⟩
def HP:TI:=⟨.func #[3] #[4] false,1,8,[.nilf]⟩
def yU:TI:=⟨.struct #[⟨ "name",9,0,false,"","seedcorn/inst",0⟩,⟨ "a",4,1,false,"","seedcorn/inst",16⟩,⟨ "b",4,2,false,"","seedcorn/inst",17⟩,⟨ "c",3,3,false,"","seedcorn/inst",24⟩],4,32,[.str [],.bool false,.bool false,.int .i64 0]⟩
def HQ:TI:=⟨.func #[5] #[4] false,1,8,[.nilf]⟩
def Cl:TI:=⟨.slice 215,1,24,[.nsl]⟩
def vR:TI:=⟨.struct #[⟨ "Kind",3,0,false,"","",0⟩,⟨ "Name",9,1,false,"","",8⟩,⟨ "E",176,2,false,"","",24⟩,⟨ "Then",113,3,false,"","",48⟩,⟨ "Else",113,4,false,"","",72⟩],5,96,[.int .i64 0,.str [],.nsl,.nsl,.nsl]⟩
def Cm:TI:=⟨.slice 236,1,24,[.nsl]⟩
def vS:TI:=⟨.struct #[⟨ "Kind",3,0,false,"","",0⟩,⟨ "Slot",3,1,false,"","",8⟩,⟨ "Size",3,2,false,"","",16⟩,⟨ "E",182,3,false,"","",24⟩,⟨ "Then",127,4,false,"","",48⟩,⟨ "Else",127,5,false,"","",72⟩],6,96,[.int .i64 0,.int .i64 0,.int .i64 0,.nsl,.nsl,.nsl]⟩
def Cn:TI:=⟨.map 3 247,1,8,[.nilm]⟩
def vT:TI:=⟨.struct #[⟨ "at",3,0,false,"","seedcorn/emit",0⟩,⟨ "f",3,1,false,"","seedcorn/emit",8⟩,⟨ "place",3,2,false,"","seedcorn/emit",16⟩],3,24,[.int .i64 0,.int .i64 0,.int .i64 0]⟩
def yV:TI:=⟨.struct #[⟨ "word",4,0,false,"","seedcorn/lower",0⟩,⟨ "code",143,1,false,"","seedcorn/lower",8⟩],2,32,[.bool false,.nsl]⟩
def HR:TI:=⟨.func #[32] #[4] false,1,8,[.nilf]⟩
def HS:TI:=⟨.pointer 255,1,8,[.nilp]⟩
def Co:TI:=⟨.array 24 5,24,24,[.int .u8 0,.int .u8 0,.int .u8 0,.int .u8 0,.int .u8 0,.int .u8 0,.int .u8 0,.int .u8 0,.int .u8 0,.int .u8 0,.int .u8 0,.int .u8 0,.int .u8 0,.int .u8 0,.int .u8 0,.int .u8 0,.int .u8 0,.int .u8 0,.int .u8 0,.int .u8 0,.int .u8 0,.int .u8 0,.int .u8 0,.int .u8 0]⟩
def HT:TI:=⟨.array 24 9,24,384,[.str [],.str [],.str [],.str [],.str [],.str [],.str [],.str [],.str [],.str [],.str [],.str [],.str [],.str [],.str [],.str [],.str [],.str [],.str [],.str [],.str [],.str [],.str [],.str []]⟩
def vU:TI:=⟨.struct #[⟨ "Kind",3,0,false,"","",0⟩,⟨ "Op",3,1,false,"","",8⟩,⟨ "Num",32,2,false,"","",16⟩,⟨ "Name",9,3,false,"","",24⟩,⟨ "Kids",176,4,false,"","",40⟩],5,64,[.int .i64 0,.int .i64 0,.int .u32 0,.str [],.nsl]⟩
def Cp:TI:=⟨.map 9 227,1,8,[.nilm]⟩
def yW:TI:=⟨.struct #[⟨ "outside",217,0,false,"","seedcorn/scope",0⟩,⟨ "inside",217,1,false,"","seedcorn/scope",8⟩],2,16,[.nilm,.nilm]⟩
def yX:TI:=⟨.struct #[⟨ "kind",3,0,false,"","seedcorn/scope",0⟩,⟨ "name",9,1,false,"","seedcorn/scope",8⟩,⟨ "arguments",3,2,false,"","seedcorn/scope",24⟩],3,32,[.int .i64 0,.str [],.int .i64 0]⟩
def yY:TI:=⟨.struct #[⟨ "kind",3,0,false,"","seedcorn/scope",0⟩,⟨ "number",3,1,false,"","seedcorn/scope",8⟩],2,16,[.int .i64 0,.int .i64 0]⟩
def Cq:TI:=⟨.func #[225] #[] false,1,8,[.nilf]⟩
def HU:TI:=⟨.pointer 273,1,8,[.nilp]⟩
def vV:TI:=⟨.struct #[⟨ "Kind",3,0,false,"","",0⟩,⟨ "Op",3,1,false,"","",8⟩,⟨ "Num",32,2,false,"","",16⟩,⟨ "Slot",3,3,false,"","",24⟩,⟨ "Size",3,4,false,"","",32⟩,⟨ "Kids",182,5,false,"","",40⟩],6,64,[.int .i64 0,.int .i64 0,.int .u32 0,.int .i64 0,.int .i64 0,.nsl]⟩
def yZ:TI:=⟨.struct #[⟨ "items",92,0,false,"","seedcorn/stack",0⟩],1,24,[.nsl]⟩
def vW:TI:=⟨.struct #[⟨ "Op",3,0,false,"","",0⟩,⟨ "A",3,1,false,"","",8⟩,⟨ "B",3,2,false,"","",16⟩,⟨ "N",32,3,false,"","",24⟩],4,32,[.int .i64 0,.int .i64 0,.int .i64 0,.int .u32 0]⟩
def Cr:TI:=⟨.func #[135,243] #[] false,1,8,[.nilf]⟩
def Cs:TI:=⟨.pointer 195,1,8,[.nilp]⟩
def HV:TI:=⟨.pointer 185,1,8,[.nilp]⟩
def za:TI:=⟨.struct #[⟨ "code",33,0,false,"","seedcorn/machine",0⟩,⟨ "in",9,1,false,"","seedcorn/machine",24⟩,⟨ "s",159,2,false,"","seedcorn/machine",40⟩,⟨ "own",4,24,false,"","seedcorn/machine",176⟩,⟨ "more",56,25,false,"","seedcorn/machine",184⟩],26,208,[.nsl,.str [],.int .i64 0,.int .u32 0,.int .u32 0,.int .u32 0,.int .u32 0,.int .u32 0,.int .u32 0,.int .u32 0,.int .u32 0,.int .u32 0,.int .u32 0,.int .u32 0,.int .u32 0,.int .u32 0,.int .u32 0,.int .u32 0,.int .u32 0,.nsl,.int .i64 0,.str [],.int .i64 0,.int .i64 0,.bool false,.nsl]⟩
def HW:TI:=⟨.array 20 97,20,160,[.int .u64 0,.int .u64 0,.int .u64 0,.int .u64 0,.int .u64 0,.int .u64 0,.int .u64 0,.int .u64 0,.int .u64 0,.int .u64 0,.int .u64 0,.int .u64 0,.int .u64 0,.int .u64 0,.int .u64 0,.int .u64 0,.int .u64 0,.int .u64 0,.int .u64 0,.int .u64 0]⟩
def HX:TI:=⟨.array 10 9,10,160,[.str [],.str [],.str [],.str [],.str [],.str [],.str [],.str [],.str [],.str []]⟩
def Ct:TI:=⟨.func #[113] #[] false,1,8,[.nilf]⟩
def Cu:TI:=⟨.func #[176] #[] false,1,8,[.nilf]⟩
def Cv:TI:=⟨.map 9 115,1,8,[.nilm]⟩
def Cw:TI:=⟨.func #[215] #[3] false,1,8,[.nilf]⟩
def Cx:TI:=⟨.array 10 270,10,80,[.nilf,.nilf,.nilf,.nilf,.nilf,.nilf,.nilf,.nilf,.nilf,.nilf]⟩
def zb:TI:=⟨.struct #[⟨ "funcs",269,0,false,"","seedcorn/typing",0⟩,⟨ "ask",271,1,false,"","seedcorn/typing",8⟩],11,88,[.nilm,.nilf,.nilf,.nilf,.nilf,.nilf,.nilf,.nilf,.nilf,.nilf,.nilf]⟩
def HY:TI:=⟨.pointer 238,1,8,[.nilp]⟩
def HZ:TI:=⟨.pointer 236,1,8,[.nilp]⟩
def Ia:TI:=⟨.array 32 5,32,32,[.int .u8 0,.int .u8 0,.int .u8 0,.int .u8 0,.int .u8 0,.int .u8 0,.int .u8 0,.int .u8 0,.int .u8 0,.int .u8 0,.int .u8 0,.int .u8 0,.int .u8 0,.int .u8 0,.int .u8 0,.int .u8 0,.int .u8 0,.int .u8 0,.int .u8 0,.int .u8 0,.int .u8 0,.int .u8 0,.int .u8 0,.int .u8 0,.int .u8 0,.int .u8 0,.int .u8 0,.int .u8 0,.int .u8 0,.int .u8 0,.int .u8 0,.int .u8 0]⟩
def Tt:Nat→TI:=yG [(2,ti2),(3,ti2),(4,ti4),(5,ti5),(6,ti5),(7,ti7),(9,ti9),(17,MU),(20,MV),(23,ti2),(26,Jf),(31,MW),(32,Fi),(33,Jg),(34,Fj),(35,Fj),(36,Jh),(37,Ji),(38,Fk),(39,Fk),(44,MX),(47,Fl),(48,Jj),(50,Fm),(51,Fm),(55,Fo),(56,Jk),(57,Ca),(58,Ca),(64,Cb),(65,Cb),(71,MY),(73,MZ),(75,Jl),(76,Fp),(77,Fp),(82,Jm),(83,Fq),(84,Fq),(86,Na),(92,Fs),(94,Ft),(97,Ft),(98,Nb),(99,Jn),(102,yN),(103,yN),(104,yO),(105,yO),(107,vL),(108,vL),(111,vM),(112,vM),(113,Cc),(114,vN),(115,vN),(120,Cd),(123,yP),(124,yP),(125,yQ),(126,yQ),(127,Ce),(129,vO),(130,vO),(131,Cf),(132,yR),(133,yR),(135,HL),(136,Cg),(137,Ch),(138,yS),(139,yS),(143,Ci),(145,vP),(146,vP),(147,HM),(150,Cj),(151,Cj),(153,Ck),(155,vQ),(156,vQ),(157,HN),(158,yT),(159,yT),(162,HO),(164,HP),(165,yU),(166,yU),(171,HQ),(176,Cl),(177,vR),(178,vR),(182,Cm),(184,vS),(185,vS),(188,Cn),(192,vT),(193,vT),(194,yV),(195,yV),(198,HR),(199,HS),(206,Co),(211,HT),(214,vU),(215,vU),(217,Cp),(221,yW),(222,yW),(224,yX),(225,yX),(226,yY),(227,yY),(229,Cq),(230,HU),(235,vV),(236,vV),(237,yZ),(238,yZ),(242,vW),(243,vW),(247,Cr),(249,Cs),(251,HV),(254,za),(255,za),(258,HW),(263,HX),(267,Ct),(268,Cu),(269,Cv),(270,Cw),(271,Cx),(272,zb),(273,zb),(275,HY),(277,HZ),(287,Ia)]
theorem ae:aF Tryz.prog Tt:=Ab c9
theorem Nc:nD Tryz.prog 55 Fo:=ae 55 rfl
theorem PK:nD Tryz.prog 58 Ca:=ae 58 rfl
attribute [go_sem] ti2 ti4 ti5 ti7 ti9 MU MV Jf MW Fi Jg Fj Jh Ji Fk MX Fl Jj Fm Fo Jk Ca Cb MY MZ Jl Fp Jm Fq Na Fs Ft Nb Jn yN yO vL vM Cc vN Cd yP yQ Ce vO Cf yR HL Cg Ch yS Ci vP HM Cj Ck vQ HN yT HO HP yU HQ Cl vR Cm vS Cn vT yV HR HS Co HT vU Cp yW yX yY Cq HU vV yZ vW Cr Cs HV za HW HX Ct Cu Cv Cw Cx zb HY HZ Ia
theorem mixed:Tryz.prog.follows .mixedOrders=true:=c9
@[go_sem] theorem Rv:Tt 2=ti2:=l0 rfl rfl
@[go_sem] theorem Rw:Tt 3=ti2:=l0 rfl rfl
@[go_sem] theorem Rx:Tt 4=ti4:=l0 rfl rfl
@[go_sem] theorem Ry:Tt 5=ti5:=l0 rfl rfl
@[go_sem] theorem Rz:Tt 9=ti9:=l0 rfl rfl
@[go_sem] theorem PL:ck Tt 9=false:=l0 rfl rfl
@[go_sem] theorem QW:Tt 23=ti2:=l0 rfl rfl
@[go_sem] theorem QX:Tt 26=Jf:=l0 rfl rfl
@[go_sem] theorem Pb:aL Tt 26=ti9:=l0 rfl rfl
@[go_sem] theorem Pc:ck Tt 26=true:=l0 rfl rfl
@[go_sem] theorem QY:Tt 32=Fi:=l0 rfl rfl
@[go_sem] theorem QZ:Tt 33=Jg:=l0 rfl rfl
@[go_sem] theorem Pd:aL Tt 33=Fi:=l0 rfl rfl
@[go_sem] theorem Pe:ck Tt 33=true:=l0 rfl rfl
@[go_sem] theorem Ra:Tt 35=Fj:=l0 rfl rfl
@[go_sem] theorem Pf:eV Tt 35=true:=l0 rfl rfl
@[go_sem] theorem Rb:Tt 36=Jh:=l0 rfl rfl
@[go_sem] theorem Pg:aL Tt 36=vM:=l0 rfl rfl
@[go_sem] theorem Ph:ck Tt 36=true:=l0 rfl rfl
@[go_sem] theorem Rc:Tt 37=Ji:=l0 rfl rfl
@[go_sem] theorem Pi:aL Tt 37=vN:=l0 rfl rfl
@[go_sem] theorem Pj:ck Tt 37=true:=l0 rfl rfl
@[go_sem] theorem Rd:Tt 39=Fk:=l0 rfl rfl
@[go_sem] theorem Pk:eV Tt 39=true:=l0 rfl rfl
@[go_sem] theorem Re:Tt 47=Fl:=l0 rfl rfl
@[go_sem] theorem Rf:Tt 48=Jj:=l0 rfl rfl
@[go_sem] theorem Pm:aL Tt 48=Fl:=l0 rfl rfl
@[go_sem] theorem Pn:ck Tt 48=true:=l0 rfl rfl
@[go_sem] theorem Rg:Tt 51=Fm:=l0 rfl rfl
@[go_sem] theorem Po:eV Tt 51=true:=l0 rfl rfl
@[go_sem] theorem Rh:Tt 55=Fo:=l0 rfl rfl
@[go_sem] theorem Ri:Tt 56=Jk:=l0 rfl rfl
@[go_sem] theorem Pp:aL Tt 56=ti5:=l0 rfl rfl
@[go_sem] theorem Pq:ck Tt 56=true:=l0 rfl rfl
@[go_sem] theorem Rj:Tt 58=Ca:=l0 rfl rfl
@[go_sem] theorem Rk:Tt 65=Cb:=l0 rfl rfl
@[go_sem] theorem Ps:eV Tt 65=true:=l0 rfl rfl
@[go_sem] theorem Rl:Tt 75=Jl:=l0 rfl rfl
@[go_sem] theorem Pt:aL Tt 75=vO:=l0 rfl rfl
@[go_sem] theorem Pu:ck Tt 75=true:=l0 rfl rfl
@[go_sem] theorem Rm:Tt 77=Fp:=l0 rfl rfl
@[go_sem] theorem Pv:eV Tt 77=true:=l0 rfl rfl
@[go_sem] theorem Ro:Tt 82=Jm:=l0 rfl rfl
@[go_sem] theorem Pw:aL Tt 82=vP:=l0 rfl rfl
@[go_sem] theorem Px:ck Tt 82=true:=l0 rfl rfl
@[go_sem] theorem Rp:Tt 84=Fq:=l0 rfl rfl
@[go_sem] theorem Py:eV Tt 84=true:=l0 rfl rfl
@[go_sem] theorem Rq:Tt 92=Fs:=l0 rfl rfl
@[go_sem] theorem Pz:aL Tt 92=ti2:=l0 rfl rfl
@[go_sem] theorem PA:ck Tt 92=true:=l0 rfl rfl
@[go_sem] theorem Rr:Tt 97=Ft:=l0 rfl rfl
@[go_sem] theorem Rs:Tt 99=Jn:=l0 rfl rfl
@[go_sem] theorem PB:aL Tt 99=vL:=l0 rfl rfl
@[go_sem] theorem PD:ck Tt 99=true:=l0 rfl rfl
@[go_sem] theorem PM:Tt 103=yN:=l0 rfl rfl
@[go_sem] theorem Nd:eV Tt 103=true:=l0 rfl rfl
@[go_sem] theorem PN:Tt 105=yO:=l0 rfl rfl
@[go_sem] theorem Nf:eV Tt 105=true:=l0 rfl rfl
@[go_sem] theorem PO:Tt 108=vL:=l0 rfl rfl
@[go_sem] theorem Ng:eV Tt 108=true:=l0 rfl rfl
@[go_sem] theorem PP:Tt 112=vM:=l0 rfl rfl
@[go_sem] theorem Nh:eV Tt 112=true:=l0 rfl rfl
@[go_sem] theorem PQ:Tt 113=Cc:=l0 rfl rfl
@[go_sem] theorem Ni:aL Tt 113=vR:=l0 rfl rfl
@[go_sem] theorem Nj:ck Tt 113=true:=l0 rfl rfl
@[go_sem] theorem PS:Tt 115=vN:=l0 rfl rfl
@[go_sem] theorem PT:Tt 120=Cd:=l0 rfl rfl
@[go_sem] theorem PU:Tt 124=yP:=l0 rfl rfl
@[go_sem] theorem Nk:eV Tt 124=true:=l0 rfl rfl
@[go_sem] theorem PV:Tt 126=yQ:=l0 rfl rfl
@[go_sem] theorem Nl:eV Tt 126=true:=l0 rfl rfl
@[go_sem] theorem PW:Tt 127=Ce:=l0 rfl rfl
@[go_sem] theorem Nm:aL Tt 127=vS:=l0 rfl rfl
@[go_sem] theorem Nn:ck Tt 127=true:=l0 rfl rfl
@[go_sem] theorem PX:Tt 130=vO:=l0 rfl rfl
@[go_sem] theorem No:eV Tt 130=true:=l0 rfl rfl
@[go_sem] theorem PY:Tt 131=Cf:=l0 rfl rfl
@[go_sem] theorem Np:aL Tt 131=Fs:=l0 rfl rfl
@[go_sem] theorem Nq:ck Tt 131=true:=l0 rfl rfl
@[go_sem] theorem PZ:Tt 133=yR:=l0 rfl rfl
@[go_sem] theorem Nr:eV Tt 133=true:=l0 rfl rfl
@[go_sem] theorem Qa:Tt 136=Cg:=l0 rfl rfl
@[go_sem] theorem Ns:aL Tt 136=Cb:=l0 rfl rfl
@[go_sem] theorem Nt:ck Tt 136=true:=l0 rfl rfl
@[go_sem] theorem Qb:Tt 137=Ch:=l0 rfl rfl
@[go_sem] theorem Nu:aL Tt 137=vT:=l0 rfl rfl
@[go_sem] theorem Nv:ck Tt 137=true:=l0 rfl rfl
@[go_sem] theorem Qc:Tt 139=yS:=l0 rfl rfl
@[go_sem] theorem Nw:eV Tt 139=true:=l0 rfl rfl
@[go_sem] theorem Qd:Tt 143=Ci:=l0 rfl rfl
@[go_sem] theorem Nx:aL Tt 143=vW:=l0 rfl rfl
@[go_sem] theorem Ny:ck Tt 143=true:=l0 rfl rfl
@[go_sem] theorem Qe:Tt 146=vP:=l0 rfl rfl
@[go_sem] theorem Nz:eV Tt 146=true:=l0 rfl rfl
@[go_sem] theorem Qf:Tt 153=Ck:=l0 rfl rfl
@[go_sem] theorem NA:aL Tt 153=vQ:=l0 rfl rfl
@[go_sem] theorem NB:ck Tt 153=true:=l0 rfl rfl
@[go_sem] theorem Qg:Tt 156=vQ:=l0 rfl rfl
@[go_sem] theorem NC:eV Tt 156=true:=l0 rfl rfl
@[go_sem] theorem Qh:Tt 159=yT:=l0 rfl rfl
@[go_sem] theorem Qi:Tt 166=yU:=l0 rfl rfl
@[go_sem] theorem ND:eV Tt 166=true:=l0 rfl rfl
@[go_sem] theorem Qj:Tt 176=Cl:=l0 rfl rfl
@[go_sem] theorem NE:aL Tt 176=vU:=l0 rfl rfl
@[go_sem] theorem NF:ck Tt 176=true:=l0 rfl rfl
@[go_sem] theorem Qk:Tt 178=vR:=l0 rfl rfl
@[go_sem] theorem NG:eV Tt 178=true:=l0 rfl rfl
@[go_sem] theorem Ql:Tt 182=Cm:=l0 rfl rfl
@[go_sem] theorem NH:aL Tt 182=vV:=l0 rfl rfl
@[go_sem] theorem NI:ck Tt 182=true:=l0 rfl rfl
@[go_sem] theorem Qm:Tt 185=vS:=l0 rfl rfl
@[go_sem] theorem NJ:eV Tt 185=true:=l0 rfl rfl
@[go_sem] theorem Qn:Tt 188=Cn:=l0 rfl rfl
@[go_sem] theorem Qo:Tt 193=vT:=l0 rfl rfl
@[go_sem] theorem NK:eV Tt 193=true:=l0 rfl rfl
@[go_sem] theorem Qp:Tt 195=yV:=l0 rfl rfl
@[go_sem] theorem NL:eV Tt 195=true:=l0 rfl rfl
@[go_sem] theorem Qq:Tt 206=Co:=l0 rfl rfl
@[go_sem] theorem NM:ck Tt 206=false:=l0 rfl rfl
@[go_sem] theorem Qr:Tt 215=vU:=l0 rfl rfl
@[go_sem] theorem NN:eV Tt 215=true:=l0 rfl rfl
@[go_sem] theorem Qs:Tt 217=Cp:=l0 rfl rfl
@[go_sem] theorem Qt:Tt 222=yW:=l0 rfl rfl
@[go_sem] theorem NO:eV Tt 222=true:=l0 rfl rfl
@[go_sem] theorem Qu:Tt 225=yX:=l0 rfl rfl
@[go_sem] theorem NP:eV Tt 225=true:=l0 rfl rfl
@[go_sem] theorem Qv:Tt 227=yY:=l0 rfl rfl
@[go_sem] theorem NQ:eV Tt 227=true:=l0 rfl rfl
@[go_sem] theorem Qw:Tt 229=Cq:=l0 rfl rfl
@[go_sem] theorem Qx:Tt 236=vV:=l0 rfl rfl
@[go_sem] theorem NR:eV Tt 236=true:=l0 rfl rfl
@[go_sem] theorem Qy:Tt 238=yZ:=l0 rfl rfl
@[go_sem] theorem Qz:Tt 243=vW:=l0 rfl rfl
@[go_sem] theorem NS:eV Tt 243=true:=l0 rfl rfl
@[go_sem] theorem QA:Tt 247=Cr:=l0 rfl rfl
@[go_sem] theorem QB:Tt 249=Cs:=l0 rfl rfl
@[go_sem] theorem QC:Tt 255=za:=l0 rfl rfl
@[go_sem] theorem NT:eV Tt 255=true:=l0 rfl rfl
@[go_sem] theorem QD:Tt 267=Ct:=l0 rfl rfl
@[go_sem] theorem QE:Tt 268=Cu:=l0 rfl rfl
@[go_sem] theorem QF:Tt 269=Cv:=l0 rfl rfl
@[go_sem] theorem QG:Tt 270=Cw:=l0 rfl rfl
@[go_sem] theorem QH:Tt 271=Cx:=l0 rfl rfl
@[go_sem] theorem NU:ck Tt 271=false:=l0 rfl rfl
@[go_sem] theorem QI:Tt 273=zb:=l0 rfl rfl
@[go_sem] theorem NV:eV Tt 273=true:=l0 rfl rfl
end
end Go.Proofs.YtlglgadejgdpcaaGreatDoor
namespace Go.Asm
section
abbrev Str:=List UInt8
def small (c:UInt8):Bool:=decide (97≤c.toNat)&&decide (c.toNat≤122)
def letter (c:UInt8):Bool:=small c||(decide (65≤c.toNat)&&decide (c.toNat≤90))
def digit (c:UInt8):Bool:=decide (48≤c.toNat)&&decide (c.toNat≤57)
def il (c:UInt8):Bool:=letter c||digit c||c==95
def AU (n:Nat) (c:UInt8):Nat:=10*n+(c.toNat-48)
def fX (s:Str):Nat:=s.foldl AU 0
def names:List Str:=[[108,105],[108,117,105],[109,111,118],[97,100,100],[115,117,98],[109,117,108],[100,105,118],[109,111,100],[97,110,100],[111,114],[120,111,114],[115,104,108],[115,104,114],[108,116],[101,113],[108,100],[115,116],
 [106,109,112],[106,122],[106,110,122],[99,97,108,108],[114,101,116],[103,101,116],[112,117,116],[99,104,107],[104,97,108,116],[108,100,99]]
def shape (op:Nat):Bool×Bool×Nat:=
 if op=1∨op=2∨op=19∨op=20∨op=21∨op=25 then(true,false,1)
 else if op=3 then(true,true,0)
 else if 4≤op∧op≤15 then(true,true,2)
 else if op=16∨op=17∨op=27 then(true,true,1)
 else if op=18 then(false,false,1)
 else if op=22∨op=23∨op=24 then(true,false,0)
 else(false,false,0)
def word (op a b c:Nat):Nat:=op*16777216+a*1048576+b*65536+c
end
end Go.Asm
namespace Go.Proofs.YtlglgadejgdpcaaGreatDoor
section
open Go Go.Am Go.Asm
section
theorem getq {α:Type}{l:List α}{k:Nat} (h:k<l.length):∃x,l[k]? = some x:=⟨_,u3 h⟩
variable {c d:UInt8}
theorem MT (h:(c.toNat:Int)=(d.toNat:Int)):c=d:=UInt8.toNat_inj.1 a7
theorem mN (h:c≠d):¬(c.toNat:Int)=(d.toNat:Int):=fun e=>h (MT e)
theorem xN {c:UInt8}:letter c=true↔(97≤c.toNat∧c.toNat≤122)∨(65≤c.toNat∧c.toNat≤90):=by simp[letter,small]
theorem tl {c:UInt8}:digit c=true↔48≤c.toNat∧c.toNat≤57:=by simp[digit]
end
end
section
attribute [local congr] Go.Am.ite_cc
open Go Go.Am Go.Asm
def preB (p s:Str):Bool:=decide (s.take p.length=p)
theorem vI (s p:Str):ba Tryz.prog 105 [sv s,sv p] (· = bv (preB p s)):=by
 refine bh ae mixed Tryz.func105 rfl b9 [4] rfl c9 (by simp[Tryz.ntmps105]) fun g=>?_
 simp only[go_sem]
 refine⟨fun h=>?_,fun h=>?_⟩
 ·exact⟨K9 _,a7,rfl⟩
 ·have:¬s.take p.length=p:=fun e=>by
   have:=congrArg List.length e
   simp only[B9] at this;omega
  simp[preB,this]
end
section
open Go Go.Am Go.Asm
end
end Go.Proofs.YtlglgadejgdpcaaGreatDoor
namespace Go.Proofs
section
open Go.Shelf Go.RowKit Go.Lib
section
variable {P:Program}{ρ:Ren}
end
section
variable {P:Program}{ρ:Ren}
end
end
section
open Go.Shelf
end
end Go.Proofs
namespace Go.Proofs.YtlglgadejgdpcaaGreatDoor
section
open Go Go.Am Go.Asm
end
section
attribute [local congr] Go.Am.ite_cc
open Go Go.Am Go.Asm
def nameOf (op:Nat):Str:=match op with|0=>[]|k+1=>names.getD k []
def rj (op:Nat):AV:=.agg [.d (.str (nameOf op)),.d (.bool (Asm.shape op).1),.d (.bool (Asm.shape op).2.1),.d (.int .i64 ((Asm.shape op).2.2:Nat))]
theorem vJ {op:Nat} (h:op=0∨28≤op):rj op=.agg [.d (.str []),.d (.bool false),.d (.bool false),.d (.int .i64 0)]:=by
 rcases h with rfl|h
 ·rfl
 ·have h1:nameOf op=[]:=by
   obtain⟨k,rfl⟩:∃k,op=k+1:=⟨op-1,a7⟩
   have:names.length≤k:=by show 27≤k;omega
   simp[nameOf,this]
  have h2:Asm.shape op=(false,false,0):=by
   unfold Asm.shape
   repeat rw[if_neg (by omega)]
  unfold rj;rw[h1,h2];rfl
theorem rk {s:St}{n:Str}{a b:Bool}{c:Int}:kc s (.agg [.d (.str n),.d (.bool a),.d (.bool b),.d (.int .i64 c)]) (.agg [.d (.str n),.d (.bool a),.d (.bool b),.d (.int .i64 c)]):=by
 refine⟨[.str n,.bool a,.bool b,.int .i64 c],rfl,fun i c hc=>?_,rfl⟩
 match i,hc with
 |0,hc=>cases hc;exact⟨_,rfl,.d _⟩
 |1,hc=>cases hc;exact⟨_,rfl,.d _⟩
 |2,hc=>cases hc;exact⟨_,rfl,.d _⟩
 |3,hc=>cases hc;exact⟨_,rfl,.d _⟩
theorem tn (op:Int):ba Tryz.prog 71 [iv .i64 op] (· = rj op.toNat):=by
 refine bO ae mixed Tryz.func71 rfl b9 [.cell 2 166] rfl c9 (by simp[Tryz.ntmps71]) fun g=>?_
 simp only[go_sem]
 repeat' (first|refine C1 (fun h=>?_) (fun h=>?_)|fail)
 all_goals first
  | (subst h
     exact⟨_,rk,rfl⟩)
  | (have e:op.toNat=0∨28≤op.toNat:=a7
     refine⟨_,rk,?_⟩
     rw[vJ e])
def oY (op:Nat):Bool:=decide (1≤op)&&decide (op≤27)
theorem Ai (op:Nat):(decide (¬nameOf op=[]))=oY op:=by
 unfold oY
 by_cases h:op≤27
 ·have:∀k,k≤27→decide (¬nameOf k=[])=(decide (1≤k)&&decide (k≤27)):=c8
  exact this op h
 ·have h1:nameOf op=[]:=by
   obtain⟨k,rfl⟩:∃k,op=k+1:=⟨op-1,a7⟩
   have:names.length≤k:=by show 27≤k;omega
   simp[nameOf,this]
  simp[h1,h]
theorem Fg (op:Int):ba Tryz.prog 70 [iv .i64 op] (· = bv (oY op.toNat)):=by
 refine bh ae mixed Tryz.func70 rfl b9 [2] rfl c9 (by simp[Tryz.ntmps70]) fun g=>?_
 simp only[go_sem]
 refine aY rfl (by simp only[go_sem];exact tn op) (by simp only[go_sem];rfl) ?_
 rintro _ rfl
 unfold rj
 simp only[go_sem]
 rw[←Ai]
def inW (v most:Int) (b:Bool):Bool:=if b=true then decide (0≤v) && decide (v≤most) else decide (v=0)
theorem rm (v most:Int) (b:Bool):ba Tryz.prog 72 [iv .i64 v,iv .i64 most,bv b] (· = bv (inW v most b)):=by
 refine bh ae mixed Tryz.func72 rfl b9 [6] rfl c9 (by simp[Tryz.ntmps72]) fun g=>?_
 unfold inW
 cases b
 ·simp only[go_sem]
 ·simp only[go_sem]
  exact⟨fun h=>by simp[h],fun h=>by simp[h]⟩
def tq (op:Nat):Int:=if (Asm.shape op).2.2=2 then 15 else 65535
def eG (op a b c:Int):Bool:=oY op.toNat&&(inW a 15 (Asm.shape op.toNat).1&&(inW b 15 (Asm.shape op.toNat).2.1&&inW c (tq op.toNat) (decide ((Asm.shape op.toNat).2.2≠0))))
def nN (op a b c:Int):AV:=.agg [.d (.int .i64 op),.d (.int .i64 a),.d (.int .i64 b),.d (.int .i64 c)]
theorem yL (op a b c:Int):ba Tryz.prog 42 [nN op a b c] (· = bv (eG op a b c)):=by
 refine bh ae mixed Tryz.func42 rfl b9 [2] rfl c9 (by simp[Tryz.ntmps42]) fun g=>?_
 unfold nN
 simp only[go_sem]
 refine aY rfl (by simp only[go_sem];exact Fg op) (by simp only[go_sem];rfl) ?_
 rintro _ rfl
 cases hk:oY op.toNat
 ·simp only[go_sem]
  simp[eG,hk]
 simp only[go_sem]
 refine aY rfl (by simp only[go_sem];exact tn op) (by simp only[go_sem];rfl) ?_
 rintro _ rfl
 have hrr:eG op a b c=(inW a 15 (Asm.shape op.toNat).1&&(inW b 15 (Asm.shape op.toNat).2.1&&inW c (tq op.toNat) (decide ((Asm.shape op.toNat).2.2≠0)))):=by unfold eG;rw[hk,v8]
 rw[hrr]
 unfold rj tq
 generalize (Asm.shape op.toNat).1=p
 generalize (Asm.shape op.toNat).2.1=q
 generalize (Asm.shape op.toNat).2.2=r
 have hr0:decide (¬((r:Nat):Int)=0)=decide (r≠0):=by
  have:(((r:Nat):Int)=0)=(r=0):=by apply propext;omega
  simp only[this,ne_eq]
 by_cases hr:r=2
 case' pos=>
  have hri:((r:Nat):Int)=2:=a7
  rw[if_pos hr]
  simp only[go_sem,hri]
 case' neg=>
  have hri:¬((r:Nat):Int)=2:=a7
  rw[if_neg hr]
  simp only[go_sem,hri]
 all_goals
  refine aY rfl (by simp only[go_sem];exact rm a 15 p) (by simp only[go_sem];rfl) ?_
  rintro _ rfl
  cases h1:inW a 15 p
  ·simp only[go_sem]
   try simp
  simp only[go_sem]
  refine aY rfl (by simp only[go_sem];exact rm b 15 q) (by simp only[go_sem];rfl) ?_
  rintro _ rfl
  cases h2:inW b 15 q
  ·simp only[go_sem]
   try simp
  simp only[go_sem,hr0]
  refine aY rfl (by simp only[go_sem,hr0];exact rm c _ _) (by simp only[go_sem];rfl) ?_
  rintro _ rfl
  simp only[go_sem]
  first|done|(subst hr;simp;done)|simp
theorem Je (x y:Nat) (hx:x<4294967296) (hy:y<4294967296):(BitVec.ofInt 32 (x:Int) |||BitVec.ofInt 32 (y:Int)).toNat=x |||y:=by
 rw[BitVec.toNat_or]
 have h:∀n:Nat,n<4294967296→(BitVec.ofInt 32 (n:Int)).toNat=n:=fun n hn=>by
  rw[H2]
  omega
 rw[h x hx,h y hy]
theorem wrapN (n:Nat) (h:n<4294967296):IntKind.u32.wrap (n:Int)=n:=by rw[IntKind.wrap_u32];omega
theorem yM (a b k:Nat) (h:b<2^k):(a*2^k) |||b=a*2^k+b:=by
 rw[Nat.mul_comm,Nat.two_pow_add_eq_or_of_lt h]
theorem Fh (o a b c:Nat) (h1:o≤27) (h2:a≤15) (h3:b≤15) (h4:c≤65535):IntKind.u32.wrap
   ((BitVec.ofInt 32
        (IntKind.u32.wrap
          ((BitVec.ofInt 32
               (IntKind.u32.wrap
                 ((BitVec.ofInt 32 (IntKind.u32.wrap ((o:Int)*2^min 24 32)) |||
                     BitVec.ofInt 32 (IntKind.u32.wrap ((a:Int)*2^min 20 32))).toNat:Int)) |||
              BitVec.ofInt 32 (IntKind.u32.wrap ((b:Int)*2^min 16 32))).toNat:Int)) |||
       BitVec.ofInt 32 (c:Int)).toNat:Int)=(word o a b c:Nat):=by
 have e1:((o:Int)*2^min 24 32)=((o*2^24:Nat):Int):=by rw[RI];rfl
 have e2:((a:Int)*2^min 20 32)=((a*2^20:Nat):Int):=by rw[RI];rfl
 have e3:((b:Int)*2^min 16 32)=((b*2^16:Nat):Int):=by rw[RI];rfl
 rw[e1,e2,e3,wrapN (o*2^24) a7,wrapN (a*2^20) a7,wrapN (b*2^16) a7,Je (o*2^24) (a*2^20) a7 a7,yM o (a*2^20) 24 a7,
  wrapN (o*2^24+a*2^20) a7,Je (o*2^24+a*2^20) (b*2^16) a7 a7,
  show o*2^24+a*2^20=(o*16+a)*2^20 by omega,yM (o*16+a) (b*2^16) 20 a7,wrapN ((o*16+a)*2^20+b*2^16) a7,Je ((o*16+a)*2^20+b*2^16) c a7 a7,
  show (o*16+a)*2^20+b*2^16=((o*16+a)*16+b)*2^16 by omega,yM ((o*16+a)*16+b) c 16 a7,wrapN (((o*16+a)*16+b)*2^16+c) a7]
 have e:((o*16+a)*16+b)*2^16+c=word o a b c:=by unfold word;omega
 rw[e]
theorem sB {op a b c:Int} (h:eG op a b c=true):1≤op∧op≤27∧0≤a∧a≤15∧0≤b∧b≤15∧0≤c∧c≤65535:=by
 unfold eG at h
 simp only[l9] at h
 obtain⟨h1,h2,h3,h4⟩:=h
 have hin:∀{v m:Int}{p:Bool},0≤m→inW v m p=true→0≤v∧v≤m:=by
  intro v m p hm hv
  unfold inW at hv
  split at hv
  ·simpa using hv
  ·have:v=0:=by simpa using hv
   omega
 have h2:=hin c8 h2
 have h3:=hin c8 h3
 have hm:0≤tq op.toNat∧tq op.toNat≤65535:=by unfold tq;split <;> decide
 have h4:=hin hm.1 h4
 simp only[oY,l9,A5] at h1
 omega
theorem vK (op a b c:Int):ba Tryz.prog 60 [nN op a b c] (· = if eG op a b c=true then .tup [iv .u32 (word op.toNat a.toNat b.toNat c.toNat:Nat),iv .i64 0] else .tup [iv .u32 0,iv .i64 1]):=by
 refine bh ae mixed Tryz.func60 rfl b9 [2,3] rfl c9 (by simp[Tryz.ntmps60]) fun g=>?_
 unfold nN
 simp only[go_sem]
 refine aY rfl (by simp only[go_sem];exact yL op a b c) (by simp only[go_sem];rfl) ?_
 rintro _ rfl
 cases hk:eG op a b c
 ·simp only[go_sem]
  try rfl
 obtain⟨b1,b2,b3,b4,b5,b6,b7,b8⟩:=sB hk
 have w1:IntKind.u32.wrap op=op:=by rw[IntKind.wrap_u32] <;> omega
 have w2:IntKind.u32.wrap a=a:=by rw[IntKind.wrap_u32] <;> omega
 have w3:IntKind.u32.wrap b=b:=by rw[IntKind.wrap_u32] <;> omega
 have w4:IntKind.u32.wrap c=c:=by rw[IntKind.wrap_u32] <;> omega
 simp only[go_sem,w1,w2,w3,w4]
 obtain⟨o,rfl⟩:∃n:Nat,op=n:=⟨op.toNat,a7⟩
 obtain⟨a,rfl⟩:∃n:Nat,a=n:=⟨a.toNat,a7⟩
 obtain⟨b,rfl⟩:∃n:Nat,b=n:=⟨b.toNat,a7⟩
 obtain⟨c,rfl⟩:∃n:Nat,c=n:=⟨c.toNat,a7⟩
 simp only[A6]
 exact Fh o a b c a7 a7 a7 a7
end
section
open Go Go.Am Go.Asm
theorem Aj (s:Str) (c:UInt8):fX (s++[c])=10*fX s+(c.toNat-48):=by simp[fX,AU]
theorem Ak {s:Str}{k:Nat}{c:UInt8} (h:s[k]? = some c):fX (s.take (k+1))=10*fX (s.take k)+(c.toNat-48):=by
 rw[A7,h];exact Aj _ _
end
section
open Go Go.RowKit Go.Shelf
end
end Go.Proofs.YtlglgadejgdpcaaGreatDoor
namespace Go.Am
section
theorem gq {P:Program}{gb:Nat}{o:bF}{f:FuncId}{args:List AV} (hf:uu P f) (hs:(args.all fun x=>match x with|.one c=>ge c|_=>false)=true) {r:AV} (hr:ci r=true)
  (h:∀w:World,nf gb o w→Calls P f (args.map kR).toArray w fun e w'=>e=.returned (kR r)∧w.heap.size≤w'.heap.size∧(∀b,b<w.heap.size→w'.heap[b]? = w.heap[b]?)∧(w'.os=w.os∧w'.output=w.output)):bj P gb o f args (· = r):=by
 refine⟨hf,fun J w vs hG hJ hv=>?_⟩
 have hvs:vs=args.map kR:=by
  clear h hf
  induction args generalizing vs with
  |nil=>simp only[RVs] at hv;exact hv
  |cons x xs ih=>
    simp only[RVs] at hv
    obtain⟨u,us,rfl,h1,h2⟩:=hv
    simp only[D1,l9] at hs
    rw[l7,←ih hs.2 us h2]
    congr 1
    cases x with
    |one c=>
      simp only[RV,RVc] at h1
      obtain⟨x,rfl,h1⟩:=h1
      simp only[kR,scC]
      exact bA.scalar hs.1 h1
    |_=>simp at hs
 rw[hvs]
 refine(h w hG).mono fun e w' ⟨he,h1,h2,h3⟩=>⟨_,r,he,rfl,h1,h2,h3,?_⟩
 exact sM hr
end
end Go.Am
namespace Go.Proofs.YtlglgadejgdpcaaGreatDoor
section
open Go Go.Am Go.Asm
theorem oZ:∀l:List UInt8,u8s (l.map fun b=>.d (.int .u8 (b.toNat:Nat)))=some (l.map fun b=>((b.toNat:Nat):Int))
 |[]=>rfl
 |b::l=>by
   have ih:=oZ l
   simp only[l7,u8s] at ih ⊢
   rw[ih];rfl
theorem dy {s:St} (x:D):kc s (.one (.d x)) (.one (.d (fg x))):=⟨_,.d x,rfl⟩
end
end Go.Proofs.YtlglgadejgdpcaaGreatDoor
namespace Go.Src
section
open Go.Asm (Str digit letter il fX)
structure Tok where
 kind:Nat
 text:Str
 num:Nat
 place:Nat
 deriving DecidableEq
def DE:List Str:=[[118,97,114],[97,114,114,97,121],[102,117,110,99],[119,111,114,100],[105,102],[101,108,115,101],[119,104,105,108,101],[114,101,116,117,114,110],[112,117,116],[103,101,116]]
def Kn:List Str:=[[60,60],[62,62],[61,61],[38,38],[124,124],[40],[41],[123],[125],[91],[93],[59],[44],[61],[43],[45],[42],[47],[37],[38],[124],[94],[60],[33]]
inductive R (α:Type) where
 |ok (a:α)
 |err (e:Nat)
def firstT (s:Str):R (Nat×Str×Nat):=
 match s with
 |[]=>.err 3
 |c::_=>
   if digit c=true then(if 4294967295<fX (s.takeWhile digit) then .err 2 else .ok (2,s.takeWhile digit,fX (s.takeWhile digit)))
   else if c=39 then
    (match s with
     |_::x::y::_=>if y=39∧32≤x.toNat∧x.toNat≤126∧x≠39∧x≠92 then .ok (2,[c,x,y],x.toNat) else .err 3
     | _=>.err 3)
   else if letter c=true then
    (if 20<(s.takeWhile il).length then .err 2 else if (s.takeWhile il)∈DE then .ok (3,s.takeWhile il,0) else .ok (1,s.takeWhile il,0))
   else match Kn.find? (fun t=>t.isPrefixOf s) with
    |some t=>.ok (4,t,0)
    |none=>.err 3
def qa:Nat→Nat→Str→R (List Tok)×Nat
 |0,_,_=>(.ok [],0)
 |_+1,_,[]=>(.ok [],0)
 |n+1,k,c::r=>
   if c=32∨c=9∨c=10 then qa n (k+1) r
   else if c=47∧r.head? = some 47 then qa n (k+((c::r).takeWhile (· != 10)).length) ((c::r).dropWhile (· != 10))
   else match firstT (c::r) with
    |.err e=>(.err e,k)
    |.ok (kd,t,v)=>match qa n (k+t.length) ((c::r).drop t.length) with
      |(.ok l,p)=>(.ok (⟨kd,t,v,k⟩::l),p)
      |(.err e,p)=>(.err e,p)
def pp (s:Str):List Tok×Nat×Nat:=
 if 20000<s.length then([],0,2)
 else match qa (s.length+1) 0 s with
  |(.ok l,_)=>(l,0,0)
  |(.err e,p)=>([],p,e)
inductive Ex where
 |mk (kind op num:Int) (name:Str) (kids:List Ex)
inductive Stm where
 |mk (kind:Int) (name:Str) (e:List Ex) (th el:List Stm)
structure Fn where
 name:Str
 params:List Str
 locals:List Str
 word:Bool
 body:List Stm
structure Prog where
 vars:List Str
 arrays:List (Str×Int)
 funcs:List Fn
def tO (s:Str):Int×Int×Nat:=
 if s=[124,124] then(9,0,1) else if s=[38,38] then(8,0,2) else if s=[61,61] then(6,15,3) else if s=[60] then(6,14,4)
 else if s=[124] then(6,10,5) else if s=[94] then(6,11,5) else if s=[38] then(6,9,6) else if s=[60,60] then(6,12,7) else if s=[62,62] then(6,13,7)
 else if s=[43] then(6,4,8) else if s=[45] then(6,5,8) else if s=[42] then(6,6,9) else if s=[47] then(6,7,9) else if s=[37] then(6,8,9) else(0,0,0)
def jH:Str:=[40]
def ig:Str:=[41]
def uZ:Str:=[44]
def jI:Str:=[59]
end
end Go.Src
namespace Go.Proofs.YtlglgadejgdpcaaGreatDoor
section
attribute [local congr] Go.Am.ite_cc
open Go Go.Am Go.Asm
theorem kn (c:UInt8):ba Tryz.prog 106 [iv .u8 c.toNat] (· = bv (digit c)):=by
 refine bh ae mixed Tryz.func106 rfl b9 [2] rfl c9 (by simp[Tryz.ntmps106]) fun g=>?_
 simp only[go_sem]
 have e:=@tl c
 cases hs:digit c <;> rw[hs] at e <;> simp at e <;> ((repeat' (first|refine⟨?_,?_⟩|intro _)) <;> (first|rfl|(exfalso;omega)|(simp;omega)))
theorem mA (c:UInt8):ba Tryz.prog 109 [iv .u8 c.toNat] (· = bv (letter c)):=by
 refine bh ae mixed Tryz.func109 rfl b9 [2] rfl c9 (by simp[Tryz.ntmps109]) fun g=>?_
 simp only[go_sem]
 have e:=@xN c
 cases hs:letter c <;> rw[hs] at e <;> simp at e <;> ((repeat' (first|refine⟨?_,?_⟩|intro _)) <;> (first|rfl|(exfalso;omega)|(simp;omega)))
theorem GH (c:UInt8):ba Tryz.prog 76 [iv .u8 c.toNat] (· = bv (c != 10)):=by
 refine bh ae mixed Tryz.func76 rfl b9 [2] rfl c9 (by simp[Tryz.ntmps76]) fun g=>?_
 by_cases h:c=10
 ·subst h
  have hi:(((10:UInt8).toNat:Nat):Int)=10:=rfl
  simp only[go_sem,hi]
  rfl
 ·have hi:¬((c.toNat:Nat):Int)=10:=mN (d:=10) h
  have hb:(c != 10)=true:=by simpa using h
  simp only[go_sem,hi,hb]
theorem tH (c:UInt8):ba Tryz.prog 111 [iv .u8 c.toNat] (· = bv (il c)):=by
 refine bh ae mixed Tryz.func111 rfl b9 [2] rfl c9 (by simp[Tryz.ntmps111]) fun g=>?_
 simp only[go_sem]
 refine aY rfl (by simp only[go_sem];exact mA c) (by simp only[go_sem];rfl) ?_
 rintro _ rfl
 unfold il
 cases hl:letter c
 ·simp only[go_sem]
  refine aY rfl (by simp only[go_sem];exact kn c) (by simp only[go_sem];rfl) ?_
  rintro _ rfl
  cases hd:digit c
  ·by_cases h:c=95
   ·subst h
    have hi:(((95:UInt8).toNat:Nat):Int)=95:=rfl
    simp only[go_sem,hi]
    rfl
   ·have hi:¬((c.toNat:Nat):Int)=95:=mN (d:=95) h
    have hb:(c==95)=false:=by simpa using h
    simp only[go_sem,hi,hb,RO]
  ·simp only[go_sem,Bool.or_true,Bool.true_or]
 ·simp only[go_sem,Bool.true_or]
theorem kM {p:UInt8→Bool}:∀{s:Str}{k:Nat},(s.take k).all p=true→(s[k]?).all (fun c=>!p c)=true→s.takeWhile p=s.take k
 |[],k,_,_=>by simp
 |a::s,0,_,h=>by
   simp only[u7,Option.all_some,D4] at h
   simp[h]
 |a::s,k+1,h1,h2=>by
   simp only[E5,D1,l9] at h1
   rw[s9] at h2
   rw[I7,if_pos h1.1,E5,kM h1.2 h2]
theorem qy {f:FuncId}{p:UInt8→Bool} (hp:∀c,ba Tryz.prog f [iv .u8 c.toNat] (· = bv (p c))) (s:Str) (hs:s.length≤1000000000):ba Tryz.prog 75 [sv s,.one (.d (.fn f))] (· = sv (s.takeWhile p)):=by
 refine bh ae mixed Tryz.func75 rfl b9 [4] rfl c9 (by simp[Tryz.ntmps75]) fun g=>?_
 simp only[go_sem]
 refine kx (fun n st=>∃k:Nat,n+k=s.length∧st.f 0=sv s∧st.f 1=.one (.d (.fn f))∧st.f 5=iv .i64 k∧(s.take k).all p=true) s.length ?_ ?_
 ·refine⟨0,a7,?_⟩
  simp only[go_sem]
  rfl
 rintro n fs g ob ⟨k,hk,q0,q1,q5,hall⟩
 simp only at q0 q1 q5
 have hw:=am (k:=k) a7
 have hk0:(0:Int)≤(k:Int):=a7
 by_cases hlt:k<s.length
 ·obtain⟨c,hc⟩:=getq hlt
  have hlti:(k:Int)<(s.length:Int):=a7
  simp only[go_sem,q0,q1,q5,hlti,hc,hk0]
  refine dr (f:=f) rfl (by simp only[go_sem,q1]) (by simp only[go_sem];exact hp c) (by simp only[go_sem];rfl) ?_
  rintro _ rfl
  cases hpc:p c
  ·have ht:=kM (p:=p) hall (by rw[hc];simp[hpc])
   simp only[go_sem,q0,q5]
   refine⟨a7,a7,?_⟩
   rw[ht]
   try rfl
  ·simp only[go_sem,q5,hw]
   refine mh (n-1) a7 ⟨k+1,a7,?_⟩
   simp only[go_sem,q0,q1]
   rw[A7,hc]
   simp[hall,hpc]
 ·obtain rfl:k=s.length:=a7
  have hlti:¬(s.length:Int)<(s.length:Int):=a7
  have ht:=kM (p:=p) hall (by rw[D7 (l4 _)];rfl)
  rw[ht,G4]
  simp only[go_sem,q0,q1,q5,hlti]
  exact⟨a7,a7⟩
theorem wz {s t:Str}:t.isPrefixOf s=decide (t.length≤s.length∧s.take t.length=t):=by
 rw[Bool.eq_iff_iff,M0,A5]
 constructor
 ·rintro⟨r,rfl⟩;exact⟨a8,a8⟩
 ·rintro⟨h1,h2⟩;exact⟨s.drop t.length,(congrArg (· ++ s.drop t.length) h2.symm).trans (G2 _ _)⟩
theorem Do (s p:Str):preB p s=p.isPrefixOf s:=by
 rw[wz]
 unfold preB
 rw[decide_eq_decide]
 constructor
 ·intro h
  have:=congrArg List.length h
  rw[B9] at this
  exact⟨a7,h⟩
 ·exact fun h=>h.2
theorem pW (s t:Str):ba Tryz.prog 74 [sv s,sv t] (· = bv (t.isPrefixOf s)):=by
 refine bh ae mixed Tryz.func74 rfl b9 [4] rfl c9 (by simp[Tryz.ntmps74]) fun g=>?_
 simp only[go_sem]
 refine aY rfl (by simp only[go_sem];exact vI s t) (by simp only[go_sem];rfl) ?_
 rintro _ rfl
 simp only[go_sem,Do]
theorem GI {s:St}{c:C}{x:D} (h:Frz s c x):kc s (.one c) (.one (.d x)):=⟨_,h,rfl⟩
def kN (t:Src.Tok):List D:=[.int .i64 (t.kind:Nat),.str t.text,.int .u32 (t.num:Nat),.int .i64 (t.place:Nat)]
def mF (t:Src.Tok):AV:=.agg ((kN t).map .d)
def nM:Src.R (Nat×Str×Nat)→AV
 |.ok (k,t,v)=>.tup [mF ⟨k,t,v,0⟩,iv .i64 0]
 |.err e=>.tup [mF ⟨0,[],0,0⟩,iv .i64 (e:Nat)]
theorem cF {s:St}{k v e:Nat}{t:Str}:mZ s [.agg [.d (.int .i64 (k:Nat)),.d (.str t),.d (.int .u32 (v:Nat)),.d (.int .i64 0)],iv .i64 (e:Nat)] (.tup [mF ⟨k,t,v,0⟩,iv .i64 (e:Nat)]):=by
 refine⟨_,⟨_,_,rfl,⟨[.int .i64 (k:Nat),.str t,.int .u32 (v:Nat),.int .i64 0],rfl,fun i c hc'=>?_,rfl⟩,_,_,rfl,dy _,rfl⟩,rfl⟩
 match i,hc' with
 |0,hc'=>cases hc';exact⟨_,rfl,.d _⟩
 |1,hc'=>cases hc';exact⟨_,rfl,.d _⟩
 |2,hc'=>cases hc';exact⟨_,rfl,.d _⟩
 |3,hc'=>cases hc';exact⟨_,rfl,.d _⟩
theorem GJ (c:UInt8) (n:Nat):n≤AU n c:=by unfold AU;omega
theorem AK (s:Str) (k:Nat):fX (s.take k)≤fX s:=by
 have h:∀(l:Str) (n:Nat),n≤l.foldl AU n:=fun l=>by
  induction l with
  |nil=>intro n;exact l4 _
  |cons c l ih=>intro n;exact A9 (GJ c n) (ih _)
 conv=>rhs;rw[←G2 k s]
 unfold fX
 rw[List.foldl_append]
 exact h _ _
theorem yh (s:Str) (hs:s.length≤1000000000) (hd:s.all digit=true):ba Tryz.prog 107 [sv s] (· = nM (if 4294967295<fX s then .err 2 else .ok (2,s,fX s))):=by
 refine bO ae mixed Tryz.func107 rfl b9 [.cell 2 108,.tmp 3] rfl c9 (by simp[Tryz.ntmps107]) fun g=>?_
 simp only[go_sem]
 refine kx (fun n st=>∃k:Nat,n+k=s.length∧st.f 0=sv s∧st.f 2=.one (.ptr 2 (nxC 109 (g 2)) 0)∧st.gen 2=nxC 109 (g 2)∧st.obj 2=some [.d (.int .i64 0),.d (.str []),.d (.int .u32 0),.d (.int .i64 0)]∧st.f 4=iv .u64 (fX (s.take k):Nat)∧st.f 5=iv .i64 k∧fX (s.take k)≤4294967295) s.length ?_ ?_
 ·refine⟨0,a7,?_⟩
  simp only[go_sem]
  exact⟨rfl,c8⟩
 rintro n f g' ob ⟨k,hk,q0,q2,g2,o2,q4,q5,hle⟩
 simp only at q0 q2 g2 o2 q4 q5
 have hw:=am (k:=k) a7
 have hk0:(0:Int)≤(k:Int):=a7
 by_cases hlt:k<s.length
 ·obtain⟨c,hc⟩:=getq hlt
  have hlti:(k:Int)<(s.length:Int):=a7
  have hnx:=Ak hc
  have hmono:=AK s (k+1)
  have hdc:=tl.1 (s7.1 hd c (l8 hc))
  have w1:IntKind.u64.wrap ((fX (s.take k):Int)*10)=((fX (s.take k)*10:Nat):Int):=by rw[IntKind.wrap_u64];omega
  have w2:IntKind.u8.wrap ((c.toNat:Int)-48)=((c.toNat-48:Nat):Int):=by rw[IntKind.wrap_u8];omega
  have w3:IntKind.u64.wrap ((c.toNat-48:Nat):Int)=((c.toNat-48:Nat):Int):=by rw[IntKind.wrap_u64];omega
  have w4:IntKind.u64.wrap (((fX (s.take k)*10:Nat):Int)+((c.toNat-48:Nat):Int))=(fX (s.take (k+1)):Int):=by rw[IntKind.wrap_u64,hnx];omega
  by_cases hbig:4294967295<fX (s.take (k+1))
  ·have hbi:(4294967295:Int)<(fX (s.take (k+1)):Int):=a7
   rw[if_pos a7]
   simp only[go_sem,q0,q2,g2,o2,q4,q5,hlti,hk0,hc,w1,w2,w3,w4,hbi]
   exact⟨_,cF (k:=0) (v:=0) (e:=2),rfl⟩
  ·have hbi:¬(4294967295:Int)<(fX (s.take (k+1)):Int):=a7
   simp only[go_sem,q0,q2,g2,o2,q4,q5,hlti,hk0,hc,w1,w2,w3,w4,hbi,hw]
   refine mh (n-1) a7 ⟨k+1,a7,?_⟩
   simp only[go_sem,q0,q2,g2,o2]
   omega
 ·obtain rfl:k=s.length:=a7
  have hlti:¬(s.length:Int)<(s.length:Int):=a7
  rw[l6 (l4 _)] at q4 hle
  have w5:IntKind.u32.wrap (fX s:Int)=(fX s:Int):=by rw[IntKind.wrap_u32];omega
  rw[if_neg a7]
  simp only[go_sem,q0,q2,g2,o2,q4,q5,hlti,w5]
  exact⟨_,cF (k:=2) (e:=0),rfl⟩
def pY:Str→Src.R (Nat×Str×Nat)
 |c::x::y::_=>if y=39∧32≤x.toNat∧x.toNat≤126∧x≠39∧x≠92 then .ok (2,[c,x,y],x.toNat) else .err 3
 |_=>.err 3
theorem Dw (s:Str):ba Tryz.prog 108 [sv s] (· = nM (pY s)):=by
 refine bO ae mixed Tryz.func108 rfl b9 [.cell 2 108,.tmp 3] rfl c9 (by simp[Tryz.ntmps108]) fun g=>?_
 by_cases hlen:s.length<3
 ·have hi:(s.length:Int)<3:=a7
  have hb:pY s=.err 3:=by
   match s,hlen with
   |[],_=>rfl
   |[_],_=>rfl
   |[_,_],_=>rfl
   |_::_::_::_,h=>simp at h;omega
  rw[hb]
  simp only[go_sem,hi]
  exact⟨_,cF (k:=0) (v:=0) (e:=3),rfl⟩
 obtain⟨c,x,y,r,rfl⟩:∃c x y r,s=c::x::y::r:=by
  match s,hlen with
  |c::x::y::r,_=>exact⟨c,x,y,r,rfl⟩
  |[],h=>simp at h
  |[_],h=>simp at h
  |[_,_],h=>simp at h
 have hi:¬((c::x::y::r).length:Int)<3:=a7
 have h2:(c::x::y::r)[2]? = some y:=rfl
 have h1:(c::x::y::r)[1]? = some x:=rfl
 have ht:(c::x::y::r).take 3=[c,x,y]:=rfl
 have hl3:3≤(c::x::y::r).length:=a8
 rw[show pY (c::x::y::r)=(if y=39∧32≤x.toNat∧x.toNat≤126∧x≠39∧x≠92 then .ok (2,[c,x,y],x.toNat) else .err 3) from rfl]
 generalize (c::x::y::r)=s at hi h2 h1 ht hl3
 by_cases e1:y=39
 case neg=>
  have e1i:¬((y.toNat:Nat):Int)=39:=mN (d:=39) e1
  rw[if_neg (fun h=>e1 h.1)]
  simp only[go_sem,hi,h2,e1i]
  exact⟨_,cF (k:=0) (v:=0) (e:=3),rfl⟩
 have e1i:((y.toNat:Nat):Int)=39:=by rw[e1];rfl
 by_cases e2:32≤x.toNat
 case neg=>
  have e2i:((x.toNat:Nat):Int)<32:=a7
  rw[if_neg (fun h=>e2 h.2.1)]
  simp only[go_sem,hi,h2,h1,e1i,e2i]
  exact⟨_,cF (k:=0) (v:=0) (e:=3),rfl⟩
 have e2i:¬((x.toNat:Nat):Int)<32:=a7
 by_cases e3:x.toNat≤126
 case neg=>
  have e3i:(126:Int)<((x.toNat:Nat):Int):=a7
  rw[if_neg (fun h=>e3 h.2.2.1)]
  simp only[go_sem,hi,h2,h1,e1i,e2i,e3i]
  exact⟨_,cF (k:=0) (v:=0) (e:=3),rfl⟩
 have e3i:¬(126:Int)<((x.toNat:Nat):Int):=a7
 by_cases e4:x=39
 ·have e4i:((x.toNat:Nat):Int)=39:=by rw[e4];rfl
  rw[if_neg (fun h=>h.2.2.2.1 e4)]
  simp only[go_sem,hi,h2,h1,e1i,e2i,e3i,e4i]
  exact⟨_,cF (k:=0) (v:=0) (e:=3),rfl⟩
 have e4i:¬((x.toNat:Nat):Int)=39:=mN (d:=39) e4
 by_cases e5:x=92
 ·have e5i:((x.toNat:Nat):Int)=92:=by rw[e5];rfl
  rw[if_neg (fun h=>h.2.2.2.2 e5)]
  simp only[go_sem,hi,h2,h1,e1i,e2i,e3i,e4i,e5i]
  exact⟨_,cF (k:=0) (v:=0) (e:=3),rfl⟩
 have e5i:¬((x.toNat:Nat):Int)=92:=mN (d:=92) e5
 rw[if_pos ⟨e1,e2,e3,e4,e5⟩]
 have w5:IntKind.u32.wrap ((x.toNat:Nat):Int)=((x.toNat:Nat):Int):=by have:=x.toNat_lt;rw[IntKind.wrap_u32];omega
 simp only[go_sem,hi,h2,h1,e1i,e2i,e3i,e4i,e5i]
 refine fL j0 ?_
 simp only[go_sem,h1,w5,B3,ht]
 exact⟨hl3,_,cF (k:=2) (e:=0),rfl⟩
end
end Go.Proofs.YtlglgadejgdpcaaGreatDoor
namespace Go.Am
section
section
variable {f:FuncId}{fn:Func}{c:Code}
section
variable {P:Program}{T:Nat→TI}{b₀:Bs}{β:Loc}{g:Nat→Nat}{ob:Obs}{n₀:Nat}{w w':World}
theorem pN {α:Type} (B:Nat) (hT:aF P T) (hm:P.follows .mixedOrders=true) (hf:P.funcs[f]? = some fn) (hb:fn.body=some c) (hn:(fn.name == "runtime.NumGoroutine")=false)
  (hres:fn.results = #[]) (hcm:eO c=true) (hok:codeOk fn.ntmps c=true) {caps:List AV} (hargs:caps.length+1≤fn.ntmps) {own:Nat→Prop}{enc:α→List AV}{g0:Nat→Nat}{ob0:Obs}{xs:List α}{Fin:(Nat→Nat)→Obs→Prop}
  (h:∀(b₀:Bs) (Φ:(Nat→Nat)→Obs→Loc→World→Prop) (l:Nat) (J:Nat→(Nat→Nat)→Obs→Prop) (Jx:(Nat→Nat)→Obs→Prop),aE b₀ (qK Φ)→
    (∀k g ob g' ob',J k g ob→(∀id,¬own id→g' id=g id∧ob' id=ob id)→J k g' ob')→(∀g ob g' ob',Jx g ob→(∀id,¬own id→g' id=g id∧ob' id=ob id)→Jx g' ob')→
    (∀k x g ob,xs[k]? = some x→J k g ob→xt P b₀ Φ l (enc x) g ob (fun r g' ob'=>(∀id,own id→g' id=g id∧ob' id=ob id)∧((r=bv true∧J (k+1) g' ob')∨(r=bv false∧Jx g' ob'))))→
    J 0 g0 ob0→wpC (spF P none b₀ (qK Φ) B iN) T c (bx (MG (fun g ob=>J xs.length g ob∧Fin g ob) Jx)) ⟨bY (.one (.d (.yld l))::caps),g0,ob0⟩):yF P f caps own enc g0 ob0 xs Fin:=by
 refine⟨⟨fn,hf,by rw[hb];rfl,hn⟩,fun b₀ Φ l J Jx hΦ hJ hJx hY h0 N β a fa w vs hr0 hφ hv=>?_⟩
 refine callsIn_of_wp hf hb trivial ?_
 have hv':ax b₀ β g0 ob0 w (.one (.d (.yld l))::caps) (.func (.yield l) #[] #[]::vs):=by
  simp only[ax]
  exact⟨_,_,rfl,by simp only[ag,aw];exact .yld l,hv⟩
 have hr:=iw (N:=fn.ntmps) (by simpa using hargs) hr0 hv'
 rw[show (Value.func (.yield l) #[] #[]::vs).toArray = #[.func (.yield l) #[] #[]]++vs.toArray from F7 a8] at hr
 refine wpIn_mono (bb (rd:=none) (B:=B) (ds:=[]) hT hm hΦ c hcm hok hr ⟨rfl,hφ⟩ (h b₀ Φ l J Jx hΦ hJ hJx hY h0)) (fun e a' w' hp=>?_)
 obtain⟨s',β',a0,ds',rfl,hQ,hr',rfl,hφ'⟩:=hp.plain
 have hres':MG (fun g ob=>J xs.length g ob∧Fin g ob) Jx .ret s'→∃v,(results fn a0.tmps).run P w'=.ok v w'∧∃v' g' ob' β',Ending.returned v=.returned v'∧((J xs.length g' ob'∧Fin g' ob')∨Jx g' ob')∧
   (∀id cells,ob' id=some cells→bX b₀ β' g' ob' w' (g' id) cells (β' id))∧(∀id id' a a',(ob' id).isSome=true→(ob' id').isSome=true→β' id=some a→β' id'=some a'→a.block=a'.block→id=id')∧b₀.B≤w'.heap.size∧Φ g' ob' β' w':=by
  rintro⟨s2,hvs,hR⟩
  obtain⟨β2,hr2,ht2⟩:=hvs b₀ fn.ntmps β' a0 w' hr'
  exact⟨_,jC [] hres a0.tmps,_,_,_,β2,rfl,hR,hr2.obj,hr2.inj,hr2.base,(hΦ _ _ [] _ _ _ _ ⟨rfl,hφ'⟩ ht2).2⟩
 cases e with
 |normal=>exact⟨rfl,hres' hQ⟩
 |ret=>exact⟨rfl,hres' hQ⟩
 |exit id=>exact hQ.elim
 |goto l=>exact hQ.elim
 |panic ch=>exact hQ.elim
 |outgrown=>exact hQ.elim
theorem mK (B:Nat) (hT:aF P T) (hm:P.follows .mixedOrders=true) (hf:P.funcs[f]? = some fn) (hb:fn.body=some c) (hn:(fn.name == "runtime.NumGoroutine")=false)
  (rs:List ResultVar) (hres:fn.results=rs.toArray) (hcm:eO c=true) (hok:codeOk fn.ntmps c=true) {args:List AV} (hargs:args.length≤fn.ntmps) {R:AV→Prop}
  (h:∀b₀ β0 s0 w0 g,wpC (spF P none b₀ (zN b₀ β0 s0 w0) B iN) T c (bx (qI T rs R)) ⟨bY args,g,fun _=>none⟩):ba P f args R:=by
 refine⟨⟨fn,hf,by rw[hb];rfl,hn⟩,fun J w vs hJ hv=>?_⟩
 refine dS (n:=0) (callsIn_of_wp_marks hf hb trivial ?_)
 have hlen:∀(l:List AV) (vs:List Value),RVs J w l vs→vs.length=l.length:=by
  intro l
  induction l with
  |nil=>intro vs h;simp only[RVs] at h;subst h;rfl
  |cons x l ih=>intro vs h;simp only[RVs] at h;obtain⟨u,us,rfl,_,h⟩:=h;simp[ih us h]
 have hl:=hlen _ _ hv
 let J':Nat→Prop:=J
 have hr:Rel ⟨w.heap.size,J'⟩ fn.ntmps ⟨bY args,fun _=>0,fun _=>none⟩ (fun _=>none) { tmps:=vs.toArray++Array.replicate (fn.ntmps-vs.toArray.size) undef,defers:=[]} w:=by
  refine⟨rfl,by simp;omega,fun i=>?_,fun id cells ho=>(by cases ho),fun id id' a a' ho=>(by cases ho),l4 _⟩
  have hget:∀(l:List AV) (vs:List Value),RVs J w l vs→∀(i:Nat) (x:AV),l[i]? = some x→∃v,vs[i]? = some v∧RV J w x v:=by
   intro l
   induction l with
   |nil=>intro vs _ i x h;simp at h
   |cons y l ih=>
     intro vs h i x hx
     simp only[RVs] at h
     obtain⟨u,us,rfl,h1,h2⟩:=h
     cases i with
     |zero=>simp at hx;subst hx;exact⟨u,rfl,h1⟩
     |succ i=>simpa using ih us h2 i x (by simpa using hx)
  simp only[bY]
  cases hx:args[i]? with
  |some x=>
    obtain⟨v,h1,h2⟩:=hget _ _ hv i x hx
    have hlt:i<vs.length:=(l5.1 h1).1
    have:(vs.toArray++Array.replicate (fn.ntmps-vs.toArray.size) undef).getD i undef=v:=by
     rw[u1,C4 (by simpa using hlt)]
     simp[h1]
    rw[this]
    simp only[x6]
    exact RV.rep x (RV.mono (fun b hb=>⟨⟨hJ b hb,fun _=>hb,fun id a ho=>by cases ho⟩,rfl⟩) x h2)
  |none=>
    have hge:args.length≤i:=by simpa using hx
    have:(vs.toArray++Array.replicate (fn.ntmps-vs.toArray.size) undef).getD i undef=undef:=by
     rw[u1,E0 (by simp;omega)]
     simp[B1]
     split <;> rfl
    rw[this]
    exact bH
 refine wpIn_mono (bb (rd:=none) (B:=B) (ds:=[]) hT hm eR c hcm hok hr ⟨Tr.refl,trivial⟩ (h _ _ _ w _)) (fun e a' w' hp=>?_)
 obtain⟨s',β',a0,ds',rfl,hQ,hr',ht,hmk⟩:=hp.plain
 have hres':qI T rs R .ret s'→bodyPostM (fen none) 0 P fn (fun e w'=>∃v r,e=.returned v∧R r∧w.heap.size≤w'.heap.size∧(∀b,b<w.heap.size→w'.heap[b]? = w.heap[b]?)∧(w'.os=w.os∧w'.output=w.output)∧RV (Own ⟨w.heap.size,J'⟩ w') w' r v) .ret { a0 with defers:=ds' } w':=by
  intro hQ
  refine iU hmk (fun w5 h5=>?_)
  obtain⟨v,avs,h1,⟨r,h2,h3⟩,_,vs',rfl,h4⟩:=bS hT (hr'.shut h5) hres hQ
  refine⟨_,h1,_,r,rfl,h3,by rw[h5.size];exact ht.size,fun b hb=>?_,⟨h5.os.1.trans ht.os.1,h5.os.2.trans ht.os.2⟩,h2.rep (hr'.shut h5) h4⟩
  rcases h5.same b with e|⟨e,_⟩
  ·rw[e];exact ht.old b hb
  ·omega
 cases e with
 |normal=>exact hres' hQ
 |ret=>exact hres' hQ
 |exit id=>exact hQ.elim
 |goto l=>exact hQ.elim
 |panic ch=>exact hQ.elim
 |outgrown=>exact hQ.elim
theorem Tr.shut {s s':St}{β':Loc}{w5:World} (hB:b₀.B≤w.heap.size) (h:Tr b₀ β s w β' s' w') (hs:kC b₀ β' s'.obj w.heap.size w' w5):Tr b₀ β s w β' s' w5:=by
 refine⟨by rw[hs.size];exact h.size,fun b hb=>?_,⟨fun b hb=>?_,h.keep.gen,fun id hg ho=>?_⟩,⟨hs.os.1.trans h.os.1,hs.os.2.trans h.os.2⟩⟩
 ·rcases hs.same b with e|⟨e,_⟩
  ·rw[e];exact h.old b hb
  ·omega
 ·obtain⟨h1,h2⟩:=h.keep.imm b hb
  refine⟨hs.imm h1,?_⟩
  rcases hs.same b with e|⟨e,_⟩
  ·rw[e];exact h2
  ·have:=hb.1;omega
 ·obtain⟨h1,h2,h3⟩:=h.keep.live id hg ho
  refine⟨h1,h2,fun a ha arr el fr hc=>?_⟩
  rcases hs.same a.block with e|⟨_,_,_,x,e⟩
  ·exact h3 a ha arr el fr (by rw[←e];exact hc)
  ·rw[e] at hc;cases hc
theorem un (B:Nat) (hT:aF P T) (hm:P.follows .mixedOrders=true) (hf:P.funcs[f]? = some fn) (hb:fn.body=some c) (hn:(fn.name == "runtime.NumGoroutine")=false)
  (rs:List ResultVar) (hres:fn.results=rs.toArray) (hcm:eO c=true) (hok:codeOk fn.ntmps c=true) {xs:List AV} (hargs:xs.length≤fn.ntmps) {g:Nat→Nat}{ob:Obs}{R:AV→(Nat→Nat)→Obs→Prop}
  (h:∀b₀ β0 s0 w0,wpC (spF P none b₀ (zN b₀ β0 s0 w0) B iN) T c (bx (nC T rs R)) ⟨bY xs,g,ob⟩):gf P f xs g ob R:=by
 refine⟨⟨fn,hf,by rw[hb];rfl,hn⟩,fun b₀ N β a fa w vs hr0 hv=>?_⟩
 refine dS (n:=0) (callsIn_of_wp_marks hf hb trivial ?_)
 have hr:=iw (N:=fn.ntmps) hargs hr0 hv
 refine wpIn_mono (bb (rd:=none) (B:=B) (ds:=[]) hT hm eR c hcm hok hr ⟨Tr.refl,trivial⟩ (h b₀ β ⟨bY xs,g,ob⟩ w)) (fun e a' w' hp=>?_)
 obtain⟨s',β',a0,ds',rfl,hQ,hr',ht,hmk⟩:=hp.plain
 have hres':nC T rs R .ret s'→bodyPostM (fen none) 0 P fn (fun e w'=>∃v r g' ob' β',e=.returned v∧R r g' ob'∧ag b₀ β' g' ob' w' r v∧
   (∀id cells,ob' id=some cells→bX b₀ β' g' ob' w' (g' id) cells (β' id))∧(∀id id' a a',(ob' id).isSome=true→(ob' id').isSome=true→β' id=some a→β' id'=some a'→a.block=a'.block→id=id')∧
   Tr b₀ β ⟨fa,g,ob⟩ w β' ⟨fa,g',ob'⟩ w') .ret { a0 with defers:=ds' } w':=by
  rintro⟨s2,hvs,hR⟩
  obtain⟨β2,hr2,ht2⟩:=hvs b₀ fn.ntmps β' a0 w' hr'
  refine iU (hmk.keep ht2) (fun w5 h5=>?_)
  have hr5:=hr2.shut h5
  have hta:=(ht.trans ht2).shut hr0.base h5
  obtain⟨v,avs,h1,h2,h3,_⟩:=bS hT hr5 hres hR
  exact⟨v,h1,v,_,_,_,β2,rfl,h2,h3,hr5.obj,hr5.inj,⟨hta.size,hta.old,hta.keep,hta.os⟩⟩
 cases e with
 |normal=>exact hres' hQ
 |ret=>exact hres' hQ
 |exit id=>exact hQ.elim
 |goto l=>exact hQ.elim
 |panic ch=>exact hQ.elim
 |outgrown=>exact hQ.elim
end
end
end
end Go.Am
namespace Go.Proofs.YtlglgadejgdpcaaGreatDoor
section
attribute [local congr] Go.Am.ite_cc
open Go Go.Am Go.Asm
def gv (o:bF):Prop:=∀w:World,nf 3 o w→(∀(i:Nat) t,Src.DE[i]? = some t→w.cell? ⟨3,i,none⟩=some (.string ⟨t.toArray⟩))∧(∀(i:Nat) t,Src.Kn[i]? = some t→w.cell? ⟨1,i,none⟩=some (.string ⟨t.toArray⟩))
theorem wG {o:bF} (ho:gv o) (s:Str):bj Tryz.prog 3 o 113 [sv s] (· = bv (decide (s∈Src.DE))):=by
 refine ap 0 3 o ae mixed Tryz.func113 rfl b9 [.tmp 2] rfl c9 c9 (by simp[Tryz.ntmps113]) fun b₀ β0 s0 w0 g=>?_
 have hwl:Src.DE.length=10:=rfl
 simp only[go_sem]
 refine ak (fun n st=>∃k:Nat,n+k=10∧st.f 0=sv s∧st.f 4=iv .i64 k∧s∉Src.DE.take k) 10 ?_ ?_
 ·refine⟨0,rfl,?_⟩
  simp only[go_sem]
  simp
 rintro n f g' ob ⟨k,hk,q0,q4,hno⟩
 simp only at q0 q4
 have hw:=am (k:=k) a7
 by_cases hlt:k<10
 ·have hlti:(k:Int)<10:=a7
  obtain⟨t,ht⟩:=getq (l:=Src.DE) (k:=k) a7
  simp only[go_sem,q0,q4,hlti]
  refine jV ab (fun s β ds w h=>h.1.2) ae (n:=10) (e:=9) rfl rfl c8 (kd:=.i64) (i:=k) (by simp only[go_sem,q4]) hlt (cs:=[.str t]) (fun j x hx=>by match j,hx with|0,hx=>cases hx;rfl) (fun w hw j x hx=>by
   match j,hx with
   | 0,hx=>cases hx;rw[show k*(Tt 9).size+0=k from by show k*1+0=k;omega];exact(ho w hw).1 k t ht) ?_
  by_cases he:t=s
  ·have hin:s∈Src.DE:=he▸l8 ht
   simp only[go_sem,q0,he]
   exact(D3 hin).symm
  ·simp only[go_sem,q0,q4,he,hw]
   refine ai (n-1) a7 ⟨k+1,a7,?_⟩
   simp only[go_sem,q0]
   rw[A7,ht]
   simp[hno,y9 he]
 ·obtain rfl:k=10:=a7
  rw[l6 (by rw[hwl];decide)] at hno
  simp only[go_sem,q0,q4,show ¬((10:Nat):Int)<10 by decide]
  exact(y7 hno).symm
def pZ (s:Str):Src.R (Nat×Str×Nat):=if 20<s.length then .err 2 else if s∈Src.DE then .ok (3,s,0) else .ok (1,s,0)
theorem Dx {o:bF} (ho:gv o) (s:Str):bj Tryz.prog 3 o 110 [sv s] (· = nM (pZ s)):=by
 refine ap 0 3 o ae mixed Tryz.func110 rfl b9 [.cell 2 108,.tmp 3] rfl c9 c9 (by simp[Tryz.ntmps110]) fun b₀ β0 s0 w0 g=>?_
 unfold pZ
 by_cases h20:20<s.length
 ·have h20i:(20:Int)<(s.length:Int):=a7
  rw[if_pos h20]
  simp only[go_sem,h20i,dQ]
  exact⟨_,cF (k:=0) (v:=0) (e:=2),rfl⟩
 have h20i:¬(20:Int)<(s.length:Int):=a7
 rw[if_neg h20]
 simp only[go_sem,h20i]
 refine aj ab (fun s β ds w h=>h.1.2) rfl (by simp only[go_sem];exact wG ho s) (by simp only[go_sem];rfl) ?_
 rintro _ rfl
 by_cases hin:s∈Src.DE
 ·rw[if_pos hin,D3 hin]
  simp only[go_sem,dQ]
  exact⟨_,cF (k:=3) (v:=0) (e:=0),rfl⟩
 ·rw[if_neg hin,y7 hin]
  simp only[go_sem,dQ]
  exact⟨_,cF (k:=1) (v:=0) (e:=0),rfl⟩
end
end Go.Proofs.YtlglgadejgdpcaaGreatDoor
