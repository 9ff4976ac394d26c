/- A part of the proof; no conditions. -/
import Derived.Test.YthnomjfdcidgbaaGreatDoorPart5
import Derived.RangeFuncSeq
import Derived.Below
import Derived.Lib.UnsafeStr
import Derived.Laws.Externs
import Derived.Handed
import Derived.Lay
import Derived.LaidMore
import Derived.SevenTiedAt
import Derived.Stop.Joined
import Derived.KernelRfl
import Derived.DefersIn
import Derived.RecoverIn
import Derived.Test.YthnomjfdcidgbaaGreatDoorProg
import Derived.Lib.Bytealg
import Derived.Shelf.Strings.IndexAnyAll
import Derived.Laws.RangeAny
import Derived.WalkMore
import Derived.Shelf.RegionOpenPlain
import Derived.BigQuiet
import Derived.Laws.Runes
import Derived.Shelf.Small.Utf8
import Derived.Lib.QuoteLoop
import Derived.Lib.TrimU
import Derived.Lib.OthersKept
import Derived.Shelf.Strings.SlTrimAscii
import Derived.Shelf.Strings.Runes
set_option linter.unusedSimpArgs false
set_option linter.unusedVariables false
set_option maxHeartbeats 64000000
set_option maxRecDepth 100000
namespace Go.Am
section
section
variable {B B' id:Nat}{ops:Array Oper}{Q:Exit→St→Prop}
section
variable {P:Program}{T:Nat→TI}{b₀:Bs}{w:World}{rd:Option Nat}{Φ:St→Loc→List Deferred→World→Prop}{Ψ:fO}
theorem uN {hT:aX P T} (hΦ:aY b₀ Φ) {B N:Nat}{ops:Array Oper}{ds:List Deferred}{Q:Exit→Act→World→Prop} (hnd:ops.toList.all aJ=true) (hg:ops.toList.all (fun o=>o.guard.isNone)=true) (hds:fm N ops.toList=true) (I:(Nat→Bool)→St→Prop)
  (hstep:∀(L:Nat→Bool) (s:St) (i:Nat) (o:Oper),I L s→ops[i]? = some o→L i=false→(∀e∈o.after.toList,Region.binds .any e=true→L e.on=true)→
    (∀j o',L j=true→ops[j]? = some o'→∀e∈o'.after.toList,Region.binds .any e=true→L e.on=true)→opA (spB P B) T o s (bx fun s'=>I (upd L i true) s')) :
  ∀(fuel:Nat) (listed:Array Bool) {s:St}{β:Loc}{a:Act}{w:World},listed.size=ops.size→listed.toList.count false≤fuel→Rel b₀ N s β a w→Φ s β ds w→I (fun i=>listed.getD i false) s→
   (∀j o',listed.getD j false=true→ops[j]? = some o'→∀e∈o'.after.toList,Region.binds .any e=true→listed.getD e.on false=true)→
   (∀L s' β' a' w',I L s'→Rel b₀ N s' β' a' w'→Φ s' β' ds w'→(∃listed',L=(fun i=>listed'.getD i false)∧listed'.size=ops.size∧Region.ready .any ops listed'=[])→Q .normal { a' with defers:=ds } w')→
   wpAnyIn (fen rd) 0 P .any ops Q fuel listed { a with defers:=ds } w
 |0,listed,s,β,a,w,hsz,hc,hr,hφ,hI,hid,hQ=>by
   exact UY
 |fuel+1,listed,s,β,a,w,hsz,hc,hr,hφ,hI,hid,hQ=>by
   refine⟨fun hrd=>hQ _ s β a w hI hr hφ ⟨listed,rfl,hsz,hrd⟩,fun i hi=>?_⟩
   unfold Region.ready at hi
   simp only[T1,D3,s6,G3] at hi
   obtain⟨hi1,hi2,hi3⟩:=hi
   have ho:ops[i]? = some ops[i]:=z6 hi1
   rw[ho] at hi3
   simp only[y1,y7,N4,F2,G3] at hi3
   have hli:listed[i]? = some false:=by
    exact W4
   have hL:listed.getD i false=false:=by rw[s9,hli];rfl
   have hedge:∀e∈ops[i].after.toList,Region.binds .any e=true→listed.getD e.on false=true:=fun e he hb=>by
    exact Wg
   have hgi:(ops[i]).guard=none:=by
    have:=x6.1 hg ops[i] (E6 hi1)
    exact W0
   have hdi:∀d,(ops[i]).dst=some d→d<N:=fun d hd=>by
    exact Wv
   have hni:aJ ops[i]=true:=x6.1 hnd ops[i] (E6 hi1)
   unfold wpOpIn
   rw[ho]
   simp only
   rw[if_pos (by simp[Region.wanted,hgi])]
   have hset:(fun j=>(listed.setIfInBounds i true).getD j false)=upd (fun j=>listed.getD j false) i true:=by
    funext j
    exact VC
   refine gz hni (lf hT hr hdi (hstep _ s i ops[i] hI ho hL hedge hid) (fun s' β' a' w' hI' hr' ht'=>⟨hr'.defers,?_⟩))
   refine uN (hT:=hT) hΦ hnd hg hds I hstep fuel (listed.setIfInBounds i true) (by simpa using hsz) Zj hr' (hΦ _ _ _ _ _ _ _ hφ ht') (by rw[hset];exact hI') (fun j o' hj hoj e he hb=>?_) hQ
   exact UJ
theorem qm (hT:aX P T) (hm:P.follows .mixedOrders=true) (hΦ:aY b₀ Φ){s:St}{q:Box Q} (hnd:ops.toList.all aJ=true) (hok:(ops.toList.all (fun o=>o.guard.isNone)&&sG ops)=true) (I:(Nat→Bool)→St→Prop) (h0:I (fun _=>false) s)
  (hstep:∀(L:Nat→Bool) (s:St) (i:Nat) (o:Oper),I L s→ops[i]? = some o→L i=false→(∀e∈o.after.toList,Region.binds .any e=true→L e.on=true)→
    (∀j o',L j=true→ops[j]? = some o'→∀e∈o'.after.toList,Region.binds .any e=true→L e.on=true)→opA (spB P B) T o s (bx fun s'=>I (upd L i true) s'))
  (hend:∀L s',I L s'→(∀i,i<ops.size→L i=true)→Q .normal s'):ki (spF P rd b₀ Φ B' Ψ) T id ops s q:=by
 rw[s6] at hok
 obtain⟨hg,hbk⟩:=hok
 refine .inr ⟨fun e s'=>e=.normal∧Q .normal s',fun N β a ds w hc hr hφ=>?_,fun e s' ⟨h1,h2⟩=>h1▸h2⟩
 have hr1:Rel b₀ N s β a { w with drawn:=w.drawn+1 }:=hr.of_heap rfl
 have hφ1:Φ s β ds { w with drawn:=w.drawn+1 }:=hΦ _ _ _ _ _ _ _ hφ (Tr.same rfl rfl rfl)
 refine wpIn_region_any hm (uN (hT:=hT) hΦ hnd hg hc I hstep ops.size (Array.replicate ops.size false) a7 a7 hr1 hφ1 ?_ (fun j o' hj=>?_) (fun L s' β' a' w' h2 h4 h5 h6=>⟨s',β',a',ds,rfl,.inl ⟨rfl,hend L s' h2 Yy⟩,h4,h5⟩))
 ·exact Vx
 ·rw[s9,C0] at hj
  split at hj <;> simp at hj
theorem nF (hT:aX P T) (hm:P.follows .mixedOrders=true) (hΦ:aY b₀ Φ){s:St}{q:Box Q} (ids:List Nat) (tb:List (List Nat×List Nat×List Nat×Bool)) (nid:Nat) (hnd0:ops.toList.all aJ=true) (hok:AO ops tb nid=true) (hnid:ids.length=nid) (hnd:ids.Nodup)
  (h:jf (spB P B) T ids (jd ops.toList tb) s (bx fun s'=>Q .normal s')):ki (spF P rd b₀ Φ B' Ψ) T id ops s q:=by
 obtain⟨h1,I,h2,h3,h4⟩:=AQ (Q:=Q) ids tb nid hok hnid hnd h
 exact qm hT hm hΦ hnd0 h1 I h2 h3 h4
end
end
section
section
variable {P:Program}{T:Nat→TI}{b₀:Bs}{w:World}
theorem mV {N:Nat}{xs:List AV}{vs:List Value}{g:Nat→Nat}{ob:Obs}{β:Loc}{fa:Nat→AV}{M:Nat}{a:Act} (hargs:xs.length≤N) (hr0:Rel b₀ M ⟨fa,g,ob⟩ β a w) (hv:aE b₀ β g ob w xs vs) :
  Rel b₀ N ⟨cX xs,g,ob⟩ β { tmps:=vs.toArray++Array.replicate (N-vs.toArray.size) undef,defers:=[]} w:=by
 have hl:=hv.len
 refine⟨rfl,by simp;omega,fun i=>?_,hr0.obj,hr0.inj,hr0.base⟩
 simp only[cX]
 cases hx:xs[i]? with
 |some x=>
   obtain⟨v,h1,h2⟩:=hv.get hx
   have hlt:i<vs.length:=(l0.1 h1).1
   have:(vs.toArray++Array.replicate (N-vs.toArray.size) undef).getD i undef=v:=by
    rw[s9,D5 (by simpa using hlt)]
    simp[h1]
   rw[this]
   simpa only[y7] using h2
 |none=>
   have hge:xs.length≤i:=by simpa using hx
   have:(vs.toArray++Array.replicate (N-vs.toArray.size) undef).getD i undef=undef:=by
    rw[s9,E8 Xy]
    simp[C0]
    split <;> rfl
   rw[this]
   exact cH
end
end
section
def Mk (b₀:Bs) (β:Loc) (ob:Obs) (w:World) (n₀:Nat):List Deferred→Prop
 |[]=>True
 |d::ds=>(∃D,d = { target:=.collected D,args:=#[]}∧n₀≤D∧Imm b₀ β ob w D∧w.heap[D]? = some (.deferred (some []))∧∀d'∈ds,d'≠d)∧Mk b₀ β ob w n₀ ds
def Pu (b₀:Bs) (β0:Loc) (s0:St) (w0:World):St→Loc→List Deferred→World→Prop:=fun s β ds w=>Tr b₀ β0 s0 w0 β s w∧Mk b₀ β s.obj w w0.heap.size ds
theorem Mk.keep {b₀:Bs}{β β':Loc}{s s':St}{w w':World} (h:Tr b₀ β s w β' s' w') {n₀:Nat}:∀{ds:List Deferred},Mk b₀ β s.obj w n₀ ds→Mk b₀ β' s'.obj w' n₀ ds
 |[],_=>trivial
 |d::ds,hm=>by
   obtain⟨⟨D,h1,h2,h3,h4,h5⟩,hr⟩:=hm
   exact⟨⟨D,h1,h2,(h.imm D h3).1,by rw[(h.imm D h3).2];exact h4,h5⟩,Mk.keep h hr⟩
theorem Ce {b₀:Bs}{β0:Loc}{s0:St}{w0:World}:aY b₀ (Pu b₀ β0 s0 w0):=fun _ _ _ _ _ _ _ h ht=>⟨h.1.trans ht,h.2.keep ht⟩
section
variable {P:Program}{T:Nat→TI}{b₀:Bs}{β:Loc}{w:World}
end
end
section
section
variable {P:Program}{T:Nat→TI}{b₀:Bs}{β:Loc}{w:World}
end
end
section
variable {cells:List C}
section
variable {P:Program}{T:Nat→TI}{b₀:Bs}{β:Loc}{w:World}
def St.claimAt (s:St) (o b j sz:Nat) (cells:List C):St:=⟨s.f,upd s.gen b (s.gen b+1),upd (upd s.obj o (some (cells.set j (.osl b (s.gen b+1) sz 0 0)))) b (some [])⟩
theorem xe {s:St}{t o b j sz:Nat} (ht:(∃off,s.f t=.one (.ptr o (s.gen o) off))∨∃sz off len,s.f t=.one (.osl o (s.gen o) sz off len)) (ho:s.obj o=some cells) (hj:cells[j]? = some (.d .nsl)) (n1:o≠b):ab s (s.claimAt o b j sz cells):=by
 intro b₀ N β a w hr
 let β':Loc:=fun i=>if i=b then none else β i
 have hlive:∀i,i≠b→((s.claimAt o b j sz cells).obj i).isSome=true→(s.obj i).isSome=true:=fun i hib hi=>by
  simp only[St.claimAt,upd,if_neg hib] at hi
  by_cases e2:i=o
  ·subst e2;rw[ho];rfl
  ·rwa [if_neg e2] at hi
 have hkeep:eV b₀ β s.gen s.obj w β' (s.claimAt o b j sz cells).gen (s.claimAt o b j sz cells).obj w:=by
  refine⟨fun x hx=>⟨⟨hx.1,hx.2.1,fun i a' hi hβ=>?_⟩,rfl⟩,fun i=>?_,fun i hg hi=>?_⟩
  ·by_cases hib:i=b
   ·simp[β',hib] at hβ
   ·simp only[β',if_neg hib] at hβ
    exact hx.2.2 i a' (hlive i hib hi) hβ
  ·simp only[St.claimAt,upd];split
   ·rename_i e;subst e;omega
   ·omega
  ·by_cases hib:i=b
   ·subst hib;simp[St.claimAt,upd] at hg
   ·exact⟨hlive i hib hi,by simp[β',hib],fun a' _ arr el fr h=>⟨arr,el,fr,h,j8 _⟩⟩
 have hspot:∀ad,β o=some ad→ad.spot=none:=fun ad hβ=>by
  have hv:=hr.f t
  rcases ht with⟨off,ht⟩|⟨sz,off,len,ht⟩
  ·rw[ht] at hv
   simp only[ag,ay] at hv
   obtain⟨a',h1,h2,_⟩:=hv.2.2 trivial YX
   rw[hβ] at h1;cases h1;exact h2
  ·rw[ht] at hv
   simp only[ag] at hv
   exact(iP hv rfl YX).spot ad hβ
 refine⟨β',⟨hr.defers,hr.size,fun i=>ag.keep hkeep _ (hr.f i),fun i cells' hc'=>?_,fun i1 i2 a1 a2 l1 l2 b1 b2 hb=>?_,hr.base⟩,j8 _,fun _ _=>rfl,hkeep,rfl,rfl⟩
 ·by_cases hib:i=b
  ·subst hib
   simp only[St.claimAt,upd,A9,s7] at hc'
   subst hc'
   simp only[β',A9]
   rfl
  ·by_cases e2:i=o
   ·subst e2
    simp only[St.claimAt,upd,if_neg hib,A9,s7] at hc'
    subst hc'
    have hob:=hr.obj i cells ho
    have hβ':β' i=β i:=by simp[β',n1]
    rw[hβ']
    cases hβ:β i with
    |none=>rw[hβ] at hob;have:cells=[]:=hob;subst this;simp at hj
    |some ad=>
      rw[hβ] at hob
      obtain⟨g1,arr,el,lo,hi,g2,g3,g4,g5⟩:=hob.cells (hspot ad hβ)
      refine .ofCells (hspot ad hβ) ⟨g1,arr,el,lo,hi,g2,by simpa[St.claimAt,upd,hib] using g3,by simpa using g4,fun k c hk=>?_⟩
      by_cases hkj:k=j
      ·subst hkj
       have hlt:=(l0.1 hj).1
       rw[List.getElem?_set_self hlt] at hk
       cases hk
       obtain⟨v,hv,hrv⟩:=g5 k _ hj
       simp only[ay] at hrv
       obtain rfl:=hrv.inv_nsl
       refine⟨_,hv,rfl,by simp[St.claimAt,upd],fun _ _=>?_⟩
       simp only[β',A9]
       exact⟨rfl,rfl⟩
      ·rw[P3 (z8 hkj)] at hk
       obtain⟨v,hv,hrv⟩:=g5 k c hk
       exact⟨v,hv,hrv.keep hkeep⟩
   ·simp only[St.claimAt,upd,if_neg hib,if_neg e2] at hc'
    have:=(hr.obj i cells' hc').keep hkeep (fun _ _=>rfl)
    simpa[β',hib,St.claimAt,upd] using this
 ·have h1:i1≠b:=fun e=>by simp[β',e] at b1
  have h2:i2≠b:=fun e=>by simp[β',e] at b2
  simp only[β',if_neg h1] at b1
  simp only[β',if_neg h2] at b2
  exact hr.inj i1 i2 a1 a2 (hlive i1 h1 l1) (hlive i2 h2 l2) b1 b2 hb
theorem bV {s:St}{t o b j sz off:Nat} (ht:s.f t=.one (.ptr o (s.gen o) off)) (ho:s.obj o=some cells) (hj:cells[j]? = some (.d .nsl)) (n1:o≠b):ab s (s.claimAt o b j sz cells):=
 xe (.inl ⟨off,ht⟩) ho hj n1
end
end
end
section
attribute [local congr] Go.Am.ite_cc
section
variable {s:St}{K:List AV→Prop}{T:Nat→TI}{fn:Func}{g:Nat→Nat}{rs:List ResultVar}{R:AV→Prop}{r:List ResultVar}{k:Box K}
section
variable {P:Program}{T:Nat→TI}{b₀:Bs}{β:Loc}{w:World}
def jy (T:Nat→TI) (s:St):List ResultVar→{K:List AV→Prop}→Box K→Prop
 |[],K,_=>K []
 |.tmp t::r,K,_=>jy T s r (bx fun vs=>K (s.f t::vs))
 |.cell a ty::r,K,_=>qY (T ty) s (s.f a) (bx fun v=>jy T s r (bx fun vs=>K (v::vs)))
theorem mT (hT:aX P T) {N:Nat}{s:St}{a:Act} (hr:Rel b₀ N s β a w) :
  ∀(rs:List ResultVar) {K:List AV→Prop}{k:Box K},jy T s rs k→∃vs avs,(∀g:ResultVar→Sem Value,(∀t,g (.tmp t)=pure (a.tmps.getD t undef))→(∀x t,g (.cell x t)=do loadVar t (←asAddr (a.tmps.getD x undef)))→(rs.mapM g).run P w=.ok vs w)∧K avs∧aE b₀ β s.gen s.obj w avs vs
 |[],K,k,h=>⟨[],[],fun _ _ _=>by simp,h,by simp only[aE]⟩
 |.tmp t::r,K,k,h=>by
   obtain⟨vs,avs,h1,h2,h3⟩:=mT hT hr r h
   refine⟨_::vs,_::avs,fun g hg hg2=>?_,h2,by simp only[aE];exact⟨_,_,rfl,hr.f t,h3⟩⟩
   simp only[O0,Sem.run_bind,hg,Sem.run_pure,Result.andThen_ok,h1 g hg hg2]
 |.cell x ty::r,K,k,h=>by
   unfold jy at h
   obtain⟨y,cv,hK,hrun,hrep⟩:=rp hT hr h (hr.f x)
   obtain⟨vs,avs,h1,h2,h3⟩:=mT hT hr r hK
   refine⟨cv::vs,y::avs,fun g hg hg2=>?_,h2,by simp only[aE];exact⟨_,_,rfl,hrep,h3⟩⟩
   have hl:=hrun w .refl
   have hcell:(g (.cell x ty)).run P w=.ok cv w:=by
    rw[hg2]
    unfold Instr.loadAt at hl
    cases hv:a.tmps.getD x undef with
    |pointer p=>
      rw[hv] at hl
      cases p with
      |some p=>simpa[Instr.sureAddr,asAddr] using hl
      |none=>simp[Instr.sureAddr] at hl
    |_=>rw[hv] at hl;simp[Instr.sureAddr] at hl
   simp only[O0,Sem.run_bind,hcell,Sem.run_pure,Result.andThen_ok,h1 g hg hg2]
def pack:List AV→AV
 |[t]=>t
 |ts=>.tup ts
def kW:List Value→Value
 |[v]=>v
 |vs=>.tuple vs.toArray
theorem xf{ob:Obs}:∀{avs:List AV}{vs:List Value},aE b₀ β g ob w avs vs→ag b₀ β g ob w (pack avs) (kW vs)
 |[],vs,h=>by simp only[aE] at h;subst h;simp only[pack,kW,ag,aE];exact⟨[],rfl,rfl⟩
 |[t],vs,h=>by simp only[aE] at h;obtain⟨u,us,rfl,h1,rfl⟩:=h;exact h1
 |t::t'::ts,vs,h=>by
   have h0:=h
   simp only[aE] at h
   obtain⟨u,us,rfl,h1,u',us',rfl,h2,h3⟩:=h
   simp only[pack,kW,ag]
   exact⟨_,rfl,h0⟩
theorem dX (hT:aX P T) {N:Nat}{a:Act} (hr:Rel b₀ N s β a w) (hres:fn.results=rs.toArray) (h:jy T s rs k) :
  ∃v avs,(results fn a.tmps).run P w=.ok v w∧K avs∧ag b₀ β s.gen s.obj w (pack avs) v∧∃vs,v=kW vs∧aE b₀ β s.gen s.obj w avs vs:=by
 obtain⟨vs,avs,h1,h2,h3⟩:=mT hT hr rs h
 refine⟨kW vs,avs,?_,h2,xf h3,vs,rfl,h3⟩
 unfold results
 simp only[hres,R5,Sem.run_bind,Sem.run_map]
 rw[h1 _ (fun _=>rfl) (fun _ _=>rfl)]
 simp only[Result.andThen_ok,Sem.run_pure]
 match vs with
 |[]=>simp[kW]
 |[t]=>simp[kW]
 |t::t'::ts=>simp[kW]
def xg (T:Nat→TI) (rs:List ResultVar) (R:AV→(Nat→Nat)→Obs→Prop):Exit→St→Prop
 |.normal,s|.ret,s=>∃s',ab s s'∧jy T s' rs (bx fun avs=>R (pack avs) s'.gen s'.obj)
 |_,_=>False
theorem Ld (B:Nat) (hT:aX P T) (hm:P.follows .mixedOrders=true) {f:FuncId}{c:Code} (hf:P.funcs[f]? = some fn) (hb:fn.body=some c) (hn:(fn.name == "runtime.NumGoroutine")=false)
  (rs:List ResultVar) (hres:fn.results=rs.toArray) (hok:codeOk fn.ntmps c=true) {xs:List AV} (hargs:xs.length≤fn.ntmps){ob:Obs}{R:AV→(Nat→Nat)→Obs→Prop}
  (h:wpC (spB P B) T c (bx (xg T rs R)) ⟨cX xs,g,ob⟩):iN P f xs g ob R:=by
 refine⟨⟨fn,hf,by rw[hb];rfl,hn⟩,fun b₀ N β a fa w vs hr0 hv=>?_⟩
 refine calls_of_wp hf hb ?_
 have hl:=hv.len
 have hr:Rel b₀ fn.ntmps ⟨cX xs,g,ob⟩ β { tmps:=vs.toArray++Array.replicate (fn.ntmps-vs.toArray.size) undef,defers:=[]} w:=by
  refine⟨rfl,by simp;omega,fun i=>?_,hr0.obj,hr0.inj,hr0.base⟩
  simp only[cX]
  cases hx:xs[i]? with
  |some x=>
    exact UU
  |none=>
    exact W7
 refine wp_mono (ey (B:=B) hT hm c hok hr h) (fun e a' w' hp=>?_)
 obtain⟨s',β',hQ,hr',ht⟩:=hp
 have hres':xg T rs R .ret s'→∃v,(results fn a'.tmps).run P w'=.ok v w'∧∃v' r g' ob' β',Ending.returned v=.returned v'∧R r g' ob'∧ag b₀ β' g' ob' w' r v'∧
   (∀id cells,ob' id=some cells→dm b₀ β' g' ob' w' (g' id) cells (β' id))∧(∀id id' a a',(ob' id).isSome=true→(ob' id').isSome=true→β' id=some a→β' id'=some a'→a.block=a'.block→id=id')∧
   Tr b₀ β ⟨fa,g,ob⟩ w β' ⟨fa,g',ob'⟩ w':=by
  rintro⟨s2,hvs,hR⟩
  obtain⟨β2,hr2,ht2⟩:=hvs b₀ fn.ntmps β' a' w' hr'
  have hta:=ht.trans ht2
  obtain⟨v,avs,h1,h2,h3,_⟩:=dX hT hr2 hres hR
  exact⟨v,h1,v,_,_,_,β2,rfl,h2,h3,hr2.obj,hr2.inj,⟨hta.size,hta.old,hta.keep,hta.os⟩⟩
 cases e with
 |normal=>exact⟨hr'.defers,hres' hQ⟩
 |ret=>exact⟨hr'.defers,hres' hQ⟩
 |exit id=>exact hQ.elim
 |goto l=>exact hQ.elim
 |panic ch=>exact hQ.elim
 |outgrown=>exact hQ.elim
def oK (s:St):List AV→AV→Prop
 |[t],r=>kp s t r
 |ts,r=>∃rs,dY s ts rs∧r=.tup rs
theorem oK.rep {N:Nat}{s:St}{a:Act} (hr:Rel b₀ N s β a w):∀{ts:List AV}{r:AV}{vs:List Value},oK s ts r→aE b₀ β s.gen s.obj w ts vs→RV (Own b₀ w) w r (kW vs):=by
 have hmany:∀(ts rs:List AV) (vs:List Value),dY s ts rs→aE b₀ β s.gen s.obj w ts vs→RVs (Own b₀ w) w rs vs:=by
  intro ts
  induction ts with
  |nil=>intro rs vs h hv;simp only[dY] at h;simp only[aE] at hv;subst h hv;simp only[RVs]
  |cons t ts ih=>
    intro rs vs h hv
    simp only[dY] at h
    simp only[aE] at hv
    obtain⟨r,rs',rfl,h1,h2⟩:=h
    obtain⟨u,us,rfl,h3,h4⟩:=hv
    simp only[RVs]
    exact⟨_,_,rfl,h1.rep hr h3,ih _ _ h2 h4⟩
 intro ts r vs h hv
 match ts,h with
 |[],⟨rs,h1,h2⟩=>
   subst h2
   have:=hmany _ _ _ h1 hv
   simp only[aE] at hv
   subst hv
   simp only[RV,kW];exact⟨_,rfl,this⟩
 |[t],h=>
   simp only[aE] at hv
   obtain⟨u,us,rfl,h1,rfl⟩:=hv
   exact kp.rep hr h h1
 |t::t'::ts,⟨rs,h1,h2⟩=>
   subst h2
   have:=hmany _ _ _ h1 hv
   simp only[aE] at hv
   obtain⟨u,us,rfl,_,u',us',rfl,_,_⟩:=hv
   simp only[RV,kW];exact⟨_,rfl,this⟩
def sL (T:Nat→TI) (rs:List ResultVar) (R:AV→Prop):Exit→St→Prop
 |.normal,s|.ret,s=>jy T s rs (bx fun avs=>∃r,oK s avs r∧R r)
 |_,_=>False
theorem xh (hT:aX P T) (hm:P.follows .mixedOrders=true) {f:FuncId}{c:Code} (hf:P.funcs[f]? = some fn) (hb:fn.body=some c) (hn:(fn.name == "runtime.NumGoroutine")=false)
  (rs:List ResultVar) (hres:fn.results=rs.toArray) (hok:codeOk fn.ntmps c=true) {args:List AV} (hargs:args.length≤fn.ntmps)
  (h:∀g,wpC (sp P) T c (bx (sL T rs R)) ⟨cX args,g,fun _=>none⟩):aA P f args R:=by
 refine⟨⟨fn,hf,by rw[hb];rfl,hn⟩,fun J w vs hJ hv=>?_⟩
 refine calls_of_wp hf hb ?_
 have hlen:∀(l:List AV) (vs:List Value),RVs J w l vs→vs.length=l.length:=by
  intro l
  induction l with
  |nil=>intro vs h;simp only[RVs] at h;subst h;rfl
  |cons x l ih=>intro vs h;simp only[RVs] at h;obtain⟨u,us,rfl,_,h⟩:=h;simp[ih us h]
 have hl:=hlen _ _ hv
 let J':Nat→Prop:=J
 have hr:Rel ⟨w.heap.size,J'⟩ fn.ntmps ⟨cX args,fun _=>0,fun _=>none⟩ (fun _=>none) { tmps:=vs.toArray++Array.replicate (fn.ntmps-vs.toArray.size) undef,defers:=[]} w:=by
  refine⟨rfl,by simp;omega,fun i=>?_,fun id cells ho=>Zm,fun id id' a a' ho=>Zm,j8 _⟩
  have hget:∀(l:List AV) (vs:List Value),RVs J w l vs→∀(i:Nat) (x:AV),l[i]? = some x→∃v,vs[i]? = some v∧RV J w x v:=by
   intro l
   induction l with
   |nil=>intro vs _ i x h;simp at h
   |cons y l ih=>
     intro vs h i x hx
     simp only[RVs] at h
     obtain⟨u,us,rfl,h1,h2⟩:=h
     cases i with
     |zero=>simp at hx;subst hx;exact⟨u,rfl,h1⟩
     |succ i=>simpa using ih us h2 i x (by simpa using hx)
  simp only[cX]
  cases hx:args[i]? with
  |some x=>
    exact Vf
  |none=>
    exact W1
 refine wp_mono (ey hT hm c hok hr (h _)) (fun e a' w' hp=>?_)
 obtain⟨s',β',hQ,hr',ht⟩:=hp
 have hres':sL T rs R .ret s'→∃v,(results fn a'.tmps).run P w'=.ok v w'∧∃r,R r∧RV (Own ⟨w.heap.size,J'⟩ w') w' r v:=by
  intro hQ
  obtain⟨v,avs,h1,⟨r,h2,h3⟩,_,vs',rfl,h4⟩:=dX hT hr' hres hQ
  exact⟨_,h1,r,h3,h2.rep hr' h4⟩
 cases e with
 |normal=>
   obtain⟨v,h1,r,h2,h3⟩:=hres' hQ
   exact VU
 |ret=>
   obtain⟨v,h1,r,h2,h3⟩:=hres' hQ
   exact VU
 |exit id=>exact hQ.elim
 |goto l=>exact hQ.elim
 |panic ch=>exact hQ.elim
 |outgrown=>exact hQ.elim
end
@[go_sem] theorem NY:jy T s [] k=K []:=j9 rfl rfl
@[go_sem] theorem NZ{t:Nat}:jy T s (.tmp t::r) k=jy T s r (bx fun vs=>K (s.f t::vs)):=j9 rfl rfl
@[go_sem] theorem Le{a ty:Nat}:jy T s (.cell a ty::r) k=qY (T ty) s (s.f a) (bx fun v=>jy T s r (bx fun vs=>K (v::vs))):=j9 rfl rfl
@[go_sem] theorem Oa:sL T rs R .ret s=jy T s rs (bx fun avs=>∃r,oK s avs r∧R r):=j9 rfl rfl
@[go_sem] theorem Ps{t r:AV}:oK s [t] r=kp s t r:=j9 rfl rfl
theorem dK {α:Type}{id g sz n:Nat}{cells:List C} (hg:s.gen id=g) (l:List α) (enc:α→List D) (ho:s.obj id=some cells) (hc:cells=l.flatMap (fun a=>(enc a).map .d)) (hn:∀a∈l,∀x∈enc a,ge x=x) (hs:∀a∈l,(enc a).length=sz) (hl:l.length=n) :
  Frz s (.osl id g sz 0 n) (.sl (l.map enc)):=by
 have hfl:cells=(l.map enc).flatten.map .d:=by rw[hc];clear hn hs hl hc ho;induction l with|nil=>rfl|cons a l ih=>simp[ih]
 have hlen:cells.length=n*sz:=by
  rw[hfl,j4]
  clear hfl hc hn ho
  subst hl
  induction l with
  |nil=>simp
  |cons a l ih=>
    simp only[l6,E5,j5,j6,hs a a7,ih (fun b hb=>hs b (by simp[hb]))]
    rw[D9];omega
 refine .osl hg ho a6 Yu (fun e he=>by obtain⟨a,ha,rfl⟩:=F9.1 he;exact hs a ha) (fun j=>(cells[0+j]?).getD (.d .nsl)) (fun j x hx=>?_) (fun j x hx=>?_)
 ·rw[hfl,C2,x7,hx];rfl
 ·rw[hfl,C2,x7,hx]
  simp only[y1,y7]
  have hxn:ge x=x:=by
   have hm:=l4 hx
   obtain⟨e,he,hxe⟩:=List.mem_flatten.1 hm
   obtain⟨a,ha,rfl⟩:=F9.1 he
   exact hn a ha x hxe
  have:=Frz.d (s:=s) x
  rwa [hxn] at this
end
end
section
section
structure mC (b₀:Bs) (β:Loc) (ob:Obs) (n₀:Nat) (w w':World):Prop where
 size:w'.heap.size=w.heap.size
 os:w'.os=w.os∧w'.output=w.output
 same:∀b,w'.heap[b]? = w.heap[b]?∨(n₀≤b∧Imm b₀ β ob w b∧(∃x,w.heap[b]? = some (.deferred x))∧∃x,w'.heap[b]? = some (.deferred x))
section
variable {P:Program}{T:Nat→TI}{b₀:Bs}{β:Loc}{g:Nat→Nat}{ob:Obs}{n₀:Nat}{w w':World}
theorem mC.refl:mC b₀ β ob n₀ w w:=⟨rfl,⟨rfl,rfl⟩,fun _=>.inl rfl⟩
theorem mC.trans {w'':World} (h:mC b₀ β ob n₀ w w') (h':mC b₀ β ob n₀ w' w''):mC b₀ β ob n₀ w w'':=by
 refine⟨h'.size.trans h.size,⟨h'.os.1.trans h.os.1,h'.os.2.trans h.os.2⟩,fun b=>?_⟩
 rcases h.same b with e|⟨e1,e2,e3,e4⟩
 ·rcases h'.same b with e'|⟨e1',e2',e3',e4'⟩
  ·exact .inl (e'.trans e)
  ·exact .inr ⟨e1',by unfold Imm at *;rw[h.size] at e2';exact e2',by rw[←e];exact e3',e4'⟩
 ·rcases h'.same b with e'|⟨e1',e2',e3',e4'⟩
  ·exact .inr ⟨e1,e2,e3,by rw[e'];exact e4⟩
  ·exact .inr ⟨e1,e2,e3,e4'⟩
theorem mC.cell (h:mC b₀ β ob n₀ w w') {a:Addr}{v:Value} (hc:w.cell? a=some v):w'.cell? a=some v:=by
 rcases h.same a.block with e|⟨_,_,⟨x,e⟩,_⟩
 ·rw[kK e];exact hc
 ·simp[World.cell?,e] at hc
theorem mC.imm (h:mC b₀ β ob n₀ w w') {b:Nat} (hb:Imm b₀ β ob w b):Imm b₀ β ob w' b:=by unfold Imm at *;rw[h.size];exact hb
theorem bT.shut {J J':Nat→Prop}{x:D}{v:Value} (h:bT J w x v) (hJ:∀b,J b→J' b) (hc:∀a v,w.cell? a=some v→w'.cell? a=some v):bT J' w' x v:=by
 induction h with
 |bool b=>exact .bool b
 |int k n=>exact .int k n
 |str s=>exact .str s
 |nsl=>exact .nsl
 |nilp=>exact .nilp
 |nilf=>exact .nilf
 |nili=>exact .nili
 |nilm=>exact .nilm
 |fn f=>exact .fn f
 |yld l=>exact .yld l
 |sl0=>exact .sl0
 |sl vals hcap hj hsz hcl hr ih=>exact .sl vals hcap (fun h=>hJ _ (hj h)) hsz (fun i e he j x hx=>hc _ _ (hcl i e he j x hx)) ih
 |iptr vals hj hcl hr ih=>exact .iptr vals (fun h=>hJ _ (hj h)) (fun j x hx=>hc _ _ (hcl j x hx)) ih
theorem jQ.shut (h:mC b₀ β ob n₀ w w') {c:PC}{v:Value} (hr:jQ b₀ β g ob w c v):jQ b₀ β g ob w' c v:=by
 cases c with
 |d x=>exact bT.shut hr (fun _=>h.imm) (fun _ _=>h.cell)
 |ptr id g1 off=>exact hr
theorem ay.shut (h:mC b₀ β ob n₀ w w') {c:C}{v:Value} (hr:ay b₀ β g ob w c v):ay b₀ β g ob w' c v:=by
 cases c with
 |d x=>exact bT.shut hr (fun _=>h.imm) (fun _ _=>h.cell)
 |osl id g1 sz off len=>
   obtain⟨h1,h2,h3⟩:=hr
   refine⟨h1,h2,fun hg ho=>?_⟩
   have h4:=h3 hg ho
   cases hβ:β id with
   |none=>rw[hβ] at h4;exact h4
   |some a=>
     rw[hβ] at h4
     obtain⟨h5,h6⟩:=h4
     refine⟨h5,?_⟩
     rcases h6 with⟨cap,q1,q2,q3⟩|h6
     ·refine .inl ⟨cap,q1,q2,fun arr el fr hh=>?_⟩
      rcases h.same a.block with e|⟨_,_,_,⟨x,e⟩⟩
      ·exact q3 arr el fr (by rw[←e];exact hh)
      ·rw[e] at hh;cases hh
     ·exact .inr h6
 |ptr id g1 off=>exact hr
 |clo f caps=>
   obtain⟨vs,h1,h2,h3⟩:=hr
   exact⟨vs,h1,h2,fun i pc hp=>let ⟨u,hu,hr⟩:=h3 i pc hp;⟨u,hu,hr.shut h⟩⟩
 |mp id g1 kd=>exact hr
 |lsl n=>exact hr
 |raw o=>exact hr
theorem kU.shut (h:mC b₀ β ob n₀ w w') {cs:List C}{vs:Array Value} (hr:kU b₀ β g ob w cs vs):kU b₀ β g ob w' cs vs:=
 ⟨hr.1,fun i c hc=>let ⟨u,hu,hr⟩:=hr.2 i c hc;⟨u,hu,hr.shut h⟩⟩
mutual
theorem ag.shut (h:mC b₀ β ob n₀ w w'):(x:AV)→{v:Value}→ag b₀ β g ob w x v→ag b₀ β g ob w' x v
 |.one _,_,hr=>by simp only[ag] at hr ⊢;exact ay.shut h hr
 |.agg _,_,hr=>by simp only[ag] at hr ⊢;obtain⟨vs,h1,h2⟩:=hr;exact⟨vs,h1,h2.shut h⟩
 |.tup ts,_,hr=>by simp only[ag] at hr ⊢;obtain⟨vs,h1,h2⟩:=hr;exact⟨vs,h1,aE.shut h ts h2⟩
 |.junk,_,_=>by simp only[ag]
 |.exact _,_,hr=>by simp only[ag] at hr ⊢;exact hr
theorem aE.shut (h:mC b₀ β ob n₀ w w'):(x:List AV)→{v:List Value}→aE b₀ β g ob w x v→aE b₀ β g ob w' x v
 |[],_,hr=>by simp only[aE] at hr ⊢;exact hr
 |t::ts,_,hr=>by simp only[aE] at hr ⊢;obtain⟨u,us,h1,h2,h3⟩:=hr;exact⟨u,us,h1,ag.shut h t h2,aE.shut h ts h3⟩
end
theorem Rel.shut {N:Nat}{s:St}{a:Act} (hr:Rel b₀ N s β a w) (h:mC b₀ β s.obj n₀ w w'):Rel b₀ N s β a w':=by
 refine⟨hr.defers,hr.size,fun i=>ag.shut h _ (hr.f i),fun id cells ho=>?_,hr.inj,by rw[h.size];exact hr.base⟩
 have h1:=hr.obj id cells ho
 cases hβ:β id with
 |none=>rw[hβ] at h1;exact h1
 |some ad=>
   rw[hβ] at h1
   have he:w'.heap[ad.block]? = w.heap[ad.block]?:=by
    rcases h.same ad.block with e|⟨_,e,_⟩
    ·exact e
    ·exact absurd rfl (e.2.2 id ad XW hβ)
   cases hs:ad.spot with
   |none=>
     obtain⟨h2,arr,el,lo,hi,h3,h4,h5,h6⟩:=h1.cells hs
     exact .ofCells hs ⟨h2,arr,el,lo,hi,by rw[he];exact h3,h4,h5,fun j c hc=>let ⟨v,hv,hr⟩:=h6 j c hc;⟨v,hv,hr.shut h⟩⟩
   |some kd=>
     obtain⟨h2,⟨es,clock,h3,h4⟩|⟨hk100,o,h3,h4⟩⟩:=h1.map hs
     ·exact .ofMap hs ⟨h2,.inl ⟨es,clock,by rw[he];exact h3,h4.mono fun _ _ q=>by
       unfold jc at q ⊢
       split
       ·rename_i hk
        rw[if_pos hk] at q
        exact ay.shut h q
       ·rename_i hk
        rw[if_neg hk] at q
        obtain⟨ds,vs,q1,q2,q3,q4⟩:=q
        exact⟨ds,vs,q1,q2,q3,fun i x hx=>let ⟨u,hu,hr⟩:=q4 i x hx;⟨u,hu,bT.shut hr (fun _=>h.imm) (fun _ _=>h.cell)⟩⟩⟩⟩
     ·exact .ofMap hs ⟨h2,.inr ⟨hk100,o,h3,by rw[he];exact h4⟩⟩
theorem Mk.put {D:Nat}{o:Obj}:∀{ds:List Deferred},Mk b₀ β ob w n₀ ds→(∀d'∈ds,d'≠{ target:=.collected D,args:=#[]})→Mk b₀ β ob (w.putObj D o) n₀ ds
 |[],_,_=>trivial
 |d::ds,hm,hne=>by
   obtain⟨⟨E,h1,h2,h3,h4,h5⟩,hr⟩:=hm
   have hE:E≠D:=fun he=>hne d a7 (by rw[h1,he])
   exact⟨⟨E,h1,h2,by unfold Imm at *;simpa using h3,by rw[World.putObj_heap_other hE];exact h4,h5⟩,hr.put (fun d' hd'=>hne d' (by simp[hd']))⟩
theorem pA {fn:Func}{tmps:Array Value}{R:Ending→World→Prop}:∀{ds:List Deferred}{w:World},Mk b₀ β ob w n₀ ds→
  (∀w5,mC b₀ β ob n₀ w w5→∃v,(results fn tmps).run P w5=.ok v w5∧R (.returned v) w5)→LeavesInM (fen none) 0 P fn tmps R ds .returning w
 |[],w,_,h=>h w .refl
 |d::ds,w,hm,h=>by
   obtain⟨⟨D,h1,h2,h3,h4,h5⟩,hr⟩:=hm
   refine⟨a7,.inl ⟨D,_,by rw[h1],run_takeDeferred h4,?_⟩⟩
   have hlt:D<w.heap.size:=h3.1
   have hsh:mC b₀ β ob n₀ w (w.putObj D (.deferred none)):=⟨a7,⟨rfl,rfl⟩,fun b=>by
    by_cases hb:b=D
    ·subst hb
     exact .inr ⟨h2,h3,⟨_,h4⟩,⟨none,World.putObj_heap_same hlt⟩⟩
    ·exact .inl (World.putObj_heap_other hb)⟩
   exact pA (hr.put (fun d' hd'=>by rw[←h1];exact h5 d' hd')) (fun w5 h6=>h w5 (hsh.trans h6))
end
end
section
section
variable {P:Program}{T:Nat→TI}{b₀:Bs}{β:Loc}{w:World}
end
end
end
section
attribute [local congr] Go.Am.ite_cc
section
variable {s:St}{res:List Nat}{R:AV→(Nat→Nat)→Obs→Prop}
theorem mX (p:Nat→Bool):ab s ⟨s.f,s.gen,fun i=>if p i=true then none else s.obj i⟩:=by
 exact VB
theorem bG (p:Nat→Bool) (h:R (oz s.f res) s.gen (fun i=>if p i=true then none else s.obj i)):wY res R .normal s:=⟨_,mX p,h⟩
theorem iE (p:Nat→Bool) (h:R (oz s.f res) s.gen (fun i=>if p i=true then none else s.obj i)):wY res R .ret s:=⟨_,mX p,h⟩
@[go_sem] theorem Ob:vC .nilFunc=.one (.d .nilf):=j9 rfl rfl
end
end
section
section
variable {s:St}{o:Oper}{K:St→Prop}{f:FuncId}{args:Array Operand}{tys:Array TypeId}{R:AV→Prop}{k:Box K}
section
variable {P:Program}{T:Nat→TI}{b₀:Bs}{rd:Option Nat}{Φ:St→Loc→List Deferred→World→Prop}{Ψ:fO}{B0:Nat}
theorem ai {B:(Exit→St→Prop)→St→Prop}{b:Box B}{Q:Exit→St→Prop}{q:Box Q} (I:Nat→St→Prop) (n:Nat) (h0:I n s)
  (hr:∀n f g ob,I n ⟨f,g,ob⟩→B (kh (bx fun s'=>∃n' s₁,n'<n∧(spF P rd b₀ Φ B0 Ψ).vs s' s₁∧I n' s₁) q) ⟨f,g,ob⟩):pu (spF P rd b₀ Φ B0 Ψ) b q s:=
 ⟨I,⟨n,s,ab.refl s,h0⟩,fun n s hs=>hr n s.f s.gen s.obj hs⟩
theorem ac {I:Nat→St→Prop}{n:Nat} (n':Nat) (h:n'<n) (hI:I n' s):∃n' s₁,n'<n∧(spF P rd b₀ Φ B0 Ψ).vs s s₁∧I n' s₁:=⟨n',s,h,ab.refl s,hI⟩
theorem kn (hΦ:aY b₀ Φ) (ho:o.op=.call ⟨.value (.func f),args,tys⟩)
  (hp:aA P f (args.toList.map s.ev) R) (hd:(args.toList.map s.ev).all eF=true) (hk:∀r,R r→K (s.put o.dst r)):bh (spF P rd b₀ Φ B0 Ψ) o s k:=
 xi hΦ YM (uK (B:=0) (k:=k) ho hp hd hk)
theorem da (hΦ:aY b₀ Φ) (ho:o.op=.call ⟨.value (.func f),args,tys⟩) {R:AV→(Nat→Nat)→Obs→Prop}
  (hp:iN P f (args.toList.map s.ev) s.gen s.obj R) (hk:∀r g' ob',R r g' ob'→K (St.put ⟨s.f,g',ob'⟩ o.dst r)):bh (spF P rd b₀ Φ B0 Ψ) o s k:=
 xi hΦ YM (ez (B:=0) (k:=k) ho hp hk)
theorem eA{B:Nat}{t:Nat} (ho:o.op=.call ⟨.value (.tmp t),args,tys⟩) (hf:s.f t=.one (.d (.fn f)))
  (hp:aA P f (args.toList.map s.ev) R) (hd:(args.toList.map s.ev).all eF=true) (hk:∀r,R r→K (s.put o.dst r)):bh (spB P B) o s k:=by
 refine⟨fun s'=>∃r,R r∧s'=s.put o.dst r,?_,fun _ ⟨r,hr,e⟩=>e▸hk r hr⟩
 intro b₀ N β a w hr hdst next Q hn
 have hv:=hr.f t
 rw[hf] at hv
 simp only[ag,ay] at hv
 have hv:a.tmps.getD t undef=.func (.func f) #[] #[]:=by generalize a.tmps.getD t undef=v at hv;cases hv;rfl
 have hrun:(execOp a.eval o).run P w=.ok (.enter f (args.map a.eval)) w:=by
  exact U4
 unfold Oper.wp
 rw[hrun]
 exact UE
theorem qq (hΦ:aY b₀ Φ){t:Nat} (ho:o.op=.call ⟨.value (.tmp t),args,tys⟩) (hf:s.f t=.one (.d (.fn f)))
  (hp:aA P f (args.toList.map s.ev) R) (hd:(args.toList.map s.ev).all eF=true) (hk:∀r,R r→K (s.put o.dst r)):bh (spF P rd b₀ Φ B0 Ψ) o s k:=
 xi hΦ YM (eA (B:=0) (k:=k) ho hf hp hd hk)
end
section
variable {S:Sp}{T:Nat→TI}
end
end
end
section
open Go.ChangeShapes Go.WideShapes Go.ChangeAt Go.RowKit
section
variable {H:Type}{enc:TypeId×Value→H}
end
end
section
section
abbrev cO:=Nat→Option Obj
def rK (gb:Nat) (o:cO) (w:World):Prop:=gb<w.heap.size∧∀b,b≤gb→w.heap[b]? = o b
variable {o:cO}{f:FuncId}{s:St}{w:World}{R:AV→Prop}{Φ:St→Loc→List Deferred→World→Prop}{K:St→Prop}{gb gb':Nat}{P:Program}{args:List AV}{tys:Array TypeId}{k:Box K}
theorem rK.lt {gb:Nat} (h:rK gb o w):gb<w.heap.size:=h.1
theorem rK.down (hl:gb≤gb') (h:rK gb' o w):rK gb o w:=⟨G4 hl h.1,fun b hb=>h.2 b (B1 hb hl)⟩
def rq (b₀:Bs) (gb:Nat) (o:cO) (w:World):Prop:=(gb<b₀.B∧∀b,b≤gb→b₀.I b)∧rK gb o w
def bW (P:Program) (gb:Nat) (o:cO) (f:FuncId) (args:List AV) (R:AV→Prop):Prop:=
 Cr P f∧∀(J:Nat→Prop) (w:World) (vs:List Value),rK gb o w→(∀b,J b→b<w.heap.size)→RVs J w args vs→
  Calls P f vs.toArray w fun e w'=>∃v r,e=.returned v∧R r∧w.heap.size≤w'.heap.size∧(∀b,b<w.heap.size→w'.heap[b]? = w.heap[b]?)∧(w'.os=w.os∧w'.output=w.output)∧RV (fun b=>b<w'.heap.size∧(b<w.heap.size→J b∨b≤gb)) w' r v
theorem aA.toG{gb:Nat} (h:aA P f args R):bW P gb o f args R:=
 ⟨h.1,fun J w vs _ h1 h2=>(h.2 J w vs h1 h2).mono fun _ _ ⟨v,r,q1,q2,q3,q4,q5,q6⟩=>⟨v,r,q1,q2,q3,q4,q5,RV.mono (fun _ hb=>⟨⟨hb.1,fun hl=>.inl (hb.2 hl)⟩,rfl⟩) r q6⟩⟩
def DN (P:Program) (gb:Nat) (o:cO) (f:FuncId) (xs:List AV) (g:Nat→Nat) (ob:Obs) (R:AV→(Nat→Nat)→Obs→Prop):Prop:=
 Cr P f∧∀(b₀:Bs) (N:Nat) (β:Loc) (a:Act) (fa:Nat→AV) (w:World) (vs:List Value),gb<b₀.B→rq b₀ gb o w→Rel b₀ N ⟨fa,g,ob⟩ β a w→aE b₀ β g ob w xs vs→
  Calls P f vs.toArray w fun e w'=>∃v r g' ob' β',e=.returned v∧R r g' ob'∧ag b₀ β' g' ob' w' r v∧
   (∀id cells,ob' id=some cells→dm b₀ β' g' ob' w' (g' id) cells (β' id))∧(∀id id' a a',(ob' id).isSome=true→(ob' id').isSome=true→β' id=some a→β' id'=some a'→a.block=a'.block→id=id')∧
   Tr b₀ β ⟨fa,g,ob⟩ w β' ⟨fa,g',ob'⟩ w'
def DO (gb:Nat) (o:cO) (b₀:Bs) (β0:Loc) (s0:St) (w0:World):St→Loc→List Deferred→World→Prop:=fun s β ds w=>(gb<b₀.B∧rq b₀ gb o w)∧Pu b₀ β0 s0 w0 s β ds w
section
variable {P:Program}{T:Nat→TI}{b₀:Bs}{rd:Option Nat}{gb:Nat}{o:cO}{Ψ:fO}{B0:Nat}{β0:Loc}{s0:St}{w0:World}
theorem aW:aY b₀ (DO gb o b₀ β0 s0 w0):=fun _ _ _ _ _ _ _ h ht=>⟨⟨h.1.1,h.1.2.1,E7 h.1.2.2.1 ht.size,fun b hb=>by rw[ht.old b (G4 hb h.1.1)];exact h.1.2.2.2 b hb⟩,Ce _ _ _ _ _ _ _ h.2 ht⟩
theorem sP {N:Nat}{β:Loc}{a:Act} (hr:Rel b₀ N s β a w) (hG:rq b₀ gb o w) {b:Nat} (hb:b≤gb):Imm b₀ β s.obj w b:=by
 refine⟨G4 hb hG.2.1,fun _=>hG.1.2 b hb,fun id a' ho hβ he=>?_⟩
 obtain⟨cells,hc⟩:=J6.1 ho
 have h:=hr.obj id cells hc
 rw[hβ] at h
 have h1:=h.block.1
 have h2:=hG.1.1
 omega
theorem oT (hΦ:aY b₀ Φ) (hG:∀s β ds w,Φ s β ds w→rq b₀ gb o w) {op:Oper}{args:Array Operand} (ho:op.op=.call ⟨.value (.func f),args,tys⟩)
  (hp:bW P gb o f (args.toList.map s.ev) R) (hd:(args.toList.map s.ev).all eF=true) (hk:∀r,R r→K (s.put op.dst r)):bh (spF P rd b₀ Φ B0 Ψ) op s k:=by
 refine⟨fun s'=>∃r,R r∧s'=s.put op.dst r,?_,fun _ ⟨r,hr,e⟩=>e▸hk r hr⟩
 intro N β a ds w hr hφ hdst next Q hn _
 have hnd:aJ op=true:=by simp[aJ,ho]
 refine gz hnd ?_
 unfold Oper.wp
 rw[jB ho hp.1 w]
 simp only[Oper.upon]
 exact UA
theorem qr (hΦ:aY b₀ Φ) (hG:∀s β ds w,Φ s β ds w→rq b₀ gb o w) (hT:aX P T) {dst:Option Tmp}{t n e gi:Nat}{ix:Operand}{ty:TypeId}{ps:String}{af:Array Edge}{gd:Option (Nat×Bool)}
  (ht:(T t).desc=.array n e) (he:okD (T e).desc=true) (hgi:gi≤gb) {kd:IntKind}{i:Nat} (hix:s.ev ix=iv kd i) (hi:i<n) {cs:List D} (hcs:∀(j:Nat) (x:D),cs[j]? = some x→kl x=true)
  (hrow:∀w:World,rK gb o w→∀(j:Nat) (x:D),cs[j]? = some x→w.cell? ⟨gi,i*(T e).size+j,none⟩=some (dV x)) (hk:K (s.put dst (.one (.d (.iptr cs))))) :
  bh (spF P rd b₀ Φ B0 Ψ) ⟨dst,.indexAddr t (.global gi) ix,ty,ps,af,gd⟩ s k:=by
 refine⟨fun s'=>s'=s.put dst (.one (.d (.iptr cs))),fun N β a ds w hr hφ hd next Q hn _=>?_,fun _ e=>e▸hk⟩
 refine gz rfl ?_
 have hH:=hG _ _ _ _ hφ
 have hvi:=hr.ev ix
 rw[hix] at hvi
 simp only[ag,ay] at hvi
 have hvi:=hvi.inv_int
 have hu:=(hT t (by rw[ht];rfl)).desc
 rw[ht] at hu
 have hte:=hT e he
 have hex:(execOp a.eval ⟨dst,.indexAddr t (.global gi) ix,ty,ps,af,gd⟩).run P w=.ok (.value (.pointer (some ⟨gi,i*(T e).size,none⟩))) w:=by
  simp[execOp,hvi,show a.eval (.global gi)=.pointer (some ⟨gi,0,none⟩) from rfl,Instr.indexAt,asIntOf,run_underlying hu,hi,bw hte,dL,Instr.sureAddr]
 have hr':=hr.put hd (x:=.one (.d (.iptr cs))) (v:=.pointer (some ⟨gi,i*(T e).size,none⟩)) (by
  simp only[ag,ay]
  refine .iptr (fun j=>dV (cs.getD j .nsl)) (fun _=>sP hr hH hgi) (fun j x hx=>?_) (fun j x hx=>?_)
  ·rw[hrow w hH.2 j x hx];simp[C4,hx]
  ·rw[show cs.getD j .nsl=x by simp[C4,hx]];exact bT.of_plain (hcs j x hx))
 exact VL
theorem Cj (hΦ:aY b₀ Φ) (hG:∀s β ds w,Φ s β ds w→gb<b₀.B∧rq b₀ gb o w) {op:Oper}{args:Array Operand} (ho:op.op=.call ⟨.value (.func f),args,tys⟩) {R:AV→(Nat→Nat)→Obs→Prop}
  (hp:DN P gb o f (args.toList.map s.ev) s.gen s.obj R) (hk:∀r g' ob',R r g' ob'→K (St.put ⟨s.f,g',ob'⟩ op.dst r)):bh (spF P rd b₀ Φ B0 Ψ) op s k:=by
 refine⟨fun s'=>∃r g' ob',R r g' ob'∧s'=St.put ⟨s.f,g',ob'⟩ op.dst r,?_,fun _ ⟨r,g',ob',hr,e⟩=>e▸hk r g' ob' hr⟩
 intro N β a ds w hr hφ hdst next Q hn _
 have hnd:aJ op=true:=by simp[aJ,ho]
 refine gz hnd ?_
 unfold Oper.wp
 rw[jB ho hp.1 w]
 simp only[Oper.upon]
 obtain⟨hg1,hg2⟩:=hG _ _ _ _ hφ
 have:=hp.2 b₀ N β a s.f w (args.toList.map a.eval) hg1 hg2 hr (iO hr _)
 rw[show (args.toList.map a.eval).toArray=args.map a.eval from G7 a7] at this
 refine this.mono fun e w' ⟨v,r,g',ob',β',he,hR,hv,h1,h2,h3⟩=>?_
 exact Wo
end
def Sx (gb:Nat) (o:cO) (b₀:Bs) (β0:Loc) (s0:St) (w0:World):St→Loc→List Deferred→World→Prop:=fun s β ds w=>(gb<b₀.B∧rq b₀ gb o w)∧ds=[]∧Tr b₀ β0 s0 w0 β s w
section
variable {P:Program}{T:Nat→TI}{gb:Nat}{o:cO}
theorem kX {b₀:Bs}{β0:Loc}{s0:St}{w0:World}:aY b₀ (Sx gb o b₀ β0 s0 w0):=fun _ _ _ _ _ _ _ h ht=>⟨⟨h.1.1,h.1.2.1,E7 h.1.2.2.1 ht.size,fun b hb=>by rw[ht.old b (G4 hb h.1.1)];exact h.1.2.2.2 b hb⟩,h.2.1,h.2.2.trans ht⟩
end
theorem bW.up (hl:gb≤gb') (h:bW P gb o f args R):bW P gb' o f args R:=
 ⟨h.1,fun J w vs hG h1 h2=>(h.2 J w vs (hG.down hl) h1 h2).mono fun _ _ ⟨v,r,q1,q2,q3,q4,q5,q6⟩=>⟨v,r,q1,q2,q3,q4,q5,RV.mono (fun _ hb=>⟨⟨hb.1,fun hw=>(hb.2 hw).imp id (fun h=>B1 h hl)⟩,rfl⟩) r q6⟩⟩
end
section
variable {a:Act}{c:Code}{s:St}{K:Act→Prop}{ds:List Deferred}{Q:Exit→Act→World→Prop}{k:List Item}{cs:List Frame}
section
variable {P:Program}{T:Nat→TI}{b₀:Bs}{w:World}{rd:Option Nat}{Φ:St→Loc→List Deferred→World→Prop}{Ψ:fO}{B:Nat}{ops:Array Oper}
theorem sQ (ha:a.defers=[]) (d:Option Nat) (v:Value):(a.put d v).defers=[]:=by cases d <;> exact ha
theorem vO {o:Oper} (ha:a.defers=[]) (h:o.still P a w K):o.still P a w (fun a'=>a'.defers=[]∧K a'):=by
 unfold Oper.still at *
 generalize (execOp a.eval o).run P w=r at *
 cases r with
 |ok n w'=>
   cases n <;> simp only[Oper.stillUpon] at h ⊢
   case enter f args=>obtain⟨h1,v,hc,hn⟩:=h;exact⟨h1,v,hc,sQ ha _ _,hn⟩
   all_goals exact⟨h.1,sQ ha _ _,h.2⟩
 |halt x w'=>simp only[Oper.stillUpon] at h
theorem mY {i:Nat}{K':Act→World→Prop}{Q':Exit→Act→World→Prop} (ha:a.defers=[]) (hnd:ops.toList.all aJ=true) (h:∀a',a'.defers=[]→K a'→K' { a' with defers:=ds } w) (hh:stOp P ops w i K a) :
  wpOpIn (fen rd) 0 P ops Q' i K' { a with defers:=ds } w:=by
 unfold stOp at hh
 unfold wpOpIn
 cases ho:ops[i]? with
 |none=>simp only[ho] at hh ⊢;exact h _ ha hh
 |some o=>
   simp only[ho] at hh ⊢
   have hno:aJ o=true:=x6.1 hnd o (by
    obtain⟨hi,e⟩:=B7.1 ho
    rw[←e];exact E6 hi)
   by_cases hw:Region.wanted o (yielded ops a.tmps)=true
   ·rw[if_pos hw] at hh ⊢
    exact gz hno (Oper.wp_of_still (K':=fun a' w'=>a'.defers=[]∧K' { a' with defers:=ds } w') (fun a' hk=>⟨hk.1,h a' hk.1 hk.2⟩) (vO ha hh))
   ·rw[if_neg hw] at hh ⊢
    refine⟨fun _ _=>trivial,?_⟩
    rw[oN]
    exact h _ (sQ ha _ _) hh
theorem mq {n g:Nat}{ds:List Deferred}{L:Array Bool→Act→Prop}{Q':Exit→Act→World→Prop} (hnd:ops.toList.all aJ=true) (hL:∀listed a,a.defers=[]→L listed a→wpAnyIn (fen rd) 0 P .any ops Q' g listed { a with defers:=ds } w) :
  ∀(f:Nat) (listed:Array Bool) (a:Act),a.defers=[]→wpAnyL P .any ops w n L f listed a→wpAnyIn (fen rd) 0 P .any ops Q' (f+g) listed { a with defers:=ds } w
 |0,listed,a,ha,h=>by rw[C2];exact hL _ _ ha h
 |f+1,listed,a,ha,h=>by
   rw[show f+1+g=(f+g)+1 by omega]
   exact⟨fun h0=>absurd h0 h.1,fun i hi=>mY ha hnd (fun a' ha' h'=>mq hnd hL f _ a' ha' h') (h.2 i hi).2⟩
theorem kY {ds:List Deferred}{Q:Act→Prop}{Q':Exit→Act→World→Prop} (hnd:ops.toList.all aJ=true) (hQ:∀a,a.defers=[]→Q a→Q' .normal { a with defers:=ds } w):∀(fuel:Nat) (listed:Array Bool) (a:Act),a.defers=[]→
  wpAnyS P .any ops w Q fuel listed a→wpAnyIn (fen rd) 0 P .any ops Q' fuel listed { a with defers:=ds } w
 |0,_,_,ha,h=>⟨h.1,hQ _ ha h.2⟩
 |fuel+1,_,_,ha,h=>⟨fun h0=>hQ _ ha (h.1 h0),fun i hi=>mY ha hnd (fun a' ha'=>kY hnd hQ fuel _ a' ha') (h.2 i hi)⟩
theorem na {F:Fence}{n:Nat}{Q':Exit→Act→World→Prop}:∀(l:List Oper) (k:Nat) (listed:Array Bool) (a:Act) (w:World),(∀j,l[j]? = ops[k+j]?)→
  Region.seqB .any ops l.length k listed=true→wpListIn F n P ops Q' l a w→wpAnyIn F n P .any ops Q' l.length listed a w
 |[],_,_,_,_,_,hB,h=>⟨by simpa[Region.seqB] using hB,h⟩
 |o::l,k,listed,a,w,hl,hB,h=>by
   have h0:ops[k]? = some o:=by simpa using(hl 0).symm
   simp only[j6,Region.seqB,s6,B9] at hB
   refine⟨fun h1=>(by rw[hB.1] at h1;cases h1),fun i hi=>?_⟩
   rw[hB.1] at hi
   have hik:i=k:=by simpa using hi
   subst hik
   have hw:wpOpIn F n P ops Q' i (wpListIn F n P ops Q' l) a w:=by unfold wpOpIn;simp only[h0];exact h
   exact wpOpIn_mono (fun a' w' h'=>na l (i+1) _ a' w' (fun j=>by have:=hl (j+1);simpa[B6,Q4 1 j] using this) hB.2 h') hw
theorem Ck {o:Oper} (hp:ea T o.op=true){K:St→Prop}{k:Box K} (h:opA (spF P rd b₀ Φ B Ψ) T o s k):opA (spB P B) T o s k:=by
 obtain⟨dst,op,ty,ps,af,gd⟩:=o
 cases op with
 |slice t x lo hi mx=>cases mx <;> first|exact h|(simp[ea] at hp;done)
 |indexAddr t x ix=>cases x <;> first|(simp[ea] at hp;done)|exact h
 |makeFunc f=>cases f <;> first|exact h|(simp[ea] at hp;done)
 |call c=>
   obtain⟨callee,args,tys⟩:=c
   cases callee with
   |value f=>simp[ea] at hp
   |invoke r m=>simp[ea] at hp
   |builtin b=>cases b <;> first|exact h|(simp[ea] at hp;done)
 |_=>first|exact h|(simp[ea] at hp;done)
theorem fY (hT:aX P T) {N:Nat}{β:Loc}{Q:Act→Prop}{K:St→Prop}{k:Box K} (more:List Oper):∀(l:List Oper) {s:St}{a:Act},Rel b₀ N s β a w→fm N l=true→l.all (ea T ·.op)=true→wpO (spF P rd b₀ Φ B Ψ) T ops (l++more) s k→
  (∀s' a',wpO (spF P rd b₀ Φ B Ψ) T ops more s' k→Rel b₀ N s' β a' w→Tr b₀ β s w β s' w→Q a')→wpStill P ops w Q l a
 |[],s,a,hr,_,_,h,hQ=>hQ s a h hr Tr.refl
 |o::rest,s,a,hr,hds,hp,h,hQ=>by
   obtain⟨hd,hds'⟩:=jA hds
   simp only[D4,s6] at hp
   rw[A0] at h
   unfold wpO at h
   unfold wpStill
   have hop:∀{s0:St},Rel b₀ N s0 β a w→Tr b₀ β s w β s0 w→opA (spF P rd b₀ Φ B Ψ) T o s0 (bx fun s'=>wpO (spF P rd b₀ Φ B Ψ) T ops (rest++more) s' k)→o.still P a w (wpStill P ops w Q rest):=fun {s0} hr0 ht0 h0=>by
    obtain⟨y,cv,h1,h2,h3⟩:=pF hT hr0 hp.1 (Ck hp.1 h0)
    unfold Oper.still
    rw[h2 w .refl]
    refine⟨rfl,fY hT more rest (hr0.put hd h3) hds' hp.2 h1 (fun s' a' k1 k2 k3=>hQ s' a' k1 k2 (ht0.trans (Tr.trans (Tr.same (St.put_gen _ _ _) (St.put_obj _ _ _) rfl) k3)))⟩
   cases hg:o.guard with
   |none=>
     exact WN
   |some p=>
     obtain⟨j,want⟩:=p
     rw[hg] at h
     simp only at h
     obtain⟨d,hj,h⟩:=aF h
     unfold lF at h
     split at h
     ·rename_i b hb
      have hy:=hr.yielded hj hb
      have h:=jq h
      have hr':=hr.reput hb
      by_cases hw:b=want
      ·exact Wy
      ·rw[if_neg hw] at h
       rw[if_neg XX]
       have hp':=hr'.put hd (x:=uv) (v:=undef) cH
       exact Ws
     ·rename_i hb
      have hy:=hr.yielded_u hj hb
      rw[if_neg Yx]
      have hp':=hr.put hd (x:=uv) (v:=undef) cH
      exact Ws
     ·exact Wk
theorem oU (hT:aX P T) (hm:P.follows .mixedOrders=true) (hΦ:aY b₀ Φ) {N id:Nat}{β:Loc}{K:St→Prop}{k:Box K} (hr:Rel b₀ N s β a w) (hφ:Φ s β ds w) (hnd:ops.toList.all aJ=true) (hd:fm N ops.toList=true) (hok:mN T ops=true)
  (h:wpO (spF P rd b₀ Φ B Ψ) T ops ops.toList s k) (hQ:∀s' β' a' w',K s'→Rel b₀ N s' β' a' w'→Φ s' β' ds w'→Q .normal { a' with defers:=ds } w') (hX:∀ch s' β' a' w',Ψ ch s'→Rel b₀ N s' β' a' w'→Φ s' β' ds w'→Q (.panic ch) { a' with defers:=ds } w'):(Code.region id ops true).wpIn (fen rd) 0 P Q { a with defers:=ds } w:=by
 have hr1:Rel b₀ N s β a { w with drawn:=w.drawn+1 }:=hr.of_heap rfl
 have hφ1:Φ s β ds { w with drawn:=w.drawn+1 }:=hΦ _ _ _ _ _ _ _ hφ (Tr.same rfl rfl rfl)
 simp only[mN,F2,s6,O7] at hok
 refine wpIn_region_any hm ?_
 rcases hok with⟨hp,hB⟩|⟨m,_,hp,hB⟩
 ·simp only[Region.lexB,s6] at hB
  refine kY (Q:=fun a'=>a'.defers=[]→Q .normal { a' with defers:=ds } { w with drawn:=w.drawn+1 }) hnd (fun a' ha h=>h ha) _ _ _ hr.defers ?_
  have hst:wpStill P ops { w with drawn:=w.drawn+1 } (fun a'=>a'.defers=[]→Q .normal { a' with defers:=ds } { w with drawn:=w.drawn+1 }) ops.toList a:=
   fY hT [] ops.toList hr1 hd hp (by rw[l9];exact h) (fun s' a' k1 k2 k3 _=>hQ _ _ _ _ k1 k2 (hΦ _ _ _ _ _ _ _ hφ1 k3))
  have:=wpAnyS_lex (md:=.any) hB.1 ops.toList 0 (Array.replicate ops.size false) a a7 (by simpa using hB.2) hst
  exact W0
 ·obtain⟨l,rfl⟩:∃l:List Oper,ops=l.toArray:=⟨ops.toList,a7⟩
  generalize hn0:l.toArray.size-m=n at hp hB
  simp only[Region.lexTailB,s6,B9] at hB
  obtain⟨⟨⟨⟨hsel,hn⟩,hs⟩,hc⟩,hlex⟩:=hB
  have hn':n<l.length:=by simpa using hn
  have htl:(l.take n).length=n:=by simp;omega
  have hdl:(l.drop n).length=l.toArray.size-n:=a7
  have inv0:HeadInv .any l.toArray n (Array.replicate l.toArray.size false):=
   ⟨a7,fun j oj _ hl=>(by rw[getD_replicate_false] at hl;cases hl),fun t _ ht=>getD_in (by simpa using ht) (getD_replicate_false _ _)⟩
  obtain⟨d1,d2⟩:=ru hd n
  have hnd2:(l.drop n).all aJ=true:=x6.2 fun o ho=>x6.1 hnd o (by simpa using M1 ho)
  have hst:wpStill P l.toArray { w with drawn:=w.drawn+1 } (fun a'=>a'.defers=[]→wpListIn (fen rd) 0 P l.toArray Q (l.drop n) { a' with defers:=ds } { w with drawn:=w.drawn+1 }) (l.take n) a:=by
   refine fY hT (l.drop n) (l.take n) hr1 d1 hp (by rw[G2];simpa using h) (fun s' a' k1 k2 k3 _=>?_)
   exact jp hT hΦ (l.drop n) k2 (hΦ _ _ _ _ _ _ _ hφ1 k3) hnd2 d2 k1 hQ hX
  have H:=wpAnyL_lex (md:=.any) (g:=l.toArray.size-n) hsel hs hc hn (l.take n) 0 _ a (fun j hj=>by
   have hj':j<n:=by rw[htl] at hj;exact hj
   simp[hj']) (by simpa using htl) inv0 (by rw[htl];exact hlex) hst
  have:=mq (Q':=Q) (ds:=ds) (rd:=rd) (g:=l.toArray.size-n) hnd (fun listed a' ha hL=>by
   have:=na (Q':=Q) (F:=fen rd) (n:=0) (l.drop n) n listed { a' with defers:=ds } { w with drawn:=w.drawn+1 } (fun j=>by simp[D8]) (by rw[hdl];exact hL.1) (hL.2 ha)
   rwa [hdl] at this) _ _ _ hr.defers H
  rw[htl,show n+(l.toArray.size-n)=l.toArray.size by omega] at this
  exact this
theorem iF {P:Program}{b:Frame}{w:World}:step P (lone (b.atR a (.code (.scope c)::k)) cs w)=.next (lone (b.atR a (.code c::.inScope c::k)) cs w):=
 step_lone_go (by simp[stepG,stepG.exec,Frame.atR])
theorem ur {P:Program}{b:Frame}{w:World}:step P (lone (b.atR a (.inScope c::k)) cs w)=.next (lone (b.atR a k) cs w):=
 step_lone_go (by simp[stepG,stepG.exec,Frame.atR])
theorem zt {F:Fence}{n:Nat}{P:Program}{w:World} (h:c.wpIn F n P (Exit.noGoto Q) a w):(Code.scope c).wpIn F n P Q a w:=by
 intro b k cs hro hb hr
 have h0:(lone (b.atR a (.code (.scope c)::k)) cs w).fenced P F:=fenced_calm hb hr rfl
 obtain⟨e,a₁,w₁,hq,harr⟩:=h b (.inScope c::k) cs hro hb hr
 cases e with
 |normal=>exact⟨.normal,a₁,w₁,hq,.head h0 iF (StepsIn.trans harr (.one (fenced_calm hb hr rfl) ur))⟩
 |exit id'=>
   have hx:exitTo id' (.inScope c::k)=exitTo id' k:=by simp[exitTo]
   exact⟨.exit id',a₁,w₁,hq,fun k' hk=>.head h0 iF (harr.1 k' (by rw[hx];exact hk)),
    fun hr' hk=>let ⟨k₁,h1,h2⟩:=harr.2 hr' (by rw[hx];exact hk);⟨k₁,h1,.head h0 iF h2⟩⟩
 |goto l=>exact hq.elim
 |ret=>exact⟨_,a₁,w₁,hq,.of_steps (.one h0 iF) harr⟩
 |panic ch=>exact⟨_,a₁,w₁,hq,.of_steps (.one h0 iF) harr⟩
 |outgrown=>exact⟨_,a₁,w₁,hq,.of_steps (.one h0 iF) harr⟩
def gw:Code→Bool
 |.region _ ops _=>ops.toList.all aJ
 |.seq x y=>gw x&&gw y
 |.cond _ x y=>gw x&&gw y
 |.block _ c=>gw c
 |.loop c=>gw c
 |.scope c=>gw c
 |_=>true
theorem cg (hT:aX P T) (hm:P.follows .mixedOrders=true) (hΦ:aY b₀ Φ) {N:Nat}:∀(c:Code) {Q:Exit→St→Prop}{q:Box Q}{s:St}{β:Loc}{a:Act}{ds:List Deferred}{w:World},gw c=true→codeOk N c=true→Rel b₀ N s β a w→Φ s β ds w→wpC (spF P rd b₀ Φ B Ψ) T c q s→c.wpIn (fen rd) 0 P (AR b₀ N Φ Ψ Q) { a with defers:=ds } w
 |.skip,_,_,s,β,a,ds,_,_,_,hr,hφ,h=>wpIn_skip ⟨s,β,a,ds,rfl,.inl h,hr,hφ⟩
 |.label _,_,_,s,β,a,ds,_,_,_,hr,hφ,h=>wpIn_label ⟨s,β,a,ds,rfl,.inl h,hr,hφ⟩
 |.exit _,_,_,s,β,a,ds,_,_,_,hr,hφ,h=>wpIn_exit ⟨s,β,a,ds,rfl,.inl h,hr,hφ⟩
 |.goto _,_,_,s,β,a,ds,_,_,_,hr,hφ,h=>wpIn_goto ⟨s,β,a,ds,rfl,.inl h,hr,hφ⟩
 |.ret,_,_,s,β,a,ds,_,_,_,hr,hφ,h=>wpIn_ret ⟨s,β,a,ds,rfl,.inl h,hr,hφ⟩
 |.region id ops b,Q,q,s,β,a,ds,w,hcm,hc,hr,hφ,h=>by
   simp only[gw] at hcm
   cases b with
   |false=>
     have h:wpO (spF P rd b₀ Φ B Ψ) T ops ops.toList s (bx fun s'=>Q .normal s'):=h
     exact wpIn_region_list (jp hT hΦ ops.toList hr hφ hcm hc h (fun s' β' a' w' h1 h2 h3=>⟨s',β',a',ds,rfl,.inl h1,h2,h3⟩) (fun ch s' β' a' w' h1 h2 h3=>⟨s',β',a',ds,rfl,.inr ⟨ch,rfl,h1⟩,h2,h3⟩))
   |true=>
     rcases h with⟨hok,h⟩|⟨R,hR,hK⟩
     ·exact oU hT hm hΦ hr hφ hcm hc hok h (fun s' β' a' w' h1 h2 h3=>⟨s',β',a',ds,rfl,.inl h1,h2,h3⟩) (fun ch s' β' a' w' h1 h2 h3=>⟨s',β',a',ds,rfl,.inr ⟨ch,rfl,h1⟩,h2,h3⟩)
     ·exact Vv
 |.seq x y,Q,q,s,β,a,ds,w,hcm,hc,hr,hφ,h=>by
   simp only[codeOk,s6] at hc
   simp only[gw,s6] at hcm
   have h:wpC (spF P rd b₀ Φ B Ψ) T x (bx (kh (bx fun s'=>wpC (spF P rd b₀ Φ B Ψ) T y q s') q)) s:=h
   refine wpIn_seq (wpIn_mono (cg hT hm hΦ x hcm.1 hc.1 hr hφ h) (fun e a' w' hp=>?_))
   obtain⟨s',β',a0,ds',rfl,h1,h2,h3⟩:=hp
   rcases h1 with h1|⟨ch,rfl,h1⟩
   ·cases e with
    |normal=>exact cg hT hm hΦ y hcm.2 hc.2 h2 h3 h1
    |_=>exact⟨s',β',a0,ds',rfl,.inl h1,h2,h3⟩
   ·exact Xb
 |.cond c x y,Q,q,s,β,a,ds,w,hcm,hc,hr,hφ,h=>by
   simp only[codeOk,s6] at hc
   simp only[gw,s6] at hcm
   obtain⟨b,hb,h⟩:=oO h (hr.ev c)
   refine wpIn_cond (t:=b) hb ?_
   cases b
   ·exact cg hT hm hΦ y hcm.2 hc.2 hr hφ h
   ·exact cg hT hm hΦ x hcm.1 hc.1 hr hφ h
 |.block id c,Q,q,s,β,a,ds,w,hcm,hc,hr,hφ,h=>by
   have h:wpC (spF P rd b₀ Φ B Ψ) T c (bx (iM id q)) s:=h
   refine wpIn_block (wpIn_mono (cg hT hm hΦ c hcm hc hr hφ h) (fun e a' w' hp=>?_))
   obtain⟨s',β',a0,ds',rfl,h1,h2,h3⟩:=hp
   rcases h1 with h1|⟨ch,rfl,h1⟩
   ·cases e with
    |exit i=>
      simp only[Exit.inBlock,iM] at h1 ⊢
      split at h1
      ·rename_i he;rw[if_pos he];exact⟨s',β',a0,ds',rfl,.inl h1,h2,h3⟩
      ·rename_i he;rw[if_neg he];exact⟨s',β',a0,ds',rfl,.inl h1,h2,h3⟩
    |_=>exact⟨s',β',a0,ds',rfl,.inl h1,h2,h3⟩
   ·exact Xb
 |.scope c,Q,q,s,β,a,ds,w,hcm,hc,hr,hφ,h=>by
   have h:wpC (spF P rd b₀ Φ B Ψ) T c (bx (pw q)) s:=h
   refine zt (wpIn_mono (cg hT hm hΦ c hcm hc hr hφ h) (fun e a' w' hp=>?_))
   obtain⟨s',β',a0,ds',rfl,h1,h2,h3⟩:=hp
   rcases h1 with h1|⟨ch,rfl,h1⟩
   ·cases e with
    |goto l=>exact h1.elim
    |_=>exact⟨s',β',a0,ds',rfl,.inl h1,h2,h3⟩
   ·exact Xb
 |.loop c,Q,q,s,β,a,ds,w,hcm,hc,hr,hφ,h=>by
   obtain⟨I,⟨n,s₁,hvs,h0⟩,hround⟩:=h
   obtain⟨β₁,hr1,ht1⟩:=hvs b₀ N β a w hr
   refine rH (fun n a' w'=>∃s' β' a0 ds',a' = { a0 with defers:=ds' }∧I n s'∧Rel b₀ N s' β' a0 w'∧Φ s' β' ds' w') n ⟨s₁,β₁,a,ds,rfl,h0,hr1,hΦ _ _ _ _ _ _ _ hφ ht1⟩ ?_
   rintro n a' w' ⟨s',β',a0,ds',rfl,h1,h2,h3⟩
   refine wpIn_mono (cg hT hm hΦ c hcm hc h2 h3 (hround n s' h1)) (fun e a2 w2 hp=>?_)
   obtain⟨s2,β2,a02,ds2,rfl,k1,k2,k3⟩:=hp
   rcases k1 with k1|⟨ch,rfl,k1⟩
   ·cases e with
    |normal=>
      obtain⟨n',s3,hlt,hvs',hI⟩:=k1
      obtain⟨β3,hr3,ht3⟩:=hvs' b₀ N β2 a02 w2 k2
      exact⟨n',hlt,s3,β3,a02,ds2,rfl,hI,hr3,hΦ _ _ _ _ _ _ _ k3 ht3⟩
    |_=>exact⟨s2,β2,a02,ds2,rfl,.inl k1,k2,k3⟩
   ·exact⟨s2,β2,a02,ds2,rfl,.inr ⟨ch,rfl,k1⟩,k2,k3⟩
 |.rangeFunc f ps x y,Q,q,s,β,a,ds,w,hcm,hc,hr,hφ,h=>by
   obtain⟨R,hR,hK⟩:=h
   exact Vv
 |.refuse y,Q,q,s,β,a,ds,w,hcm,hc,hr,hφ,h=>by
   obtain⟨R,hR,hK⟩:=h
   exact Vv
theorem aM {B0:Nat}{id:Nat}{ops:Array Oper}{Q:Exit→St→Prop}{q:Box Q} (hok:mN T ops=true) (h:wpO (spF P rd b₀ Φ B0 Ψ) T ops ops.toList s (bx fun s'=>Q .normal s')):ki (spF P rd b₀ Φ B0 Ψ) T id ops s q:=.inl ⟨hok,h⟩
end
section
variable {P:Program}{T:Nat→TI}{gb:Nat}{o:cO}
theorem pC (B gb:Nat) (o:cO) (hT:aX P T) (hm:P.follows .mixedOrders=true) {f:FuncId}{fn:Func} (hf:P.funcs[f]? = some fn) (hb:fn.body=some c) (hn:(fn.name == "runtime.NumGoroutine")=false)
  (rs:List ResultVar) (hres:fn.results=rs.toArray) (hcm:gw c=true) (hok:codeOk fn.ntmps c=true) {args:List AV} (hargs:args.length≤fn.ntmps) {R:AV→Prop}
  (h:∀b₀ β0 s0 w0 g,wpC (spF P none b₀ (DO gb o b₀ β0 s0 w0) B rm) T c (bx (sL T rs R)) ⟨cX args,g,fun _=>none⟩):bW P gb o f args R:=by
 refine⟨⟨fn,hf,by rw[hb];rfl,hn⟩,fun J w vs hheld hJ hv=>?_⟩
 refine jW (n:=0) (callsIn_of_wp_marks hf hb trivial ?_)
 have hlen:∀(l:List AV) (vs:List Value),RVs J w l vs→vs.length=l.length:=by
  intro l
  induction l with
  |nil=>intro vs h;simp only[RVs] at h;subst h;rfl
  |cons x l ih=>intro vs h;simp only[RVs] at h;obtain⟨u,us,rfl,_,h⟩:=h;simp[ih us h]
 have hl:=hlen _ _ hv
 let J':Nat→Prop:=fun b=>J b∨b≤gb
 have hr:Rel ⟨w.heap.size,J'⟩ fn.ntmps ⟨cX args,fun _=>0,fun _=>none⟩ (fun _=>none) { tmps:=vs.toArray++Array.replicate (fn.ntmps-vs.toArray.size) undef,defers:=[]} w:=by
  refine⟨rfl,by simp;omega,fun i=>?_,fun id cells ho=>Zm,fun id id' a a' ho=>Zm,j8 _⟩
  have hget:∀(l:List AV) (vs:List Value),RVs J w l vs→∀(i:Nat) (x:AV),l[i]? = some x→∃v,vs[i]? = some v∧RV J w x v:=by
   intro l
   induction l with
   |nil=>intro vs _ i x h;simp at h
   |cons y l ih=>
     intro vs h i x hx
     simp only[RVs] at h
     obtain⟨u,us,rfl,h1,h2⟩:=h
     cases i with
     |zero=>simp at hx;subst hx;exact⟨u,rfl,h1⟩
     |succ i=>simpa using ih us h2 i x (by simpa using hx)
  simp only[cX]
  cases hx:args[i]? with
  |some x=>
    obtain⟨v,h1,h2⟩:=hget _ _ hv i x hx
    have hlt:i<vs.length:=(l0.1 h1).1
    have:(vs.toArray++Array.replicate (fn.ntmps-vs.toArray.size) undef).getD i undef=v:=by
     rw[s9,D5 (by simpa using hlt)]
     simp[h1]
    rw[this]
    simp only[y7]
    exact RV.rep x (RV.mono (fun b hb=>⟨⟨hJ b hb,fun _=>.inl hb,fun id a ho=>by cases ho⟩,rfl⟩) x h2)
  |none=>
    exact W1
 refine wpIn_mono (cg (rd:=none) (B:=B) (ds:=[]) hT hm aW c hcm hok hr ⟨⟨hheld.lt,⟨hheld.lt,fun b hb=>.inr hb⟩,hheld⟩,Tr.refl,trivial⟩ (h _ _ _ w _)) (fun e a' w' hp=>?_)
 obtain⟨s',β',a0,ds',rfl,hQ,hr',_,ht,hmk⟩:=hp.plain
 have hres':sL T rs R .ret s'→bodyPostM (fen none) 0 P fn (fun e w'=>∃v r,e=.returned v∧R r∧w.heap.size≤w'.heap.size∧(∀b,b<w.heap.size→w'.heap[b]? = w.heap[b]?)∧(w'.os=w.os∧w'.output=w.output)∧RV (Own ⟨w.heap.size,J'⟩ w') w' r v) .ret { a0 with defers:=ds' } w':=by
  intro hQ
  refine pA hmk (fun w5 h5=>?_)
  obtain⟨v,avs,h1,⟨r,h2,h3⟩,_,vs',rfl,h4⟩:=dX hT (hr'.shut h5) hres hQ
  refine⟨_,h1,_,r,rfl,h3,by rw[h5.size];exact ht.size,fun b hb=>?_,⟨h5.os.1.trans ht.os.1,h5.os.2.trans ht.os.2⟩,h2.rep (hr'.shut h5) h4⟩
  rcases h5.same b with e|⟨e,_⟩
  ·rw[e];exact ht.old b hb
  ·omega
 cases e with
 |normal=>exact hres' hQ
 |ret=>exact hres' hQ
 |exit id=>exact hQ.elim
 |goto l=>exact hQ.elim
 |panic ch=>exact hQ.elim
 |outgrown=>exact hQ.elim
theorem DN.mono {f:FuncId}{xs:List AV}{g:Nat→Nat}{ob:Obs}{R R':AV→(Nat→Nat)→Obs→Prop} (h:DN P gb o f xs g ob R) (hr:∀r g' ob',R r g' ob'→R' r g' ob'):DN P gb o f xs g ob R':=
 ⟨h.1,fun b₀ N β a fa w vs h0 h0' h1 h2=>(h.2 b₀ N β a fa w vs h0 h0' h1 h2).mono fun _ _ ⟨v,r,g',ob',β',q1,q2,q3⟩=>⟨v,r,g',ob',β',q1,hr _ _ _ q2,q3⟩⟩
end
end
section
def dOf:Value→D
 |.bool b=>.bool b
 |.int k n=>.int k n
 |.string s=>.str s.data.toList
 |.slice none 0 0=>.nsl
 |.pointer none=>.nilp
 |.nilFunc=>.nilf
 |.nilIface=>.nili
 |.map none=>.nilm
 |_=>.sl []
theorem DV {v:Value} (h:kl (dOf v)=true):dV (dOf v)=v:=by
 unfold dOf at h ⊢
 split at h <;> first|(cases h;done)|rfl
def pH:Value→Bool
 |.agg _=>false
 |_=>true
theorem dVs:∀{l:List Value},(l.map dOf).all kl=true→l=(l.map dOf).map dV
 |[],_=>rfl
 |v::l,h=>by
   simp only[l6,D4,s6] at h
   rw[l6,l6,DV h.1,←dVs h.2]
def Lk (P:Program) (t:Nat):Option TI:=
 match P.underlying t,P.info? t with
 |some d,some i=>match i.zero with
   |some z=>
     let zs:=z.cells.toList.map dOf
     bif zs.all kl && zs.length == i.size && (dk d || pH z) then some ⟨d,i.size,i.bytes,zs⟩ else none
   |none=>none
 |_,_=>none
variable {P:Program}
theorem Hy{t:Nat}{ti:TI} (h:Lk P t=some ti):rI P t ti:=by
 unfold Lk at h
 split at h
 ·next d i hd hi=>
  split at h
  ·next z hz=>
   simp only[cond_eq_ite] at h
   split at h
   ·next hc=>
    cases h
    simp only[s6,F2,H7] at hc
    obtain⟨⟨h1,h2⟩,h3⟩:=hc
    refine Hr (z:=z) hd (by rw[hi];simp[hz]) (dVs h1) h1 h2 (h3.imp id fun ho=>?_)
    have hz1:z.cells.toList=[z]:=by cases z <;> first|rfl|cases ho
    rw[hz1] at h1 ⊢
    simp only[l6,v7,D4,List.all_nil,I4] at h1
    exact(DV h1).symm
   ·cases h
  ·cases h
 ·cases h
theorem Cs{l:List (Nat×TI)} (h:(l.map fun p=>Lk P p.1)=l.map fun p=>some p.2):aX P (AS l):=
 un fun p hp=>Hy (by
  have:=List.map_inj_left.1 h p hp
  exact this)
end
section
abbrev Pan:=List PanicEntry→(Nat→Nat)→Obs→Prop
def Pan.on (Ψ:Pan):fO:=fun ch s=>Ψ ch s.gen s.obj
variable {R:AV→(Nat→Nat)→Obs→Prop}{K:St→Prop}
section
variable {P:Program}{T:Nat→TI}{b₀:Bs}{β:Loc}{w:World}{B:Nat}{Ψ:Pan}{rd:Option Nat}{Φ:St→Loc→List Deferred→World→Prop}
def Lg (b₀:Bs) (β:Loc) (fa:Nat→AV) (g:Nat→Nat) (ob:Obs) (w:World) (R:AV→(Nat→Nat)→Obs→Prop) (Ψ:Pan) (e:Ending) (w':World):Prop:=
 (∃v r g' ob' β',e=.returned v∧R r g' ob'∧ag b₀ β' g' ob' w' r v∧
    (∀id cells,ob' id=some cells→dm b₀ β' g' ob' w' (g' id) cells (β' id))∧(∀id id' a a',(ob' id).isSome=true→(ob' id').isSome=true→β' id=some a→β' id'=some a'→a.block=a'.block→id=id')∧
    Tr b₀ β ⟨fa,g,ob⟩ w β' ⟨fa,g',ob'⟩ w')∨
 (∃ch g' ob' β',e=.panicked ch∧Ψ ch g' ob'∧
    (∀id cells,ob' id=some cells→dm b₀ β' g' ob' w' (g' id) cells (β' id))∧(∀id id' a a',(ob' id).isSome=true→(ob' id').isSome=true→β' id=some a→β' id'=some a'→a.block=a'.block→id=id')∧
    Tr b₀ β ⟨fa,g,ob⟩ w β' ⟨fa,g',ob'⟩ w')
def dN (P:Program) (f:FuncId) (xs:List AV) (g:Nat→Nat) (ob:Obs) (R:AV→(Nat→Nat)→Obs→Prop) (Ψ:Pan):Prop:=
 Cr P f∧∀(b₀:Bs) (N:Nat) (β:Loc) (a:Act) (fa:Nat→AV) (w:World) (vs:List Value),Rel b₀ N ⟨fa,g,ob⟩ β a w→aE b₀ β g ob w xs vs→
  Calls P f vs.toArray w (Lg b₀ β fa g ob w R Ψ)
theorem dN.mono {f:FuncId}{xs:List AV}{g:Nat→Nat}{ob:Obs}{R R':AV→(Nat→Nat)→Obs→Prop}{Ψ':Pan} (h:dN P f xs g ob R Ψ) (hr:∀r g' ob',R r g' ob'→R' r g' ob') (hp:∀ch g' ob',Ψ ch g' ob'→Ψ' ch g' ob'):dN P f xs g ob R' Ψ':=
 ⟨h.1,fun b₀ N β a fa w vs h1 h2=>(h.2 b₀ N β a fa w vs h1 h2).mono fun _ _ q=>q.imp (fun⟨v,r,g',ob',β',q1,q2,q3⟩=>⟨v,r,g',ob',β',q1,hr _ _ _ q2,q3⟩) (fun⟨ch,g',ob',β',q1,q2,q3⟩=>⟨ch,g',ob',β',q1,hp _ _ _ q2,q3⟩)⟩
def xk (b₀:Bs) (β0:Loc) (s0:St) (w0:World):St→Loc→List Deferred→World→Prop:=fun s β ds w=>ds=[]∧Tr b₀ β0 s0 w0 β s w
theorem aa {β0:Loc}{s0:St}{w0:World}:aY b₀ (xk b₀ β0 s0 w0):=fun _ _ _ _ _ _ _ h ht=>⟨h.1,h.2.trans ht⟩
theorem zu (B:Nat) (hT:aX P T) (hm:P.follows .mixedOrders=true) {f:FuncId}{fn:Func}{c:Code} (hf:P.funcs[f]? = some fn) (hb:fn.body=some c) (hn:(fn.name == "runtime.NumGoroutine")=false)
  (rs:List ResultVar) (hres:fn.results=rs.toArray) (hcm:gw c=true) (hok:codeOk fn.ntmps c=true) {xs:List AV} (hargs:xs.length≤fn.ntmps) {g:Nat→Nat}{ob:Obs}
  (h:∀b₀ β0 s0 w0,wpC (spF P none b₀ (xk b₀ β0 s0 w0) B Ψ.on) T c (bx (xg T rs R)) ⟨cX xs,g,ob⟩):dN P f xs g ob R Ψ:=by
 refine⟨⟨fn,hf,by rw[hb];rfl,hn⟩,fun b₀ N β a fa w vs hr0 hv=>?_⟩
 refine jW (n:=0) (callsIn_of_wp hf hb trivial ?_)
 have hr:=mV (N:=fn.ntmps) hargs hr0 hv
 refine wpIn_mono (cg (rd:=none) (B:=B) (ds:=[]) hT hm aa c hcm hok hr ⟨rfl,Tr.refl⟩ (h b₀ β ⟨cX xs,g,ob⟩ w)) (fun e a' w' hp=>?_)
 obtain⟨s',β',a0,ds',rfl,hQ,hr',rfl,ht⟩:=hp
 rcases hQ with hQ|⟨ch,rfl,hQ⟩
 ·have hres':xg T rs R .ret s'→∃v,(results fn a0.tmps).run P w'=.ok v w'∧Lg b₀ β fa g ob w R Ψ (.returned v) w':=by
   rintro⟨s2,hvs,hR⟩
   obtain⟨β2,hr2,ht2⟩:=hvs b₀ fn.ntmps β' a0 w' hr'
   have hta:=ht.trans ht2
   obtain⟨v,avs,h1,h2,h3,_⟩:=dX hT hr2 hres hR
   exact⟨v,h1,.inl ⟨v,_,_,_,β2,rfl,h2,h3,hr2.obj,hr2.inj,⟨hta.size,hta.old,hta.keep,hta.os⟩⟩⟩
  cases e with
  |normal=>exact⟨rfl,hres' hQ⟩
  |ret=>exact⟨rfl,hres' hQ⟩
  |exit id=>exact hQ.elim
  |goto l=>exact hQ.elim
  |panic ch=>exact hQ.elim
  |outgrown=>exact hQ.elim
 ·exact⟨rfl,.inr ⟨ch,_,_,β',rfl,hQ,hr'.obj,hr'.inj,⟨ht.size,ht.old,ht.keep,ht.os⟩⟩⟩
theorem Cl (hΦ:aY b₀ Φ) {o:Oper}{s:St}{k:Box K}{f:FuncId}{args:Array Operand}{tys:Array TypeId} (ho:o.op=.call ⟨.value (.func f),args,tys⟩)
  (hp:dN P f (args.toList.map s.ev) s.gen s.obj R Ψ) (hk:∀r g' ob',R r g' ob'→K (St.put ⟨s.f,g',ob'⟩ o.dst r)):bh (spF P rd b₀ Φ B Ψ.on) o s k:=by
 refine⟨fun s'=>∃r g' ob',R r g' ob'∧s'=St.put ⟨s.f,g',ob'⟩ o.dst r,fun N β a ds w hr hφ hdst next Q hn hx=>?_,fun _ ⟨r,g',ob',hr,e⟩=>e▸hk r g' ob' hr⟩
 have hnd:aJ o=true:=by simp[aJ,ho]
 refine gz hnd ?_
 unfold Oper.wp
 rw[jB ho hp.1 w]
 simp only[Oper.upon]
 have:=hp.2 b₀ N β a s.f w (args.toList.map a.eval) hr (iO hr _)
 rw[show (args.toList.map a.eval).toArray=args.map a.eval from G7 a7] at this
 refine this.mono fun e w' hE=>?_
 rcases hE with⟨v,r,g',ob',β',he,hR,hv,h1,h2,h3⟩|⟨ch,g',ob',β',he,hΨ,h1,h2,h3⟩
 ·exact Wo
 ·subst he
  have hk:eV b₀ β s.gen s.obj w β' g' ob' w':=h3.keep
  have ht:Tr b₀ β s w β' ⟨s.f,g',ob'⟩ w':=⟨h3.size,h3.old,hk,h3.os⟩
  exact hx ch ⟨s.f,g',ob'⟩ β' a w' hΨ ⟨hr.defers,hr.size,fun i=>ag.keep hk _ (hr.f i),h1,h2,B1 hr.base h3.size⟩ (hΦ _ _ _ _ _ _ _ hφ ht)
theorem zw {Ψ:fO}{o:Oper}{s:St}{k:Box K}{x:Operand} (ho:o.op=.panic x) {v:Value} (hv:∀(N:Nat) (β:Loc) (a:Act) (w:World),Rel b₀ N s β a w→(Instr.panic (a.eval x)).run P w=.halt (.panic v) w)
  (hk:Ψ [{ v,recovered:=false }] s):bh (spF P rd b₀ Φ B Ψ) o s k:=by
 refine⟨fun _=>False,fun N β a ds w hr hφ hdst next Q hn hx=>?_,fun _ h=>h.elim⟩
 have hnd:aJ o=true:=by simp[aJ,ho]
 refine gz hnd ?_
 unfold Oper.wp
 have:(execOp a.eval o).run P w=.halt (.panic v) w:=by
  simp[execOp,ho,hv N β a w hr,Result.andThen]
 rw[this]
 exact hx _ s β a w hk hr hφ
end
end
section
variable {K:St→Prop}{x:Operand}
section
variable {P:Program}{b₀:Bs}{rd:Option Nat}{Φ:St→Loc→List Deferred→World→Prop}{B:Nat}{Ψ:fO}
theorem sW (hΦ:aY b₀ Φ) {o:Oper}{s:St}{k:Box K}{t:TypeId} (ho:o.op=.makeInterface t x) {fs:Array Field} (hu:P.underlying t=some (.struct fs)) {kd:IntKind}{n:Int}
  (hx:s.ev x=.agg [.d (.int kd n)]) (hk:K (s.put o.dst (.exact (.iface t (.agg #[.int kd n]))))):bh (spF P rd b₀ Φ B Ψ) o s k:=by
 refine⟨fun s'=>s'=s.put o.dst (.exact (.iface t (.agg #[.int kd n]))),fun N β a ds w hr hφ hd next Q hn _=>?_,fun _ e=>e▸hk⟩
 refine gz YM ?_
 have hv:=hr.ev x
 rw[hx] at hv
 simp only[ag] at hv
 obtain⟨vs,h1,h2,h3⟩:=hv
 obtain⟨u,hu1,hu2⟩:=h3 0 _ rfl
 simp only[ay] at hu2
 obtain rfl:=hu2.inv_int
 have hvs:vs = #[.int kd n]:=by
  apply Array.ext_getElem?
  intro j
  match j with
  |0=>rw[hu1];rfl
  |j+1=>rw[H9 (by rw[h2];simp),H9 a7]
 subst hvs
 have hex:(execOp a.eval o).run P w=.ok (.value (.iface t (.agg #[.int kd n]))) w:=by
  simp[execOp,ho,h1,Instr.makeInterface,run_underlying hu]
 have hr':=hr.put hd (x:=.exact (.iface t (.agg #[.int kd n]))) (v:=.iface t (.agg #[.int kd n])) (by simp only[ag])
 exact VL
theorem sX {o:Oper}{s:St}{k:Box K} (ho:o.op=.panic x) {t:TypeId}{u:Value} (hx:s.ev x=.exact (.iface t u)) (hk:Ψ [{ v:=.iface t u,recovered:=false }] s):bh (spF P rd b₀ Φ B Ψ) o s k:=by
 refine zw ho (v:=.iface t u) (fun N β a w hr=>?_) hk
 have hv:=hr.ev x
 rw[hx] at hv
 simp only[ag] at hv
 rw[hv]
 simp[Instr.panic]
end
end
end
section
attribute [local congr] Go.Am.ite_cc
section
variable {s:St}{K:St→Prop}{w:World}{a:Act}{o:Oper}{f:FuncId}{β:Loc}{tys:Array TypeId}{ds:List Deferred}{Q:Exit→Act→World→Prop}{u:Value}{ms:Array (String×TypeId)}{args:Array Operand}{R:AV→(Nat→Nat)→Obs→Prop}{caps:List PC}{x:Operand}{k:Box K}
section
variable {P:Program}{T:Nat→TI}{b₀:Bs}{rd:Option Nat}{Φ:St→Loc→List Deferred→World→Prop}{B:Nat}{Ψ:fO}{Ψ0:Pan}
theorem bN (hΦ:aY b₀ Φ) (ho:o.op=.call ⟨.value (.func f),args,tys⟩)
  (hp:dN P f (args.toList.map s.ev) s.gen s.obj R Ψ0) (hx:∀ch g' ob',Ψ0 ch g' ob'→Ψ ch ⟨s.f,g',ob'⟩) (hk:∀r g' ob',R r g' ob'→K (St.put ⟨s.f,g',ob'⟩ o.dst r)):bh (spF P rd b₀ Φ B Ψ) o s k:=by
 refine⟨fun s'=>∃r g' ob',R r g' ob'∧s'=St.put ⟨s.f,g',ob'⟩ o.dst r,fun N β a ds w hr hφ hdst next Q hn hx'=>?_,fun _ ⟨r,g',ob',hr,e⟩=>e▸hk r g' ob' hr⟩
 have hnd:aJ o=true:=by simp[aJ,ho]
 refine gz hnd ?_
 unfold Oper.wp
 rw[jB ho hp.1 w]
 exact V8
theorem aL (hΦ:aY b₀ Φ){t:Nat} (ho:o.op=.call ⟨.value (.tmp t),args,tys⟩) (hf:s.f t=.one (.clo f caps))
  (hp:dN P f (args.toList.map s.ev++caps.map jV) s.gen s.obj R Ψ0) (hx:∀ch g' ob',Ψ0 ch g' ob'→Ψ ch ⟨s.f,g',ob'⟩) (hk:∀r g' ob',R r g' ob'→K (St.put ⟨s.f,g',ob'⟩ o.dst r)) (hf1:f<1000000:=by decide):bh (spF P rd b₀ Φ B Ψ) o s k:=by
 refine⟨fun s'=>∃r g' ob',R r g' ob'∧s'=St.put ⟨s.f,g',ob'⟩ o.dst r,fun N β a ds w hr hφ hdst next Q hn hx'=>?_,fun _ ⟨r,g',ob',hr,e⟩=>e▸hk r g' ob' hr⟩
 have hnd:aJ o=true:=by simp[aJ,ho]
 refine gz hnd ?_
 have hv:=hr.f t
 rw[hf] at hv
 simp only[ag,ay] at hv
 obtain⟨vs,hv1,hv2,hv3⟩:=hv
 rw[rU hf1] at hv1
 have hrun:(execOp a.eval o).run P w=.ok (.enter f (args.map a.eval++vs)) w:=by
  exact U3
 unfold Oper.wp
 rw[hrun]
 simp only[Oper.upon]
 have hc:aE b₀ β s.gen s.obj w (caps.map jV) vs.toList:=mQ Zn (fun i pc hi=>let ⟨u,h1,h2⟩:=hv3 i pc hi;⟨u,by simpa using h1,h2⟩)
 have:=hp.2 b₀ N β a s.f w (args.toList.map a.eval++vs.toList) hr ((iO hr _).append hc)
 rw[show (args.toList.map a.eval++vs.toList).toArray=args.map a.eval++vs from G7 a7] at this
 exact Uw
@[go_sem] theorem DP {S:Sp}{dst:Option Tmp}{ty:TypeId}{ps:String}{af:Array Edge}{gd:Option (Nat×Bool)}{t u:TypeId}{ok:Bool}:opA S T ⟨dst,.typeAssert x t u ok,ty,ps,af,gd⟩ s k=bh S ⟨dst,.typeAssert x t u ok,ty,ps,af,gd⟩ s k:=j9 rfl rfl
theorem vR (hΦ:aY b₀ Φ){t t0:TypeId} (ho:o.op=.typeAssert x t0 t true) {fs:Array Field} (hu:P.underlying t=some (.struct fs)) {kd:IntKind}{n:Int}
  (hx:s.ev x=.exact (.iface t (.agg #[.int kd n]))) (hk:K (s.put o.dst (.tup [.agg [.d (.int kd n)],bv true]))):bh (spF P rd b₀ Φ B Ψ) o s k:=by
 refine⟨fun s'=>s'=s.put o.dst (.tup [.agg [.d (.int kd n)],bv true]),fun N β a ds w hr hφ hd next Q hn _=>?_,fun _ e=>e▸hk⟩
 refine gz YM ?_
 have hv:=hr.ev x
 rw[hx] at hv
 simp only[ag] at hv
 have hex:(execOp a.eval o).run P w=.ok (.value (.tuple #[.agg #[.int kd n],.bool true])) w:=by
  simp[execOp,ho,hv,Instr.typeAssert,run_underlying hu]
 have hr':=hr.put hd (x:=.tup [.agg [.d (.int kd n)],bv true]) (v:=.tuple #[.agg #[.int kd n],.bool true]) (by
  simp only[ag,aE]
  refine⟨[.agg #[.int kd n],.bool true],rfl,_,_,rfl,⟨#[.int kd n],rfl,rfl,fun i c hi=>?_⟩,_,_,rfl,?_,rfl⟩
  ·match i,hi with
   |0,hi=>cases hi;exact⟨_,rfl,by simp only[ay];exact .int _ _⟩
  ·simp only[ay];exact .bool _)
 exact VL
def Sy (d:List Deferred) (b₀:Bs) (β0:Loc) (s0:St) (w0:World):St→Loc→List Deferred→World→Prop:=fun s β ds w=>ds=d∧Tr b₀ β0 s0 w0 β s w
theorem qs {d:List Deferred}{β0:Loc}{s0:St}{w0:World}:aY b₀ (Sy d b₀ β0 s0 w0):=fun _ _ _ _ _ _ _ h ht=>⟨h.1,h.2.trans ht⟩
theorem uS (hT:aX P T) (hm:P.follows .mixedOrders=true) (hΦ:aY b₀ Φ) {N:Nat}{x y:Code} (hcm:gw x=true) (hc:codeOk N x=true) (hr:Rel b₀ N s β a w) (hφ:Φ s β ds w)
 (h:wpC (spF P rd b₀ Φ B rm) T x (bx fun e s'=>e=.normal∧K s') s) (hy:∀s' β' a' ds' w',K s'→Rel b₀ N s' β' a' w'→Φ s' β' ds' w'→y.wpIn (fen rd) 0 P Q { a' with defers:=ds' } w'):(Code.seq x y).wpIn (fen rd) 0 P Q { a with defers:=ds } w:=by
 refine wpIn_seq (wpIn_mono (cg hT hm hΦ x hcm hc hr hφ h) (fun e a' w' hp=>?_))
 obtain⟨s',β',a0,ds',rfl,h1,h2,h3⟩:=hp
 rcases h1 with⟨rfl,h1⟩|⟨_,_,h⟩
 ·exact hy _ _ _ _ _ h1 h2 h3
 ·exact Wk
theorem Cm (hT:aX P T) (hm:P.follows .mixedOrders=true) (hΦ:aY b₀ Φ) {N:Nat}{x:Code} (Ψ:fO) (K:Exit→St→Prop) (hcm:gw x=true) (hc:codeOk N x=true) (hr:Rel b₀ N s β a w) (hφ:Φ s β ds w)
  (h:wpC (spF P rd b₀ Φ B Ψ) T x (bx K) s) (hq:∀e s' β' a' ds' w',(K e s'∨∃ch,e=.panic ch∧Ψ ch s')→Rel b₀ N s' β' a' w'→Φ s' β' ds' w'→Q e { a' with defers:=ds' } w'):x.wpIn (fen rd) 0 P Q { a with defers:=ds } w:=by
 refine wpIn_mono (cg hT hm hΦ x hcm hc hr hφ h) (fun e a' w' hp=>?_)
 obtain⟨s',β',a0,ds',rfl,h1,h2,h3⟩:=hp
 exact hq _ _ _ _ _ _ h1 h2 h3
theorem Cn (hT:aX P T) (hΦ:aY b₀ Φ) {N id t:Nat}{o1 o2:Oper}{y:Code} (hn1:aJ o1=true) (g1:o1.guard=none) (g2:o2.guard=none) (hd1:∀d,o1.dst=some d→d<N) (hd2:o2.dst=none)
  (ho2:o2.op=.defer ⟨.value (.tmp t),#[],tys⟩) (hr:Rel b₀ N s β a w) (hφ:Φ s β ds w) (h:opA (spF P none b₀ Φ B rm) T o1 s (bx fun s'=>s'.f t=.one (.clo f caps)∧K s'))
  (hy:∀s' β' a' w' vs,K s'→Rel b₀ N s' β' a' w'→Φ s' β' ds w'→aE b₀ β' s'.gen s'.obj w' (caps.map jV) vs→y.wpIn (fen none) 0 P Q { a' with defers:=⟨.fn (.func f) vs.toArray,#[]⟩::ds } w') (hf1:f<1000000:=by decide):(Code.seq (.region id #[o1,o2] false) y).wpIn (fen none) 0 P Q { a with defers:=ds } w:=by
 refine wpIn_seq (wpIn_region ?_)
 show wpOpsIn (fen none) 0 P #[o1,o2] _ [0,1] _ _
 simp only[wpOpsIn,w9,w7,s5]
 rw[if_pos (by simp[Region.wanted,g1])]
 refine lO hT hΦ hr hφ hn1 hd1 h (fun s' β' a' w' h1 h2 h3=>?_) (fun ch s' β' a' w' h=>h.elim)
 obtain⟨hc,hK⟩:=h1
 rw[if_pos (by simp[Region.wanted,g2])]
 have hv:=h2.f t
 rw[hc] at hv
 simp only[ag,ay] at hv
 obtain⟨vs,hv1,hv2,hv3⟩:=hv
 rw[rU hf1] at hv1
 refine⟨fun _ _=>trivial,?_⟩
 have hrun:((o2.semAt (fen none).round ({ a' with defers:=ds }:Act).eval).run P w')=.ok (.defer ⟨.fn (.func f) vs,#[]⟩) w':=by
  rw[show (fen none).round=none from rfl,Oper.semAt_none]
  simp[execOp,ho2,resolve,Act.eval,hv1,Deferred.ofValue]
 rw[hrun,Oper.uponIn_defer]
 simp only[hd2,Act.put]
 exact hy s' β' a' w' vs.toList hK h2 h3 (mQ Zn (fun i pc hi=>let ⟨u,h1,h2⟩:=hv3 i pc hi;⟨u,by simpa using h1,h2⟩))
theorem rM {tI t:TypeId} (hu:P.underlying tI=some (.interface ms)):(Op.equal tI (.iface t u) .nilIface).run P w=.ok false w:=by
 exact WT
theorem uu{tI t tI2:TypeId}{d:Nat} (ho:o.op=.binOp .eql tI (.tmp d) (.const .nilIface) tI2) (hu:P.underlying tI=some (.interface ms)) (h:a.tmps.getD d undef=.iface t u) :
  (execOp a.eval o).run P w=.ok (.value (.bool false)) w:=by
 have e1:binOp .eql tI (.iface t u) .nilIface=(do pure (.bool (←Op.equal tI (.iface t u) .nilIface))):=rfl
 have e2:eqGuard .eql tI (.tmp d) (.const .nilIface) (.iface t u) .nilIface=pure ():=rfl
 have e3:a.eval (.tmp d)=.iface t u:=h
 have e4:a.eval (.const .nilIface)=.nilIface:=rfl
 unfold execOp
 simp only[ho,e3,e4,e1,e2,Sem.run_bind,Sem.run_pure,Result.andThen_ok,rM hu]
theorem zx (hT:aX P T) (hm:P.follows .mixedOrders=true) {fn fnD:Func}{N id id2 bl d e:Nat}{oR oE:Oper}{tI:TypeId}{x y:Code}
  (hf:P.funcs[f]? = some fnD) (hb:fnD.body=some (.seq (.region id #[oR] false) (.block bl (.seq (.region id2 #[oE] false) (.cond (.tmp e) x y))))) (hnn:(fnD.name == "runtime.NumGoroutine")=false)
  (hoR:oR.op=.call ⟨.builtin .recover,#[],#[]⟩) (hdR:oR.dst=some d) (gR:oR.guard=none) (hoE:oE.op=.binOp .eql tI (.tmp d) (.const .nilIface) tI) (hdE:oE.dst=some e) (gE:oE.guard=none) (hdn:d<fnD.ntmps) (hen:e<fnD.ntmps)
  (hres:fnD.results = #[]) (hcm:gw y=true) (hok:codeOk fnD.ntmps y=true) (huI:P.underlying tI=some (.interface ms)) {t:TypeId}{xs:List AV}{vs:List Value}{R:Ending→World→Prop} (hr:Rel b₀ N s β a w) (hv:aE b₀ β s.gen s.obj w xs vs) (hl:xs.length≤fnD.ntmps)
  {K:(Nat→Nat)→Obs→Prop} (hy:∀β0 s0 w0,wpC (spF P none b₀ (xk b₀ β0 s0 w0) B rm) T y (bx fun ex s'=>ex=.normal∧K s'.gen s'.obj) ⟨upd (upd (cX xs) d (.exact (.iface t u))) e (bv false),s.gen,s.obj⟩)
  (hR:∀g' ob' β' w',K g' ob'→Rel b₀ N ⟨s.f,g',ob'⟩ β' a w'→Tr b₀ β s w β' ⟨s.f,g',ob'⟩ w'→∃v,(results fn a.tmps).run P w'=.ok v w'∧R (.returned v) w') :
  LeavesIn (fen none) 0 P fn a.tmps R [⟨.fn (.func f) vs.toArray,#[]⟩] (.panicking [{ v:=.iface t u,recovered:=false }]) w:=by
 refine leavesIn_cons (f:=f) (args:=vs.toArray) a7 (fun h=>by cases h) ?_ (fun _ _=>trivial) ?_
 ·exact Xe
 refine callsDIn_of_wpSIn hf hb trivial fun c₀ cs hu=>?_
 apply wpSIn_seq
 apply wpSIn_region
 show wpOpsSIn (fen none) 0 P #[oR] _ [0] _ _ _
 simp only[wpOpsSIn,w9,w7]
 refine⟨fun _ _=>trivial,?_⟩
 rw[if_pos (by simp[Region.wanted,gR])]
 have hrun:∀(a:Act) (w:World),(execOp a.eval oR).run P w=.ok .recover w:=fun a w=>by simp[execOp,hoR,resolve,invoke,builtin]
 rw[hrun]
 simp only[recoverD,hu,hdR,Exit.thenS]
 refine wpSIn_of_wpIn rfl ?_
 have hr0:=mV (N:=fnD.ntmps) (fa:=s.f) hl hr hv
 have hr1:=hr0.put (dst:=some d) (fun d' h=>by cases h;exact hdn) (x:=.exact (.iface t u)) (v:=.iface t u) (by simp only[ag])
 refine wpIn_block (wpIn_seq (wpIn_region ?_))
 show wpOpsIn (fen none) 0 P #[oE] _ [0] _ _
 simp only[wpOpsIn,w9,w7]
 rw[if_pos (by simp[Region.wanted,gE])]
 have hvd:=hr1.f d
 simp only[St.put,upd,if_pos,ag] at hvd
 refine⟨fun _ _=>trivial,?_⟩
 rw[show (fen none).round=none from rfl,Oper.semAt_none]
 rw[uu hoE huI hvd,Oper.uponIn_value]
 simp only[hdE]
 have hr2:Rel b₀ fnD.ntmps ⟨upd (upd (cX xs) d (.exact (.iface t u))) e (bv false),s.gen,s.obj⟩ β _ w:=hr1.put (dst:=some e) (fun d' h=>by cases h;exact hen) (x:=bv false) (v:=.bool false) (by simp only[ag,ay,bv];exact .bool _)
 have hve:=hr2.f e
 simp only[upd,if_pos,bv,ag,ay] at hve
 refine wpIn_cond (t:=false) hve.inv_bool ?_
 rw[if_neg a8]
 have hy2:=cg (rd:=none) (B:=B) (ds:=[]) hT hm aa y hcm hok hr2 ⟨rfl,Tr.refl⟩ (hy β ⟨upd (upd (cX xs) d (.exact (.iface t u))) e (bv false),s.gen,s.obj⟩ w)
 refine wpIn_mono hy2 (fun ex a' w' hp=>?_)
 obtain⟨s',β',a0,ds',rfl,h1,h2,rfl,h4⟩:=hp
 rcases h1 with⟨rfl,h1⟩|⟨_,_,h⟩
 case inr=>exact h.elim
 have hk:eV b₀ β s.gen s.obj w β' s'.gen s'.obj w':=h4.keep
 have ht:Tr b₀ β s w β' ⟨s.f,s'.gen,s'.obj⟩ w':=⟨h4.size,h4.old,hk,h4.os⟩
 have hrA:Rel b₀ N ⟨s.f,s'.gen,s'.obj⟩ β' a w':=⟨hr.defers,hr.size,fun i=>ag.keep hk _ (hr.f i),h2.obj,h2.inj,B1 hr.base h4.size⟩
 obtain⟨v,hv1,hv2⟩:=hR _ _ _ _ h1 hrA ht
 refine⟨rfl,.panicking [{ v:=.iface t u,recovered:=true }],rfl,.tuple #[],by simp[results,hres],?_⟩
 simp only[settle,List.dropWhile_nil,LeavesIn]
 exact⟨v,hv1,hv2⟩
end
end
end
section
open Go.ChangeShapes Go.WideShapes Go.ChangeAt Go.RowKit
section
variable {H:Type}{enc:TypeId×Value→H}
theorem nb {C:Checked}{os:Os}{f:FuncId}{fn:Func}{s:ChangeSpec}{conds:List PathCond}{laid:List (String×DataW Unit)} (own:ownKnob C.prog.godebug=none) (started:os.Started) (noInit:C.prog.inits.idxOf? f=none) (hfn:C.prog.funcs[f]? = some fn)
  (witness:∃(w:World) (tape:Tape) (i:Input),w.os=os∧(w.forCall tape i).Shaped C.prog∧i.vars=[]∧Input.okWide C.prog (w.forCall tape i) .any w.heap.size f i∧
    ((s.pre enc C.prog fn conds false (w.forCall tape i).memory i.args∧laidMetH C.prog laid (w.forCall tape i).memory)∧sizedMet enc C.prog fn (OpenSpec.ofChange s) false (w.forCall tape i).memory i.args)∧Assume.holds {} C.prog (lone (Frame.enter C.prog f i.args .normal) [] (w.forCall tape i)))
  (hvars:s.vars=[]) (hl:laidOutB C.prog=true) (hts:fn.params.toList.all (fun t=>C.prog.readableRec t&&decide (t<C.prog.types.size))=true) {tb:TypeId} (hres:fn.resultTypes = #[tb]) (htb:C.prog.underlying tb=some .bool)
  (hspec:∀ds:List (DataW H),ds.length=fn.params.toList.length→s.fn H ds = { results:=[.lit (.bool true)],args:=ds })
  (hcall:∀(W:World) (base:Nat) (args:Array Value) (ds:List (DataW H)) (ps:List MemPlace),laidMetH C.prog laid W→(∀(j:Nat) t v,fn.params[j]? = some t→args[j]? = some v→Value.okWide C.prog W .any base t v)→DataW.TrodAll enc C.prog W 0 (fun _=>true) true fn.params.toList args.toList ds ps→(DataW.weightsEach C.prog fn.params.toList ds).all (·≤reachBytes)=true→wX C.prog f args W) :
  ReturnsInHanded {} C os f .any (fun w args=>(s.pre enc C.prog fn conds false w args∧laidMetH C.prog laid w)∧sizedMet enc C.prog fn (OpenSpec.ofChange s) false w args) (s.post enc C.prog fn false true false false):=by
 refine returnsInHanded_of_change_and (X:=fun w _=>laidMetH C.prog laid w) (fun _ _ _ hh h=>h.of_heap hh) own started noInit hfn witness ?_
 intro W base args ds gs before hval hW hcnd hsz hX _
 have hW':=hW
 obtain⟨p,q,hA,hV,rfl,hfz,hnd⟩:=hW
 rw[hvars] at hV
 obtain⟨rfl,rfl⟩:=trodVars_none hV
 have hvt:s.plain.varTypes C.prog=[]:=by simp[ChangeSpec.plain,DataSpec.varTypes,hvars]
 rw[hvt,l9,l9] at hsz
 refine(hcall W base args ds p hX hval hA hsz).mono fun e W' ⟨he,hs,hb,ho⟩=>⟨_,he,?_⟩
 have hlt:∀x∈p,x.block<W.heap.size:=fun x hx=>hW'.lt x (by simp[hx])
 have hsp:s.fn H (ds++[]) = { results:=[.lit (.bool true)],args:=ds }:=by rw[l9];exact hspec ds (ri _ _ _ _ hA)
 refine⟨ds,[],p++[],[],p,[],hW',?_,?_,?_,Hs hb ho _,fun h=>by cases h⟩
 ·rw[hsp,hres]
  exact trodAll_mk1 ⟨1,by simp[DataW.trod,htb,Value.cells]⟩
 ·rw[hsp]
  exact ow hl hb _ _ _ _ hts hlt hA
 ·rw[hsp,hvars]
  exact rfl
theorem ut {P:Program}{w:World}{gb:Nat}{o:cO} (hG:rK gb o w) {f:FuncId}{args:List AV} (h:bW P gb o f args (· = bv true)) {vs:List Value} (hv:RVs (fun b=>b<w.heap.size) w args vs):wX P f vs.toArray w:=by
 refine(h.2 _ w vs hG (fun _ h=>h) hv).mono fun e w' ⟨v,r,h1,h2,h3,h4,h5,h6⟩=>⟨?_,h3,h4,h5⟩
 subst h2
 simp only[RV] at h6
 obtain⟨x,hx,hr⟩:=h6
 cases hx
 cases hr
 exact h1
end
end
section
section
def lQ (S:Sp) (T:Nat→TI) (ops:Array Oper) (ids:List Nat) (l:List Ent) (s:St) {K:St→Prop} (_:Box K):Prop:=dn S T ops ids True l s (bx fun s'=>True→K s')
variable {ops:Array Oper}{Q:Exit→St→Prop}
section
variable {P:Program}{T:Nat→TI}{b₀:Bs}{w:World}{rd:Option Nat}{Φ:St→Loc→List Deferred→World→Prop}{Ψ:fO}
theorem uQ {hT:aX P T} (hΦ:aY b₀ Φ) {B N:Nat}{ops:Array Oper}{ds:List Deferred}{Q:Exit→Act→World→Prop} (hnd:ops.toList.all aJ=true) (hds:fm N ops.toList=true) (I:(Nat→Bool)→St→Prop)
  (hstep:∀(L:Nat→Bool) (s:St) (i:Nat) (o:Oper),I L s→ops[i]? = some o→L i=false→(∀e∈o.after.toList,Region.binds .any e=true→L e.on=true)→
    (∀j o',L j=true→ops[j]? = some o'→∀e∈o'.after.toList,Region.binds .any e=true→L e.on=true)→nD ops o s∧opA (spF P rd b₀ Φ B Ψ) T o s (bx fun s'=>I (upd L i true) s')) :
  ∀(fuel:Nat) (listed:Array Bool) {s:St}{β:Loc}{a:Act}{w:World},listed.size=ops.size→listed.toList.count false≤fuel→Rel b₀ N s β a w→Φ s β ds w→I (fun i=>listed.getD i false) s→
   (∀j o',listed.getD j false=true→ops[j]? = some o'→∀e∈o'.after.toList,Region.binds .any e=true→listed.getD e.on false=true)→
   (∀L s' β' a' w',I L s'→Rel b₀ N s' β' a' w'→Φ s' β' ds w'→(∃listed',L=(fun i=>listed'.getD i false)∧listed'.size=ops.size∧Region.ready .any ops listed'=[])→Q .normal { a' with defers:=ds } w')→
   (∀ch s' β' a' w',Ψ ch s'→Rel b₀ N s' β' a' w'→Φ s' β' ds w'→Q (.panic ch) { a' with defers:=ds } w')→
   wpAnyIn (fen rd) 0 P .any ops Q fuel listed { a with defers:=ds } w
 |0,listed,s,β,a,w,hsz,hc,hr,hφ,hI,hid,hQ,hX=>by
   exact UY
 |fuel+1,listed,s,β,a,w,hsz,hc,hr,hφ,hI,hid,hQ,hX=>by
   refine⟨fun hrd=>hQ _ s β a w hI hr hφ ⟨listed,rfl,hsz,hrd⟩,fun i hi=>?_⟩
   unfold Region.ready at hi
   simp only[T1,D3,s6,G3] at hi
   obtain⟨hi1,hi2,hi3⟩:=hi
   have ho:ops[i]? = some ops[i]:=z6 hi1
   rw[ho] at hi3
   simp only[y1,y7,N4,F2,G3] at hi3
   have hli:listed[i]? = some false:=by
    exact W4
   have hL:listed.getD i false=false:=by rw[s9,hli];rfl
   have hedge:∀e∈ops[i].after.toList,Region.binds .any e=true→listed.getD e.on false=true:=fun e he hb=>by
    exact Wg
   obtain⟨hgd,hst⟩:=hstep _ s i ops[i] hI ho hL hedge hid
   have hgi:Region.wanted ops[i] (yielded ops a.tmps)=true:=by
    unfold nD at hgd
    cases hg:(ops[i]).guard with
    |none=>simp[Region.wanted,hg]
    |some p=>
      obtain⟨j,want⟩:=p
      rw[hg] at hgd
      obtain⟨d,hj,hb⟩:=hgd
      have hy:=hr.yielded hj hb
      simp[Region.wanted,hg,hy]
   have hdi:∀d,(ops[i]).dst=some d→d<N:=fun d hd=>by
    exact Wv
   have hni:aJ ops[i]=true:=x6.1 hnd ops[i] (E6 hi1)
   unfold wpOpIn
   rw[ho]
   simp only
   rw[if_pos hgi]
   have hset:(fun j=>(listed.setIfInBounds i true).getD j false)=upd (fun j=>listed.getD j false) i true:=by
    funext j
    exact VC
   refine lO hT hΦ hr hφ hni hdi hst (fun s' β' a' w' hI' hr' hφ'=>?_) hX
   refine uQ (hT:=hT) hΦ hnd hds I hstep fuel (listed.setIfInBounds i true) (by simpa using hsz) Zj hr' hφ' (by rw[hset];exact hI') (fun j o' hj hoj e he hb=>?_) hQ hX
   exact UJ
theorem uR (hT:aX P T) (hm:P.follows .mixedOrders=true) (hΦ:aY b₀ Φ) {B id:Nat}{s:St}{q:Box Q} (hnd:ops.toList.all aJ=true) (hbk:sG ops=true) (I:(Nat→Bool)→St→Prop) (h0:I (fun _=>false) s)
  (hstep:∀(L:Nat→Bool) (s:St) (i:Nat) (o:Oper),I L s→ops[i]? = some o→L i=false→(∀e∈o.after.toList,Region.binds .any e=true→L e.on=true)→
    (∀j o',L j=true→ops[j]? = some o'→∀e∈o'.after.toList,Region.binds .any e=true→L e.on=true)→nD ops o s∧opA (spF P rd b₀ Φ B Ψ) T o s (bx fun s'=>I (upd L i true) s'))
  (hend:∀L s',I L s'→(∀i,i<ops.size→L i=true)→Q .normal s'):ki (spF P rd b₀ Φ B Ψ) T id ops s q:=by
 refine .inr ⟨fun e s'=>e=.normal∧Q .normal s',fun N β a ds w hc hr hφ=>?_,fun e s' ⟨h1,h2⟩=>h1▸h2⟩
 have hr1:Rel b₀ N s β a { w with drawn:=w.drawn+1 }:=hr.of_heap rfl
 have hφ1:Φ s β ds { w with drawn:=w.drawn+1 }:=hΦ _ _ _ _ _ _ _ hφ (Tr.same rfl rfl rfl)
 refine wpIn_region_any hm (uQ (hT:=hT) hΦ hnd hc I hstep ops.size (Array.replicate ops.size false) a7 a7 hr1 hφ1 ?_ (fun j o' hj=>?_) (fun L s' β' a' w' h2 h4 h5 h6=>⟨s',β',a',ds,rfl,.inl ⟨rfl,hend L s' h2 Yy⟩,h4,h5⟩) (fun ch s' β' a' w' h1 h2 h3=>⟨s',β',a',ds,rfl,.inr ⟨ch,rfl,h1⟩,h2,h3⟩))
 ·exact Vx
 ·rw[s9,C0] at hj
  split at hj <;> simp at hj
theorem gq (hT:aX P T) (hm:P.follows .mixedOrders=true) (hΦ:aY b₀ Φ) {B id:Nat}{s:St}{q:Box Q} (ids:List Nat) (tb:List (List Nat×List Nat×List Nat×Bool)) (nid:Nat) (hnd0:ops.toList.all aJ=true) (hok:sI ops tb nid=true) (hnid:ids.length=nid) (hnd:ids.Nodup)
  (h:lQ (spF P rd b₀ Φ B Ψ) T ops ids (jd ops.toList tb) s (bx fun s'=>Q .normal s')):ki (spF P rd b₀ Φ B Ψ) T id ops s q:=by
 obtain⟨h1,I,h2,h3,h4⟩:=sK (z:=True) (Q:=Q) ids tb nid hok hnid hnd h
 exact uR hT hm hΦ hnd0 h1 I h2 h3 fun L s' a b=>h4 L s' a b (.inr trivial)
end
section steps
variable {S:Sp}{T:Nat→TI}{ops:Array Oper}{ids:List Nat}{f:Nat→AV}{g:Nat→Nat}{ob:Nat→Option (List C)}{K:St→Prop}{k:Box K}{op:Op}{ty:TypeId}{ps:String}{af:Array Edge}{gd:Option (Nat×Bool)}{rd hd:List Nat}{r:List Ent}{d:Nat}
theorem aO {v:AV} (hg:GdE ops ⟨⟨some d,op,ty,ps,af,gd⟩,rd,hd,[],false⟩ ⟨f,g,ob⟩) (h1:∀(fa:Nat→AV) (ga:Nat→Nat) (oa:Nat→Option (List C)) (K':St→Prop),K' ⟨upd (maskf rd f fa) d v,maskm ids hd g ga,maskm ids hd ob oa⟩→opA S T ⟨some d,op,ty,ps,af,gd⟩ ⟨maskf rd f fa,maskm ids hd g ga,maskm ids hd ob oa⟩ (bx K'))
  (h2:lQ S T ops ids r ⟨upd f d v,g,ob⟩ k):lQ S T ops ids (⟨⟨some d,op,ty,ps,af,gd⟩,rd,hd,[],false⟩::r) ⟨f,g,ob⟩ k:=by
 unfold lQ at h2 ⊢
 unfold dn
 exact⟨v,[],⟨rfl,fun fa ga oa K' hK=>h1 fa ga oa K' (hK fun _=>trivial),hg⟩,h2⟩
theorem eC {v:AV}{a x:Nat}{y:Option (List C)} (hg:GdE ops ⟨⟨some d,op,ty,ps,af,gd⟩,rd,hd,[a],false⟩ ⟨f,g,ob⟩) (h1:∀(fa:Nat→AV) (ga:Nat→Nat) (oa:Nat→Option (List C)) (K':St→Prop),K' ⟨upd (maskf rd f fa) d v,upd (maskm ids hd g ga) (ids.getD a 0) x,upd (maskm ids hd ob oa) (ids.getD a 0) y⟩→opA S T ⟨some d,op,ty,ps,af,gd⟩ ⟨maskf rd f fa,maskm ids hd g ga,maskm ids hd ob oa⟩ (bx K'))
  (h2:lQ S T ops ids r ⟨upd f d v,upd g (ids.getD a 0) x,upd ob (ids.getD a 0) y⟩ k):lQ S T ops ids (⟨⟨some d,op,ty,ps,af,gd⟩,rd,hd,[a],false⟩::r) ⟨f,g,ob⟩ k:=by
 unfold lQ at h2 ⊢
 unfold dn
 exact⟨v,[(x,y)],⟨rfl,fun fa ga oa K' hK=>h1 fa ga oa K' (hK fun _=>trivial),hg⟩,h2⟩
end steps
end
section
variable {w:World}{s:St}{a:Act}{o:Oper}{ms:Array (String×TypeId)}{tI:TypeId}
section
variable {P:Program}{T:Nat→TI}{b₀:Bs}{rd:Option Nat}{Φ:St→Loc→List Deferred→World→Prop}{B:Nat}{Ψ:fO}{Ψ0:Pan}
theorem zz (hT:aX P T) (hm:P.follows .mixedOrders=true) (hΦ:aY b₀ Φ) {N:Nat}{x y:Code}{β:Loc}{ds:List Deferred}{Q:Exit→Act→World→Prop} (hcm:gw x=true) (hc:codeOk N x=true) (hr:Rel b₀ N s β a w) (hφ:Φ s β ds w)
  {K K2:St→Prop} (h:wpC (spF P rd b₀ Φ B rm) T x (bx fun e s'=>(e=.normal∧K s')∨(e=.ret∧K2 s')) s) (hy:∀s' β' a' ds' w',K s'→Rel b₀ N s' β' a' w'→Φ s' β' ds' w'→y.wpIn (fen rd) 0 P Q { a' with defers:=ds' } w')
  (hz:∀s' β' a' ds' w',K2 s'→Rel b₀ N s' β' a' w'→Φ s' β' ds' w'→Q .ret { a' with defers:=ds' } w'):(Code.seq x y).wpIn (fen rd) 0 P Q { a with defers:=ds } w:=by
 refine wpIn_seq (wpIn_mono (cg hT hm hΦ x hcm hc hr hφ h) (fun e a' w' hp=>?_))
 obtain⟨s',β',a0,ds',rfl,h1,h2,h3⟩:=hp
 rcases h1 with(⟨rfl,h1⟩|⟨rfl,h1⟩)|⟨_,_,h⟩
 ·exact hy _ _ _ _ _ h1 h2 h3
 ·exact hz _ _ _ _ _ h1 h2 h3
 ·exact Wk
theorem zA (hΦ:aY b₀ Φ){K:St→Prop}{k:Box K}{t:Nat}{args:Array Operand}{tys:Array TypeId} (ho:o.op=.call ⟨.value (.tmp t),args,tys⟩) {f:FuncId}{caps:List PC} (hf:s.f t=.one (.clo (f+1000000) caps)) {R:AV→(Nat→Nat)→Obs→Prop}
  (hp:dN P f (caps.map jV++args.toList.map s.ev) s.gen s.obj R Ψ0) (hx:∀ch g' ob',Ψ0 ch g' ob'→Ψ ch ⟨s.f,g',ob'⟩) (hk:∀r g' ob',R r g' ob'→K (St.put ⟨s.f,g',ob'⟩ o.dst r)):bh (spF P rd b₀ Φ B Ψ) o s k:=by
 refine⟨fun s'=>∃r g' ob',R r g' ob'∧s'=St.put ⟨s.f,g',ob'⟩ o.dst r,fun N β a ds w hr hφ hdst next Q hn hx'=>?_,fun _ ⟨r,g',ob',hr,e⟩=>e▸hk r g' ob' hr⟩
 have hnd:aJ o=true:=by simp[aJ,ho]
 refine gz hnd ?_
 have hv:=hr.f t
 rw[hf] at hv
 simp only[ag,ay] at hv
 obtain⟨vs,hv1,hv2,hv3⟩:=hv
 rw[xb f] at hv1
 have hrun:(execOp a.eval o).run P w=.ok (.enter f (vs++args.map a.eval)) w:=by
  exact U3
 unfold Oper.wp
 rw[hrun]
 simp only[Oper.upon]
 have hc:aE b₀ β s.gen s.obj w (caps.map jV) vs.toList:=mQ Zn (fun i pc hi=>let ⟨u,h1,h2⟩:=hv3 i pc hi;⟨u,by simpa using h1,h2⟩)
 have:=hp.2 b₀ N β a s.f w (vs.toList++args.toList.map a.eval) hr (hc.append (iO hr _))
 rw[show (vs.toList++args.toList.map a.eval).toArray=vs++args.map a.eval from G7 a7] at this
 exact Uw
theorem uw (hu:P.underlying tI=some (.interface ms)):(Op.equal tI .nilIface .nilIface).run P w=.ok true w:=by
 exact WT
theorem xo{tI tI2:TypeId}{d:Nat} (ho:o.op=.binOp .eql tI (.tmp d) (.const .nilIface) tI2) (hu:P.underlying tI=some (.interface ms)) (h:a.tmps.getD d undef=.nilIface) :
  (execOp a.eval o).run P w=.ok (.value (.bool true)) w:=by
 have e1:binOp .eql tI .nilIface .nilIface=(do pure (.bool (←Op.equal tI .nilIface .nilIface))):=rfl
 have e2:eqGuard .eql tI (.tmp d) (.const .nilIface) .nilIface .nilIface=pure ():=rfl
 have e3:a.eval (.tmp d)=.nilIface:=h
 have e4:a.eval (.const .nilIface)=.nilIface:=rfl
 unfold execOp
 simp only[ho,e3,e4,e1,e2,Sem.run_bind,Sem.run_pure,Result.andThen_ok,uw hu]
theorem zB (hT:aX P T) (hm:P.follows .mixedOrders=true) {fn fnD:Func}{f:FuncId}{N id id2 bl d e:Nat}{oR oE:Oper}{x y:Code}
  (hf:P.funcs[f]? = some fnD) (hb:fnD.body=some (.seq (.region id #[oR] false) (.block bl (.seq (.region id2 #[oE] false) (.cond (.tmp e) x y))))) (hnn:(fnD.name == "runtime.NumGoroutine")=false)
  (hoR:oR.op=.call ⟨.builtin .recover,#[],#[]⟩) (hdR:oR.dst=some d) (gR:oR.guard=none) (hoE:oE.op=.binOp .eql tI (.tmp d) (.const .nilIface) tI) (hdE:oE.dst=some e) (gE:oE.guard=none) (hdn:d<fnD.ntmps) (hen:e<fnD.ntmps)
  (hres:fnD.results = #[]) (hcm:gw x=true) (hok:codeOk fnD.ntmps x=true) (huI:P.underlying tI=some (.interface ms)){β:Loc}{xs:List AV}{vs:List Value}{R:Ending→World→Prop} (hr:Rel b₀ N s β a w) (hv:aE b₀ β s.gen s.obj w xs vs) (hl:xs.length≤fnD.ntmps)
  {K:(Nat→Nat)→Obs→Prop} (hy:∀β0 s0 w0,wpC (spF P none b₀ (xk b₀ β0 s0 w0) B rm) T x (bx fun ex s'=>ex=.normal∧K s'.gen s'.obj) ⟨upd (upd (cX xs) d (.exact .nilIface)) e (bv true),s.gen,s.obj⟩)
  (hR:∀g' ob' β' w',K g' ob'→Rel b₀ N ⟨s.f,g',ob'⟩ β' a w'→Tr b₀ β s w β' ⟨s.f,g',ob'⟩ w'→∃v,(results fn a.tmps).run P w'=.ok v w'∧R (.returned v) w') :
  LeavesIn (fen none) 0 P fn a.tmps R [⟨.fn (.func f) vs.toArray,#[]⟩] .returning w:=by
 refine leavesIn_cons (f:=f) (args:=vs.toArray) a7 (fun h=>by cases h) ?_ (fun _ _=>trivial) ?_
 ·exact Xe
 refine callsDIn_of_wpSIn hf hb trivial fun c₀ cs hu=>?_
 apply wpSIn_seq
 apply wpSIn_region
 show wpOpsSIn (fen none) 0 P #[oR] _ [0] _ _ _
 simp only[wpOpsSIn,w9,w7]
 refine⟨fun _ _=>trivial,?_⟩
 rw[if_pos (by simp[Region.wanted,gR])]
 have hrun:∀(a:Act) (w:World),(execOp a.eval oR).run P w=.ok .recover w:=fun a w=>by simp[execOp,hoR,resolve,invoke,builtin]
 rw[hrun]
 simp only[recoverD,hu,hdR,Exit.thenS]
 refine wpSIn_of_wpIn rfl ?_
 have hr0:=mV (N:=fnD.ntmps) (fa:=s.f) hl hr hv
 have hr1:=hr0.put (dst:=some d) (fun d' h=>by cases h;exact hdn) (x:=.exact .nilIface) (v:=.nilIface) (by simp only[ag])
 refine wpIn_block (wpIn_seq (wpIn_region ?_))
 show wpOpsIn (fen none) 0 P #[oE] _ [0] _ _
 simp only[wpOpsIn,w9,w7]
 rw[if_pos (by simp[Region.wanted,gE])]
 have hvd:=hr1.f d
 simp only[St.put,upd,if_pos,ag] at hvd
 refine⟨fun _ _=>trivial,?_⟩
 rw[show (fen none).round=none from rfl,Oper.semAt_none]
 rw[xo hoE huI hvd,Oper.uponIn_value]
 simp only[hdE]
 have hr2:Rel b₀ fnD.ntmps ⟨upd (upd (cX xs) d (.exact .nilIface)) e (bv true),s.gen,s.obj⟩ β _ w:=hr1.put (dst:=some e) (fun d' h=>by cases h;exact hen) (x:=bv true) (v:=.bool true) (by simp only[ag,ay,bv];exact .bool _)
 have hve:=hr2.f e
 simp only[upd,if_pos,bv,ag,ay] at hve
 refine wpIn_cond (t:=true) hve.inv_bool ?_
 rw[if_pos a8]
 have hy2:=cg (rd:=none) (B:=B) (ds:=[]) hT hm aa x hcm hok hr2 ⟨rfl,Tr.refl⟩ (hy β ⟨upd (upd (cX xs) d (.exact .nilIface)) e (bv true),s.gen,s.obj⟩ w)
 refine wpIn_mono hy2 (fun ex a' w' hp=>?_)
 obtain⟨s',β',a0,ds',rfl,h1,h2,rfl,h4⟩:=hp
 rcases h1 with⟨rfl,h1⟩|⟨_,_,h⟩
 case inr=>exact h.elim
 have hk:eV b₀ β s.gen s.obj w β' s'.gen s'.obj w':=h4.keep
 have ht:Tr b₀ β s w β' ⟨s.f,s'.gen,s'.obj⟩ w':=⟨h4.size,h4.old,hk,h4.os⟩
 have hrA:Rel b₀ N ⟨s.f,s'.gen,s'.obj⟩ β' a w':=⟨hr.defers,hr.size,fun i=>ag.keep hk _ (hr.f i),h2.obj,h2.inj,B1 hr.base h4.size⟩
 obtain⟨v,hv1,hv2⟩:=hR _ _ _ _ h1 hrA ht
 refine⟨rfl,.returning,by rw[←hu],.tuple #[],by simp[results,hres],?_⟩
 simp only[settle,LeavesIn]
 exact⟨v,hv1,hv2⟩
end
section
variable {S:Sp}{T:Nat→TI}{ops:Array Oper}{ids:List Nat}{f:Nat→AV}{g:Nat→Nat}{ob:Nat→Option (List C)}{rd hd:List Nat}{K:St→Prop}{k:Box K}
theorem gt{ef:List Nat} (hg:GdE ops ⟨o,rd,hd,ef,true⟩ ⟨f,g,ob⟩) (h:∀K':St→Prop,(∀s'',K s''→K' s'')→opA S T o ⟨f,g,ob⟩ (bx K')):lQ S T ops ids [⟨o,rd,hd,ef,true⟩] ⟨f,g,ob⟩ k:=by
 unfold lQ dn;exact⟨⟨fun _=>trivial,fun K' hK=>h K' fun s'' q=>hK s'' fun _=>q⟩,hg⟩
end
end
section
def SA (B:Nat):PC→Prop
 |.d _=>True
 |.ptr id _ _=>id<B
def mD (B:Nat):C→Prop
 |.d _=>True
 |.osl id _ _ _ _=>id<B
 |.ptr id _ _=>id<B
 |.mp id _ _=>id<B
 |.lsl _=>True
 |.raw _=>True
 |.clo _ caps=>∀p∈caps,SA B p
def SB (B:Nat) (g:Nat→Nat):PC→Prop
 |.d _=>True
 |.ptr id g1 _=>id<B∨g1≤g id
def okC (B:Nat) (g:Nat→Nat):C→Prop
 |.d _=>True
 |.osl id g1 _ _ _=>id<B∨g1≤g id
 |.ptr id g1 _=>id<B∨g1≤g id
 |.mp id g1 _=>id<B∨g1≤g id
 |.lsl _=>True
 |.raw _=>True
 |.clo _ caps=>∀p∈caps,SB B g p
variable {g:Nat→Nat}{B:Nat}{w':World}{c:C}{β' β2:Loc}{g1 g2:Nat→Nat}{ob1 ob2:Obs}{ob:Obs}{cells:List C}{xs:List AV}{R:AV→(Nat→Nat)→Obs→Prop}
theorem mD.ok (h:mD B c):okC B g c:=by
 cases c with
 |osl=>exact .inl h
 |ptr=>exact .inl h
 |mp=>exact .inl h
 |clo f caps=>
   intro p hp
   have:=h p hp
   cases p with
   |d=>trivial
   |ptr=>exact .inl this
 |d=>trivial
 |lsl=>trivial
 |raw=>trivial
def jz (S:List Nat) (g g':Nat→Nat):Nat→Nat:=fun i=>if i∈S then g' i else g i
def fA (S:List Nat) (ob ob':Obs):Obs:=fun i=>if i∈S then ob' i else ob i
structure Co (B:Nat) (S:List Nat) (g:Nat→Nat) (ob:Obs) (g':Nat→Nat) (ob':Obs):Prop where
 same:∀i,i<B→i∉S→g' i=g i∧ob' i=ob i
 low:∀i∈S,∀cells,ob' i=some cells→∀c∈cells,mD B c
section
variable {P:Program}{T:Nat→TI}{b₀:Bs}{β:Loc}{w:World}
theorem ay.okC {B:Nat}{g:Nat→Nat}{ob:Obs}{c:C}{v:Value} (h:ay b₀ β g ob w c v):okC B g c:=by
 cases c with
 |d=>trivial
 |osl=>exact .inr h.2.1
 |ptr=>exact .inr h.2.1
 |mp=>exact .inr h.2.1
 |lsl=>trivial
 |raw=>trivial
 |clo f caps=>
   obtain⟨vs,_,h2,h3⟩:=h
   intro p hp
   obtain⟨i,hi⟩:=C3 hp
   obtain⟨u,_,hr⟩:=h3 i p hi
   cases p with
   |d=>trivial
   |ptr=>exact .inr hr.2.1
theorem dP.okC {B:Nat}{g:Nat→Nat}{R:C→Value→Prop} (hR:∀c v,R c v→Go.Am.okC B g c) {kd:TypeDesc}{cs:List C}{es:List MapEntry} (h:dP R kd cs es):∀c∈cs,Go.Am.okC B g c:=by
 induction h with
 |nil=>intro c hc;cases hc
 |cons hk h1 h2 _ ih=>
   intro c hc
   simp only[y2] at hc
   rcases hc with rfl|rfl|hc
   ·trivial
   ·exact hR _ _ h2
   ·exact ih c hc
theorem jc.okC {B:Nat}{g:Nat→Nat}{ob:Obs}{kd:Nat}{c:C}{v:Value} (h:jc b₀ β g ob w kd c v):Go.Am.okC B g c:=by
 unfold jc at h
 split at h
 ·exact ay.okC h
 ·obtain⟨ds,vs,rfl,_⟩:=h
  trivial
theorem dm.okC {B:Nat}{g:Nat→Nat}{ob:Obs}{e:Nat}{cells:List C}{x:Option Addr} (h:dm b₀ β g ob w e cells x):∀c∈cells,Go.Am.okC B g c:=by
 intro c hc
 cases x with
 |none=>have h:cells=[]:=h;subst h;cases hc
 |some a=>
   cases hs:a.spot with
   |none=>
     obtain⟨_,arr,el,lo,hi,_,_,_,h6⟩:=h.cells hs
     obtain⟨i,hi⟩:=C3 hc
     obtain⟨v,_,hr⟩:=h6 i c hi
     exact hr.okC
   |some kd=>
     obtain⟨_,⟨es,clock,_,h4⟩|⟨_,o,h3,_⟩⟩:=h.map hs
     ·exact dP.okC (fun _ _=>jc.okC) h4 c hc
     ·subst h3
      simp only[C5] at hc
      subst hc
      trivial
structure Conv (b₀:Bs) (B:Nat) (g:Nat→Nat) (β':Loc) (g1:Nat→Nat) (ob1:Obs) (w':World) (β2:Loc) (g2:Nat→Nat) (ob2:Obs):Prop where
 imm:∀b,Imm b₀ β' ob1 w' b→Imm b₀ β2 ob2 w' b
 live:∀id,id<B→g2 id=g1 id∧((ob2 id).isSome=true→(ob1 id).isSome=true∧β2 id=β' id)
 dead:∀id,¬id<B→ob2 id=none∧g2 id=g id
theorem Conv.rep (hc:Conv b₀ B g β' g1 ob1 w' β2 g2 ob2){v:Value} (hok:okC B g c) (h:ay b₀ β' g1 ob1 w' c v):ay b₀ β2 g2 ob2 w' c v:=by
 have hle:∀id x,id<B∨x≤g id→x≤g1 id→x≤g2 id:=fun id x hx h1=>by
  by_cases hb:id<B
  ·rw[(hc.live id hb).1];exact h1
  ·rw[(hc.dead id hb).2];exact hx.resolve_left hb
 have hlv:∀id x,g2 id=x→(ob2 id).isSome=true→g1 id=x∧(ob1 id).isSome=true∧β2 id=β' id:=fun id x hx ho=>by
  by_cases hb:id<B
  ·exact⟨by rw[←(hc.live id hb).1];exact hx,(hc.live id hb).2 ho⟩
  ·rw[(hc.dead id hb).1] at ho;cases ho
 cases c with
 |d x=>exact bT.mono h fun b hb=>⟨hc.imm b hb,rfl⟩
 | osl id x sz off len=>exact⟨h.1,hle id x hok h.2.1,fun hg ho=>by
    obtain⟨l1,l2,l3⟩:=hlv id x hg ho
    rw[l3];exact h.2.2 l1 l2⟩
 | ptr id x off=>exact⟨h.1,hle id x hok h.2.1,fun hg ho=>by
    obtain⟨l1,l2,l3⟩:=hlv id x hg ho
    rw[l3];exact h.2.2 l1 l2⟩
 | mp id x kd=>exact⟨h.1,hle id x hok h.2.1,fun hg ho=>by
    obtain⟨l1,l2,l3⟩:=hlv id x hg ho
    rw[l3];exact h.2.2 l1 l2⟩
 |lsl n=>exact h
 |raw o=>exact h.elim
 |clo f caps=>
   obtain⟨vs,h1,h2,h3⟩:=h
   refine⟨vs,h1,h2,fun i pc hp=>?_⟩
   obtain⟨u,hu,hr⟩:=h3 i pc hp
   refine⟨u,hu,?_⟩
   have hpok:=hok pc (l4 hp)
   cases pc with
   |d x=>exact bT.mono hr fun b hb=>⟨hc.imm b hb,rfl⟩
   | ptr id x off=>exact⟨hr.1,hle id x hpok hr.2.1,fun hg ho=>by
      obtain⟨l1,l2,l3⟩:=hlv id x hg ho
      rw[l3];exact hr.2.2 l1 l2⟩
theorem Conv.repM (hc:Conv b₀ B g β' g1 ob1 w' β2 g2 ob2) {kd:Nat}{v:Value} (hok:okC B g c) (h:jc b₀ β' g1 ob1 w' kd c v):jc b₀ β2 g2 ob2 w' kd c v:=by
 unfold jc at h ⊢
 split
 ·rename_i hk
  rw[if_pos hk] at h
  exact hc.rep hok h
 ·rename_i hk
  rw[if_neg hk] at h
  obtain⟨ds,vs,q1,q2,q3,q4⟩:=h
  exact⟨ds,vs,q1,q2,q3,fun i x hx=>let ⟨u,hu,hr⟩:=q4 i x hx;⟨u,hu,bT.mono hr fun b hb=>⟨hc.imm b hb,rfl⟩⟩⟩
theorem dP.okMono{R R':C→Value→Prop}{kd:TypeDesc}{cs:List C}{es:List MapEntry} (h:dP R kd cs es) (hok:∀c∈cs,Go.Am.okC B g c) (hr:∀c v,Go.Am.okC B g c→R c v→R' c v):dP R' kd cs es:=by
 induction h with
 |nil=>exact .nil
 |cons hk h1 h2 _ ih=>exact .cons hk h1 (hr _ _ (hok _ a7) h2) (ih fun c hc=>hok c (by simp[hc]))
theorem Conv.obj (hc:Conv b₀ B g β' g1 ob1 w' β2 g2 ob2) {e:Nat}{x:Option Addr} (hok:∀c∈cells,okC B g c) (h:dm b₀ β' g1 ob1 w' e cells x):dm b₀ β2 g2 ob2 w' e cells x:=by
 cases x with
 |none=>exact h
 |some a=>
   cases hs:a.spot with
   |none=>
     obtain⟨h1,arr,el,lo,hi,h2,h3,h4,h6⟩:=h.cells hs
     refine .ofCells hs ⟨h1,arr,el,lo,hi,h2,h3,h4,fun j c hj=>?_⟩
     obtain⟨v,hv,hr⟩:=h6 j c hj
     exact⟨v,hv,hc.rep (hok c (l4 hj)) hr⟩
   |some kd=>
     obtain⟨h1,⟨es,clock,h2,h4⟩|hraw⟩:=h.map hs
     ·exact .ofMap hs ⟨h1,.inl ⟨es,clock,h2,h4.okMono hok fun _ _ q1 q2=>hc.repM q1 q2⟩⟩
     ·exact .ofMap hs ⟨h1,.inr hraw⟩
theorem xl {N M:Nat}{S:List Nat}{fa:Nat→AV}{a0 a':Act}{s':St}{β':Loc} (hr0:Rel b₀ M ⟨fa,g,ob⟩ β a0 w) (hr:Rel b₀ N s' β' a' w')
  {s0:St} (h0g:s0.gen=g) (h0o:s0.obj=ob) (ht:Tr b₀ β s0 w β' s' w') (hS:∀i∈S,i<B) (hB:∀i,B≤i→ob i=none) (he:Co B S g ob s'.gen s'.obj) :
  ∃β2:Loc,Conv b₀ B g β' s'.gen s'.obj w' β2 (jz S g s'.gen) (fA S ob s'.obj)∧
   (∀id cells,fA S ob s'.obj id=some cells→dm b₀ β2 (jz S g s'.gen) (fA S ob s'.obj) w' (jz S g s'.gen id) cells (β2 id))∧
   (∀id id' a a',(fA S ob s'.obj id).isSome=true→(fA S ob s'.obj id').isSome=true→β2 id=some a→β2 id'=some a'→a.block=a'.block→id=id')∧
   (∀id,(fA S ob s'.obj id).isSome=true→(s'.obj id).isSome=true∧¬B≤id∧β2 id=β' id)∧
   Tr b₀ β ⟨fa,g,ob⟩ w β2 ⟨fa,jz S g s'.gen,fA S ob s'.obj⟩ w':=by
 subst h0g h0o
 have hlow:∀id,(s0.obj id).isSome=true→id<B:=fun id ho=>F7 fun hc=>by
  rw[hB id a6] at ho;cases ho
 have hmem:∀id,id∈S→jz S s0.gen s'.gen id=s'.gen id∧fA S s0.obj s'.obj id=s'.obj id:=fun id h=>⟨if_pos h,if_pos h⟩
 have hnot:∀id,id∉S→jz S s0.gen s'.gen id=s0.gen id∧fA S s0.obj s'.obj id=s0.obj id:=fun id h=>⟨if_neg h,if_neg h⟩
 have hkl:∀id,id∉S→(s0.obj id).isSome=true→s'.gen id=s0.gen id∧(s'.obj id).isSome=true∧β' id=β id:=fun id h ho=>by
  obtain⟨q1,q2⟩:=he.same id (hlow id ho) h
  have q3:(s'.obj id).isSome=true:=by rw[q2];exact ho
  exact⟨q1,q3,(ht.keep.live id q1 q3).2.1⟩
 let β2:Loc:=fun id=>if id∈S then β' id else β id
 have hβm:∀id,id∈S→β2 id=β' id:=fun id h=>if_pos h
 have hβn:∀id,id∉S→β2 id=β id:=fun id h=>if_neg h
 have hall:∀id,(fA S s0.obj s'.obj id).isSome=true→(s'.obj id).isSome=true∧¬B≤id∧β2 id=β' id:=fun id ho=>by
  by_cases h:id∈S
  ·rw[(hmem id h).2] at ho
   exact⟨ho,by have:=hS id h;omega,hβm id h⟩
  ·rw[(hnot id h).2] at ho
   obtain⟨_,q2,q3⟩:=hkl id h ho
   exact⟨q2,by have:=hlow id ho;omega,(hβn id h).trans q3.symm⟩
 have himm:∀b,Imm b₀ β' s'.obj w' b→Imm b₀ β2 (fA S s0.obj s'.obj) w' b:=fun b hb=>⟨hb.1,hb.2.1,fun id a ho hβ=>by
  obtain⟨q1,_,q3⟩:=hall id ho
  exact hb.2.2 id a q1 (by rw[←q3];exact hβ)⟩
 have hconv:Conv b₀ B s0.gen β' s'.gen s'.obj w' β2 (jz S s0.gen s'.gen) (fA S s0.obj s'.obj):=by
  refine⟨himm,fun id hb=>⟨?_,fun ho=>⟨(hall id ho).1,(hall id ho).2.2⟩⟩,fun id hb=>?_⟩
  ·by_cases h:id∈S
   ·exact(hmem id h).1
   ·rw[(hnot id h).1,(he.same id hb h).1]
  ·have h:id∉S:=fun h=>hb (hS id h)
   exact⟨by rw[(hnot id h).2];exact hB id a6,(hnot id h).1⟩
 refine⟨β2,hconv,fun id cells hc=>?_,fun i1 i2 a1 a2 h1 h2 e1 e2 hb=>?_,hall,ht.size,ht.old,⟨fun b hb=>⟨himm b (ht.imm b hb).1,(ht.imm b hb).2⟩,fun id=>?_,fun id hg ho=>?_⟩,ht.os⟩
 ·by_cases h:id∈S
  ·rw[(hmem id h).1,hβm id h]
   rw[(hmem id h).2] at hc
   exact hconv.obj (fun c hcc=>(he.low id h cells hc c hcc).ok) (hr.obj id cells hc)
  ·rw[(hnot id h).1,hβn id h]
   rw[(hnot id h).2] at hc
   have ho:(s0.obj id).isSome=true:=by rw[hc];rfl
   obtain⟨q1,q2,q3⟩:=hkl id h ho
   have h1:=hr.obj id cells (by rw[(he.same id (hlow id ho) h).2];exact hc)
   rw[q1,q3] at h1
   exact hconv.obj (fun c hcc=>(hr0.obj id cells hc).okC c hcc) h1
 ·obtain⟨p1,_,p3⟩:=hall i1 h1
  obtain⟨p4,_,p6⟩:=hall i2 h2
  exact hr.inj i1 i2 a1 a2 p1 p4 (by rw[←p3];exact e1) (by rw[←p6];exact e2) hb
 ·show s0.gen id≤jz S s0.gen s'.gen id
  by_cases h:id∈S
  ·rw[(hmem id h).1];exact ht.gen id
  ·rw[(hnot id h).1];exact j8 _
 ·change jz S s0.gen s'.gen id=s0.gen id at hg
  change (fA S s0.obj s'.obj id).isSome=true at ho
  by_cases h:id∈S
  ·rw[(hmem id h).1] at hg
   rw[(hmem id h).2] at ho
   obtain⟨q1,q2,q3⟩:=ht.keep.live id hg ho
   exact⟨q1,(hβm id h).trans q2,q3⟩
  ·rw[(hnot id h).2] at ho
   obtain⟨q1,q2,q3⟩:=hkl id h ho
   exact⟨ho,hβn id h,(ht.keep.live id q1 q2).2.2⟩
theorem eK.repL {B N:Nat}{s:St}{a:Act}{ob':Obs} (hob':∀id,(ob' id).isSome=true→(s.obj id).isSome=true∧¬B≤id) (hr:Rel b₀ N s β a w) {g':Nat→Nat}{β':Loc} (hβ:∀id,(ob' id).isSome=true→β' id=β id) :
  ∀{ts rs:List AV}{vs:List Value},eK B s ts rs→aE b₀ β s.gen s.obj w ts vs→aE b₀ β' g' ob' w rs vs
 |[],rs,vs,h,hv=>by simp only[eK] at h;subst h;simp only[aE] at hv ⊢;exact hv
 |t::ts,rs,vs,h,hv=>by
   simp only[eK] at h
   obtain⟨r,rs',rfl,h1,h2⟩:=h
   simp only[aE] at hv ⊢
   obtain⟨u,us,e,h3,h4⟩:=hv
   exact⟨u,us,e,h1.rep hob' hr h3 hβ,eK.repL hob' hr hβ h2 h4⟩
def bi (B:Nat) (S:List Nat) (g:Nat→Nat) (ob:Obs) (R:AV→(Nat→Nat)→Obs→Prop) (s:St) (avs:List AV):Prop:=Co B S g ob s.gen s.obj∧∃rs',eK B s avs rs'∧R (pack rs') (jz S g s.gen) (fA S ob s.obj)
def Lh (T:Nat→TI) (rs:List ResultVar) (B:Nat) (S:List Nat) (g:Nat→Nat) (ob:Obs) (R:AV→(Nat→Nat)→Obs→Prop):Exit→St→Prop
 |.normal,s|.ret,s=>∃s',ab s s'∧jy T s' rs (bx fun avs=>bi B S g ob R s' avs)
 |_,_=>False
def DQ (B:Nat) (S:List Nat) (g:Nat→Nat) (ob:Obs) (X:Pan):fO:=fun ch s=>Co B S g ob s.gen s.obj∧X ch (jz S g s.gen) (fA S ob s.obj)
theorem zy (B:Nat) (S:List Nat) (hT:aX P T) (hm:P.follows .mixedOrders=true) {f:FuncId}{fn:Func}{c:Code} (hf:P.funcs[f]? = some fn) (hb:fn.body=some c) (hn:(fn.name == "runtime.NumGoroutine")=false)
  (rs:List ResultVar) (hres:fn.results=rs.toArray) (hcm:gw c=true) (hok:codeOk fn.ntmps c=true) (hargs:xs.length≤fn.ntmps){X:Pan}
  (hS:∀i∈S,i<B) (hB:∀i,B≤i→ob i=none)
  (h:∀b₀ β0 s0 w0,wpC (spF P none b₀ (xk b₀ β0 s0 w0) B (DQ B S g ob X)) T c (bx (Lh T rs B S g ob R)) ⟨cX xs,g,ob⟩):dN P f xs g ob R X:=by
 refine⟨⟨fn,hf,by rw[hb];rfl,hn⟩,fun b₀ N β a fa w vs hr0 hv=>?_⟩
 refine jW (n:=0) (callsIn_of_wp hf hb trivial ?_)
 have hr:=mV (N:=fn.ntmps) hargs hr0 hv
 refine wpIn_mono (cg (rd:=none) (B:=B) (ds:=[]) hT hm aa c hcm hok hr ⟨rfl,Tr.refl⟩ (h b₀ β ⟨cX xs,g,ob⟩ w)) (fun e a' w' hp=>?_)
 obtain⟨s',β',a0,ds',rfl,hQ,hr',rfl,ht⟩:=hp
 rcases hQ with hQ|⟨ch,rfl,hE,hX⟩
 ·have hres':Lh T rs B S g ob R .ret s'→∃v,(results fn a0.tmps).run P w'=.ok v w'∧Lg b₀ β fa g ob w R X (.returned v) w':=by
   rintro⟨s2,hvs,hR⟩
   obtain⟨β2,hr2,ht2⟩:=hvs b₀ fn.ntmps β' a0 w' hr'
   have hta:=ht.trans ht2
   obtain⟨v,avs,h1,⟨hE,rs',hfz,hR'⟩,h3,vs',rfl,h4⟩:=dX hT hr2 hres hR
   obtain⟨β3,hcv,k1,k2,k3,k4⟩:=xl (a0:=a) (fa:=fa) hr0 hr2 rfl rfl hta hS hB hE
   refine⟨kW vs',h1,.inl ⟨kW vs',_,_,_,β3,rfl,hR',xf (hfz.repL (fun id ho=>⟨(k3 id ho).1,(k3 id ho).2.1⟩) hr2 (fun id ho=>(k3 id ho).2.2) h4),k1,k2,k4⟩⟩
  cases e with
  |normal=>exact⟨rfl,hres' hQ⟩
  |ret=>exact⟨rfl,hres' hQ⟩
  |exit id=>exact hQ.elim
  |goto l=>exact hQ.elim
  |panic ch=>exact hQ.elim
  |outgrown=>exact hQ.elim
 ·obtain⟨β3,hcv,k1,k2,k3,k4⟩:=xl (a0:=a) (fa:=fa) hr0 hr' rfl rfl ht hS hB hE
  exact⟨rfl,.inr ⟨ch,_,_,β3,rfl,hX,k1,k2,k4⟩⟩
theorem dN.toR {f:FuncId} (h:dN P f xs g ob R (fun _ _ _=>False)):iN P f xs g ob R:=
 ⟨h.1,fun b₀ N β a fa w vs h1 h2=>(h.2 b₀ N β a fa w vs h1 h2).mono fun _ _ q=>q.elim id fun⟨_,_,_,_,_,h,_⟩=>h.elim⟩
theorem xm {t:Nat}{g g':Nat→Nat} (h:g' t=g t):jz [t] g g'=g:=by
 funext i
 simp only[jz,C5]
 split
 ·rename_i e;subst e;exact h
 ·rfl
theorem xn {t:Nat}{ob ob':Obs}:fA [t] ob ob'=upd ob t (ob' t):=by
 funext i
 simp only[fA,C5,upd]
 split
 ·rename_i e;subst e;rfl
 ·rfl
theorem DR {g g':Nat→Nat}:jz [] g g'=g:=by funext i;simp[jz]
theorem DS {ob ob':Obs}:fA [] ob ob'=ob:=by funext i;simp[fA]
theorem eE {α:Type}{P:Nat→Prop}{s:St}{id g sz n:Nat} (hp:P id) (hg:s.gen id=g) (l:List α) (enc:α→List D) (ho:s.obj id=some cells) (hc:cells=l.flatMap (fun a=>(enc a).map .d)) (hsz:∀a∈l,(enc a).length=sz) (hn:l.length=n) :
  fW P s (.osl id g sz 0 n) (.sl (l.map enc)):=by
 have hfl:(l.map enc).flatten.map C.d=cells:=by rw[hc,List.flatMap_def,List.map_flatten,Q5];rfl
 have hlen:(l.map enc).flatten.length=n*sz:=by
  rw[←hn];clear ho hc hn hfl
  induction l with
  |nil=>simp
  |cons a l ih=>simp only[l6,E5,j5,j6,hsz a a7,ih (fun b hb=>hsz b (by simp[hb])),D9];omega
 refine .osl hp hg ho (by rw[←hfl,j4,hlen];omega) (by simpa using hn) (fun e he=>by obtain⟨a,ha,rfl⟩:=F9.1 he;exact hsz a ha) (fun j=>.d ((l.map enc).flatten.getD j default)) (fun j x hx=>?_) (fun j x hx=>?_)
 ·rw[C2,←hfl,x7,hx]
  simp[List.getD,hx]
 ·simp only[List.getD,hx,y7]
  exact .d x
end
end
section
section
variable {P:Program}{T:Nat→TI}{b₀:Bs}{β:Loc}{w:World}
end
section
variable {P:Program}{T:Nat→TI}{b₀:Bs}{w:World}{rd:Option Nat}{Φ:St→Loc→List Deferred→World→Prop}{Ψ:fO}
def Pv (ops:Array Oper):Bool:=ops.toList.any fal
theorem dw (z:Prop) (hT:aX P T) (hm:P.follows .mixedOrders=true) (hΦ:aY b₀ Φ) {B id:Nat}{ops:Array Oper}{s:St}{Q:Exit→St→Prop}{q:Box Q} (ids:List Nat) (tb:List (List Nat×List Nat×List Nat×Bool)) (nid:Nat) (hnd0:ops.toList.all aJ=true) (hok:(sI ops tb nid&&Pv ops)=true) (hnid:ids.length=nid) (hnd:ids.Nodup)
  (h:dn (spF P rd b₀ Φ B Ψ) T ops ids z (jd ops.toList tb) s (bx fun s'=>z→Q .normal s')):ki (spF P rd b₀ Φ B Ψ) T id ops s q:=by
 rw[s6] at hok
 obtain⟨h1,I,h2,h3,h4⟩:=sK (Q:=Q) ids tb nid hok.1 hnid hnd h
 refine uR hT hm hΦ hnd0 h1 I h2 h3 (fun L s' h5 h6=>h4 L s' h5 h6 ?_)
 obtain⟨o,ho,hf⟩:=O7.1 hok.2
 obtain⟨i,hi⟩:=C3 ho
 exact .inl ⟨i,o,by simpa using hi,hf⟩
end
variable {v:AV}{y:Option (List C)}
section steps
variable {S:Sp}{T:Nat→TI}{ops:Array Oper}{ids:List Nat}{z:Prop}{f:Nat→AV}{g:Nat→Nat}{ob:Nat→Option (List C)}{K:St→Prop}{k:Box K}{op:Op}{ty:TypeId}{ps:String}{af:Array Edge}{gd:Option (Nat×Bool)}{rd hd:List Nat}{r:List Ent}{d:Nat}
theorem ar (hf:fal ⟨some d,op,ty,ps,af,gd⟩=false) (hg:GdE ops ⟨⟨some d,op,ty,ps,af,gd⟩,rd,hd,[],false⟩ ⟨f,g,ob⟩) (h1:∀(fa:Nat→AV) (ga:Nat→Nat) (oa:Nat→Option (List C)) (K':St→Prop),K' ⟨upd (maskf rd f fa) d v,maskm ids hd g ga,maskm ids hd ob oa⟩→opA S T ⟨some d,op,ty,ps,af,gd⟩ ⟨maskf rd f fa,maskm ids hd g ga,maskm ids hd ob oa⟩ (bx K'))
  (h2:dn S T ops ids z r ⟨upd f d v,g,ob⟩ k):dn S T ops ids z (⟨⟨some d,op,ty,ps,af,gd⟩,rd,hd,[],false⟩::r) ⟨f,g,ob⟩ k:=by
 unfold dn
 exact⟨v,[],⟨rfl,fun fa ga oa K' hK=>h1 fa ga oa K' (hK fun h=>by rw[hf] at h;cases h),hg⟩,h2⟩
theorem cG{a x:Nat} (hf:fal ⟨some d,op,ty,ps,af,gd⟩=false) (hg:GdE ops ⟨⟨some d,op,ty,ps,af,gd⟩,rd,hd,[a],false⟩ ⟨f,g,ob⟩) (h1:∀(fa:Nat→AV) (ga:Nat→Nat) (oa:Nat→Option (List C)) (K':St→Prop),K' ⟨upd (maskf rd f fa) d v,upd (maskm ids hd g ga) (ids.getD a 0) x,upd (maskm ids hd ob oa) (ids.getD a 0) y⟩→opA S T ⟨some d,op,ty,ps,af,gd⟩ ⟨maskf rd f fa,maskm ids hd g ga,maskm ids hd ob oa⟩ (bx K'))
  (h2:dn S T ops ids z r ⟨upd f d v,upd g (ids.getD a 0) x,upd ob (ids.getD a 0) y⟩ k):dn S T ops ids z (⟨⟨some d,op,ty,ps,af,gd⟩,rd,hd,[a],false⟩::r) ⟨f,g,ob⟩ k:=by
 unfold dn
 exact⟨v,[(x,y)],⟨rfl,fun fa ga oa K' hK=>h1 fa ga oa K' (hK fun h=>by rw[hf] at h;cases h),hg⟩,h2⟩
theorem dy{a:Nat} (hg:GdE ops ⟨⟨some d,op,ty,ps,af,gd⟩,rd,hd,[a],false⟩ ⟨f,g,ob⟩) (hv:ids.getD a 0∉hd.map (fun b=>ids.getD b 0)) (h1:∀(fa:Nat→AV) (ga:Nat→Nat) (oa:Nat→Option (List C)) (K':St→Prop),(z→K' ⟨upd (maskf rd f fa) d v,maskm ids hd g ga,upd (maskm ids hd ob oa) (ids.getD a 0) y⟩)→opA S T ⟨some d,op,ty,ps,af,gd⟩ ⟨maskf rd f fa,maskm ids hd g ga,maskm ids hd ob oa⟩ (bx K'))
  (h2:dn S T ops ids z r ⟨upd f d v,g,upd ob (ids.getD a 0) y⟩ k):dn S T ops ids z (⟨⟨some d,op,ty,ps,af,gd⟩,rd,hd,[a],false⟩::r) ⟨f,g,ob⟩ k:=by
 have hself:∀(α:Type) (h:Nat→α) (i:Nat),upd h i (h i)=h:=fun α h i=>by funext j;simp only[upd];split <;> simp_all
 have hmask:∀ga:Nat→Nat,maskm ids hd g ga (ids.getD a 0)=g (ids.getD a 0):=fun ga=>by
  clear h1 h2 hg
  induction hd with
  |nil=>rfl
  |cons b bs ih=>
    exact W6
 unfold dn
 refine⟨v,[(g (ids.getD a 0),y)],⟨rfl,fun fa ga oa K' hK=>h1 fa ga oa K' (fun hz=>?_),hg⟩,?_⟩
 ·have e:kV ids ⟨⟨some d,op,ty,ps,af,gd⟩,rd,hd,[a],false⟩ v [(g (ids.getD a 0),y)] ⟨maskf rd f fa,maskm ids hd g ga,maskm ids hd ob oa⟩=⟨upd (maskf rd f fa) d v,maskm ids hd g ga,upd (maskm ids hd ob oa) (ids.getD a 0) y⟩:=by
   simp only[kV,vL,setm,l6,v7]
   rw[←hmask ga,hself]
  rw[←e];exact hK fun _=>hz
 ·have e:kV ids ⟨⟨some d,op,ty,ps,af,gd⟩,rd,hd,[a],false⟩ v [(g (ids.getD a 0),y)] ⟨f,g,ob⟩=⟨upd f d v,g,upd ob (ids.getD a 0) y⟩:=by
   simp only[kV,vL,setm,l6,v7]
   rw[hself]
  rw[e];exact h2
theorem dA {o:Oper}{ef:List Nat} (hf:fal o=false) (hg:GdE ops ⟨o,rd,hd,ef,true⟩ ⟨f,g,ob⟩) (h:∀K':St→Prop,(∀s'',K s''→K' s'')→opA S T o ⟨f,g,ob⟩ (bx K')):dn S T ops ids z [⟨o,rd,hd,ef,true⟩] ⟨f,g,ob⟩ k:=by
 unfold dn
 exact⟨⟨fun h'=>(by rw[hf] at h';cases h'),h⟩,hg⟩
end steps
end
end
section
attribute [local congr] Go.Am.ite_cc
section
section
variable {P:Program}{b₀:Bs}{rd:Option Nat}{B0:Nat}{Ψ:fO}{op:Oper}{s:St}{K:St→Prop}{k:Box K}{f:FuncId}{args:Array Operand}{tys:Array TypeId}{R:AV→Prop}{β0:Loc}{s0:St}{w0:World}
theorem cP (ho:op.op=.call ⟨.value (.func f),args,tys⟩) (hp:aA P f (args.toList.map s.ev) R) (hk:∀r,R r→K (s.put op.dst r)) (hd:(args.toList.map s.ev).all eF=true:=by simp only[go_sem];rfl):bh (sp P) op s k:=
 eN ho hp hd hk
theorem cQ {gb:Nat}{o:cO} (ho:op.op=.call ⟨.value (.func f),args,tys⟩) (hp:bW P gb o f (args.toList.map s.ev) R) (hk:∀r,R r→K (s.put op.dst r)) (hd:(args.toList.map s.ev).all eF=true:=by simp only[go_sem];rfl):bh (spF P rd b₀ (DO gb o b₀ β0 s0 w0) B0 Ψ) op s k:=
 oT aW (fun _ _ _ _ h=>h.1.2) ho hp hd hk
theorem gU {gb:Nat}{o:cO} (ho:op.op=.call ⟨.value (.func f),args,tys⟩) (hp:aA P f (args.toList.map s.ev) R) (hk:∀r,R r→K (s.put op.dst r)) (hd:(args.toList.map s.ev).all eF=true:=by simp only[go_sem];rfl):bh (spF P rd b₀ (DO gb o b₀ β0 s0 w0) B0 Ψ) op s k:=
 kn aW ho hp hd hk
theorem Pw (ho:op.op=.call ⟨.value (.func f),args,tys⟩) (hp:aA P f (args.toList.map s.ev) R) (hk:∀r,R r→K (s.put op.dst r)) (hd:(args.toList.map s.ev).all eF=true:=by simp only[go_sem];rfl):bh (spF P rd b₀ (xk b₀ β0 s0 w0) B0 Ψ) op s k:=
 kn aa ho hp hd hk
end
end
end
end Go.Am
namespace Go.Proofs.YthnomjfdcidgbaaGreatDoor
section
attribute [local congr] Go.Am.ite_cc
open Go Go.Am
section
def ti2:TI:=⟨.int .i64,1,8,[.int .i64 0]⟩
def ti4:TI:=⟨.bool,1,1,[.bool false]⟩
def ti5:TI:=⟨.int .u8,1,1,[.int .u8 0]⟩
def ti7:TI:=⟨.struct #[⟨ "x",2,0,false,"","runtime",0⟩,⟨ "y",3,1,false,"","runtime",8⟩,⟨ "signed",4,2,false,"","runtime",16⟩,⟨ "code",6,3,false,"","runtime",17⟩],4,24,[.int .i64 0,.int .i64 0,.bool false,.int .u8 0]⟩
def ti9:TI:=⟨.string,1,16,[.str []]⟩
def Et:TI:=⟨.int .u64,1,8,[.int .u64 0]⟩
def LE:TI:=⟨.struct #[⟨ "msg",9,0,false,"","runtime",0⟩,⟨ "addr",12,1,false,"","runtime",16⟩],2,24,[.str [],.int .u64 0]⟩
def PM:TI:=⟨.pointer 322,1,8,[.nilp]⟩
def PN:TI:=⟨.pointer 325,1,8,[.nilp]⟩
def PO:TI:=⟨.pointer 332,1,8,[.nilp]⟩
def LF:TI:=⟨.struct #[⟨ "typ",17,0,false,"","internal/runtime/maps",0⟩],1,8,[.nilp]⟩
def PP:TI:=⟨.interface #[],1,16,[.nili]⟩
def LG:TI:=⟨.slice 9,1,24,[.nsl]⟩
def LH:TI:=⟨.slice 76,1,24,[.nsl]⟩
def LI:TI:=⟨.slice 89,1,24,[.nsl]⟩
def HF:TI:=⟨.struct #[⟨ "Vars",26,0,false,"","",0⟩,⟨ "Arrays",27,1,false,"","",24⟩,⟨ "Funcs",28,2,false,"","",48⟩],3,72,[.nsl,.nsl,.nsl]⟩
def LJ:TI:=⟨.slice 74,1,24,[.nsl]⟩
def HG:TI:=⟨.struct #[⟨ "Code",33,0,false,"","",0⟩,⟨ "Data",3,1,false,"","",24⟩],2,32,[.nsl,.int .i64 0]⟩
def PQ:TI:=⟨.func #[30] #[35,23] false,1,8,[.nilf]⟩
def PS:TI:=⟨.func #[35] #[9,23] false,1,8,[.nilf]⟩
def HH:TI:=⟨.struct #[⟨ "End",3,0,false,"","",0⟩,⟨ "Out",9,1,false,"","",8⟩,⟨ "Steps",3,2,false,"","",24⟩],3,32,[.int .i64 0,.str [],.int .i64 0]⟩
def LK:TI:=⟨.slice 104,1,24,[.nsl]⟩
def PT:TI:=⟨.pointer 56,1,8,[.nilp]⟩
def HI:TI:=⟨.struct #[⟨ "l",51,0,false,"","seedcorn/seedcornref15",0⟩,⟨ "at",3,1,false,"","seedcorn/seedcornref15",24⟩,⟨ "wrong",4,2,false,"","seedcorn/seedcornref15",32⟩],3,40,[.nsl,.int .i64 0,.bool false]⟩
def LL:TI:=⟨.slice 123,1,24,[.nsl]⟩
def HJ:TI:=⟨.struct #[⟨ "Words",3,0,false,"","",0⟩,⟨ "Funcs",60,1,false,"","",8⟩],2,32,[.int .i64 0,.nsl]⟩
def LM:TI:=⟨.slice 142,1,24,[.nsl]⟩
def HK:TI:=⟨.struct #[⟨ "Words",3,0,false,"","",0⟩,⟨ "Funcs",67,1,false,"","",8⟩],2,32,[.int .i64 0,.nsl]⟩
def PU:TI:=⟨.func #[62] #[35,23] false,1,8,[.nilf]⟩
def HL:TI:=⟨.int .u32,1,4,[.int .u32 0]⟩
def Eu:TI:=⟨.struct #[⟨ "Name",9,0,false,"","",0⟩,⟨ "Size",3,1,false,"","",16⟩],2,24,[.str [],.int .i64 0]⟩
def PV:TI:=⟨.pointer 81,1,8,[.nilp]⟩
def LN:TI:=⟨.slice 5,1,24,[.nsl]⟩
def LO:TI:=⟨.struct #[⟨ "addr",78,0,false,"","strings",0⟩,⟨ "buf",79,1,false,"","strings",8⟩],2,32,[.nilp,.nsl]⟩
def LP:TI:=⟨.struct #[⟨ "text",81,0,false,"","seedcorn/syntax",0⟩],2,32,[.nilp,.nsl]⟩
def LQ:TI:=⟨.slice 156,1,24,[.nsl]⟩
def Ev:TI:=⟨.struct #[⟨ "Name",9,0,false,"","",0⟩,⟨ "Params",26,1,false,"","",16⟩,⟨ "Locals",26,2,false,"","",40⟩,⟨ "Word",4,3,false,"","",64⟩,⟨ "Body",87,4,false,"","",72⟩],5,96,[.str [],.nsl,.nsl,.bool false,.nsl]⟩
def LR:TI:=⟨.array 16 74,16,64,[.int .u32 0,.int .u32 0,.int .u32 0,.int .u32 0,.int .u32 0,.int .u32 0,.int .u32 0,.int .u32 0,.int .u32 0,.int .u32 0,.int .u32 0,.int .u32 0,.int .u32 0,.int .u32 0,.int .u32 0,.int .u32 0]⟩
def HM:TI:=⟨.struct #[⟨ "PC",3,0,false,"","",0⟩,⟨ "Reg",93,1,false,"","",8⟩,⟨ "Mem",33,17,false,"","",72⟩,⟨ "Read",3,18,false,"","",96⟩,⟨ "Out",9,19,false,"","",104⟩,⟨ "Steps",3,20,false,"","",120⟩,⟨ "End",3,21,false,"","",128⟩],22,136,[.int .i64 0,.int .u32 0,.int .u32 0,.int .u32 0,.int .u32 0,.int .u32 0,.int .u32 0,.int .u32 0,.int .u32 0,.int .u32 0,.int .u32 0,.int .u32 0,.int .u32 0,.int .u32 0,.int .u32 0,.int .u32 0,.int .u32 0,.nsl,.int .i64 0,.str [],.int .i64 0,.int .i64 0]⟩
def Ka:TI:=⟨.pointer 164,1,8,[.nilp]⟩
def Kb:TI:=⟨.func #[100] #[] false,1,8,[.nilf]⟩
def xJ:TI:=⟨.struct #[⟨ "Kind",3,0,false,"","",0⟩,⟨ "Text",9,1,false,"","",8⟩,⟨ "Num",74,2,false,"","",24⟩,⟨ "At",3,3,false,"","",32⟩],4,40,[.int .i64 0,.str [],.int .u32 0,.int .i64 0]⟩
def Ew:TI:=⟨.map 9 119,1,8,[.nilm]⟩
def Bf:TI:=⟨.struct #[⟨ "outside",113,0,false,"","seedcorn/core",0⟩,⟨ "inside",113,1,false,"","seedcorn/core",8⟩],2,16,[.nilm,.nilm]⟩
def Bg:TI:=⟨.struct #[⟨ "slot",3,0,false,"","seedcorn/core",0⟩,⟨ "size",3,1,false,"","seedcorn/core",8⟩],2,16,[.int .i64 0,.int .i64 0]⟩
def Ey:TI:=⟨.slice 178,1,24,[.nsl]⟩
def xK:TI:=⟨.struct #[⟨ "Params",3,0,false,"","",0⟩,⟨ "Slots",3,1,false,"","",8⟩,⟨ "First",3,2,false,"","",16⟩,⟨ "Word",4,3,false,"","",24⟩,⟨ "Body",120,4,false,"","",32⟩],5,56,[.int .i64 0,.int .i64 0,.int .i64 0,.bool false,.nsl]⟩
def Ez:TI:=⟨.slice 125,1,24,[.nsl]⟩
def Bh:TI:=⟨.slice 3,1,24,[.nsl]⟩
def Bi:TI:=⟨.struct #[⟨ "depths",124,0,false,"","seedcorn/emit",0⟩,⟨ "back",125,1,false,"","seedcorn/emit",24⟩,⟨ "base",125,2,false,"","seedcorn/emit",48⟩,⟨ "data",3,3,false,"","seedcorn/emit",72⟩],4,80,[.nsl,.nsl,.nsl,.int .i64 0]⟩
def Kc:TI:=⟨.pointer 133,1,8,[.nilp]⟩
def EA:TI:=⟨.slice 136,1,24,[.nsl]⟩
def EB:TI:=⟨.slice 186,1,24,[.nsl]⟩
def Bj:TI:=⟨.struct #[⟨ "s",69,0,false,"","seedcorn/emit",0⟩,⟨ "plan",127,2,false,"","seedcorn/emit",32⟩,⟨ "code",130,6,false,"","seedcorn/emit",112⟩,⟨ "entry",125,7,false,"","seedcorn/emit",136⟩,⟨ "places",124,8,false,"","seedcorn/emit",160⟩,⟨ "holes",131,9,false,"","seedcorn/emit",184⟩,⟨ "f",3,10,false,"","seedcorn/emit",208⟩,⟨ "depth",3,11,false,"","seedcorn/emit",216⟩],12,224,[.int .i64 0,.nsl,.nsl,.nsl,.nsl,.int .i64 0,.nsl,.nsl,.nsl,.nsl,.int .i64 0,.int .i64 0]⟩
def xL:TI:=⟨.struct #[⟨ "Op",3,0,false,"","",0⟩,⟨ "A",3,1,false,"","",8⟩,⟨ "B",3,2,false,"","",16⟩,⟨ "C",3,3,false,"","",24⟩],4,32,[.int .i64 0,.int .i64 0,.int .i64 0,.int .i64 0]⟩
def EC:TI:=⟨.slice 237,1,24,[.nsl]⟩
def xM:TI:=⟨.struct #[⟨ "Params",3,0,false,"","",0⟩,⟨ "Slots",3,1,false,"","",8⟩,⟨ "First",3,2,false,"","",16⟩,⟨ "Word",4,3,false,"","",24⟩,⟨ "Code",139,4,false,"","",32⟩],5,56,[.int .i64 0,.int .i64 0,.int .i64 0,.bool false,.nsl]⟩
def Kd:TI:=⟨.pointer 83,1,8,[.nilp]⟩
def ED:TI:=⟨.slice 210,1,24,[.nsl]⟩
def xN:TI:=⟨.struct #[⟨ "Kind",3,0,false,"","",0⟩,⟨ "Name",9,1,false,"","",8⟩,⟨ "E",154,2,false,"","",24⟩,⟨ "Then",87,3,false,"","",48⟩,⟨ "Else",87,4,false,"","",72⟩],5,96,[.int .i64 0,.str [],.nsl,.nsl,.nsl]⟩
def Ke:TI:=⟨.pointer 5,1,8,[.nilp]⟩
def Bk:TI:=⟨.struct #[⟨ "at",3,0,false,"","seedcorn/parse",0⟩],1,8,[.int .i64 0]⟩
def Bl:TI:=⟨.struct #[⟨ "tokens",51,0,false,"","seedcorn/parse",0⟩,⟨ "next",3,1,false,"","seedcorn/parse",24⟩,⟨ "end",3,2,false,"","seedcorn/parse",32⟩],3,40,[.nsl,.int .i64 0,.int .i64 0]⟩
def Kf:TI:=⟨.func #[5] #[4] false,1,8,[.nilf]⟩
def EE:TI:=⟨.slice 231,1,24,[.nsl]⟩
def xO:TI:=⟨.struct #[⟨ "Kind",3,0,false,"","",0⟩,⟨ "Slot",3,1,false,"","",8⟩,⟨ "Size",3,2,false,"","",16⟩,⟨ "E",175,3,false,"","",24⟩,⟨ "Then",120,4,false,"","",48⟩,⟨ "Else",120,5,false,"","",72⟩],6,96,[.int .i64 0,.int .i64 0,.int .i64 0,.nsl,.nsl,.nsl]⟩
def EF:TI:=⟨.map 3 241,1,8,[.nilm]⟩
def xP:TI:=⟨.struct #[⟨ "at",3,0,false,"","seedcorn/emit",0⟩,⟨ "f",3,1,false,"","seedcorn/emit",8⟩,⟨ "place",3,2,false,"","seedcorn/emit",16⟩],3,24,[.int .i64 0,.int .i64 0,.int .i64 0]⟩
def Bm:TI:=⟨.struct #[⟨ "word",4,0,false,"","seedcorn/lower",0⟩,⟨ "code",139,1,false,"","seedcorn/lower",8⟩],2,32,[.bool false,.nsl]⟩
def EG:TI:=⟨.func #[154] #[] false,1,8,[.nilf]⟩
def EH:TI:=⟨.slice 4,1,24,[.nsl]⟩
def Bn:TI:=⟨.struct #[⟨ "s",95,0,false,"","seedcorn/seedcornref10",0⟩,⟨ "out",79,22,false,"","seedcorn/seedcornref10",136⟩,⟨ "code",130,23,false,"","seedcorn/seedcornref10",160⟩,⟨ "ok",196,24,false,"","seedcorn/seedcornref10",184⟩,⟨ "words",33,25,false,"","seedcorn/seedcornref10",208⟩,⟨ "in",9,26,false,"","seedcorn/seedcornref10",232⟩,⟨ "counts",125,27,false,"","seedcorn/seedcornref10",248⟩],28,272,[.int .i64 0,.int .u32 0,.int .u32 0,.int .u32 0,.int .u32 0,.int .u32 0,.int .u32 0,.int .u32 0,.int .u32 0,.int .u32 0,.int .u32 0,.int .u32 0,.int .u32 0,.int .u32 0,.int .u32 0,.int .u32 0,.int .u32 0,.nsl,.int .i64 0,.str [],.int .i64 0,.int .i64 0,.nsl,.nsl,.nsl,.nsl,.str [],.nsl]⟩
def xQ:TI:=⟨.struct #[⟨ "Kind",3,0,false,"","",0⟩,⟨ "Op",3,1,false,"","",8⟩,⟨ "Num",74,2,false,"","",16⟩,⟨ "Name",9,3,false,"","",24⟩,⟨ "Kids",154,4,false,"","",40⟩],5,64,[.int .i64 0,.int .i64 0,.int .u32 0,.str [],.nsl]⟩
def EI:TI:=⟨.map 9 222,1,8,[.nilm]⟩
def Bo:TI:=⟨.struct #[⟨ "outside",212,0,false,"","seedcorn/scope",0⟩,⟨ "inside",212,1,false,"","seedcorn/scope",8⟩],2,16,[.nilm,.nilm]⟩
def Bp:TI:=⟨.struct #[⟨ "kind",3,0,false,"","seedcorn/scope",0⟩,⟨ "name",9,1,false,"","seedcorn/scope",8⟩,⟨ "arguments",3,2,false,"","seedcorn/scope",24⟩],3,32,[.int .i64 0,.str [],.int .i64 0]⟩
def Bq:TI:=⟨.struct #[⟨ "kind",3,0,false,"","seedcorn/scope",0⟩,⟨ "number",3,1,false,"","seedcorn/scope",8⟩],2,16,[.int .i64 0,.int .i64 0]⟩
def EJ:TI:=⟨.func #[220] #[] false,1,8,[.nilf]⟩
def Kg:TI:=⟨.pointer 293,1,8,[.nilp]⟩
def xR:TI:=⟨.struct #[⟨ "Kind",3,0,false,"","",0⟩,⟨ "Op",3,1,false,"","",8⟩,⟨ "Num",74,2,false,"","",16⟩,⟨ "Slot",3,3,false,"","",24⟩,⟨ "Size",3,4,false,"","",32⟩,⟨ "Kids",175,5,false,"","",40⟩],6,64,[.int .i64 0,.int .i64 0,.int .u32 0,.int .i64 0,.int .i64 0,.nsl]⟩
def Br:TI:=⟨.struct #[⟨ "items",125,0,false,"","seedcorn/stack",0⟩],1,24,[.nsl]⟩
def xS:TI:=⟨.struct #[⟨ "Op",3,0,false,"","",0⟩,⟨ "A",3,1,false,"","",8⟩,⟨ "B",3,2,false,"","",16⟩,⟨ "N",74,3,false,"","",24⟩],4,32,[.int .i64 0,.int .i64 0,.int .i64 0,.int .u32 0]⟩
def EK:TI:=⟨.func #[129,237] #[] false,1,8,[.nilf]⟩
def Bt:TI:=⟨.struct #[⟨ "name",9,0,false,"","seedcorn/inst",0⟩,⟨ "a",4,1,false,"","seedcorn/inst",16⟩,⟨ "b",4,2,false,"","seedcorn/inst",17⟩,⟨ "c",3,3,false,"","seedcorn/inst",24⟩],4,32,[.str [],.bool false,.bool false,.int .i64 0]⟩
def EL:TI:=⟨.pointer 189,1,8,[.nilp]⟩
def Kh:TI:=⟨.pointer 178,1,8,[.nilp]⟩
def Ki:TI:=⟨.slice 258,1,24,[.nsl]⟩
def EM:TI:=⟨.struct #[⟨ "Name",9,0,false,"","",0⟩,⟨ "As",3,1,false,"","",16⟩,⟨ "Of",3,2,false,"","",24⟩],3,32,[.str [],.int .i64 0,.int .i64 0]⟩
def Kj:TI:=⟨.unsafePointer,1,8,[.nilp]⟩
def Kk:TI:=⟨.array 24 5,24,24,[.int .u8 0,.int .u8 0,.int .u8 0,.int .u8 0,.int .u8 0,.int .u8 0,.int .u8 0,.int .u8 0,.int .u8 0,.int .u8 0,.int .u8 0,.int .u8 0,.int .u8 0,.int .u8 0,.int .u8 0,.int .u8 0,.int .u8 0,.int .u8 0,.int .u8 0,.int .u8 0,.int .u8 0,.int .u8 0,.int .u8 0,.int .u8 0]⟩
def Kl:TI:=⟨.pointer 200,1,8,[.nilp]⟩
def Km:TI:=⟨.array 24 9,24,384,[.str [],.str [],.str [],.str [],.str [],.str [],.str [],.str [],.str [],.str [],.str [],.str [],.str [],.str [],.str [],.str [],.str [],.str [],.str [],.str [],.str [],.str [],.str [],.str []]⟩
def EN:TI:=⟨.func #[87] #[] false,1,8,[.nilf]⟩
def EO:TI:=⟨.map 9 89,1,8,[.nilm]⟩
def EP:TI:=⟨.func #[210] #[3] false,1,8,[.nilf]⟩
def EQ:TI:=⟨.array 10 290,10,80,[.nilf,.nilf,.nilf,.nilf,.nilf,.nilf,.nilf,.nilf,.nilf,.nilf]⟩
def Bu:TI:=⟨.struct #[⟨ "funcs",289,0,false,"","seedcorn/typing",0⟩,⟨ "ask",291,1,false,"","seedcorn/typing",8⟩],11,88,[.nilm,.nilf,.nilf,.nilf,.nilf,.nilf,.nilf,.nilf,.nilf,.nilf,.nilf]⟩
def Kn:TI:=⟨.pointer 233,1,8,[.nilp]⟩
def Ko:TI:=⟨.pointer 231,1,8,[.nilp]⟩
def Kp:TI:=⟨.array 20 153,20,160,[.int .u64 0,.int .u64 0,.int .u64 0,.int .u64 0,.int .u64 0,.int .u64 0,.int .u64 0,.int .u64 0,.int .u64 0,.int .u64 0,.int .u64 0,.int .u64 0,.int .u64 0,.int .u64 0,.int .u64 0,.int .u64 0,.int .u64 0,.int .u64 0,.int .u64 0,.int .u64 0]⟩
def Kq:TI:=⟨.array 10 9,10,160,[.str [],.str [],.str [],.str [],.str [],.str [],.str [],.str [],.str [],.str []]⟩
def Kr:TI:=⟨.array 12 9,12,192,[.str [],.str [],.str [],.str [],.str [],.str [],.str [],.str [],.str [],.str [],.str [],.str []]⟩
def Ks:TI:=⟨.array 32 5,32,32,[.int .u8 0,.int .u8 0,.int .u8 0,.int .u8 0,.int .u8 0,.int .u8 0,.int .u8 0,.int .u8 0,.int .u8 0,.int .u8 0,.int .u8 0,.int .u8 0,.int .u8 0,.int .u8 0,.int .u8 0,.int .u8 0,.int .u8 0,.int .u8 0,.int .u8 0,.int .u8 0,.int .u8 0,.int .u8 0,.int .u8 0,.int .u8 0,.int .u8 0,.int .u8 0,.int .u8 0,.int .u8 0,.int .u8 0,.int .u8 0,.int .u8 0,.int .u8 0]⟩
def Tt:Nat→TI:=AS [(2,ti2),(3,ti2),(4,ti4),(5,ti5),(6,ti5),(7,ti7),(8,ti7),(9,ti9),(10,ti9),(11,ti9),(12,Et),(13,LE),(14,LE),(15,PM),(16,PN),(17,PO),(18,LF),(19,LF),(20,PP),(23,ti2),(26,LG),(27,LH),(28,LI),(29,HF),(30,HF),(33,LJ),(34,HG),(35,HG),(37,PQ),(39,PS),(45,HH),(46,HH),(51,LK),(54,PT),(55,HI),(56,HI),(60,LL),(61,HJ),(62,HJ),(67,LM),(68,HK),(69,HK),(71,PU),(74,HL),(75,Eu),(76,Eu),(78,PV),(79,LN),(80,LO),(81,LO),(82,LP),(83,LP),(87,LQ),(88,Ev),(89,Ev),(93,LR),(94,HM),(95,HM),(100,Ka),(101,Kb),(103,xJ),(104,xJ),(113,Ew),(116,Bf),(117,Bf),(118,Bg),(119,Bg),(120,Ey),(122,xK),(123,xK),(124,Ez),(125,Bh),(126,Bi),(127,Bi),(129,Kc),(130,EA),(131,EB),(132,Bj),(133,Bj),(135,xL),(136,xL),(139,EC),(141,xM),(142,xM),(143,Et),(146,Kd),(153,Et),(154,ED),(155,xN),(156,xN),(158,Ke),(161,Bk),(162,Bk),(163,Bl),(164,Bl),(167,Kf),(175,EE),(177,xO),(178,xO),(181,EF),(185,xP),(186,xP),(188,Bm),(189,Bm),(195,EG),(196,EH),(199,Bn),(200,Bn),(209,xQ),(210,xQ),(212,EI),(216,Bo),(217,Bo),(219,Bp),(220,Bp),(221,Bq),(222,Bq),(224,EJ),(225,Kg),(230,xR),(231,xR),(232,Br),(233,Br),(236,xS),(237,xS),(241,EK),(243,Bt),(244,Bt),(247,EL),(249,Kh),(253,Ki),(257,EM),(258,EM),(262,Kj),(266,Kk),(274,Kl),(279,Km),(288,EN),(289,EO),(290,EP),(291,EQ),(292,Bu),(293,Bu),(295,Kn),(298,Ko),(304,Kp),(310,Kq),(312,Kr),(319,Ks),(327,ti5)]
theorem aU:aX Tryz.prog Tt:=Cs c8
attribute [go_sem] ti2 ti4 ti5 ti7 ti9 Et LE PM PN PO LF PP LG LH LI HF LJ HG PQ PS HH LK PT HI LL HJ LM HK PU HL Eu PV LN LO LP LQ Ev LR HM Ka Kb xJ Ew Bf Bg Ey xK Ez Bh Bi Kc EA EB Bj xL EC xM Kd ED xN Ke Bk Bl Kf EE xO EF xP Bm EG EH Bn xQ EI Bo Bp Bq EJ Kg xR Br xS EK Bt EL Kh Ki EM Kj Kk Kl Km EN EO EP EQ Bu Kn Ko Kp Kq Kr Ks
theorem mixed:Tryz.prog.follows .mixedOrders=true:=c8
@[go_sem] theorem Un:Tt 3=ti2:=j9 rfl rfl
@[go_sem] theorem Uo:Tt 4=ti4:=j9 rfl rfl
@[go_sem] theorem Up:Tt 5=ti5:=j9 rfl rfl
@[go_sem] theorem Uq:Tt 9=ti9:=j9 rfl rfl
@[go_sem] theorem SC:dg Tt 9=false:=j9 rfl rfl
@[go_sem] theorem TQ:Tt 23=ti2:=j9 rfl rfl
@[go_sem] theorem TR:Tt 26=LG:=j9 rfl rfl
@[go_sem] theorem RP:aV Tt 26=ti9:=j9 rfl rfl
@[go_sem] theorem RR:dg Tt 26=true:=j9 rfl rfl
@[go_sem] theorem TS:Tt 27=LH:=j9 rfl rfl
@[go_sem] theorem RS:aV Tt 27=Eu:=j9 rfl rfl
@[go_sem] theorem RT:dg Tt 27=true:=j9 rfl rfl
@[go_sem] theorem TT:Tt 28=LI:=j9 rfl rfl
@[go_sem] theorem RU:aV Tt 28=Ev:=j9 rfl rfl
@[go_sem] theorem RW:dg Tt 28=true:=j9 rfl rfl
@[go_sem] theorem TU:Tt 30=HF:=j9 rfl rfl
@[go_sem] theorem RX:fU Tt 30=true:=j9 rfl rfl
@[go_sem] theorem TV:Tt 33=LJ:=j9 rfl rfl
@[go_sem] theorem RY:aV Tt 33=HL:=j9 rfl rfl
@[go_sem] theorem RZ:dg Tt 33=true:=j9 rfl rfl
@[go_sem] theorem TW:Tt 35=HG:=j9 rfl rfl
@[go_sem] theorem Sa:fU Tt 35=true:=j9 rfl rfl
@[go_sem] theorem TX:Tt 46=HH:=j9 rfl rfl
@[go_sem] theorem Sb:fU Tt 46=true:=j9 rfl rfl
@[go_sem] theorem TY:Tt 51=LK:=j9 rfl rfl
@[go_sem] theorem Sc:aV Tt 51=xJ:=j9 rfl rfl
@[go_sem] theorem Sd:dg Tt 51=true:=j9 rfl rfl
@[go_sem] theorem TZ:Tt 56=HI:=j9 rfl rfl
@[go_sem] theorem Se:fU Tt 56=true:=j9 rfl rfl
@[go_sem] theorem Ua:Tt 60=LL:=j9 rfl rfl
@[go_sem] theorem Sf:aV Tt 60=xK:=j9 rfl rfl
@[go_sem] theorem Sg:dg Tt 60=true:=j9 rfl rfl
@[go_sem] theorem Ub:Tt 62=HJ:=j9 rfl rfl
@[go_sem] theorem Sh:fU Tt 62=true:=j9 rfl rfl
@[go_sem] theorem Uc:Tt 67=LM:=j9 rfl rfl
@[go_sem] theorem Si:aV Tt 67=xM:=j9 rfl rfl
@[go_sem] theorem Sj:dg Tt 67=true:=j9 rfl rfl
@[go_sem] theorem Ud:Tt 69=HK:=j9 rfl rfl
@[go_sem] theorem Sk:fU Tt 69=true:=j9 rfl rfl
@[go_sem] theorem Ue:Tt 74=HL:=j9 rfl rfl
@[go_sem] theorem Uf:Tt 76=Eu:=j9 rfl rfl
@[go_sem] theorem Sl:fU Tt 76=true:=j9 rfl rfl
@[go_sem] theorem Ug:Tt 79=LN:=j9 rfl rfl
@[go_sem] theorem Sm:aV Tt 79=ti5:=j9 rfl rfl
@[go_sem] theorem Sn:dg Tt 79=true:=j9 rfl rfl
@[go_sem] theorem Uh:Tt 87=LQ:=j9 rfl rfl
@[go_sem] theorem So:aV Tt 87=xN:=j9 rfl rfl
@[go_sem] theorem Sq:dg Tt 87=true:=j9 rfl rfl
@[go_sem] theorem Ui:Tt 89=Ev:=j9 rfl rfl
@[go_sem] theorem Sr:fU Tt 89=true:=j9 rfl rfl
@[go_sem] theorem Uj:Tt 93=LR:=j9 rfl rfl
@[go_sem] theorem Ss:dg Tt 93=false:=j9 rfl rfl
@[go_sem] theorem Uk:Tt 95=HM:=j9 rfl rfl
@[go_sem] theorem Su:fU Tt 95=true:=j9 rfl rfl
@[go_sem] theorem SD:Tt 104=xJ:=j9 rfl rfl
@[go_sem] theorem PW:fU Tt 104=true:=j9 rfl rfl
@[go_sem] theorem SE:Tt 113=Ew:=j9 rfl rfl
@[go_sem] theorem SF:Tt 117=Bf:=j9 rfl rfl
@[go_sem] theorem PX:fU Tt 117=true:=j9 rfl rfl
@[go_sem] theorem SG:Tt 119=Bg:=j9 rfl rfl
@[go_sem] theorem PY:fU Tt 119=true:=j9 rfl rfl
@[go_sem] theorem SH:Tt 120=Ey:=j9 rfl rfl
@[go_sem] theorem PZ:aV Tt 120=xO:=j9 rfl rfl
@[go_sem] theorem Qa:dg Tt 120=true:=j9 rfl rfl
@[go_sem] theorem SI:Tt 123=xK:=j9 rfl rfl
@[go_sem] theorem Qb:fU Tt 123=true:=j9 rfl rfl
@[go_sem] theorem SJ:Tt 124=Ez:=j9 rfl rfl
@[go_sem] theorem Qc:aV Tt 124=Bh:=j9 rfl rfl
@[go_sem] theorem Qd:dg Tt 124=true:=j9 rfl rfl
@[go_sem] theorem SK:Tt 125=Bh:=j9 rfl rfl
@[go_sem] theorem Qe:aV Tt 125=ti2:=j9 rfl rfl
@[go_sem] theorem Qf:dg Tt 125=true:=j9 rfl rfl
@[go_sem] theorem SL:Tt 127=Bi:=j9 rfl rfl
@[go_sem] theorem Qg:fU Tt 127=true:=j9 rfl rfl
@[go_sem] theorem SM:Tt 130=EA:=j9 rfl rfl
@[go_sem] theorem Qh:aV Tt 130=xL:=j9 rfl rfl
@[go_sem] theorem Qi:dg Tt 130=true:=j9 rfl rfl
@[go_sem] theorem SN:Tt 131=EB:=j9 rfl rfl
@[go_sem] theorem Qj:aV Tt 131=xP:=j9 rfl rfl
@[go_sem] theorem Qk:dg Tt 131=true:=j9 rfl rfl
@[go_sem] theorem SO:Tt 133=Bj:=j9 rfl rfl
@[go_sem] theorem Ql:fU Tt 133=true:=j9 rfl rfl
@[go_sem] theorem SP:Tt 136=xL:=j9 rfl rfl
@[go_sem] theorem Qm:fU Tt 136=true:=j9 rfl rfl
@[go_sem] theorem SQ:Tt 139=EC:=j9 rfl rfl
@[go_sem] theorem Qn:aV Tt 139=xS:=j9 rfl rfl
@[go_sem] theorem Qo:dg Tt 139=true:=j9 rfl rfl
@[go_sem] theorem SR:Tt 142=xM:=j9 rfl rfl
@[go_sem] theorem Qp:fU Tt 142=true:=j9 rfl rfl
@[go_sem] theorem SS:Tt 153=Et:=j9 rfl rfl
@[go_sem] theorem ST:Tt 154=ED:=j9 rfl rfl
@[go_sem] theorem Qq:aV Tt 154=xQ:=j9 rfl rfl
@[go_sem] theorem Qr:dg Tt 154=true:=j9 rfl rfl
@[go_sem] theorem SV:Tt 156=xN:=j9 rfl rfl
@[go_sem] theorem Qs:fU Tt 156=true:=j9 rfl rfl
@[go_sem] theorem SW:Tt 162=Bk:=j9 rfl rfl
@[go_sem] theorem Qt:fU Tt 162=true:=j9 rfl rfl
@[go_sem] theorem SX:Tt 164=Bl:=j9 rfl rfl
@[go_sem] theorem Qu:fU Tt 164=true:=j9 rfl rfl
@[go_sem] theorem SY:Tt 175=EE:=j9 rfl rfl
@[go_sem] theorem Qv:aV Tt 175=xR:=j9 rfl rfl
@[go_sem] theorem Qw:dg Tt 175=true:=j9 rfl rfl
@[go_sem] theorem SZ:Tt 178=xO:=j9 rfl rfl
@[go_sem] theorem Qx:fU Tt 178=true:=j9 rfl rfl
@[go_sem] theorem Ta:Tt 181=EF:=j9 rfl rfl
@[go_sem] theorem Tb:Tt 186=xP:=j9 rfl rfl
@[go_sem] theorem Qy:fU Tt 186=true:=j9 rfl rfl
@[go_sem] theorem Tc:Tt 189=Bm:=j9 rfl rfl
@[go_sem] theorem Qz:fU Tt 189=true:=j9 rfl rfl
@[go_sem] theorem Td:Tt 195=EG:=j9 rfl rfl
@[go_sem] theorem Te:Tt 196=EH:=j9 rfl rfl
@[go_sem] theorem QA:aV Tt 196=ti4:=j9 rfl rfl
@[go_sem] theorem QB:dg Tt 196=true:=j9 rfl rfl
@[go_sem] theorem Tf:Tt 200=Bn:=j9 rfl rfl
@[go_sem] theorem QC:fU Tt 200=true:=j9 rfl rfl
@[go_sem] theorem Tg:Tt 210=xQ:=j9 rfl rfl
@[go_sem] theorem QD:fU Tt 210=true:=j9 rfl rfl
@[go_sem] theorem Ti:Tt 212=EI:=j9 rfl rfl
@[go_sem] theorem Tj:Tt 217=Bo:=j9 rfl rfl
@[go_sem] theorem QE:fU Tt 217=true:=j9 rfl rfl
@[go_sem] theorem Tk:Tt 220=Bp:=j9 rfl rfl
@[go_sem] theorem QF:fU Tt 220=true:=j9 rfl rfl
@[go_sem] theorem Tl:Tt 222=Bq:=j9 rfl rfl
@[go_sem] theorem QG:fU Tt 222=true:=j9 rfl rfl
@[go_sem] theorem Tm:Tt 224=EJ:=j9 rfl rfl
@[go_sem] theorem Tn:Tt 231=xR:=j9 rfl rfl
@[go_sem] theorem QH:fU Tt 231=true:=j9 rfl rfl
@[go_sem] theorem To:Tt 233=Br:=j9 rfl rfl
@[go_sem] theorem Tp:Tt 237=xS:=j9 rfl rfl
@[go_sem] theorem QI:fU Tt 237=true:=j9 rfl rfl
@[go_sem] theorem Tq:Tt 241=EK:=j9 rfl rfl
@[go_sem] theorem Ts:Tt 244=Bt:=j9 rfl rfl
@[go_sem] theorem QJ:fU Tt 244=true:=j9 rfl rfl
@[go_sem] theorem Tu:Tt 247=EL:=j9 rfl rfl
@[go_sem] theorem Tv:Tt 288=EN:=j9 rfl rfl
@[go_sem] theorem Tw:Tt 289=EO:=j9 rfl rfl
@[go_sem] theorem Tx:Tt 290=EP:=j9 rfl rfl
@[go_sem] theorem Ty:Tt 291=EQ:=j9 rfl rfl
@[go_sem] theorem QK:dg Tt 291=false:=j9 rfl rfl
@[go_sem] theorem Tz:Tt 293=Bu:=j9 rfl rfl
@[go_sem] theorem QL:fU Tt 293=true:=j9 rfl rfl
variable {f:FuncId}{fn:Func}{c:Code}{xs:List AV}{R:AV→Prop}{g:Nat→Nat}{ob:Obs}
theorem hdG {gb:Nat}{o:cO} (hf:Tryz.prog.funcs[f]? = some fn) (hb:fn.body=some c) (rs:List ResultVar) (h:∀b₀ β0 s0 w0 g,wpC (spF Tryz.prog none b₀ (DO gb o b₀ β0 s0 w0) 0 rm) Tt c (bx (sL Tt rs R)) ⟨cX xs,g,fun _=>none⟩) (hn:(fn.name == "runtime.NumGoroutine")=false:=by rfl) (hres:fn.results=rs.toArray:=by rfl) (hcm:gw c=true:=by kernel_rfl) (hok:codeOk fn.ntmps c=true:=by kernel_rfl) (hargs:Nat.ble xs.length fn.ntmps=true:=by kernel_rfl):bW Tryz.prog gb o f xs R:=pC 0 gb o aU mixed hf hb hn rs hres hcm hok (I1 hargs) h
theorem hdM (B:Nat) (S:List Nat) (hf:Tryz.prog.funcs[f]? = some fn) (hb:fn.body=some c) (rs:List ResultVar){R:AV→(Nat→Nat)→Obs→Prop}{X:Pan} (hS:∀i∈S,i<B) (hB:∀i,B≤i→ob i=none) (h:∀b₀ β0 s0 w0,wpC (spF Tryz.prog none b₀ (xk b₀ β0 s0 w0) B (DQ B S g ob X)) Tt c (bx (Lh Tt rs B S g ob R)) ⟨cX xs,g,ob⟩) (hn:(fn.name == "runtime.NumGoroutine")=false:=by rfl) (hres:fn.results=rs.toArray:=by rfl) (hcm:gw c=true:=by kernel_rfl) (hok:codeOk fn.ntmps c=true:=by kernel_rfl) (hargs:Nat.ble xs.length fn.ntmps=true:=by kernel_rfl):dN Tryz.prog f xs g ob R X:=zy B S aU mixed hf hb hn rs hres hcm hok (I1 hargs) hS hB h
theorem hdX (B:Nat) (hf:Tryz.prog.funcs[f]? = some fn) (hb:fn.body=some c) (rs:List ResultVar){R:AV→(Nat→Nat)→Obs→Prop}{X:Pan} (h:∀b₀ β0 s0 w0,wpC (spF Tryz.prog none b₀ (xk b₀ β0 s0 w0) B X.on) Tt c (bx (xg Tt rs R)) ⟨cX xs,g,ob⟩) (hn:(fn.name == "runtime.NumGoroutine")=false:=by rfl) (hres:fn.results=rs.toArray:=by rfl) (hcm:gw c=true:=by kernel_rfl) (hok:codeOk fn.ntmps c=true:=by kernel_rfl) (hargs:Nat.ble xs.length fn.ntmps=true:=by kernel_rfl):dN Tryz.prog f xs g ob R X:=zu B aU mixed hf hb hn rs hres hcm hok (I1 hargs) h
theorem hdR (hf:Tryz.prog.funcs[f]? = some fn) (hb:fn.body=some c) (rs:List ResultVar) (h:∀g,wpC (sp Tryz.prog) Tt c (bx (sL Tt rs R)) ⟨cX xs,g,fun _=>none⟩) (hn:(fn.name == "runtime.NumGoroutine")=false:=by rfl) (hres:fn.results=rs.toArray:=by rfl) (hok:codeOk fn.ntmps c=true:=by kernel_rfl) (hargs:Nat.ble xs.length fn.ntmps=true:=by kernel_rfl):aA Tryz.prog f xs R:=xh aU mixed hf hb hn rs hres hok (I1 hargs) h
theorem hdP (hf:Tryz.prog.funcs[f]? = some fn) (hb:fn.body=some c) (rs:List Nat) (h:∀g,wpC (sp Tryz.prog) Tt c (bx (zG rs R)) ⟨cX xs,g,fun _=>none⟩) (hn:(fn.name == "runtime.NumGoroutine")=false:=by rfl) (hres:fn.results=(rs.map ResultVar.tmp).toArray:=by rfl) (hok:codeOk fn.ntmps c=true:=by kernel_rfl) (hargs:Nat.ble xs.length fn.ntmps=true:=by kernel_rfl):aA Tryz.prog f xs R:=zH aU mixed hf hb hn rs hres hok (I1 hargs) h
theorem hdF (B:Nat) (hf:Tryz.prog.funcs[f]? = some fn) (hb:fn.body=some c) (rs:List Nat){R:AV→(Nat→Nat)→Obs→Prop} (h:wpC (spB Tryz.prog B) Tt c (bx (wY rs R)) ⟨cX xs,g,ob⟩) (hn:(fn.name == "runtime.NumGoroutine")=false:=by rfl) (hres:fn.results=(rs.map ResultVar.tmp).toArray:=by rfl) (hok:codeOk fn.ntmps c=true:=by kernel_rfl) (hargs:Nat.ble xs.length fn.ntmps=true:=by kernel_rfl):iN Tryz.prog f xs g ob R:=Ca B aU mixed hf hb hn rs hres hok (I1 hargs) h
end
end
end Go.Proofs.YthnomjfdcidgbaaGreatDoor
namespace Go.Asm
section
abbrev Str:=List UInt8
def small (c:UInt8):Bool:=decide (97≤c.toNat)&&decide (c.toNat≤122)
def letter (c:UInt8):Bool:=small c||(decide (65≤c.toNat)&&decide (c.toNat≤90))
def digit (c:UInt8):Bool:=decide (48≤c.toNat)&&decide (c.toNat≤57)
def cM (c:UInt8):Bool:=letter c||digit c||c==95
def Dn (n:Nat) (c:UInt8):Nat:=10*n+(c.toNat-48)
def fS (s:Str):Nat:=s.foldl Dn 0
def names:List Str:=[[108,105],[108,117,105],[109,111,118],[97,100,100],[115,117,98],[109,117,108],[100,105,118],[109,111,100],[97,110,100],[111,114],[120,111,114],[115,104,108],[115,104,114],[108,116],[101,113],[108,100],[115,116],
 [106,109,112],[106,122],[106,110,122],[99,97,108,108],[114,101,116],[103,101,116],[112,117,116],[99,104,107],[104,97,108,116],[108,100,99]]
def shape (op:Nat):Bool×Bool×Nat:=
 if op=1∨op=2∨op=19∨op=20∨op=21∨op=25 then(true,false,1)
 else if op=3 then(true,true,0)
 else if 4≤op∧op≤15 then(true,true,2)
 else if op=16∨op=17∨op=27 then(true,true,1)
 else if op=18 then(false,false,1)
 else if op=22∨op=23∨op=24 then(true,false,0)
 else(false,false,0)
def word (op a b c:Nat):Nat:=op*16777216+a*1048576+b*65536+c
end
end Go.Asm
namespace Go.Proofs.YthnomjfdcidgbaaGreatDoor
section
open Go Go.Am Go.Asm
section
theorem getq {α:Type}{l:List α}{k:Nat} (h:k<l.length):∃x,l[k]? = some x:=⟨_,w8 h⟩
variable {c d:UInt8}
theorem PK (h:(c.toNat:Int)=(d.toNat:Int)):c=d:=L4.1 a6
theorem jR (h:c≠d):¬(c.toNat:Int)=(d.toNat:Int):=fun e=>h (PK e)
theorem drop_cons {α:Type}{l:List α}{k:Nat}{x:α} (h:l[k]? = some x):l.drop k=x::l.drop (k+1):=by
 obtain⟨hk,rfl⟩:=l0.1 h
 exact y9 hk
theorem tt {c:UInt8}:letter c=true↔(97≤c.toNat∧c.toNat≤122)∨(65≤c.toNat∧c.toNat≤90):=by simp[letter,small]
theorem nN {c:UInt8}:digit c=true↔48≤c.toNat∧c.toNat≤57:=by simp[digit]
end
end
section
attribute [local congr] Go.Am.ite_cc
open Go Go.Am Go.Asm
def preB (p s:Str):Bool:=decide (s.take p.length=p)
theorem xG (s p:Str):aA Tryz.prog 196 [sv s,sv p] (· = bv (preB p s)):=by
 refine hdP Tryz.func196 rfl [4] fun g=>?_
 simp only[go_sem]
 refine⟨fun h=>?_,fun h=>?_⟩
 ·exact⟨K9 _,a6,rfl⟩
 ·have:¬s.take p.length=p:=fun e=>by
   have:=congrArg List.length e
   simp only[D2] at this;omega
  simp[preB,this]
def strs (l:List Str):D:=.sl (l.map fun w=>[.str w])
end
section
open Go Go.Am Go.Asm
theorem tw {s:St}{id g n:Nat}{L:List Str} (hg:s.gen id=g) (ho:s.obj id=some (L.map fun w=>.d (.str w))) (hn:n=L.length):Frz s (.osl id g 1 0 n) (strs L):=by
 subst hn
 exact rT hg ho L (fun w=>.str w) (fun _=>rfl) rfl (fun j a h=>by simp[h]) a7
end
end Go.Proofs.YthnomjfdcidgbaaGreatDoor
namespace Go.Proofs
section
open Go.Shelf Go.RowKit Go.Lib
section
variable {P:Program}{ρ:Ren}
end
section
variable {P:Program}{ρ:Ren}
end
end
section
open Go.Shelf
end
end Go.Proofs
namespace Go.Proofs.YthnomjfdcidgbaaGreatDoor
section
open Go Go.Am Go.Asm
end
section
attribute [local congr] Go.Am.ite_cc
open Go Go.Am Go.Asm
def nameOf (op:Nat):Str:=match op with|0=>[]|k+1=>names.getD k []
def tA (op:Nat):AV:=.agg [.d (.str (nameOf op)),.d (.bool (Asm.shape op).1),.d (.bool (Asm.shape op).2.1),.d (.int .i64 ((Asm.shape op).2.2:Nat))]
theorem xI {op:Nat} (h:op=0∨28≤op):tA op=.agg [.d (.str []),.d (.bool false),.d (.bool false),.d (.int .i64 0)]:=by
 rcases h with rfl|h
 ·rfl
 ·have h1:nameOf op=[]:=by
   exact WO
  have h2:Asm.shape op=(false,false,0):=by
   unfold Asm.shape
   repeat rw[if_neg (by omega)]
  unfold tA;rw[h1,h2];rfl
theorem tB {s:St}{n:Str}{a b:Bool}{c:Int}:kp s (.agg [.d (.str n),.d (.bool a),.d (.bool b),.d (.int .i64 c)]) (.agg [.d (.str n),.d (.bool a),.d (.bool b),.d (.int .i64 c)]):=by
 refine⟨[.str n,.bool a,.bool b,.int .i64 c],rfl,fun i c hc=>?_,rfl⟩
 match i,hc with
 |0,hc=>cases hc;exact⟨_,rfl,.d _⟩
 |1,hc=>cases hc;exact⟨_,rfl,.d _⟩
 |2,hc=>cases hc;exact⟨_,rfl,.d _⟩
 |3,hc=>cases hc;exact⟨_,rfl,.d _⟩
theorem vc (op:Int):aA Tryz.prog 170 [iv .i64 op] (· = tA op.toNat):=by
 refine hdR Tryz.func170 rfl [.cell 2 244] fun g=>?_
 simp only[go_sem]
 repeat' (first|refine And.intro (fun h=>?_) (fun h=>?_)|fail)
 all_goals first
  | (subst h
     exact⟨_,tB,rfl⟩)
  | (have e:op.toNat=0∨28≤op.toNat:=a6
     refine⟨_,tB,?_⟩
     rw[xI e])
def jL (op:Nat):Bool:=decide (1≤op)&&decide (op≤27)
theorem Cz (op:Nat):(decide (¬nameOf op=[]))=jL op:=by
 unfold jL
 by_cases h:op≤27
 ·have:∀k,k≤27→decide (¬nameOf k=[])=(decide (1≤k)&&decide (k≤27)):=a8
  exact this op h
 ·have h1:nameOf op=[]:=by
   exact WO
  simp[h1,h]
theorem HC (op:Int):aA Tryz.prog 169 [iv .i64 op] (· = bv (jL op.toNat)):=by
 refine hdP Tryz.func169 rfl [2] fun g=>?_
 simp only[go_sem]
 refine cP rfl (by simp only[go_sem];exact vc op) ?_
 rintro _ rfl
 unfold tA
 simp only[go_sem]
 rw[←Cz]
def inW (v most:Int) (b:Bool):Bool:=if b=true then decide (0≤v) && decide (v≤most) else decide (v=0)
theorem tC (v most:Int) (b:Bool):aA Tryz.prog 171 [iv .i64 v,iv .i64 most,bv b] (· = bv (inW v most b)):=by
 refine hdP Tryz.func171 rfl [6] fun g=>?_
 exact W5
def pP (op:Nat):Int:=if (Asm.shape op).2.2=2 then 15 else 65535
def eQ (op a b c:Int):Bool:=jL op.toNat&&(inW a 15 (Asm.shape op.toNat).1&&(inW b 15 (Asm.shape op.toNat).2.1&&inW c (pP op.toNat) (decide ((Asm.shape op.toNat).2.2≠0))))
def oA (op a b c:Int):AV:=.agg [.d (.int .i64 op),.d (.int .i64 a),.d (.int .i64 b),.d (.int .i64 c)]
theorem HD (op a b c:Int):aA Tryz.prog 104 [oA op a b c] (· = bv (eQ op a b c)):=by
 refine hdP Tryz.func104 rfl [2] fun g=>?_
 unfold oA
 simp only[go_sem]
 refine cP rfl (by simp only[go_sem];exact HC op) ?_
 rintro _ rfl
 cases hk:jL op.toNat
 ·simp only[go_sem]
  simp[eQ,hk]
 simp only[go_sem]
 refine cP rfl (by simp only[go_sem];exact vc op) ?_
 rintro _ rfl
 have hrr:eQ op a b c=(inW a 15 (Asm.shape op.toNat).1&&(inW b 15 (Asm.shape op.toNat).2.1&&inW c (pP op.toNat) (decide ((Asm.shape op.toNat).2.2≠0)))):=by unfold eQ;rw[hk,u7]
 rw[hrr]
 unfold tA pP
 generalize (Asm.shape op.toNat).1=p
 generalize (Asm.shape op.toNat).2.1=q
 generalize (Asm.shape op.toNat).2.2=r
 have hr0:decide (¬((r:Nat):Int)=0)=decide (r≠0):=by
  have:(((r:Nat):Int)=0)=(r=0):=by apply propext;omega
  simp only[this,ne_eq]
 by_cases hr:r=2
 case' pos=>
  have hri:((r:Nat):Int)=2:=a6
  rw[if_pos hr]
  simp only[go_sem,hri]
 case' neg=>
  have hri:¬((r:Nat):Int)=2:=a6
  rw[if_neg hr]
  simp only[go_sem,hri]
 all_goals
  refine cP rfl (by simp only[go_sem];exact tC a 15 p) ?_
  rintro _ rfl
  cases h1:inW a 15 p
  ·simp only[go_sem]
   try simp
  simp only[go_sem]
  refine cP rfl (by simp only[go_sem];exact tC b 15 q) ?_
  rintro _ rfl
  cases h2:inW b 15 q
  ·simp only[go_sem]
   try simp
  simp only[go_sem,hr0]
  refine cP rfl (by simp only[go_sem,hr0];exact tC c _ _) ?_
  rintro _ rfl
  simp only[go_sem]
  first|done|(subst hr;simp;done)|simp
theorem LD (x y:Nat) (hx:x<4294967296) (hy:y<4294967296):(BitVec.ofInt 32 (x:Int) |||BitVec.ofInt 32 (y:Int)).toNat=x |||y:=by
 rw[BitVec.toNat_or]
 have h:∀n:Nat,n<4294967296→(BitVec.ofInt 32 (n:Int)).toNat=n:=fun n hn=>by
  rw[Q9]
  omega
 rw[h x hx,h y hy]
theorem wrapN (n:Nat) (h:n<4294967296):IntKind.u32.wrap (n:Int)=n:=by rw[IntKind.wrap_u32];omega
theorem Er (a b k:Nat) (h:b<2^k):(a*2^k) |||b=a*2^k+b:=by
 rw[Nat.mul_comm,Nat.two_pow_add_eq_or_of_lt h]
theorem HE (o a b c:Nat) (h1:o≤27) (h2:a≤15) (h3:b≤15) (h4:c≤65535):IntKind.u32.wrap
   ((BitVec.ofInt 32
        (IntKind.u32.wrap
          ((BitVec.ofInt 32
               (IntKind.u32.wrap
                 ((BitVec.ofInt 32 (IntKind.u32.wrap ((o:Int)*2^min 24 32)) |||
                     BitVec.ofInt 32 (IntKind.u32.wrap ((a:Int)*2^min 20 32))).toNat:Int)) |||
              BitVec.ofInt 32 (IntKind.u32.wrap ((b:Int)*2^min 16 32))).toNat:Int)) |||
       BitVec.ofInt 32 (c:Int)).toNat:Int)=(word o a b c:Nat):=by
 have e1:((o:Int)*2^min 24 32)=((o*2^24:Nat):Int):=by rw[P8];rfl
 have e2:((a:Int)*2^min 20 32)=((a*2^20:Nat):Int):=by rw[P8];rfl
 have e3:((b:Int)*2^min 16 32)=((b*2^16:Nat):Int):=by rw[P8];rfl
 rw[e1,e2,e3,wrapN (o*2^24) a6,wrapN (a*2^20) a6,wrapN (b*2^16) a6,LD (o*2^24) (a*2^20) a6 a6,Er o (a*2^20) 24 a6,
  wrapN (o*2^24+a*2^20) a6,LD (o*2^24+a*2^20) (b*2^16) a6 a6,
  show o*2^24+a*2^20=(o*16+a)*2^20 by omega,Er (o*16+a) (b*2^16) 20 a6,wrapN ((o*16+a)*2^20+b*2^16) a6,LD ((o*16+a)*2^20+b*2^16) c a6 a6,
  show (o*16+a)*2^20+b*2^16=((o*16+a)*16+b)*2^16 by omega,Er ((o*16+a)*16+b) c 16 a6,wrapN (((o*16+a)*16+b)*2^16+c) a6]
 have e:((o*16+a)*16+b)*2^16+c=word o a b c:=by unfold word;omega
 rw[e]
theorem uB {op a b c:Int} (h:eQ op a b c=true):1≤op∧op≤27∧0≤a∧a≤15∧0≤b∧b≤15∧0≤c∧c≤65535:=by
 unfold eQ at h
 simp only[s6] at h
 obtain⟨h1,h2,h3,h4⟩:=h
 have hin:∀{v m:Int}{p:Bool},0≤m→inW v m p=true→0≤v∧v≤m:=by
  intro v m p hm hv
  unfold inW at hv
  split at hv
  ·simpa using hv
  ·have:v=0:=by simpa using hv
   omega
 have h2:=hin a8 h2
 have h3:=hin a8 h3
 have hm:0≤pP op.toNat∧pP op.toNat≤65535:=by unfold pP;split <;> decide
 have h4:=hin hm.1 h4
 simp only[jL,s6,B9] at h1
 omega
theorem Es (op a b c:Int):aA Tryz.prog 59 [oA op a b c] (· = if eQ op a b c=true then .tup [iv .u32 (word op.toNat a.toNat b.toNat c.toNat:Nat),iv .i64 0] else .tup [iv .u32 0,iv .i64 1]):=by
 refine hdP Tryz.func59 rfl [2,3] fun g=>?_
 unfold oA
 simp only[go_sem]
 refine cP rfl (by simp only[go_sem];exact HD op a b c) ?_
 rintro _ rfl
 cases hk:eQ op a b c
 ·simp only[go_sem]
  try rfl
 obtain⟨b1,b2,b3,b4,b5,b6,b7,b8⟩:=uB hk
 have w1:IntKind.u32.wrap op=op:=by rw[IntKind.wrap_u32] <;> omega
 have w2:IntKind.u32.wrap a=a:=by rw[IntKind.wrap_u32] <;> omega
 have w3:IntKind.u32.wrap b=b:=by rw[IntKind.wrap_u32] <;> omega
 have w4:IntKind.u32.wrap c=c:=by rw[IntKind.wrap_u32] <;> omega
 simp only[go_sem,w1,w2,w3,w4]
 obtain⟨o,rfl⟩:∃n:Nat,op=n:=⟨op.toNat,a6⟩
 obtain⟨a,rfl⟩:∃n:Nat,a=n:=⟨a.toNat,a6⟩
 obtain⟨b,rfl⟩:∃n:Nat,b=n:=⟨b.toNat,a6⟩
 obtain⟨c,rfl⟩:∃n:Nat,c=n:=⟨c.toNat,a6⟩
 simp only[A7]
 exact HE o a b c a6 a6 a6 a6
end
section
open Go Go.Am Go.Asm
theorem CA (s:Str) (c:UInt8):fS (s++[c])=10*fS s+(c.toNat-48):=by simp[fS,Dn]
theorem vd {s:Str}{k:Nat}{c:UInt8} (h:s[k]? = some c):fS (s.take (k+1))=10*fS (s.take k)+(c.toNat-48):=by
 rw[A8,h];exact CA _ _
end
section
open Go Go.RowKit Go.Shelf
end
end Go.Proofs.YthnomjfdcidgbaaGreatDoor
namespace Go.Am
section
end
end Go.Am
namespace Go.Proofs.YthnomjfdcidgbaaGreatDoor
section
open Go Go.Am Go.Asm
theorem qC:∀l:List UInt8,u8s (l.map fun b=>.d (.int .u8 (b.toNat:Nat)))=some (l.map fun b=>((b.toNat:Nat):Int))
 |[]=>rfl
 |b::l=>by
   have ih:=qC l
   simp only[l6,u8s] at ih ⊢
   rw[ih];rfl
theorem dv {s:St} (x:D):kp s (.one (.d x)) (.one (.d (ge x))):=⟨_,.d x,rfl⟩
end
end Go.Proofs.YthnomjfdcidgbaaGreatDoor
namespace Go.Src
section
open Go.Asm (Str digit letter cM fS)
structure Tok where
 kind:Nat
 text:Str
 num:Nat
 place:Nat
 deriving DecidableEq
def ep:List Str:=[[118,97,114],[97,114,114,97,121],[102,117,110,99],[119,111,114,100],[105,102],[101,108,115,101],[119,104,105,108,101],[114,101,116,117,114,110],[112,117,116],[103,101,116]]
def iZ:List Str:=[[60,60],[62,62],[61,61],[38,38],[124,124],[40],[41],[123],[125],[91],[93],[59],[44],[61],[43],[45],[42],[47],[37],[38],[124],[94],[60],[33]]
inductive R (α:Type) where
 |ok (a:α)
 |err (e:Nat)
def firstT (s:Str):R (Nat×Str×Nat):=
 match s with
 |[]=>.err 3
 |c::_=>
   if digit c=true then(if 4294967295<fS (s.takeWhile digit) then .err 2 else .ok (2,s.takeWhile digit,fS (s.takeWhile digit)))
   else if c=39 then
    (match s with
     |_::x::y::_=>if y=39∧32≤x.toNat∧x.toNat≤126∧x≠39∧x≠92 then .ok (2,[c,x,y],x.toNat) else .err 3
     | _=>.err 3)
   else if letter c=true then
    (if 20<(s.takeWhile cM).length then .err 2 else if (s.takeWhile cM)∈ep then .ok (3,s.takeWhile cM,0) else .ok (1,s.takeWhile cM,0))
   else match iZ.find? (fun t=>t.isPrefixOf s) with
    |some t=>.ok (4,t,0)
    |none=>.err 3
def ie:Nat→Nat→Str→R (List Tok)×Nat
 |0,_,_=>(.ok [],0)
 |_+1,_,[]=>(.ok [],0)
 |n+1,k,c::r=>
   if c=32∨c=9∨c=10 then ie n (k+1) r
   else if c=47∧r.head? = some 47 then ie n (k+((c::r).takeWhile (· != 10)).length) ((c::r).dropWhile (· != 10))
   else match firstT (c::r) with
    |.err e=>(.err e,k)
    |.ok (kd,t,v)=>match ie n (k+t.length) ((c::r).drop t.length) with
      |(.ok l,p)=>(.ok (⟨kd,t,v,k⟩::l),p)
      |(.err e,p)=>(.err e,p)
def qN (s:Str):List Tok×Nat×Nat:=
 if 20000<s.length then([],0,2)
 else match ie (s.length+1) 0 s with
  |(.ok l,_)=>(l,0,0)
  |(.err e,p)=>([],p,e)
inductive Ex where
 |mk (kind op num:Int) (name:Str) (kids:List Ex)
inductive Stm where
 |mk (kind:Int) (name:Str) (e:List Ex) (th el:List Stm)
structure Fn where
 name:Str
 params:List Str
 locals:List Str
 word:Bool
 body:List Stm
structure Prog where
 vars:List Str
 arrays:List (Str×Int)
 funcs:List Fn
def ew (s:Str):Int×Int×Nat:=
 if s=[124,124] then(9,0,1) else if s=[38,38] then(8,0,2) else if s=[61,61] then(6,15,3) else if s=[60] then(6,14,4)
 else if s=[124] then(6,10,5) else if s=[94] then(6,11,5) else if s=[38] then(6,9,6) else if s=[60,60] then(6,12,7) else if s=[62,62] then(6,13,7)
 else if s=[43] then(6,4,8) else if s=[45] then(6,5,8) else if s=[42] then(6,6,9) else if s=[47] then(6,7,9) else if s=[37] then(6,8,9) else(0,0,0)
def bL:Str:=[40]
def bB:Str:=[41]
def ja:Str:=[44]
def cp:Str:=[59]
end
end Go.Src
namespace Go.Proofs.YthnomjfdcidgbaaGreatDoor
section
attribute [local congr] Go.Am.ite_cc
open Go Go.Am Go.Asm
theorem lz (c:UInt8):aA Tryz.prog 197 [iv .u8 c.toNat] (· = bv (digit c)):=by
 refine hdP Tryz.func197 rfl [2] fun g=>?_
 simp only[go_sem]
 have e:=@nN c
 cases hs:digit c <;> rw[hs] at e <;> simp at e <;> ((repeat' (first|refine⟨?_,?_⟩|intro _)) <;> (first|rfl|(exfalso;omega)|(simp;omega)))
theorem nT (c:UInt8):aA Tryz.prog 200 [iv .u8 c.toNat] (· = bv (letter c)):=by
 refine hdP Tryz.func200 rfl [2] fun g=>?_
 simp only[go_sem]
 have e:=@tt c
 cases hs:letter c <;> rw[hs] at e <;> simp at e <;> ((repeat' (first|refine⟨?_,?_⟩|intro _)) <;> (first|rfl|(exfalso;omega)|(simp;omega)))
theorem IM (c:UInt8):aA Tryz.prog 123 [iv .u8 c.toNat] (· = bv (c != 10)):=by
 refine hdP Tryz.func123 rfl [2] fun g=>?_
 by_cases h:c=10
 ·subst h
  have hi:(((10:UInt8).toNat:Nat):Int)=10:=rfl
  simp only[go_sem,hi]
  rfl
 ·have hi:¬((c.toNat:Nat):Int)=10:=jR (d:=10) h
  have hb:(c != 10)=true:=by simpa using h
  simp only[go_sem,hi,hb]
theorem vq (c:UInt8):aA Tryz.prog 202 [iv .u8 c.toNat] (· = bv (cM c)):=by
 refine hdP Tryz.func202 rfl [2] fun g=>?_
 simp only[go_sem]
 refine cP rfl (by simp only[go_sem];exact nT c) ?_
 rintro _ rfl
 unfold cM
 cases hl:letter c
 ·simp only[go_sem]
  refine cP rfl (by simp only[go_sem];exact lz c) ?_
  rintro _ rfl
  cases hd:digit c
  ·by_cases h:c=95
   ·subst h
    have hi:(((95:UInt8).toNat:Nat):Int)=95:=rfl
    simp only[go_sem,hi]
    rfl
   ·have hi:¬((c.toNat:Nat):Int)=95:=jR (d:=95) h
    have hb:(c==95)=false:=by simpa using h
    simp only[go_sem,hi,hb,Bool.or_false]
  ·simp only[go_sem,Bool.or_true,Bool.true_or]
 ·simp only[go_sem,Bool.true_or]
theorem mf {p:UInt8→Bool}:∀{s:Str}{k:Nat},(s.take k).all p=true→(s[k]?).all (fun c=>!p c)=true→s.takeWhile p=s.take k
 |[],k,_,_=>by simp
 |a::s,0,_,h=>by
   simp only[w7,Option.all_some,G3] at h
   simp[h]
 |a::s,k+1,h1,h2=>by
   simp only[E4,D4,s6] at h1
   rw[s5] at h2
   rw[F0,if_pos h1.1,E4,mf h1.2 h2]
theorem sq {f:FuncId}{p:UInt8→Bool} (hp:∀c,aA Tryz.prog f [iv .u8 c.toNat] (· = bv (p c))) (s:Str) (hs:s.length≤1000000000):aA Tryz.prog 122 [sv s,.one (.d (.fn f))] (· = sv (s.takeWhile p)):=by
 refine hdP Tryz.func122 rfl [4] fun g=>?_
 simp only[go_sem]
 refine fV (fun n st=>∃k:Nat,n+k=s.length∧st.f 0=sv s∧st.f 1=.one (.d (.fn f))∧st.f 5=iv .i64 k∧(s.take k).all p=true) s.length ?_ ?_
 ·refine⟨0,a6,?_⟩
  simp only[go_sem]
  rfl
 rintro n fs g ob ⟨k,hk,q0,q1,q5,hall⟩
 simp only at q0 q1 q5
 have hw:=ae (k:=k) a6
 have hk0:(0:Int)≤(k:Int):=a6
 by_cases hlt:k<s.length
 ·obtain⟨c,hc⟩:=getq hlt
  have hlti:(k:Int)<(s.length:Int):=a6
  simp only[go_sem,q0,q1,q5,hlti,hc,hk0]
  refine eA (f:=f) rfl (by simp only[go_sem,q1]) (by simp only[go_sem];exact hp c) XM ?_
  rintro _ rfl
  cases hpc:p c
  ·have ht:=mf (p:=p) hall (by rw[hc];simp[hpc])
   simp only[go_sem,q0,q5]
   refine⟨a6,a6,?_⟩
   rw[ht]
   try rfl
  ·simp only[go_sem,q5,hw]
   refine fE (n-1) a6 ⟨k+1,a6,?_⟩
   simp only[go_sem,q0,q1]
   rw[A8,hc]
   simp[hall,hpc]
 ·obtain rfl:k=s.length:=a6
  have hlti:¬(s.length:Int)<(s.length:Int):=a6
  have ht:=mf (p:=p) hall (by rw[A5 (j8 _)];rfl)
  rw[ht,F3]
  simp only[go_sem,q0,q1,q5,hlti]
  exact⟨a6,a6⟩
theorem yz {s t:Str}:t.isPrefixOf s=decide (t.length≤s.length∧s.take t.length=t):=by
 rw[P7,I0,B9]
 constructor
 ·rintro⟨r,rfl⟩;exact⟨a7,a7⟩
 ·rintro⟨h1,h2⟩;exact⟨s.drop t.length,(congrArg (· ++ s.drop t.length) h2.symm).trans (G2 _ _)⟩
theorem FI (s p:Str):preB p s=p.isPrefixOf s:=by
 rw[yz]
 unfold preB
 rw[decide_eq_decide]
 constructor
 ·intro h
  have:=congrArg List.length h
  rw[D2] at this
  exact⟨a6,h⟩
 ·exact fun h=>h.2
theorem rC (s t:Str):aA Tryz.prog 121 [sv s,sv t] (· = bv (t.isPrefixOf s)):=by
 refine hdP Tryz.func121 rfl [4] fun g=>?_
 simp only[go_sem]
 refine cP rfl (by simp only[go_sem];exact xG s t) ?_
 rintro _ rfl
 simp only[go_sem,FI]
theorem BO {s:St}{c:C}{x:D} (h:Frz s c x):kp s (.one c) (.one (.d x)):=⟨_,h,rfl⟩
def gK (t:Src.Tok):List D:=[.int .i64 (t.kind:Nat),.str t.text,.int .u32 (t.num:Nat),.int .i64 (t.place:Nat)]
def gv (t:Src.Tok):AV:=.agg ((gK t).map .d)
def pH:Src.R (Nat×Str×Nat)→AV
 |.ok (k,t,v)=>.tup [gv ⟨k,t,v,0⟩,iv .i64 0]
 |.err e=>.tup [gv ⟨0,[],0,0⟩,iv .i64 (e:Nat)]
theorem dC {s:St}{k v e:Nat}{t:Str}:oK s [.agg [.d (.int .i64 (k:Nat)),.d (.str t),.d (.int .u32 (v:Nat)),.d (.int .i64 0)],iv .i64 (e:Nat)] (.tup [gv ⟨k,t,v,0⟩,iv .i64 (e:Nat)]):=by
 refine⟨_,⟨_,_,rfl,⟨[.int .i64 (k:Nat),.str t,.int .u32 (v:Nat),.int .i64 0],rfl,fun i c hc'=>?_,rfl⟩,_,_,rfl,dv _,rfl⟩,rfl⟩
 match i,hc' with
 |0,hc'=>cases hc';exact⟨_,rfl,.d _⟩
 |1,hc'=>cases hc';exact⟨_,rfl,.d _⟩
 |2,hc'=>cases hc';exact⟨_,rfl,.d _⟩
 |3,hc'=>cases hc';exact⟨_,rfl,.d _⟩
theorem IN (c:UInt8) (n:Nat):n≤Dn n c:=by unfold Dn;omega
theorem CT (s:Str) (k:Nat):fS (s.take k)≤fS s:=by
 have h:∀(l:Str) (n:Nat),n≤l.foldl Dn n:=fun l=>by
  induction l with
  |nil=>intro n;exact j8 _
  |cons c l ih=>intro n;exact B1 (IN c n) (ih _)
 conv=>rhs;rw[←G2 k s]
 unfold fS
 rw[List.foldl_append]
 exact h _ _
theorem Ar (s:Str) (hs:s.length≤1000000000) (hd:s.all digit=true):aA Tryz.prog 198 [sv s] (· = pH (if 4294967295<fS s then .err 2 else .ok (2,s,fS s))):=by
 refine hdR Tryz.func198 rfl [.cell 2 104,.tmp 3] fun g=>?_
 simp only[go_sem]
 refine fV (fun n st=>∃k:Nat,n+k=s.length∧st.f 0=sv s∧st.f 2=.one (.ptr 2 (nxC 105 (g 2)) 0)∧st.gen 2=nxC 105 (g 2)∧st.obj 2=some [.d (.int .i64 0),.d (.str []),.d (.int .u32 0),.d (.int .i64 0)]∧st.f 4=iv .u64 (fS (s.take k):Nat)∧st.f 5=iv .i64 k∧fS (s.take k)≤4294967295) s.length ?_ ?_
 ·refine⟨0,a6,?_⟩
  simp only[go_sem]
  exact⟨rfl,a8⟩
 rintro n f g' ob ⟨k,hk,q0,q2,g2,o2,q4,q5,hle⟩
 simp only at q0 q2 g2 o2 q4 q5
 have hw:=ae (k:=k) a6
 have hk0:(0:Int)≤(k:Int):=a6
 by_cases hlt:k<s.length
 ·obtain⟨c,hc⟩:=getq hlt
  have hlti:(k:Int)<(s.length:Int):=a6
  have hnx:=vd hc
  have hmono:=CT s (k+1)
  have hdc:=nN.1 (x6.1 hd c (l4 hc))
  have w1:IntKind.u64.wrap ((fS (s.take k):Int)*10)=((fS (s.take k)*10:Nat):Int):=by rw[IntKind.wrap_u64];omega
  have w2:IntKind.u8.wrap ((c.toNat:Int)-48)=((c.toNat-48:Nat):Int):=by rw[IntKind.wrap_u8];omega
  have w3:IntKind.u64.wrap ((c.toNat-48:Nat):Int)=((c.toNat-48:Nat):Int):=by rw[IntKind.wrap_u64];omega
  have w4:IntKind.u64.wrap (((fS (s.take k)*10:Nat):Int)+((c.toNat-48:Nat):Int))=(fS (s.take (k+1)):Int):=by rw[IntKind.wrap_u64,hnx];omega
  by_cases hbig:4294967295<fS (s.take (k+1))
  ·have hbi:(4294967295:Int)<(fS (s.take (k+1)):Int):=a6
   rw[if_pos a6]
   simp only[go_sem,q0,q2,g2,o2,q4,q5,hlti,hk0,hc,w1,w2,w3,w4,hbi]
   exact⟨_,dC (k:=0) (v:=0) (e:=2),rfl⟩
  ·have hbi:¬(4294967295:Int)<(fS (s.take (k+1)):Int):=a6
   simp only[go_sem,q0,q2,g2,o2,q4,q5,hlti,hk0,hc,w1,w2,w3,w4,hbi,hw]
   refine fE (n-1) a6 ⟨k+1,a6,?_⟩
   simp only[go_sem,q0,q2,g2,o2]
   omega
 ·obtain rfl:k=s.length:=a6
  have hlti:¬(s.length:Int)<(s.length:Int):=a6
  rw[l5 (j8 _)] at q4 hle
  have w5:IntKind.u32.wrap (fS s:Int)=(fS s:Int):=by rw[IntKind.wrap_u32];omega
  rw[if_neg a6]
  simp only[go_sem,q0,q2,g2,o2,q4,q5,hlti,w5]
  exact⟨_,dC (k:=2) (e:=0),rfl⟩
def pZ:Str→Src.R (Nat×Str×Nat)
 |c::x::y::_=>if y=39∧32≤x.toNat∧x.toNat≤126∧x≠39∧x≠92 then .ok (2,[c,x,y],x.toNat) else .err 3
 |_=>.err 3
theorem FJ (s:Str):aA Tryz.prog 199 [sv s] (· = pH (pZ s)):=by
 refine hdR Tryz.func199 rfl [.cell 2 104,.tmp 3] fun g=>?_
 by_cases hlen:s.length<3
 ·have hi:(s.length:Int)<3:=a6
  have hb:pZ s=.err 3:=by
   match s,hlen with
   |[],_=>rfl
   |[_],_=>rfl
   |[_,_],_=>rfl
   |_::_::_::_,h=>simp at h;omega
  rw[hb]
  simp only[go_sem,hi]
  exact V0
 obtain⟨c,x,y,r,rfl⟩:∃c x y r,s=c::x::y::r:=by
  match s,hlen with
  |c::x::y::r,_=>exact⟨c,x,y,r,rfl⟩
  |[],h=>simp at h
  |[_],h=>simp at h
  |[_,_],h=>simp at h
 have hi:¬((c::x::y::r).length:Int)<3:=a6
 have h2:(c::x::y::r)[2]? = some y:=rfl
 have h1:(c::x::y::r)[1]? = some x:=rfl
 have ht:(c::x::y::r).take 3=[c,x,y]:=rfl
 have hl3:3≤(c::x::y::r).length:=a7
 rw[show pZ (c::x::y::r)=(if y=39∧32≤x.toNat∧x.toNat≤126∧x≠39∧x≠92 then .ok (2,[c,x,y],x.toNat) else .err 3) from rfl]
 generalize (c::x::y::r)=s at hi h2 h1 ht hl3
 by_cases e1:y=39
 case neg=>
  have e1i:¬((y.toNat:Nat):Int)=39:=jR (d:=39) e1
  rw[if_neg (fun h=>e1 h.1)]
  simp only[go_sem,hi,h2,e1i]
  exact V0
 have e1i:((y.toNat:Nat):Int)=39:=by rw[e1];rfl
 by_cases e2:32≤x.toNat
 case neg=>
  have e2i:((x.toNat:Nat):Int)<32:=a6
  rw[if_neg (fun h=>e2 h.2.1)]
  simp only[go_sem,hi,h2,h1,e1i,e2i]
  exact V0
 have e2i:¬((x.toNat:Nat):Int)<32:=a6
 by_cases e3:x.toNat≤126
 case neg=>
  have e3i:(126:Int)<((x.toNat:Nat):Int):=a6
  rw[if_neg (fun h=>e3 h.2.2.1)]
  simp only[go_sem,hi,h2,h1,e1i,e2i,e3i]
  exact V0
 have e3i:¬(126:Int)<((x.toNat:Nat):Int):=a6
 by_cases e4:x=39
 ·have e4i:((x.toNat:Nat):Int)=39:=by rw[e4];rfl
  rw[if_neg (fun h=>h.2.2.2.1 e4)]
  simp only[go_sem,hi,h2,h1,e1i,e2i,e3i,e4i]
  exact V0
 have e4i:¬((x.toNat:Nat):Int)=39:=jR (d:=39) e4
 by_cases e5:x=92
 ·have e5i:((x.toNat:Nat):Int)=92:=by rw[e5];rfl
  rw[if_neg (fun h=>h.2.2.2.2 e5)]
  simp only[go_sem,hi,h2,h1,e1i,e2i,e3i,e4i,e5i]
  exact V0
 have e5i:¬((x.toNat:Nat):Int)=92:=jR (d:=92) e5
 rw[if_pos ⟨e1,e2,e3,e4,e5⟩]
 have w5:IntKind.u32.wrap ((x.toNat:Nat):Int)=((x.toNat:Nat):Int):=by have:=x.toNat_lt;rw[IntKind.wrap_u32];omega
 simp only[go_sem,hi,h2,h1,e1i,e2i,e3i,e4i,e5i]
 refine bP b9 ?_
 simp only[go_sem,h1,w5,B3,ht]
 exact⟨hl3,_,dC (k:=2) (e:=0),rfl⟩
end
end Go.Proofs.YthnomjfdcidgbaaGreatDoor
namespace Go.Am
section
section
section
variable {P:Program}{T:Nat→TI}{b₀:Bs}{β:Loc}{g:Nat→Nat}{ob:Obs}{n₀:Nat}{w w':World}
end
end
end
end Go.Am
namespace Go.Proofs.YthnomjfdcidgbaaGreatDoor
section
attribute [local congr] Go.Am.ite_cc
open Go Go.Am Go.Asm
def jM (o:cO):Prop:=∀w:World,rK 3 o w→(∀(i:Nat) t,Src.ep[i]? = some t→w.cell? ⟨3,i,none⟩=some (.string ⟨t.toArray⟩))∧(∀(i:Nat) t,Src.iZ[i]? = some t→w.cell? ⟨0,i,none⟩=some (.string ⟨t.toArray⟩))
theorem yB {o:cO} (ho:jM o) (s:Str):bW Tryz.prog 3 o 204 [sv s] (· = bv (decide (s∈Src.ep))):=by
 refine hdG Tryz.func204 rfl [.tmp 2] fun b₀ β0 s0 w0 g=>?_
 have hwl:Src.ep.length=10:=rfl
 simp only[go_sem]
 refine ai (fun n st=>∃k:Nat,n+k=10∧st.f 0=sv s∧st.f 4=iv .i64 k∧s∉Src.ep.take k) 10 ?_ ?_
 ·refine⟨0,rfl,?_⟩
  simp only[go_sem]
  simp
 rintro n f g' ob ⟨k,hk,q0,q4,hno⟩
 simp only at q0 q4
 have hw:=ae (k:=k) a6
 by_cases hlt:k<10
 ·have hlti:(k:Int)<10:=a6
  obtain⟨t,ht⟩:=getq (l:=Src.ep) (k:=k) a6
  simp only[go_sem,q0,q4,hlti]
  refine qr aW (fun s β ds w h=>h.1.2) aU (n:=10) (e:=9) rfl rfl a8 (kd:=.i64) (i:=k) (by simp only[go_sem,q4]) hlt (cs:=[.str t]) (fun j x hx=>by match j,hx with|0,hx=>cases hx;rfl) (fun w hw j x hx=>by
   match j,hx with
   | 0,hx=>cases hx;rw[show k*(Tt 9).size+0=k from by show k*1+0=k;omega];exact(ho w hw).1 k t ht) ?_
  by_cases he:t=s
  ·have hin:s∈Src.ep:=he▸l4 ht
   simp only[go_sem,q0,he]
   exact(A6 hin).symm
  ·simp only[go_sem,q0,q4,he,hw]
   refine ac (n-1) a6 ⟨k+1,a6,?_⟩
   simp only[go_sem,q0]
   rw[A8,ht]
   simp[hno,z8 he]
 ·obtain rfl:k=10:=a6
  rw[l5 (by rw[hwl];decide)] at hno
  simp only[go_sem,q0,q4,show ¬((10:Nat):Int)<10 by decide]
  exact(x8 hno).symm
def qa (s:Str):Src.R (Nat×Str×Nat):=if 20<s.length then .err 2 else if s∈Src.ep then .ok (3,s,0) else .ok (1,s,0)
theorem FK {o:cO} (ho:jM o) (s:Str):bW Tryz.prog 3 o 201 [sv s] (· = pH (qa s)):=by
 refine hdG Tryz.func201 rfl [.cell 2 104,.tmp 3] fun b₀ β0 s0 w0 g=>?_
 unfold qa
 by_cases h20:20<s.length
 ·have h20i:(20:Int)<(s.length:Int):=a6
  rw[if_pos h20]
  simp only[go_sem,h20i,ff]
  exact⟨_,dC (k:=0) (v:=0) (e:=2),rfl⟩
 have h20i:¬(20:Int)<(s.length:Int):=a6
 rw[if_neg h20]
 simp only[go_sem,h20i]
 refine cQ rfl (by simp only[go_sem];exact yB ho s) ?_
 rintro _ rfl
 by_cases hin:s∈Src.ep
 ·rw[if_pos hin,A6 hin]
  simp only[go_sem,ff]
  exact⟨_,dC (k:=3) (v:=0) (e:=0),rfl⟩
 ·rw[if_neg hin,x8 hin]
  simp only[go_sem,ff]
  exact⟨_,dC (k:=1) (v:=0) (e:=0),rfl⟩
end
end Go.Proofs.YthnomjfdcidgbaaGreatDoor
