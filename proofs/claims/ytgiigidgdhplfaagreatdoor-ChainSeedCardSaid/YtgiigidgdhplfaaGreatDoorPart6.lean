/- A part of the proof; no conditions. -/
import Derived.Test.YtgiigidgdhplfaaGreatDoorPart5
import Derived.RangeFuncSeq
import Derived.Below
import Derived.Lib.UnsafeStr
import Derived.Laws.Externs
import Derived.Handed
import Derived.Lay
import Derived.LaidMore
import Derived.SevenTiedAt
import Derived.Stop.Joined
import Derived.KernelRfl
import Derived.DefersIn
import Derived.RecoverIn
import Derived.Test.YtgiigidgdhplfaaGreatDoorProg
import Derived.Lib.Bytealg
import Derived.Shelf.Strings.IndexAnyAll
import Derived.Laws.RangeAny
import Derived.WalkMore
import Derived.Shelf.RegionOpenPlain
import Derived.BigQuiet
import Derived.Laws.Runes
import Derived.Shelf.Small.Utf8
import Derived.Lib.QuoteLoop
import Derived.Lib.TrimU
import Derived.Lib.OthersKept
import Derived.Shelf.Strings.SlTrimAscii
import Derived.Shelf.Strings.Runes
set_option linter.unusedSimpArgs false
set_option linter.unusedVariables false
set_option maxHeartbeats 64000000
set_option maxRecDepth 100000
namespace Go.Am
section
section
variable {B B' id:Nat}{ops:Array Oper}{Q:Exit→St→Prop}
section
variable {P:Program}{T:Nat→TI}{b₀:Bs}{w:World}{rd:Option Nat}{Φ:St→Loc→List Deferred→World→Prop}{Ψ:fj}
theorem tJ {hT:aN P T} (hΦ:aQ b₀ Φ) {B N:Nat}{ops:Array Oper}{ds:List Deferred}{Q:Exit→Act→World→Prop} (hnd:ops.toList.all aE=true) (hg:ops.toList.all (fun o=>o.guard.isNone)=true) (hds:er N ops.toList=true) (I:(Nat→Bool)→St→Prop)
  (hstep:∀(L:Nat→Bool) (s:St) (i:Nat) (o:Oper),I L s→ops[i]? = some o→L i=false→(∀e∈o.after.toList,Region.binds .any e=true→L e.on=true)→
    (∀j o',L j=true→ops[j]? = some o'→∀e∈o'.after.toList,Region.binds .any e=true→L e.on=true)→opA (spB P B) T o s (bx fun s'=>I (upd L i true) s')) :
  ∀(fuel:Nat) (listed:Array Bool) {s:St}{β:Loc}{a:Act}{w:World},listed.size=ops.size→listed.toList.count false≤fuel→Rel b₀ N s β a w→Φ s β ds w→I (fun i=>listed.getD i false) s→
   (∀j o',listed.getD j false=true→ops[j]? = some o'→∀e∈o'.after.toList,Region.binds .any e=true→listed.getD e.on false=true)→
   (∀L s' β' a' w',I L s'→Rel b₀ N s' β' a' w'→Φ s' β' ds w'→(∃listed',L=(fun i=>listed'.getD i false)∧listed'.size=ops.size∧Region.ready .any ops listed'=[])→Q .normal { a' with defers:=ds } w')→
   wpAnyIn (fen rd) 0 P .any ops Q fuel listed { a with defers:=ds } w
 |0,listed,s,β,a,w,hsz,hc,hr,hφ,hI,hid,hQ=>by
   exact Vz
 |fuel+1,listed,s,β,a,w,hsz,hc,hr,hφ,hI,hid,hQ=>by
   refine⟨fun hrd=>hQ _ s β a w hI hr hφ ⟨listed,rfl,hsz,hrd⟩,fun i hi=>?_⟩
   unfold Region.ready at hi
   simp only[UT,D6,s9,H3] at hi
   obtain⟨hi1,hi2,hi3⟩:=hi
   have ho:ops[i]? = some ops[i]:=y2 hi1
   rw[ho] at hi3
   simp only[x8,y7,P3,G0,H3] at hi3
   have hli:listed[i]? = some false:=by
    exact Xn
   have hL:listed.getD i false=false:=by rw[v7,hli];rfl
   have hedge:∀e∈ops[i].after.toList,Region.binds .any e=true→listed.getD e.on false=true:=fun e he hb=>by
    exact WI
   have hgi:(ops[i]).guard=none:=by
    have:=x7.1 hg ops[i] (G3 hi1)
    exact WO
   have hdi:∀d,(ops[i]).dst=some d→d<N:=fun d hd=>by
    exact W8
   have hni:aE ops[i]=true:=x7.1 hnd ops[i] (G3 hi1)
   unfold wpOpIn
   rw[ho]
   simp only
   rw[if_pos (by simp[Region.wanted,hgi])]
   have hset:(fun j=>(listed.setIfInBounds i true).getD j false)=upd (fun j=>listed.getD j false) i true:=by
    funext j
    exact V9
   refine eS hni (ku hT hr hdi (hstep _ s i ops[i] hI ho hL hedge hid) (fun s' β' a' w' hI' hr' ht'=>⟨hr'.defers,?_⟩))
   refine tJ (hT:=hT) hΦ hnd hg hds I hstep fuel (listed.setIfInBounds i true) (by simpa using hsz) Ze hr' (hΦ _ _ _ _ _ _ _ hφ ht') (by rw[hset];exact hI') (fun j o' hj hoj e he hb=>?_) hQ
   exact Vo
theorem oZ (hT:aN P T) (hm:P.follows .mixedOrders=true) (hΦ:aQ b₀ Φ){s:St}{q:Box Q} (hnd:ops.toList.all aE=true) (hok:(ops.toList.all (fun o=>o.guard.isNone)&&ri ops)=true) (I:(Nat→Bool)→St→Prop) (h0:I (fun _=>false) s)
  (hstep:∀(L:Nat→Bool) (s:St) (i:Nat) (o:Oper),I L s→ops[i]? = some o→L i=false→(∀e∈o.after.toList,Region.binds .any e=true→L e.on=true)→
    (∀j o',L j=true→ops[j]? = some o'→∀e∈o'.after.toList,Region.binds .any e=true→L e.on=true)→opA (spB P B) T o s (bx fun s'=>I (upd L i true) s'))
  (hend:∀L s',I L s'→(∀i,i<ops.size→L i=true)→Q .normal s'):iB (spF P rd b₀ Φ B' Ψ) T id ops s q:=by
 rw[s9] at hok
 obtain⟨hg,hbk⟩:=hok
 refine .inr ⟨fun e s'=>e=.normal∧Q .normal s',fun N β a ds w hc hr hφ=>?_,fun e s' ⟨h1,h2⟩=>h1▸h2⟩
 have hr1:Rel b₀ N s β a { w with drawn:=w.drawn+1 }:=hr.of_heap rfl
 have hφ1:Φ s β ds { w with drawn:=w.drawn+1 }:=hΦ _ _ _ _ _ _ _ hφ (Tr.same rfl rfl rfl)
 refine wpIn_region_any hm (tJ (hT:=hT) hΦ hnd hg hc I hstep ops.size (Array.replicate ops.size false) a7 a7 hr1 hφ1 ?_ (fun j o' hj=>?_) (fun L s' β' a' w' h2 h4 h5 h6=>⟨s',β',a',ds,rfl,.inl ⟨rfl,hend L s' h2 YD⟩,h4,h5⟩))
 ·exact V6
 ·rw[v7,C3] at hj
  split at hj <;> simp at hj
theorem kl (hT:aN P T) (hm:P.follows .mixedOrders=true) (hΦ:aQ b₀ Φ){s:St}{q:Box Q} (ids:List Nat) (tb:List (List Nat×List Nat×List Nat×Bool)) (nid:Nat) (hnd0:ops.toList.all aE=true) (hok:zK ops tb nid=true) (hnid:ids.length=nid) (hnd:ids.Nodup)
  (h:gS (spB P B) T ids (gO ops.toList tb) s (bx fun s'=>Q .normal s')):iB (spF P rd b₀ Φ B' Ψ) T id ops s q:=by
 obtain⟨h1,I,h2,h3,h4⟩:=zM (Q:=Q) ids tb nid hok hnid hnd h
 exact oZ hT hm hΦ hnd0 h1 I h2 h3 h4
end
end
section
section
variable {P:Program}{T:Nat→TI}{b₀:Bs}{w:World}
theorem jr {N:Nat}{xs:List AV}{vs:List Value}{g:Nat→Nat}{ob:Obs}{β:Loc}{fa:Nat→AV}{M:Nat}{a:Act} (hargs:xs.length≤N) (hr0:Rel b₀ M ⟨fa,g,ob⟩ β a w) (hv:aA b₀ β g ob w xs vs) :
  Rel b₀ N ⟨ci xs,g,ob⟩ β { tmps:=vs.toArray++Array.replicate (N-vs.toArray.size) undef,defers:=[]} w:=by
 have hl:=hv.len
 refine⟨rfl,by simp;omega,fun i=>?_,hr0.obj,hr0.inj,hr0.base⟩
 simp only[ci]
 cases hx:xs[i]? with
 |some x=>
   obtain⟨v,h1,h2⟩:=hv.get hx
   have hlt:i<vs.length:=(l4.1 h1).1
   have:(vs.toArray++Array.replicate (N-vs.toArray.size) undef).getD i undef=v:=by
    rw[v7,D9 (by simpa using hlt)]
    simp[h1]
   rw[this]
   simpa only[y7] using h2
 |none=>
   have hge:xs.length≤i:=by simpa using hx
   have:(vs.toArray++Array.replicate (N-vs.toArray.size) undef).getD i undef=undef:=by
    rw[v7,G5 XQ]
    simp[C3]
    split <;> rfl
   rw[this]
   exact bR
end
end
section
def Mk (b₀:Bs) (β:Loc) (ob:Obs) (w:World) (n₀:Nat):List Deferred→Prop
 |[]=>True
 |d::ds=>(∃D,d = { target:=.collected D,args:=#[]}∧n₀≤D∧Imm b₀ β ob w D∧w.heap[D]? = some (.deferred (some []))∧∀d'∈ds,d'≠d)∧Mk b₀ β ob w n₀ ds
def PJ (b₀:Bs) (β0:Loc) (s0:St) (w0:World):St→Loc→List Deferred→World→Prop:=fun s β ds w=>Tr b₀ β0 s0 w0 β s w∧Mk b₀ β s.obj w w0.heap.size ds
theorem Mk.keep {b₀:Bs}{β β':Loc}{s s':St}{w w':World} (h:Tr b₀ β s w β' s' w') {n₀:Nat}:∀{ds:List Deferred},Mk b₀ β s.obj w n₀ ds→Mk b₀ β' s'.obj w' n₀ ds
 |[],_=>trivial
 |d::ds,hm=>by
   obtain⟨⟨D,h1,h2,h3,h4,h5⟩,hr⟩:=hm
   exact⟨⟨D,h1,h2,(h.imm D h3).1,by rw[(h.imm D h3).2];exact h4,h5⟩,Mk.keep h hr⟩
theorem Bj {b₀:Bs}{β0:Loc}{s0:St}{w0:World}:aQ b₀ (PJ b₀ β0 s0 w0):=fun _ _ _ _ _ _ _ h ht=>⟨h.1.trans ht,h.2.keep ht⟩
section
variable {P:Program}{T:Nat→TI}{b₀:Bs}{β:Loc}{w:World}
end
end
section
section
variable {P:Program}{T:Nat→TI}{b₀:Bs}{β:Loc}{w:World}
end
end
section
variable {cells:List C}
section
variable {P:Program}{T:Nat→TI}{b₀:Bs}{β:Loc}{w:World}
def St.claimAt (s:St) (o b j sz:Nat) (cells:List C):St:=⟨s.f,upd s.gen b (s.gen b+1),upd (upd s.obj o (some (cells.set j (.osl b (s.gen b+1) sz 0 0)))) b (some [])⟩
theorem wa {s:St}{t o b j sz:Nat} (ht:(∃off,s.f t=.one (.ptr o (s.gen o) off))∨∃sz off len,s.f t=.one (.osl o (s.gen o) sz off len)) (ho:s.obj o=some cells) (hj:cells[j]? = some (.d .nsl)) (n1:o≠b):ab s (s.claimAt o b j sz cells):=by
 intro b₀ N β a w hr
 let β':Loc:=fun i=>if i=b then none else β i
 have hlive:∀i,i≠b→((s.claimAt o b j sz cells).obj i).isSome=true→(s.obj i).isSome=true:=fun i hib hi=>by
  simp only[St.claimAt,upd,if_neg hib] at hi
  by_cases e2:i=o
  ·subst e2;rw[ho];rfl
  ·rwa [if_neg e2] at hi
 have hkeep:dU b₀ β s.gen s.obj w β' (s.claimAt o b j sz cells).gen (s.claimAt o b j sz cells).obj w:=by
  refine⟨fun x hx=>⟨⟨hx.1,hx.2.1,fun i a' hi hβ=>?_⟩,rfl⟩,fun i=>?_,fun i hg hi=>?_⟩
  ·by_cases hib:i=b
   ·simp[β',hib] at hβ
   ·simp only[β',if_neg hib] at hβ
    exact hx.2.2 i a' (hlive i hib hi) hβ
  ·simp only[St.claimAt,upd];split
   ·rename_i e;subst e;omega
   ·omega
  ·by_cases hib:i=b
   ·subst hib;simp[St.claimAt,upd] at hg
   ·exact⟨hlive i hib hi,by simp[β',hib],fun a' _ arr el fr h=>⟨arr,el,fr,h,l0 _⟩⟩
 have hspot:∀ad,β o=some ad→ad.spot=none:=fun ad hβ=>by
  have hv:=hr.f t
  rcases ht with⟨off,ht⟩|⟨sz,off,len,ht⟩
  ·rw[ht] at hv
   simp only[ag,aq] at hv
   obtain⟨a',h1,h2,_⟩:=hv.2.2 trivial YJ
   rw[hβ] at h1;cases h1;exact h2
  ·rw[ht] at hv
   simp only[ag] at hv
   exact(gq hv rfl YJ).spot ad hβ
 refine⟨β',⟨hr.defers,hr.size,fun i=>ag.keep hkeep _ (hr.f i),fun i cells' hc'=>?_,fun i1 i2 a1 a2 l1 l2 b1 b2 hb=>?_,hr.base⟩,l0 _,fun _ _=>rfl,hkeep,rfl,rfl⟩
 ·by_cases hib:i=b
  ·subst hib
   simp only[St.claimAt,upd,A5,s6] at hc'
   subst hc'
   simp only[β',A5]
   rfl
  ·by_cases e2:i=o
   ·subst e2
    simp only[St.claimAt,upd,if_neg hib,A5,s6] at hc'
    subst hc'
    have hob:=hr.obj i cells ho
    have hβ':β' i=β i:=by simp[β',n1]
    rw[hβ']
    cases hβ:β i with
    |none=>rw[hβ] at hob;have:cells=[]:=hob;subst this;simp at hj
    |some ad=>
      rw[hβ] at hob
      obtain⟨g1,arr,el,lo,hi,g2,g3,g4,g5⟩:=hob.cells (hspot ad hβ)
      refine .ofCells (hspot ad hβ) ⟨g1,arr,el,lo,hi,g2,by simpa[St.claimAt,upd,hib] using g3,by simpa using g4,fun k c hk=>?_⟩
      by_cases hkj:k=j
      ·subst hkj
       have hlt:=(l4.1 hj).1
       rw[List.getElem?_set_self hlt] at hk
       cases hk
       obtain⟨v,hv,hrv⟩:=g5 k _ hj
       simp only[aq] at hrv
       obtain rfl:=hrv.inv_nsl
       refine⟨_,hv,rfl,by simp[St.claimAt,upd],fun _ _=>?_⟩
       simp only[β',A5]
       exact⟨rfl,rfl⟩
      ·rw[Q9 (z7 hkj)] at hk
       obtain⟨v,hv,hrv⟩:=g5 k c hk
       exact⟨v,hv,hrv.keep hkeep⟩
   ·simp only[St.claimAt,upd,if_neg hib,if_neg e2] at hc'
    have:=(hr.obj i cells' hc').keep hkeep (fun _ _=>rfl)
    simpa[β',hib,St.claimAt,upd] using this
 ·have h1:i1≠b:=fun e=>by simp[β',e] at b1
  have h2:i2≠b:=fun e=>by simp[β',e] at b2
  simp only[β',if_neg h1] at b1
  simp only[β',if_neg h2] at b2
  exact hr.inj i1 i2 a1 a2 (hlive i1 h1 l1) (hlive i2 h2 l2) b1 b2 hb
theorem cA {s:St}{t o b j sz off:Nat} (ht:s.f t=.one (.ptr o (s.gen o) off)) (ho:s.obj o=some cells) (hj:cells[j]? = some (.d .nsl)) (n1:o≠b):ab s (s.claimAt o b j sz cells):=
 wa (.inl ⟨off,ht⟩) ho hj n1
end
end
end
section
attribute [local congr] Go.Am.ite_cc
section
variable {s:St}{K:List AV→Prop}{T:Nat→TI}{fn:Func}{g:Nat→Nat}{rs:List ResultVar}{R:AV→Prop}{r:List ResultVar}{k:Box K}
section
variable {P:Program}{T:Nat→TI}{b₀:Bs}{β:Loc}{w:World}
def gU (T:Nat→TI) (s:St):List ResultVar→{K:List AV→Prop}→Box K→Prop
 |[],K,_=>K []
 |.tmp t::r,K,_=>gU T s r (bx fun vs=>K (s.f t::vs))
 |.cell a ty::r,K,_=>pT (T ty) s (s.f a) (bx fun v=>gU T s r (bx fun vs=>K (v::vs)))
theorem lU (hT:aN P T) {N:Nat}{s:St}{a:Act} (hr:Rel b₀ N s β a w) :
  ∀(rs:List ResultVar) {K:List AV→Prop}{k:Box K},gU T s rs k→∃vs avs,(∀g:ResultVar→Sem Value,(∀t,g (.tmp t)=pure (a.tmps.getD t undef))→(∀x t,g (.cell x t)=do loadVar t (←asAddr (a.tmps.getD x undef)))→(rs.mapM g).run P w=.ok vs w)∧K avs∧aA b₀ β s.gen s.obj w avs vs
 |[],K,k,h=>⟨[],[],fun _ _ _=>by simp,h,by simp only[aA]⟩
 |.tmp t::r,K,k,h=>by
   obtain⟨vs,avs,h1,h2,h3⟩:=lU hT hr r h
   refine⟨_::vs,_::avs,fun g hg hg2=>?_,h2,by simp only[aA];exact⟨_,_,rfl,hr.f t,h3⟩⟩
   simp only[P8,Sem.run_bind,hg,Sem.run_pure,Result.andThen_ok,h1 g hg hg2]
 |.cell x ty::r,K,k,h=>by
   unfold gU at h
   obtain⟨y,cv,hK,hrun,hrep⟩:=pZ hT hr h (hr.f x)
   obtain⟨vs,avs,h1,h2,h3⟩:=lU hT hr r hK
   refine⟨cv::vs,y::avs,fun g hg hg2=>?_,h2,by simp only[aA];exact⟨_,_,rfl,hrep,h3⟩⟩
   have hl:=hrun w .refl
   have hcell:(g (.cell x ty)).run P w=.ok cv w:=by
    rw[hg2]
    unfold Instr.loadAt at hl
    cases hv:a.tmps.getD x undef with
    |pointer p=>
      rw[hv] at hl
      cases p with
      |some p=>simpa[Instr.sureAddr,asAddr] using hl
      |none=>simp[Instr.sureAddr] at hl
    |_=>rw[hv] at hl;simp[Instr.sureAddr] at hl
   simp only[P8,Sem.run_bind,hcell,Sem.run_pure,Result.andThen_ok,h1 g hg hg2]
def pack:List AV→AV
 |[t]=>t
 |ts=>.tup ts
def kj:List Value→Value
 |[v]=>v
 |vs=>.tuple vs.toArray
theorem wb{ob:Obs}:∀{avs:List AV}{vs:List Value},aA b₀ β g ob w avs vs→ag b₀ β g ob w (pack avs) (kj vs)
 |[],vs,h=>by simp only[aA] at h;subst h;simp only[pack,kj,ag,aA];exact⟨[],rfl,rfl⟩
 |[t],vs,h=>by simp only[aA] at h;obtain⟨u,us,rfl,h1,rfl⟩:=h;exact h1
 |t::t'::ts,vs,h=>by
   have h0:=h
   simp only[aA] at h
   obtain⟨u,us,rfl,h1,u',us',rfl,h2,h3⟩:=h
   simp only[pack,kj,ag]
   exact⟨_,rfl,h0⟩
theorem ce (hT:aN P T) {N:Nat}{a:Act} (hr:Rel b₀ N s β a w) (hres:fn.results=rs.toArray) (h:gU T s rs k) :
  ∃v avs,(results fn a.tmps).run P w=.ok v w∧K avs∧ag b₀ β s.gen s.obj w (pack avs) v∧∃vs,v=kj vs∧aA b₀ β s.gen s.obj w avs vs:=by
 obtain⟨vs,avs,h1,h2,h3⟩:=lU hT hr rs h
 refine⟨kj vs,avs,?_,h2,wb h3,vs,rfl,h3⟩
 unfold results
 simp only[hres,T5,Sem.run_bind,Sem.run_map]
 rw[h1 _ (fun _=>rfl) (fun _ _=>rfl)]
 simp only[Result.andThen_ok,Sem.run_pure]
 match vs with
 |[]=>simp[kj]
 |[t]=>simp[kj]
 |t::t'::ts=>simp[kj]
def ro (T:Nat→TI) (rs:List ResultVar) (R:AV→(Nat→Nat)→Obs→Prop):Exit→St→Prop
 |.normal,s|.ret,s=>∃s',ab s s'∧gU T s' rs (bx fun avs=>R (pack avs) s'.gen s'.obj)
 |_,_=>False
theorem yi (B:Nat) (hT:aN P T) (hm:P.follows .mixedOrders=true) {f:FuncId}{c:Code} (hf:P.funcs[f]? = some fn) (hb:fn.body=some c) (hn:(fn.name == "runtime.NumGoroutine")=false)
  (rs:List ResultVar) (hres:fn.results=rs.toArray) (hok:codeOk fn.ntmps c=true) {xs:List AV} (hargs:xs.length≤fn.ntmps){ob:Obs}{R:AV→(Nat→Nat)→Obs→Prop}
  (h:wpC (spB P B) T c (bx (ro T rs R)) ⟨ci xs,g,ob⟩):fg P f xs g ob R:=by
 refine⟨⟨fn,hf,by rw[hb];rfl,hn⟩,fun b₀ N β a fa w vs hr0 hv=>?_⟩
 refine calls_of_wp hf hb ?_
 have hl:=hv.len
 have hr:Rel b₀ fn.ntmps ⟨ci xs,g,ob⟩ β { tmps:=vs.toArray++Array.replicate (fn.ntmps-vs.toArray.size) undef,defers:=[]} w:=by
  refine⟨rfl,by simp;omega,fun i=>?_,hr0.obj,hr0.inj,hr0.base⟩
  simp only[ci]
  cases hx:xs[i]? with
  |some x=>
    exact Vw
  |none=>
    exact Xq
 refine wp_mono (dJ (B:=B) hT hm c hok hr h) (fun e a' w' hp=>?_)
 obtain⟨s',β',hQ,hr',ht⟩:=hp
 have hres':ro T rs R .ret s'→∃v,(results fn a'.tmps).run P w'=.ok v w'∧∃v' r g' ob' β',Ending.returned v=.returned v'∧R r g' ob'∧ag b₀ β' g' ob' w' r v'∧
   (∀id cells,ob' id=some cells→cF b₀ β' g' ob' w' (g' id) cells (β' id))∧(∀id id' a a',(ob' id).isSome=true→(ob' id').isSome=true→β' id=some a→β' id'=some a'→a.block=a'.block→id=id')∧
   Tr b₀ β ⟨fa,g,ob⟩ w β' ⟨fa,g',ob'⟩ w':=by
  rintro⟨s2,hvs,hR⟩
  obtain⟨β2,hr2,ht2⟩:=hvs b₀ fn.ntmps β' a' w' hr'
  exact WD
 cases e with
 |normal=>exact⟨hr'.defers,hres' hQ⟩
 |ret=>exact⟨hr'.defers,hres' hQ⟩
 |exit id=>exact hQ.elim
 |goto l=>exact hQ.elim
 |panic ch=>exact hQ.elim
 |outgrown=>exact hQ.elim
def nc (s:St):List AV→AV→Prop
 |[t],r=>jc s t r
 |ts,r=>∃rs,cG s ts rs∧r=.tup rs
theorem nc.rep {N:Nat}{s:St}{a:Act} (hr:Rel b₀ N s β a w):∀{ts:List AV}{r:AV}{vs:List Value},nc s ts r→aA b₀ β s.gen s.obj w ts vs→RV (Own b₀ w) w r (kj vs):=by
 have hmany:∀(ts rs:List AV) (vs:List Value),cG s ts rs→aA b₀ β s.gen s.obj w ts vs→RVs (Own b₀ w) w rs vs:=by
  intro ts
  induction ts with
  |nil=>intro rs vs h hv;simp only[cG] at h;simp only[aA] at hv;subst h hv;simp only[RVs]
  |cons t ts ih=>
    intro rs vs h hv
    simp only[cG] at h
    simp only[aA] at hv
    obtain⟨r,rs',rfl,h1,h2⟩:=h
    obtain⟨u,us,rfl,h3,h4⟩:=hv
    simp only[RVs]
    exact⟨_,_,rfl,h1.rep hr h3,ih _ _ h2 h4⟩
 intro ts r vs h hv
 match ts,h with
 |[],⟨rs,h1,h2⟩=>
   subst h2
   have:=hmany _ _ _ h1 hv
   simp only[aA] at hv
   subst hv
   simp only[RV,kj];exact⟨_,rfl,this⟩
 |[t],h=>
   simp only[aA] at hv
   obtain⟨u,us,rfl,h1,rfl⟩:=hv
   exact jc.rep hr h h1
 |t::t'::ts,⟨rs,h1,h2⟩=>
   subst h2
   have:=hmany _ _ _ h1 hv
   simp only[aA] at hv
   obtain⟨u,us,rfl,_,u',us',rfl,_,_⟩:=hv
   simp only[RV,kj];exact⟨_,rfl,this⟩
def rp (T:Nat→TI) (rs:List ResultVar) (R:AV→Prop):Exit→St→Prop
 |.normal,s|.ret,s=>gU T s rs (bx fun avs=>∃r,nc s avs r∧R r)
 |_,_=>False
theorem wc (hT:aN P T) (hm:P.follows .mixedOrders=true) {f:FuncId}{c:Code} (hf:P.funcs[f]? = some fn) (hb:fn.body=some c) (hn:(fn.name == "runtime.NumGoroutine")=false)
  (rs:List ResultVar) (hres:fn.results=rs.toArray) (hok:codeOk fn.ntmps c=true) {args:List AV} (hargs:args.length≤fn.ntmps)
  (h:∀g,wpC (sp P) T c (bx (rp T rs R)) ⟨ci args,g,fun _=>none⟩):aG P f args R:=by
 refine⟨⟨fn,hf,by rw[hb];rfl,hn⟩,fun J w vs hJ hv=>?_⟩
 refine calls_of_wp hf hb ?_
 have hlen:∀(l:List AV) (vs:List Value),RVs J w l vs→vs.length=l.length:=by
  intro l
  induction l with
  |nil=>intro vs h;simp only[RVs] at h;subst h;rfl
  |cons x l ih=>intro vs h;simp only[RVs] at h;obtain⟨u,us,rfl,_,h⟩:=h;simp[ih us h]
 have hl:=hlen _ _ hv
 let J':Nat→Prop:=J
 have hr:Rel ⟨w.heap.size,J'⟩ fn.ntmps ⟨ci args,fun _=>0,fun _=>none⟩ (fun _=>none) { tmps:=vs.toArray++Array.replicate (fn.ntmps-vs.toArray.size) undef,defers:=[]} w:=by
  refine⟨rfl,by simp;omega,fun i=>?_,fun id cells ho=>Zh,fun id id' a a' ho=>Zh,l0 _⟩
  have hget:∀(l:List AV) (vs:List Value),RVs J w l vs→∀(i:Nat) (x:AV),l[i]? = some x→∃v,vs[i]? = some v∧RV J w x v:=by
   intro l
   induction l with
   |nil=>intro vs _ i x h;simp at h
   |cons y l ih=>
     intro vs h i x hx
     simp only[RVs] at h
     obtain⟨u,us,rfl,h1,h2⟩:=h
     cases i with
     |zero=>simp at hx;subst hx;exact⟨u,rfl,h1⟩
     |succ i=>simpa using ih us h2 i x (by simpa using hx)
  simp only[ci]
  cases hx:args[i]? with
  |some x=>
    exact VL
  |none=>
    exact Xl
 refine wp_mono (dJ hT hm c hok hr (h _)) (fun e a' w' hp=>?_)
 obtain⟨s',β',hQ,hr',ht⟩:=hp
 have hres':rp T rs R .ret s'→∃v,(results fn a'.tmps).run P w'=.ok v w'∧∃r,R r∧RV (Own ⟨w.heap.size,J'⟩ w') w' r v:=by
  intro hQ
  obtain⟨v,avs,h1,⟨r,h2,h3⟩,_,vs',rfl,h4⟩:=ce hT hr' hres hQ
  exact⟨_,h1,r,h3,h2.rep hr' h4⟩
 cases e with
 |normal=>
   obtain⟨v,h1,r,h2,h3⟩:=hres' hQ
   exact Wk
 |ret=>
   obtain⟨v,h1,r,h2,h3⟩:=hres' hQ
   exact Wk
 |exit id=>exact hQ.elim
 |goto l=>exact hQ.elim
 |panic ch=>exact hQ.elim
 |outgrown=>exact hQ.elim
end
@[go_sem] theorem Oj:gU T s [] k=K []:=j8 rfl rfl
@[go_sem] theorem Ok{t:Nat}:gU T s (.tmp t::r) k=gU T s r (bx fun vs=>K (s.f t::vs)):=j8 rfl rfl
@[go_sem] theorem Ll{a ty:Nat}:gU T s (.cell a ty::r) k=pT (T ty) s (s.f a) (bx fun v=>gU T s r (bx fun vs=>K (v::vs))):=j8 rfl rfl
@[go_sem] theorem Ol:rp T rs R .ret s=gU T s rs (bx fun avs=>∃r,nc s avs r∧R r):=j8 rfl rfl
@[go_sem] theorem PH{t r:AV}:nc s [t] r=jc s t r:=j8 rfl rfl
theorem cL {α:Type}{id g sz n:Nat}{cells:List C} (hg:s.gen id=g) (l:List α) (enc:α→List D) (ho:s.obj id=some cells) (hc:cells=l.flatMap (fun a=>(enc a).map .d)) (hn:∀a∈l,∀x∈enc a,eQ x=x) (hs:∀a∈l,(enc a).length=sz) (hl:l.length=n) :
  Frz s (.osl id g sz 0 n) (.sl (l.map enc)):=by
 have hfl:cells=(l.map enc).flatten.map .d:=by rw[hc];clear hn hs hl hc ho;induction l with|nil=>rfl|cons a l ih=>simp[ih]
 have hlen:cells.length=n*sz:=by
  rw[hfl,j5]
  clear hfl hc hn ho
  subst hl
  induction l with
  |nil=>simp
  |cons a l ih=>
    simp only[l7,G1,j4,j6,hs a a7,ih (fun b hb=>hs b (by simp[hb]))]
    rw[E6];omega
 refine .osl hg ho a6 Yy (fun e he=>by obtain⟨a,ha,rfl⟩:=H8.1 he;exact hs a ha) (fun j=>(cells[0+j]?).getD (.d .nsl)) (fun j x hx=>?_) (fun j x hx=>?_)
 ·rw[hfl,C5,w8,hx];rfl
 ·rw[hfl,C5,w8,hx]
  simp only[x8,y7]
  have hxn:eQ x=x:=by
   have hm:=l6 hx
   obtain⟨e,he,hxe⟩:=List.mem_flatten.1 hm
   obtain⟨a,ha,rfl⟩:=H8.1 he
   exact hn a ha x hxe
  have:=Frz.d (s:=s) x
  rwa [hxn] at this
end
end
section
section
structure lH (b₀:Bs) (β:Loc) (ob:Obs) (n₀:Nat) (w w':World):Prop where
 size:w'.heap.size=w.heap.size
 os:w'.os=w.os∧w'.output=w.output
 same:∀b,w'.heap[b]? = w.heap[b]?∨(n₀≤b∧Imm b₀ β ob w b∧(∃x,w.heap[b]? = some (.deferred x))∧∃x,w'.heap[b]? = some (.deferred x))
section
variable {P:Program}{T:Nat→TI}{b₀:Bs}{β:Loc}{g:Nat→Nat}{ob:Obs}{n₀:Nat}{w w':World}
theorem lH.refl:lH b₀ β ob n₀ w w:=⟨rfl,⟨rfl,rfl⟩,fun _=>.inl rfl⟩
theorem lH.trans {w'':World} (h:lH b₀ β ob n₀ w w') (h':lH b₀ β ob n₀ w' w''):lH b₀ β ob n₀ w w'':=by
 refine⟨h'.size.trans h.size,⟨h'.os.1.trans h.os.1,h'.os.2.trans h.os.2⟩,fun b=>?_⟩
 rcases h.same b with e|⟨e1,e2,e3,e4⟩
 ·rcases h'.same b with e'|⟨e1',e2',e3',e4'⟩
  ·exact .inl (e'.trans e)
  ·exact .inr ⟨e1',by unfold Imm at *;rw[h.size] at e2';exact e2',by rw[←e];exact e3',e4'⟩
 ·rcases h'.same b with e'|⟨e1',e2',e3',e4'⟩
  ·exact .inr ⟨e1,e2,e3,by rw[e'];exact e4⟩
  ·exact .inr ⟨e1,e2,e3,e4'⟩
theorem lH.cell (h:lH b₀ β ob n₀ w w') {a:Addr}{v:Value} (hc:w.cell? a=some v):w'.cell? a=some v:=by
 rcases h.same a.block with e|⟨_,_,⟨x,e⟩,_⟩
 ·rw[jU e];exact hc
 ·simp[World.cell?,e] at hc
theorem lH.imm (h:lH b₀ β ob n₀ w w') {b:Nat} (hb:Imm b₀ β ob w b):Imm b₀ β ob w' b:=by unfold Imm at *;rw[h.size];exact hb
theorem bB.shut {J J':Nat→Prop}{x:D}{v:Value} (h:bB J w x v) (hJ:∀b,J b→J' b) (hc:∀a v,w.cell? a=some v→w'.cell? a=some v):bB J' w' x v:=by
 induction h with
 |bool b=>exact .bool b
 |int k n=>exact .int k n
 |str s=>exact .str s
 |nsl=>exact .nsl
 |nilp=>exact .nilp
 |nilf=>exact .nilf
 |nili=>exact .nili
 |nilm=>exact .nilm
 |fn f=>exact .fn f
 |yld l=>exact .yld l
 |sl0=>exact .sl0
 |sl vals hcap hj hsz hcl hr ih=>exact .sl vals hcap (fun h=>hJ _ (hj h)) hsz (fun i e he j x hx=>hc _ _ (hcl i e he j x hx)) ih
 |iptr vals hj hcl hr ih=>exact .iptr vals (fun h=>hJ _ (hj h)) (fun j x hx=>hc _ _ (hcl j x hx)) ih
theorem iW.shut (h:lH b₀ β ob n₀ w w') {c:PC}{v:Value} (hr:iW b₀ β g ob w c v):iW b₀ β g ob w' c v:=by
 cases c with
 |d x=>exact bB.shut hr (fun _=>h.imm) (fun _ _=>h.cell)
 |ptr id g1 off=>exact hr
theorem aq.shut (h:lH b₀ β ob n₀ w w') {c:C}{v:Value} (hr:aq b₀ β g ob w c v):aq b₀ β g ob w' c v:=by
 cases c with
 |d x=>exact bB.shut hr (fun _=>h.imm) (fun _ _=>h.cell)
 |osl id g1 sz off len=>
   obtain⟨h1,h2,h3⟩:=hr
   refine⟨h1,h2,fun hg ho=>?_⟩
   have h4:=h3 hg ho
   cases hβ:β id with
   |none=>rw[hβ] at h4;exact h4
   |some a=>
     rw[hβ] at h4
     obtain⟨h5,h6⟩:=h4
     refine⟨h5,?_⟩
     rcases h6 with⟨cap,q1,q2,q3⟩|h6
     ·refine .inl ⟨cap,q1,q2,fun arr el fr hh=>?_⟩
      rcases h.same a.block with e|⟨_,_,_,⟨x,e⟩⟩
      ·exact q3 arr el fr (by rw[←e];exact hh)
      ·rw[e] at hh;cases hh
     ·exact .inr h6
 |ptr id g1 off=>exact hr
 |clo f caps=>
   obtain⟨vs,h1,h2,h3⟩:=hr
   exact⟨vs,h1,h2,fun i pc hp=>let ⟨u,hu,hr⟩:=h3 i pc hp;⟨u,hu,hr.shut h⟩⟩
 |mp id g1 kd=>exact hr
 |lsl n=>exact hr
 |raw o=>exact hr
theorem kh.shut (h:lH b₀ β ob n₀ w w') {cs:List C}{vs:Array Value} (hr:kh b₀ β g ob w cs vs):kh b₀ β g ob w' cs vs:=
 ⟨hr.1,fun i c hc=>let ⟨u,hu,hr⟩:=hr.2 i c hc;⟨u,hu,hr.shut h⟩⟩
mutual
theorem ag.shut (h:lH b₀ β ob n₀ w w'):(x:AV)→{v:Value}→ag b₀ β g ob w x v→ag b₀ β g ob w' x v
 |.one _,_,hr=>by simp only[ag] at hr ⊢;exact aq.shut h hr
 |.agg _,_,hr=>by simp only[ag] at hr ⊢;obtain⟨vs,h1,h2⟩:=hr;exact⟨vs,h1,h2.shut h⟩
 |.tup ts,_,hr=>by simp only[ag] at hr ⊢;obtain⟨vs,h1,h2⟩:=hr;exact⟨vs,h1,aA.shut h ts h2⟩
 |.junk,_,_=>by simp only[ag]
 |.exact _,_,hr=>by simp only[ag] at hr ⊢;exact hr
theorem aA.shut (h:lH b₀ β ob n₀ w w'):(x:List AV)→{v:List Value}→aA b₀ β g ob w x v→aA b₀ β g ob w' x v
 |[],_,hr=>by simp only[aA] at hr ⊢;exact hr
 |t::ts,_,hr=>by simp only[aA] at hr ⊢;obtain⟨u,us,h1,h2,h3⟩:=hr;exact⟨u,us,h1,ag.shut h t h2,aA.shut h ts h3⟩
end
theorem Rel.shut {N:Nat}{s:St}{a:Act} (hr:Rel b₀ N s β a w) (h:lH b₀ β s.obj n₀ w w'):Rel b₀ N s β a w':=by
 refine⟨hr.defers,hr.size,fun i=>ag.shut h _ (hr.f i),fun id cells ho=>?_,hr.inj,by rw[h.size];exact hr.base⟩
 have h1:=hr.obj id cells ho
 cases hβ:β id with
 |none=>rw[hβ] at h1;exact h1
 |some ad=>
   rw[hβ] at h1
   have he:w'.heap[ad.block]? = w.heap[ad.block]?:=by
    rcases h.same ad.block with e|⟨_,e,_⟩
    ·exact e
    ·exact absurd rfl (e.2.2 id ad Yd hβ)
   cases hs:ad.spot with
   |none=>
     obtain⟨h2,arr,el,lo,hi,h3,h4,h5,h6⟩:=h1.cells hs
     exact .ofCells hs ⟨h2,arr,el,lo,hi,by rw[he];exact h3,h4,h5,fun j c hc=>let ⟨v,hv,hr⟩:=h6 j c hc;⟨v,hv,hr.shut h⟩⟩
   |some kd=>
     obtain⟨h2,⟨es,clock,h3,h4⟩|⟨hk100,o,h3,h4⟩⟩:=h1.map hs
     ·exact .ofMap hs ⟨h2,.inl ⟨es,clock,by rw[he];exact h3,h4.mono fun _ _ q=>by
       unfold gN at q ⊢
       split
       ·rename_i hk
        rw[if_pos hk] at q
        exact aq.shut h q
       ·rename_i hk
        rw[if_neg hk] at q
        obtain⟨ds,vs,q1,q2,q3,q4⟩:=q
        exact⟨ds,vs,q1,q2,q3,fun i x hx=>let ⟨u,hu,hr⟩:=q4 i x hx;⟨u,hu,bB.shut hr (fun _=>h.imm) (fun _ _=>h.cell)⟩⟩⟩⟩
     ·exact .ofMap hs ⟨h2,.inr ⟨hk100,o,h3,by rw[he];exact h4⟩⟩
theorem Mk.put {D:Nat}{o:Obj}:∀{ds:List Deferred},Mk b₀ β ob w n₀ ds→(∀d'∈ds,d'≠{ target:=.collected D,args:=#[]})→Mk b₀ β ob (w.putObj D o) n₀ ds
 |[],_,_=>trivial
 |d::ds,hm,hne=>by
   obtain⟨⟨E,h1,h2,h3,h4,h5⟩,hr⟩:=hm
   have hE:E≠D:=fun he=>hne d a7 (by rw[h1,he])
   exact⟨⟨E,h1,h2,by unfold Imm at *;simpa using h3,by rw[World.putObj_heap_other hE];exact h4,h5⟩,hr.put (fun d' hd'=>hne d' (by simp[hd']))⟩
theorem nT {fn:Func}{tmps:Array Value}{R:Ending→World→Prop}:∀{ds:List Deferred}{w:World},Mk b₀ β ob w n₀ ds→
  (∀w5,lH b₀ β ob n₀ w w5→∃v,(results fn tmps).run P w5=.ok v w5∧R (.returned v) w5)→LeavesInM (fen none) 0 P fn tmps R ds .returning w
 |[],w,_,h=>h w .refl
 |d::ds,w,hm,h=>by
   obtain⟨⟨D,h1,h2,h3,h4,h5⟩,hr⟩:=hm
   refine⟨a7,.inl ⟨D,_,by rw[h1],run_takeDeferred h4,?_⟩⟩
   have hlt:D<w.heap.size:=h3.1
   have hsh:lH b₀ β ob n₀ w (w.putObj D (.deferred none)):=⟨a7,⟨rfl,rfl⟩,fun b=>by
    by_cases hb:b=D
    ·subst hb
     exact .inr ⟨h2,h3,⟨_,h4⟩,⟨none,World.putObj_heap_same hlt⟩⟩
    ·exact .inl (World.putObj_heap_other hb)⟩
   exact nT (hr.put (fun d' hd'=>by rw[←h1];exact h5 d' hd')) (fun w5 h6=>h w5 (hsh.trans h6))
end
end
section
variable {s:St}{o:Oper}{K:St→Prop}{B:Nat}{x:Operand}{tys:Array TypeId}{p n:Operand}{k:Box K}
section
variable {P:Program}{T:Nat→TI}{b₀:Bs}{β:Loc}{w:World}
theorem uV (ho:o.op=.call ⟨.builtin .unsafeSliceData,#[x],tys⟩) (hx:s.ev x=.one (.d .nsl)) (hk:K (s.put o.dst (.one (.d .nilp)))):aR (spB P B) o s k:=by
 refine⟨fun s'=>s'=s.put o.dst (.one (.d .nilp)),fun b₀ N β a w hr hd next Q hn=>?_,fun _ e=>e▸hk⟩
 have hv:=hr.ev x
 rw[hx] at hv
 simp only[ag,aq] at hv
 have hv:=hv.inv_nsl
 have hex:(execOp a.eval o).run P w=.ok (.value (.pointer none)) w:=by
  simp[execOp,ho,resolve,invoke,hv,builtin,Lib.run_unsafeSliceData_nil]
 exact cY hex (hn _ β _ w rfl (hr.put hd (by simp only[ag,aq];exact .nilp)) (Tr.same (St.put_gen _ _ _) (St.put_obj _ _ _) rfl))
theorem CX (ho:o.op=.call ⟨.builtin .unsafeSliceData,#[x],tys⟩) {id g off len:Nat} (hx:s.ev x=.one (.osl id g 1 off len)) (hg:s.gen id=g) (hob:(s.obj id).isSome=true) (hl:0<len)
  (hk:K (s.put o.dst (.one (.ptr id g off)))):aR (spB P B) o s k:=by
 refine⟨fun s'=>s'=s.put o.dst (.one (.ptr id g off)),fun b₀ N β a w hr hd next Q hn=>?_,fun _ e=>e▸hk⟩
 have hv:=hr.ev x
 rw[hx] at hv
 simp only[ag,aq] at hv
 obtain⟨_,hle,hat⟩:=hv
 have hat:=hat hg hob
 cases hβ:β id with
 |none=>rw[hβ] at hat;have:=hat.1;omega
 |some ad=>
   rw[hβ] at hat
   obtain⟨hsp,⟨cap,hv,hc,_⟩|⟨h0,_⟩⟩:=hat
   ·have hex:(execOp a.eval o).run P w=.ok (.value (.pointer (some ⟨ad.block,ad.off+off,none⟩))) w:=by
     have:=Lib.run_unsafeSliceData_row (P:=P) (w:=w) tys o.type ⟨ad.block,ad.off+off,none⟩ len cap a6
     simp[execOp,ho,resolve,invoke,hv,builtin,this]
    refine cY hex (hn _ β _ w rfl (hr.put hd ?_) (Tr.same (St.put_gen _ _ _) (St.put_obj _ _ _) rfl))
    simp only[ag,aq]
    exact⟨rfl,hle,fun _ _=>⟨ad,hβ,hsp,rfl⟩⟩
   ·omega
theorem sV{t1 t2:TypeId} (ho:o.op=.call ⟨.builtin .unsafeString,#[p,n],#[t1,t2]⟩) (hp:s.ev p=.one (.d .nilp)) (hn0:s.ev n=iv .i64 0) (hk:K (s.put o.dst (sv []))):aR (spB P B) o s k:=by
 refine⟨fun s'=>s'=s.put o.dst (sv []),fun b₀ N β a w hr hd next Q hn=>?_,fun _ e=>e▸hk⟩
 have hv:=hr.ev p
 have hw:=hr.ev n
 rw[hp] at hv
 rw[hn0] at hw
 simp only[ag,aq] at hv hw
 have hw:=hw.inv_int
 have hv:a.eval p=.pointer none:=by generalize a.eval p=v at hv;cases hv;rfl
 have hex:(execOp a.eval o).run P w=.ok (.value (.string .empty)) w:=by
  simp[execOp,ho,resolve,invoke,hv,hw,builtin,Lib.run_unsafeString_none]
 refine cY hex (hn _ β _ w rfl (hr.put hd ?_) (Tr.same (St.put_gen _ _ _) (St.put_obj _ _ _) rfl))
 simp only[ag,aq]
 exact .str []
theorem wh (w:World) (a:Addr) (n:Nat):(w.freeze a n).heap.size=w.heap.size:=by unfold World.freeze;split <;> simp
theorem Bo (w:World) (a:Addr) (n:Nat):(w.freeze a n).os=w.os∧(w.freeze a n).output=w.output:=by unfold World.freeze;split <;> exact⟨rfl,rfl⟩
theorem uW (w:World) (a:Addr) (n:Nat) {b:Nat} (hb:b≠a.block):(w.freeze a n).heap[b]? = w.heap[b]?:=by
 unfold World.freeze
 split
 ·rfl
 ·simp only[L5]
  rw[if_neg (fun e=>hb e.symm)]
theorem CY {N:Nat}{a:Act} (hr:Rel b₀ N s β a w) {id:Nat}{ad:Addr} (ho:(s.obj id).isSome=true) (hβ:β id=some ad) {w':World} (hsz:w'.heap.size=w.heap.size) (hos:w'.os=w.os∧w'.output=w.output) (hoth:∀b,b≠ad.block→w'.heap[b]? = w.heap[b]?) :
  Rel b₀ N { s with obj:=upd s.obj id none } β a w'∧Tr b₀ β s w β { s with obj:=upd s.obj id none } w':=by
 have hB:b₀.B≤ad.block:=by
  obtain⟨cells,hc⟩:=J4.1 ho
  have:=hr.obj id cells hc
  rw[hβ] at this
  exact this.block.1
 have hlive:∀i,(upd s.obj id none i).isSome=true→i≠id∧(s.obj i).isSome=true:=fun i hi=>by
  simp only[upd] at hi
  by_cases hid:i=id
  ·simp[hid] at hi
  ·rw[if_neg hid] at hi;exact⟨hid,hi⟩
 have hne:∀i a',(upd s.obj id none i).isSome=true→β i=some a'→a'.block≠ad.block:=fun i a' hi ha' hb=>(hlive i hi).1 (hr.inj i id a' ad (hlive i hi).2 ho ha' hβ hb)
 have hkeep:dU b₀ β s.gen s.obj w β s.gen (upd s.obj id none) w':=by
  refine⟨fun b hb=>?_,fun _=>l0 _,fun i _ hi=>?_⟩
  ·have hnb:b≠ad.block:=fun he=>hb.2.2 id ad ho hβ he.symm
   exact⟨⟨by rw[hsz];exact hb.1,hb.2.1,fun i a' hi=>hb.2.2 i a' (hlive i hi).2⟩,hoth b hnb⟩
  ·refine⟨(hlive i hi).2,rfl,fun a' ha' arr1 el1 fr1 h1=>?_⟩
   rw[hoth _ (hne i a' hi ha')] at h1
   exact Xv
 refine⟨⟨hr.defers,hr.size,fun i=>ag.keep hkeep _ (hr.f i),fun i cells' hc'=>?_,fun i i' a1 a2 h1 h2=>hr.inj i i' a1 a2 (hlive i h1).2 (hlive i' h2).2,by rw[hsz];exact hr.base⟩,by rw[hsz];exact l0 _,fun b hb=>hoth b a6,hkeep,hos⟩
 have hi:(upd s.obj id none i).isSome=true:=by
  have:upd s.obj id none i=some cells':=hc'
  rw[this];rfl
 have hc'':s.obj i=some cells':=by
  have h:=hc'
  simp only[upd,if_neg (hlive i hi).1] at h
  exact h
 exact(hr.obj i cells' hc'').keep hkeep (fun a' ha'=>hoth _ (hne i a' hi ha'))
theorem Bp{t1 t2 e:TypeId} (ho:o.op=.call ⟨.builtin .unsafeString,#[p,n],#[t1,t2]⟩) (ht:P.underlying t1=some (.pointer e)) (hce:P.cellsOf e=1) {id g:Nat}{l:List UInt8}
  (hp:s.ev p=.one (.ptr id g 0)) (hn0:s.ev n=iv .i64 l.length) (hg:s.gen id=g) (hcode:code g=e+1) {cells:List C} (hob:s.obj id=some cells) (hfit:cells.take l.length=l.map fun b=>.d (iz b)) (hl:l≠[]) (h63:l.length≤9223372036854775807)
  (hk:K (St.put { s with obj:=upd s.obj id none } o.dst (sv l))):aR (spB P B) o s k:=by
 refine⟨fun s'=>s'=St.put { s with obj:=upd s.obj id none } o.dst (sv l),fun b₀ N β a w hr hd next Q hn=>?_,fun _ e=>e▸hk⟩
 have hv:=hr.ev p
 have hw:=hr.ev n
 rw[hp] at hv
 rw[hn0] at hw
 simp only[ag,aq] at hv hw
 have hw:=hw.inv_int
 obtain⟨ad,hβ,hsp,hv⟩:=hv.2.2 hg (by rw[hob];rfl)
 have hobj:=hr.obj id cells hob
 rw[hβ] at hobj
 obtain⟨_,arr,el,lo,hi,hblk,⟨_,hcl⟩,hlen,hcells⟩:=hobj.cells hsp
 rw[hg,hcode] at hcl
 obtain⟨hel,hoff⟩:=hcl a6
 have hel:el=e:=Nat.add_right_cancel hel
 subst hel
 have hll:l.length≤cells.length:=by
  have:=congrArg List.length hfit
  simp at this
  omega
 have hrun:=Lib.run_unsafeString_row (P:=P) (w:=w) t1 t2 o.type el ht hce ad.block (arr.size) (by simp[World.shape?,hblk]) l hl a6 h63 (fun j x hx=>by
  have hjl:=(l4.1 hx).1
  have hcj:cells[j]? = some (.d (iz x)):=by
   have:=congrArg (fun m:List C=>m[j]?) hfit
   simp only[G8,hjl,A5,w8,hx,x8] at this
   exact this
  obtain⟨u,hu,hru⟩:=hcells j _ hcj
  simp only[aq,iz] at hru
  have hru:=hru.inv_int
  rw[hoff,C5] at hu
  rw[cM,C5,cI hblk,hu,hru])
 have hex:(execOp a.eval o).run P w=.ok (.value (.string ⟨l.toArray⟩)) (w.freeze ⟨ad.block,0,none⟩ l.length):=by
  rw[hoff] at hv
  simp[execOp,ho,resolve,invoke,hv,hw,builtin,hrun]
 obtain⟨r1,t1⟩:=CY hr (by rw[hob];rfl) hβ (wh w ⟨ad.block,0,none⟩ l.length) (Bo _ _ _) (fun b hb=>uW w ⟨ad.block,0,none⟩ l.length hb)
 refine cY hex (hn _ β _ _ rfl (r1.put hd ?_) (t1.trans (Tr.same (St.put_gen _ _ _) (St.put_obj _ _ _) rfl)))
 simp only[ag,aq]
 exact .str l
end
end
end
section
attribute [local congr] Go.Am.ite_cc
section
variable {s:St}{res:List Nat}{R:AV→(Nat→Nat)→Obs→Prop}
theorem lW (p:Nat→Bool):ab s ⟨s.f,s.gen,fun i=>if p i=true then none else s.obj i⟩:=by
 exact V8
theorem bh (p:Nat→Bool) (h:R (iC s.f res) s.gen (fun i=>if p i=true then none else s.obj i)):uN res R .normal s:=⟨_,lW p,h⟩
theorem fN (p:Nat→Bool) (h:R (iC s.f res) s.gen (fun i=>if p i=true then none else s.obj i)):uN res R .ret s:=⟨_,lW p,h⟩
@[go_sem] theorem Om:sP .nilIface=.one (.d .nili):=j8 rfl rfl
@[go_sem] theorem On:sP .nilFunc=.one (.d .nilf):=j8 rfl rfl
end
end
section
section
variable {s:St}{o:Oper}{K:St→Prop}{f:FuncId}{args:Array Operand}{tys:Array TypeId}{R:AV→Prop}{k:Box K}
section
variable {P:Program}{T:Nat→TI}{b₀:Bs}{rd:Option Nat}{Φ:St→Loc→List Deferred→World→Prop}{Ψ:fj}{B0:Nat}
theorem ai {B:(Exit→St→Prop)→St→Prop}{b:Box B}{Q:Exit→St→Prop}{q:Box Q} (I:Nat→St→Prop) (n:Nat) (h0:I n s)
  (hr:∀n f g ob,I n ⟨f,g,ob⟩→B (kf (bx fun s'=>∃n' s₁,n'<n∧(spF P rd b₀ Φ B0 Ψ).vs s' s₁∧I n' s₁) q) ⟨f,g,ob⟩):qW (spF P rd b₀ Φ B0 Ψ) b q s:=
 ⟨I,⟨n,s,ab.refl s,h0⟩,fun n s hs=>hr n s.f s.gen s.obj hs⟩
theorem ae {I:Nat→St→Prop}{n:Nat} (n':Nat) (h:n'<n) (hI:I n' s):∃n' s₁,n'<n∧(spF P rd b₀ Φ B0 Ψ).vs s s₁∧I n' s₁:=⟨n',s,h,ab.refl s,hI⟩
theorem kS (hΦ:aQ b₀ Φ) (ho:o.op=.call ⟨.value (.func f),args,tys⟩)
  (hp:aG P f (args.toList.map s.ev) R) (hd:(args.toList.map s.ev).all dO=true) (hk:∀r,R r→K (s.put o.dst r)):aR (spF P rd b₀ Φ B0 Ψ) o s k:=
 we hΦ YS (tE (B:=0) (k:=k) ho hp hd hk)
theorem ba (hΦ:aQ b₀ Φ) (ho:o.op=.call ⟨.value (.func f),args,tys⟩) {R:AV→(Nat→Nat)→Obs→Prop}
  (hp:fg P f (args.toList.map s.ev) s.gen s.obj R) (hk:∀r g' ob',R r g' ob'→K (St.put ⟨s.f,g',ob'⟩ o.dst r)):aR (spF P rd b₀ Φ B0 Ψ) o s k:=
 we hΦ YS (bp (B:=0) (k:=k) ho hp hk)
theorem dL{B:Nat}{t:Nat} (ho:o.op=.call ⟨.value (.tmp t),args,tys⟩) (hf:s.f t=.one (.d (.fn f)))
  (hp:aG P f (args.toList.map s.ev) R) (hd:(args.toList.map s.ev).all dO=true) (hk:∀r,R r→K (s.put o.dst r)):aR (spB P B) o s k:=by
 refine⟨fun s'=>∃r,R r∧s'=s.put o.dst r,?_,fun _ ⟨r,hr,e⟩=>e▸hk r hr⟩
 intro b₀ N β a w hr hdst next Q hn
 have hv:=hr.f t
 rw[hf] at hv
 simp only[ag,aq] at hv
 have hv:a.tmps.getD t undef=.func (.func f) #[] #[]:=by generalize a.tmps.getD t undef=v at hv;cases hv;rfl
 have hrun:(execOp a.eval o).run P w=.ok (.enter f (args.map a.eval)) w:=by
  exact VE
 unfold Oper.wp
 rw[hrun]
 exact Vj
theorem pd (hΦ:aQ b₀ Φ){t:Nat} (ho:o.op=.call ⟨.value (.tmp t),args,tys⟩) (hf:s.f t=.one (.d (.fn f)))
  (hp:aG P f (args.toList.map s.ev) R) (hd:(args.toList.map s.ev).all dO=true) (hk:∀r,R r→K (s.put o.dst r)):aR (spF P rd b₀ Φ B0 Ψ) o s k:=
 we hΦ YS (dL (B:=0) (k:=k) ho hf hp hd hk)
end
section
variable {S:Sp}{T:Nat→TI}
end
end
end
section
open Go.ChangeShapes Go.WideShapes Go.ChangeAt Go.RowKit
section
variable {H:Type}{enc:TypeId×Value→H}
end
end
section
section
abbrev bE:=Nat→Option Obj
def ny (gb:Nat) (o:bE) (w:World):Prop:=gb<w.heap.size∧∀b,b≤gb→w.heap[b]? = o b
variable {o:bE}{f:FuncId}{s:St}{w:World}{R:AV→Prop}{Φ:St→Loc→List Deferred→World→Prop}{K:St→Prop}{gb gb':Nat}{P:Program}{args:List AV}{tys:Array TypeId}{k:Box K}
theorem ny.lt {gb:Nat} (h:ny gb o w):gb<w.heap.size:=h.1
theorem ny.down (hl:gb≤gb') (h:ny gb' o w):ny gb o w:=⟨E9 hl h.1,fun b hb=>h.2 b (A9 hb hl)⟩
def nV (b₀:Bs) (gb:Nat) (o:bE) (w:World):Prop:=(gb<b₀.B∧∀b,b≤gb→b₀.I b)∧ny gb o w
def bi (P:Program) (gb:Nat) (o:bE) (f:FuncId) (args:List AV) (R:AV→Prop):Prop:=
 ws P f∧∀(J:Nat→Prop) (w:World) (vs:List Value),ny gb o w→(∀b,J b→b<w.heap.size)→RVs J w args vs→
  Calls P f vs.toArray w fun e w'=>∃v r,e=.returned v∧R r∧w.heap.size≤w'.heap.size∧(∀b,b<w.heap.size→w'.heap[b]? = w.heap[b]?)∧(w'.os=w.os∧w'.output=w.output)∧RV (fun b=>b<w'.heap.size∧(b<w.heap.size→J b∨b≤gb)) w' r v
theorem aG.toG{gb:Nat} (h:aG P f args R):bi P gb o f args R:=
 ⟨h.1,fun J w vs _ h1 h2=>(h.2 J w vs h1 h2).mono fun _ _ ⟨v,r,q1,q2,q3,q4,q5,q6⟩=>⟨v,r,q1,q2,q3,q4,q5,RV.mono (fun _ hb=>⟨⟨hb.1,fun hl=>.inl (hb.2 hl)⟩,rfl⟩) r q6⟩⟩
def ru (P:Program) (gb:Nat) (o:bE) (f:FuncId) (xs:List AV) (g:Nat→Nat) (ob:Obs) (R:AV→(Nat→Nat)→Obs→Prop):Prop:=
 ws P f∧∀(b₀:Bs) (N:Nat) (β:Loc) (a:Act) (fa:Nat→AV) (w:World) (vs:List Value),gb<b₀.B→nV b₀ gb o w→Rel b₀ N ⟨fa,g,ob⟩ β a w→aA b₀ β g ob w xs vs→
  Calls P f vs.toArray w fun e w'=>∃v r g' ob' β',e=.returned v∧R r g' ob'∧ag b₀ β' g' ob' w' r v∧
   (∀id cells,ob' id=some cells→cF b₀ β' g' ob' w' (g' id) cells (β' id))∧(∀id id' a a',(ob' id).isSome=true→(ob' id').isSome=true→β' id=some a→β' id'=some a'→a.block=a'.block→id=id')∧
   Tr b₀ β ⟨fa,g,ob⟩ w β' ⟨fa,g',ob'⟩ w'
def CZ (gb:Nat) (o:bE) (b₀:Bs) (β0:Loc) (s0:St) (w0:World):St→Loc→List Deferred→World→Prop:=fun s β ds w=>(gb<b₀.B∧nV b₀ gb o w)∧PJ b₀ β0 s0 w0 s β ds w
section
variable {P:Program}{T:Nat→TI}{b₀:Bs}{rd:Option Nat}{gb:Nat}{o:bE}{Ψ:fj}{B0:Nat}{β0:Loc}{s0:St}{w0:World}
theorem ay:aQ b₀ (CZ gb o b₀ β0 s0 w0):=fun _ _ _ _ _ _ _ h ht=>⟨⟨h.1.1,h.1.2.1,E5 h.1.2.2.1 ht.size,fun b hb=>by rw[ht.old b (E9 hb h.1.1)];exact h.1.2.2.2 b hb⟩,Bj _ _ _ _ _ _ _ h.2 ht⟩
theorem rv {N:Nat}{β:Loc}{a:Act} (hr:Rel b₀ N s β a w) (hG:nV b₀ gb o w) {b:Nat} (hb:b≤gb):Imm b₀ β s.obj w b:=by
 refine⟨E9 hb hG.2.1,fun _=>hG.1.2 b hb,fun id a' ho hβ he=>?_⟩
 obtain⟨cells,hc⟩:=J4.1 ho
 have h:=hr.obj id cells hc
 rw[hβ] at h
 have h1:=h.block.1
 have h2:=hG.1.1
 omega
theorem il (hΦ:aQ b₀ Φ) (hG:∀s β ds w,Φ s β ds w→nV b₀ gb o w) {op:Oper}{args:Array Operand} (ho:op.op=.call ⟨.value (.func f),args,tys⟩)
  (hp:bi P gb o f (args.toList.map s.ev) R) (hd:(args.toList.map s.ev).all dO=true) (hk:∀r,R r→K (s.put op.dst r)):aR (spF P rd b₀ Φ B0 Ψ) op s k:=by
 refine⟨fun s'=>∃r,R r∧s'=s.put op.dst r,?_,fun _ ⟨r,hr,e⟩=>e▸hk r hr⟩
 intro N β a ds w hr hφ hdst next Q hn _
 have hnd:aE op=true:=by simp[aE,ho]
 refine eS hnd ?_
 unfold Oper.wp
 rw[gt ho hp.1 w]
 simp only[Oper.upon]
 exact Vf
theorem kn (hΦ:aQ b₀ Φ) (hG:∀s β ds w,Φ s β ds w→nV b₀ gb o w) (hT:aN P T) {dst:Option Tmp}{t n e gi:Nat}{ix:Operand}{ty:TypeId}{ps:String}{af:Array Edge}{gd:Option (Nat×Bool)}
  (ht:(T t).desc=.array n e) (he:okD (T e).desc=true) (hgi:gi≤gb) {kd:IntKind}{i:Nat} (hix:s.ev ix=iv kd i) (hi:i<n) {cs:List D} (hcs:∀(j:Nat) (x:D),cs[j]? = some x→js x=true)
  (hrow:∀w:World,ny gb o w→∀(j:Nat) (x:D),cs[j]? = some x→w.cell? ⟨gi,i*(T e).size+j,none⟩=some (dV x)) (hk:K (s.put dst (.one (.d (.iptr cs))))) :
  aR (spF P rd b₀ Φ B0 Ψ) ⟨dst,.indexAddr t (.global gi) ix,ty,ps,af,gd⟩ s k:=by
 refine⟨fun s'=>s'=s.put dst (.one (.d (.iptr cs))),fun N β a ds w hr hφ hd next Q hn _=>?_,fun _ e=>e▸hk⟩
 refine eS rfl ?_
 have hH:=hG _ _ _ _ hφ
 have hvi:=hr.ev ix
 rw[hix] at hvi
 simp only[ag,aq] at hvi
 have hvi:=hvi.inv_int
 have hu:=(hT t (by rw[ht];rfl)).desc
 rw[ht] at hu
 have hte:=hT e he
 have hex:(execOp a.eval ⟨dst,.indexAddr t (.global gi) ix,ty,ps,af,gd⟩).run P w=.ok (.value (.pointer (some ⟨gi,i*(T e).size,none⟩))) w:=by
  simp[execOp,hvi,show a.eval (.global gi)=.pointer (some ⟨gi,0,none⟩) from rfl,Instr.indexAt,asIntOf,run_underlying hu,hi,aY hte,cM,Instr.sureAddr]
 have hr':=hr.put hd (x:=.one (.d (.iptr cs))) (v:=.pointer (some ⟨gi,i*(T e).size,none⟩)) (by
  simp only[ag,aq]
  refine .iptr (fun j=>dV (cs.getD j .nsl)) (fun _=>rv hr hH hgi) (fun j x hx=>?_) (fun j x hx=>?_)
  ·rw[hrow w hH.2 j x hx];simp[D0,hx]
  ·rw[show cs.getD j .nsl=x by simp[D0,hx]];exact bB.of_plain (hcs j x hx))
 exact Wd
theorem ji (hΦ:aQ b₀ Φ) (hG:∀s β ds w,Φ s β ds w→gb<b₀.B∧nV b₀ gb o w) {op:Oper}{args:Array Operand} (ho:op.op=.call ⟨.value (.func f),args,tys⟩) {R:AV→(Nat→Nat)→Obs→Prop}
  (hp:ru P gb o f (args.toList.map s.ev) s.gen s.obj R) (hk:∀r g' ob',R r g' ob'→K (St.put ⟨s.f,g',ob'⟩ op.dst r)):aR (spF P rd b₀ Φ B0 Ψ) op s k:=by
 refine⟨fun s'=>∃r g' ob',R r g' ob'∧s'=St.put ⟨s.f,g',ob'⟩ op.dst r,?_,fun _ ⟨r,g',ob',hr,e⟩=>e▸hk r g' ob' hr⟩
 intro N β a ds w hr hφ hdst next Q hn _
 have hnd:aE op=true:=by simp[aE,ho]
 refine eS hnd ?_
 unfold Oper.wp
 rw[gt ho hp.1 w]
 simp only[Oper.upon]
 obtain⟨hg1,hg2⟩:=hG _ _ _ _ hφ
 have:=hp.2 b₀ N β a s.f w (args.toList.map a.eval) hg1 hg2 hr (gp hr _)
 rw[show (args.toList.map a.eval).toArray=args.map a.eval from H4 a7] at this
 refine this.mono fun e w' ⟨v,r,g',ob',β',he,hR,hv,h1,h2,h3⟩=>?_
 exact WS
end
def PK (gb:Nat) (o:bE) (b₀:Bs) (β0:Loc) (s0:St) (w0:World):St→Loc→List Deferred→World→Prop:=fun s β ds w=>(gb<b₀.B∧nV b₀ gb o w)∧ds=[]∧Tr b₀ β0 s0 w0 β s w
section
variable {P:Program}{T:Nat→TI}{gb:Nat}{o:bE}
theorem cn {b₀:Bs}{β0:Loc}{s0:St}{w0:World}:aQ b₀ (PK gb o b₀ β0 s0 w0):=fun _ _ _ _ _ _ _ h ht=>⟨⟨h.1.1,h.1.2.1,E5 h.1.2.2.1 ht.size,fun b hb=>by rw[ht.old b (E9 hb h.1.1)];exact h.1.2.2.2 b hb⟩,h.2.1,h.2.2.trans ht⟩
end
theorem bi.up (hl:gb≤gb') (h:bi P gb o f args R):bi P gb' o f args R:=
 ⟨h.1,fun J w vs hG h1 h2=>(h.2 J w vs (hG.down hl) h1 h2).mono fun _ _ ⟨v,r,q1,q2,q3,q4,q5,q6⟩=>⟨v,r,q1,q2,q3,q4,q5,RV.mono (fun _ hb=>⟨⟨hb.1,fun hw=>(hb.2 hw).imp id (fun h=>A9 h hl)⟩,rfl⟩) r q6⟩⟩
end
section
variable {a:Act}{c:Code}{s:St}{K:Act→Prop}{ds:List Deferred}{Q:Exit→Act→World→Prop}{k:List Item}{cs:List Frame}
section
variable {P:Program}{T:Nat→TI}{b₀:Bs}{w:World}{rd:Option Nat}{Φ:St→Loc→List Deferred→World→Prop}{Ψ:fj}{B:Nat}{ops:Array Oper}
theorem rx (ha:a.defers=[]) (d:Option Nat) (v:Value):(a.put d v).defers=[]:=by cases d <;> exact ha
theorem uX {o:Oper} (ha:a.defers=[]) (h:o.still P a w K):o.still P a w (fun a'=>a'.defers=[]∧K a'):=by
 unfold Oper.still at *
 generalize (execOp a.eval o).run P w=r at *
 cases r with
 |ok n w'=>
   cases n <;> simp only[Oper.stillUpon] at h ⊢
   case enter f args=>obtain⟨h1,v,hc,hn⟩:=h;exact⟨h1,v,hc,rx ha _ _,hn⟩
   all_goals exact⟨h.1,rx ha _ _,h.2⟩
 |halt x w'=>simp only[Oper.stillUpon] at h
theorem lX {i:Nat}{K':Act→World→Prop}{Q':Exit→Act→World→Prop} (ha:a.defers=[]) (hnd:ops.toList.all aE=true) (h:∀a',a'.defers=[]→K a'→K' { a' with defers:=ds } w) (hh:stOp P ops w i K a) :
  wpOpIn (fen rd) 0 P ops Q' i K' { a with defers:=ds } w:=by
 unfold stOp at hh
 unfold wpOpIn
 cases ho:ops[i]? with
 |none=>simp only[ho] at hh ⊢;exact h _ ha hh
 |some o=>
   simp only[ho] at hh ⊢
   have hno:aE o=true:=x7.1 hnd o (by
    obtain⟨hi,e⟩:=A7.1 ho
    rw[←e];exact G3 hi)
   by_cases hw:Region.wanted o (yielded ops a.tmps)=true
   ·rw[if_pos hw] at hh ⊢
    exact eS hno (Oper.wp_of_still (K':=fun a' w'=>a'.defers=[]∧K' { a' with defers:=ds } w') (fun a' hk=>⟨hk.1,h a' hk.1 hk.2⟩) (uX ha hh))
   ·rw[if_neg hw] at hh ⊢
    refine⟨fun _ _=>trivial,?_⟩
    rw[nr]
    exact h _ (rx ha _ _) hh
theorem lA {n g:Nat}{ds:List Deferred}{L:Array Bool→Act→Prop}{Q':Exit→Act→World→Prop} (hnd:ops.toList.all aE=true) (hL:∀listed a,a.defers=[]→L listed a→wpAnyIn (fen rd) 0 P .any ops Q' g listed { a with defers:=ds } w) :
  ∀(f:Nat) (listed:Array Bool) (a:Act),a.defers=[]→wpAnyL P .any ops w n L f listed a→wpAnyIn (fen rd) 0 P .any ops Q' (f+g) listed { a with defers:=ds } w
 |0,listed,a,ha,h=>by rw[C5];exact hL _ _ ha h
 |f+1,listed,a,ha,h=>by
   rw[show f+1+g=(f+g)+1 by omega]
   exact⟨fun h0=>absurd h0 h.1,fun i hi=>lX ha hnd (fun a' ha' h'=>lA hnd hL f _ a' ha' h') (h.2 i hi).2⟩
theorem ko {ds:List Deferred}{Q:Act→Prop}{Q':Exit→Act→World→Prop} (hnd:ops.toList.all aE=true) (hQ:∀a,a.defers=[]→Q a→Q' .normal { a with defers:=ds } w):∀(fuel:Nat) (listed:Array Bool) (a:Act),a.defers=[]→
  wpAnyS P .any ops w Q fuel listed a→wpAnyIn (fen rd) 0 P .any ops Q' fuel listed { a with defers:=ds } w
 |0,_,_,ha,h=>⟨h.1,hQ _ ha h.2⟩
 |fuel+1,_,_,ha,h=>⟨fun h0=>hQ _ ha (h.1 h0),fun i hi=>lX ha hnd (fun a' ha'=>ko hnd hQ fuel _ a' ha') (h.2 i hi)⟩
theorem lY {F:Fence}{n:Nat}{Q':Exit→Act→World→Prop}:∀(l:List Oper) (k:Nat) (listed:Array Bool) (a:Act) (w:World),(∀j,l[j]? = ops[k+j]?)→
  Region.seqB .any ops l.length k listed=true→wpListIn F n P ops Q' l a w→wpAnyIn F n P .any ops Q' l.length listed a w
 |[],_,_,_,_,_,hB,h=>⟨by simpa[Region.seqB] using hB,h⟩
 |o::l,k,listed,a,w,hl,hB,h=>by
   have h0:ops[k]? = some o:=by simpa using(hl 0).symm
   simp only[j6,Region.seqB,s9,C4] at hB
   refine⟨fun h1=>(by rw[hB.1] at h1;cases h1),fun i hi=>?_⟩
   rw[hB.1] at hi
   have hik:i=k:=by simpa using hi
   subst hik
   have hw:wpOpIn F n P ops Q' i (wpListIn F n P ops Q' l) a w:=by unfold wpOpIn;simp only[h0];exact h
   exact wpOpIn_mono (fun a' w' h'=>lY l (i+1) _ a' w' (fun j=>by have:=hl (j+1);simpa[C0,Nat.add_comm 1 j] using this) hB.2 h') hw
theorem Bq {o:Oper} (hp:dt T o.op=true){K:St→Prop}{k:Box K} (h:opA (spF P rd b₀ Φ B Ψ) T o s k):opA (spB P B) T o s k:=by
 obtain⟨dst,op,ty,ps,af,gd⟩:=o
 cases op with
 |slice t x lo hi mx=>cases mx <;> first|exact h|(simp[dt] at hp;done)
 |indexAddr t x ix=>cases x <;> first|(simp[dt] at hp;done)|exact h
 |makeFunc f=>cases f <;> first|exact h|(simp[dt] at hp;done)
 |call c=>
   obtain⟨callee,args,tys⟩:=c
   cases callee with
   |value f=>simp[dt] at hp
   |invoke r m=>simp[dt] at hp
   |builtin b=>cases b <;> first|exact h|(simp[dt] at hp;done)
 |_=>first|exact h|(simp[dt] at hp;done)
theorem eT (hT:aN P T) {N:Nat}{β:Loc}{Q:Act→Prop}{K:St→Prop}{k:Box K} (more:List Oper):∀(l:List Oper) {s:St}{a:Act},Rel b₀ N s β a w→er N l=true→l.all (dt T ·.op)=true→wpO (spF P rd b₀ Φ B Ψ) T ops (l++more) s k→
  (∀s' a',wpO (spF P rd b₀ Φ B Ψ) T ops more s' k→Rel b₀ N s' β a' w→Tr b₀ β s w β s' w→Q a')→wpStill P ops w Q l a
 |[],s,a,hr,_,_,h,hQ=>hQ s a h hr Tr.refl
 |o::rest,s,a,hr,hds,hp,h,hQ=>by
   obtain⟨hd,hds'⟩:=iF hds
   simp only[E4,s9] at hp
   rw[z8] at h
   unfold wpO at h
   unfold wpStill
   have hop:∀{s0:St},Rel b₀ N s0 β a w→Tr b₀ β s w β s0 w→opA (spF P rd b₀ Φ B Ψ) T o s0 (bx fun s'=>wpO (spF P rd b₀ Φ B Ψ) T ops (rest++more) s' k)→o.still P a w (wpStill P ops w Q rest):=fun {s0} hr0 ht0 h0=>by
    obtain⟨y,cv,h1,h2,h3⟩:=oe hT hr0 hp.1 (Bq hp.1 h0)
    unfold Oper.still
    rw[h2 w .refl]
    refine⟨rfl,eT hT more rest (hr0.put hd h3) hds' hp.2 h1 (fun s' a' k1 k2 k3=>hQ s' a' k1 k2 (ht0.trans (Tr.trans (Tr.same (St.put_gen _ _ _) (St.put_obj _ _ _) rfl) k3)))⟩
   cases hg:o.guard with
   |none=>
     exact Xe
   |some p=>
     obtain⟨j,want⟩:=p
     rw[hg] at h
     simp only at h
     obtain⟨d,hj,h⟩:=aD h
     unfold kI at h
     split at h
     ·rename_i b hb
      have hy:=hr.yielded hj hb
      have h:=ik h
      have hr':=hr.reput hb
      by_cases hw:b=want
      ·exact W1
      ·rw[if_neg hw] at h
       rw[if_neg Yf]
       have hp':=hr'.put hd (x:=uv) (v:=undef) bR
       exact WV
     ·rename_i hb
      have hy:=hr.yielded_u hj hb
      rw[if_neg YB]
      have hp':=hr.put hd (x:=uv) (v:=undef) bR
      exact WV
     ·exact WM
theorem nz (hT:aN P T) (hm:P.follows .mixedOrders=true) (hΦ:aQ b₀ Φ) {N id:Nat}{β:Loc}{K:St→Prop}{k:Box K} (hr:Rel b₀ N s β a w) (hφ:Φ s β ds w) (hnd:ops.toList.all aE=true) (hd:er N ops.toList=true) (hok:lO T ops=true)
  (h:wpO (spF P rd b₀ Φ B Ψ) T ops ops.toList s k) (hQ:∀s' β' a' w',K s'→Rel b₀ N s' β' a' w'→Φ s' β' ds w'→Q .normal { a' with defers:=ds } w') (hX:∀ch s' β' a' w',Ψ ch s'→Rel b₀ N s' β' a' w'→Φ s' β' ds w'→Q (.panic ch) { a' with defers:=ds } w'):(Code.region id ops true).wpIn (fen rd) 0 P Q { a with defers:=ds } w:=by
 have hr1:Rel b₀ N s β a { w with drawn:=w.drawn+1 }:=hr.of_heap rfl
 have hφ1:Φ s β ds { w with drawn:=w.drawn+1 }:=hΦ _ _ _ _ _ _ _ hφ (Tr.same rfl rfl rfl)
 simp only[lO,G0,s9,Q3] at hok
 refine wpIn_region_any hm ?_
 rcases hok with⟨hp,hB⟩|⟨m,_,hp,hB⟩
 ·simp only[Region.lexB,s9] at hB
  refine ko (Q:=fun a'=>a'.defers=[]→Q .normal { a' with defers:=ds } { w with drawn:=w.drawn+1 }) hnd (fun a' ha h=>h ha) _ _ _ hr.defers ?_
  have hst:wpStill P ops { w with drawn:=w.drawn+1 } (fun a'=>a'.defers=[]→Q .normal { a' with defers:=ds } { w with drawn:=w.drawn+1 }) ops.toList a:=
   eT hT [] ops.toList hr1 hd hp (by rw[l8];exact h) (fun s' a' k1 k2 k3 _=>hQ _ _ _ _ k1 k2 (hΦ _ _ _ _ _ _ _ hφ1 k3))
  have:=wpAnyS_lex (md:=.any) hB.1 ops.toList 0 (Array.replicate ops.size false) a a7 (by simpa using hB.2) hst
  exact WO
 ·obtain⟨l,rfl⟩:∃l:List Oper,ops=l.toArray:=⟨ops.toList,a7⟩
  generalize hn0:l.toArray.size-m=n at hp hB
  simp only[Region.lexTailB,s9,C4] at hB
  obtain⟨⟨⟨⟨hsel,hn⟩,hs⟩,hc⟩,hlex⟩:=hB
  have hn':n<l.length:=by simpa using hn
  have htl:(l.take n).length=n:=by simp;omega
  have hdl:(l.drop n).length=l.toArray.size-n:=a7
  have inv0:HeadInv .any l.toArray n (Array.replicate l.toArray.size false):=
   ⟨a7,fun j oj _ hl=>(by rw[getD_replicate_false] at hl;cases hl),fun t _ ht=>getD_in (by simpa using ht) (getD_replicate_false _ _)⟩
  obtain⟨d1,d2⟩:=qd hd n
  have hnd2:(l.drop n).all aE=true:=x7.2 fun o ho=>x7.1 hnd o (by simpa using N6 ho)
  have hst:wpStill P l.toArray { w with drawn:=w.drawn+1 } (fun a'=>a'.defers=[]→wpListIn (fen rd) 0 P l.toArray Q (l.drop n) { a' with defers:=ds } { w with drawn:=w.drawn+1 }) (l.take n) a:=by
   refine eT hT (l.drop n) (l.take n) hr1 d1 hp (by rw[H0];simpa using h) (fun s' a' k1 k2 k3 _=>?_)
   exact ij hT hΦ (l.drop n) k2 (hΦ _ _ _ _ _ _ _ hφ1 k3) hnd2 d2 k1 hQ hX
  have H:=wpAnyL_lex (md:=.any) (g:=l.toArray.size-n) hsel hs hc hn (l.take n) 0 _ a (fun j hj=>by
   have hj':j<n:=by rw[htl] at hj;exact hj
   simp[hj']) (by simpa using htl) inv0 (by rw[htl];exact hlex) hst
  have:=lA (Q':=Q) (ds:=ds) (rd:=rd) (g:=l.toArray.size-n) hnd (fun listed a' ha hL=>by
   have:=lY (Q':=Q) (F:=fen rd) (n:=0) (l.drop n) n listed { a' with defers:=ds } { w with drawn:=w.drawn+1 } (fun j=>by simp[G4]) (by rw[hdl];exact hL.1) (hL.2 ha)
   rwa [hdl] at this) _ _ _ hr.defers H
  rw[htl,show n+(l.toArray.size-n)=l.toArray.size by omega] at this
  exact this
theorem fO {P:Program}{b:Frame}{w:World}:step P (lone (b.atR a (.code (.scope c)::k)) cs w)=.next (lone (b.atR a (.code c::.inScope c::k)) cs w):=
 step_lone_go (by simp[stepG,stepG.exec,Frame.atR])
theorem sW {P:Program}{b:Frame}{w:World}:step P (lone (b.atR a (.inScope c::k)) cs w)=.next (lone (b.atR a k) cs w):=
 step_lone_go (by simp[stepG,stepG.exec,Frame.atR])
theorem yn {F:Fence}{n:Nat}{P:Program}{w:World} (h:c.wpIn F n P (Exit.noGoto Q) a w):(Code.scope c).wpIn F n P Q a w:=by
 intro b k cs hro hb hr
 have h0:(lone (b.atR a (.code (.scope c)::k)) cs w).fenced P F:=fenced_calm hb hr rfl
 obtain⟨e,a₁,w₁,hq,harr⟩:=h b (.inScope c::k) cs hro hb hr
 cases e with
 |normal=>exact⟨.normal,a₁,w₁,hq,.head h0 fO (StepsIn.trans harr (.one (fenced_calm hb hr rfl) sW))⟩
 |exit id'=>
   have hx:exitTo id' (.inScope c::k)=exitTo id' k:=by simp[exitTo]
   exact⟨.exit id',a₁,w₁,hq,fun k' hk=>.head h0 fO (harr.1 k' (by rw[hx];exact hk)),
    fun hr' hk=>let ⟨k₁,h1,h2⟩:=harr.2 hr' (by rw[hx];exact hk);⟨k₁,h1,.head h0 fO h2⟩⟩
 |goto l=>exact hq.elim
 |ret=>exact⟨_,a₁,w₁,hq,.of_steps (.one h0 fO) harr⟩
 |panic ch=>exact⟨_,a₁,w₁,hq,.of_steps (.one h0 fO) harr⟩
 |outgrown=>exact⟨_,a₁,w₁,hq,.of_steps (.one h0 fO) harr⟩
def eU:Code→Bool
 |.region _ ops _=>ops.toList.all aE
 |.seq x y=>eU x&&eU y
 |.cond _ x y=>eU x&&eU y
 |.block _ c=>eU c
 |.loop c=>eU c
 |.scope c=>eU c
 |_=>true
theorem bD (hT:aN P T) (hm:P.follows .mixedOrders=true) (hΦ:aQ b₀ Φ) {N:Nat}:∀(c:Code) {Q:Exit→St→Prop}{q:Box Q}{s:St}{β:Loc}{a:Act}{ds:List Deferred}{w:World},eU c=true→codeOk N c=true→Rel b₀ N s β a w→Φ s β ds w→wpC (spF P rd b₀ Φ B Ψ) T c q s→c.wpIn (fen rd) 0 P (zN b₀ N Φ Ψ Q) { a with defers:=ds } w
 |.skip,_,_,s,β,a,ds,_,_,_,hr,hφ,h=>wpIn_skip ⟨s,β,a,ds,rfl,.inl h,hr,hφ⟩
 |.label _,_,_,s,β,a,ds,_,_,_,hr,hφ,h=>wpIn_label ⟨s,β,a,ds,rfl,.inl h,hr,hφ⟩
 |.exit _,_,_,s,β,a,ds,_,_,_,hr,hφ,h=>wpIn_exit ⟨s,β,a,ds,rfl,.inl h,hr,hφ⟩
 |.goto _,_,_,s,β,a,ds,_,_,_,hr,hφ,h=>wpIn_goto ⟨s,β,a,ds,rfl,.inl h,hr,hφ⟩
 |.ret,_,_,s,β,a,ds,_,_,_,hr,hφ,h=>wpIn_ret ⟨s,β,a,ds,rfl,.inl h,hr,hφ⟩
 |.region id ops b,Q,q,s,β,a,ds,w,hcm,hc,hr,hφ,h=>by
   simp only[eU] at hcm
   cases b with
   |false=>
     have h:wpO (spF P rd b₀ Φ B Ψ) T ops ops.toList s (bx fun s'=>Q .normal s'):=h
     exact wpIn_region_list (ij hT hΦ ops.toList hr hφ hcm hc h (fun s' β' a' w' h1 h2 h3=>⟨s',β',a',ds,rfl,.inl h1,h2,h3⟩) (fun ch s' β' a' w' h1 h2 h3=>⟨s',β',a',ds,rfl,.inr ⟨ch,rfl,h1⟩,h2,h3⟩))
   |true=>
     rcases h with⟨hok,h⟩|⟨R,hR,hK⟩
     ·exact nz hT hm hΦ hr hφ hcm hc hok h (fun s' β' a' w' h1 h2 h3=>⟨s',β',a',ds,rfl,.inl h1,h2,h3⟩) (fun ch s' β' a' w' h1 h2 h3=>⟨s',β',a',ds,rfl,.inr ⟨ch,rfl,h1⟩,h2,h3⟩)
     ·exact V4
 |.seq x y,Q,q,s,β,a,ds,w,hcm,hc,hr,hφ,h=>by
   simp only[codeOk,s9] at hc
   simp only[eU,s9] at hcm
   have h:wpC (spF P rd b₀ Φ B Ψ) T x (bx (kf (bx fun s'=>wpC (spF P rd b₀ Φ B Ψ) T y q s') q)) s:=h
   refine wpIn_seq (wpIn_mono (bD hT hm hΦ x hcm.1 hc.1 hr hφ h) (fun e a' w' hp=>?_))
   obtain⟨s',β',a0,ds',rfl,h1,h2,h3⟩:=hp
   rcases h1 with h1|⟨ch,rfl,h1⟩
   ·cases e with
    |normal=>exact bD hT hm hΦ y hcm.2 hc.2 h2 h3 h1
    |_=>exact⟨s',β',a0,ds',rfl,.inl h1,h2,h3⟩
   ·exact Xs
 |.cond c x y,Q,q,s,β,a,ds,w,hcm,hc,hr,hφ,h=>by
   simp only[codeOk,s9] at hc
   simp only[eU,s9] at hcm
   obtain⟨b,hb,h⟩:=nv h (hr.ev c)
   refine wpIn_cond (t:=b) hb ?_
   cases b
   ·exact bD hT hm hΦ y hcm.2 hc.2 hr hφ h
   ·exact bD hT hm hΦ x hcm.1 hc.1 hr hφ h
 |.block id c,Q,q,s,β,a,ds,w,hcm,hc,hr,hφ,h=>by
   have h:wpC (spF P rd b₀ Φ B Ψ) T c (bx (gg id q)) s:=h
   refine wpIn_block (wpIn_mono (bD hT hm hΦ c hcm hc hr hφ h) (fun e a' w' hp=>?_))
   obtain⟨s',β',a0,ds',rfl,h1,h2,h3⟩:=hp
   rcases h1 with h1|⟨ch,rfl,h1⟩
   ·cases e with
    |exit i=>
      simp only[Exit.inBlock,gg] at h1 ⊢
      split at h1
      ·rename_i he;rw[if_pos he];exact⟨s',β',a0,ds',rfl,.inl h1,h2,h3⟩
      ·rename_i he;rw[if_neg he];exact⟨s',β',a0,ds',rfl,.inl h1,h2,h3⟩
    |_=>exact⟨s',β',a0,ds',rfl,.inl h1,h2,h3⟩
   ·exact Xs
 |.scope c,Q,q,s,β,a,ds,w,hcm,hc,hr,hφ,h=>by
   have h:wpC (spF P rd b₀ Φ B Ψ) T c (bx (nP q)) s:=h
   refine yn (wpIn_mono (bD hT hm hΦ c hcm hc hr hφ h) (fun e a' w' hp=>?_))
   obtain⟨s',β',a0,ds',rfl,h1,h2,h3⟩:=hp
   rcases h1 with h1|⟨ch,rfl,h1⟩
   ·cases e with
    |goto l=>exact h1.elim
    |_=>exact⟨s',β',a0,ds',rfl,.inl h1,h2,h3⟩
   ·exact Xs
 |.loop c,Q,q,s,β,a,ds,w,hcm,hc,hr,hφ,h=>by
   obtain⟨I,⟨n,s₁,hvs,h0⟩,hround⟩:=h
   obtain⟨β₁,hr1,ht1⟩:=hvs b₀ N β a w hr
   refine qt (fun n a' w'=>∃s' β' a0 ds',a' = { a0 with defers:=ds' }∧I n s'∧Rel b₀ N s' β' a0 w'∧Φ s' β' ds' w') n ⟨s₁,β₁,a,ds,rfl,h0,hr1,hΦ _ _ _ _ _ _ _ hφ ht1⟩ ?_
   rintro n a' w' ⟨s',β',a0,ds',rfl,h1,h2,h3⟩
   refine wpIn_mono (bD hT hm hΦ c hcm hc h2 h3 (hround n s' h1)) (fun e a2 w2 hp=>?_)
   obtain⟨s2,β2,a02,ds2,rfl,k1,k2,k3⟩:=hp
   rcases k1 with k1|⟨ch,rfl,k1⟩
   ·cases e with
    |normal=>
      obtain⟨n',s3,hlt,hvs',hI⟩:=k1
      obtain⟨β3,hr3,ht3⟩:=hvs' b₀ N β2 a02 w2 k2
      exact⟨n',hlt,s3,β3,a02,ds2,rfl,hI,hr3,hΦ _ _ _ _ _ _ _ k3 ht3⟩
    |_=>exact⟨s2,β2,a02,ds2,rfl,.inl k1,k2,k3⟩
   ·exact⟨s2,β2,a02,ds2,rfl,.inr ⟨ch,rfl,k1⟩,k2,k3⟩
 |.rangeFunc f ps x y,Q,q,s,β,a,ds,w,hcm,hc,hr,hφ,h=>by
   obtain⟨R,hR,hK⟩:=h
   exact V4
 |.refuse y,Q,q,s,β,a,ds,w,hcm,hc,hr,hφ,h=>by
   obtain⟨R,hR,hK⟩:=h
   exact V4
theorem aJ {B0:Nat}{id:Nat}{ops:Array Oper}{Q:Exit→St→Prop}{q:Box Q} (hok:lO T ops=true) (h:wpO (spF P rd b₀ Φ B0 Ψ) T ops ops.toList s (bx fun s'=>Q .normal s')):iB (spF P rd b₀ Φ B0 Ψ) T id ops s q:=.inl ⟨hok,h⟩
end
section
variable {P:Program}{T:Nat→TI}{gb:Nat}{o:bE}
theorem uY (B gb:Nat) (o:bE) (hT:aN P T) (hm:P.follows .mixedOrders=true) {f:FuncId}{fn:Func} (hf:P.funcs[f]? = some fn) (hb:fn.body=some c) (hn:(fn.name == "runtime.NumGoroutine")=false)
  (rs:List ResultVar) (hres:fn.results=rs.toArray) (hcm:eU c=true) (hok:codeOk fn.ntmps c=true) {args:List AV} (hargs:args.length≤fn.ntmps) {R:AV→Prop}
  (h:∀b₀ β0 s0 w0 g,wpC (spF P none b₀ (CZ gb o b₀ β0 s0 w0) B nQ) T c (bx (rp T rs R)) ⟨ci args,g,fun _=>none⟩):bi P gb o f args R:=by
 refine⟨⟨fn,hf,by rw[hb];rfl,hn⟩,fun J w vs hheld hJ hv=>?_⟩
 refine eX (n:=0) (callsIn_of_wp_marks hf hb trivial ?_)
 have hlen:∀(l:List AV) (vs:List Value),RVs J w l vs→vs.length=l.length:=by
  intro l
  induction l with
  |nil=>intro vs h;simp only[RVs] at h;subst h;rfl
  |cons x l ih=>intro vs h;simp only[RVs] at h;obtain⟨u,us,rfl,_,h⟩:=h;simp[ih us h]
 have hl:=hlen _ _ hv
 let J':Nat→Prop:=fun b=>J b∨b≤gb
 have hr:Rel ⟨w.heap.size,J'⟩ fn.ntmps ⟨ci args,fun _=>0,fun _=>none⟩ (fun _=>none) { tmps:=vs.toArray++Array.replicate (fn.ntmps-vs.toArray.size) undef,defers:=[]} w:=by
  refine⟨rfl,by simp;omega,fun i=>?_,fun id cells ho=>Zh,fun id id' a a' ho=>Zh,l0 _⟩
  have hget:∀(l:List AV) (vs:List Value),RVs J w l vs→∀(i:Nat) (x:AV),l[i]? = some x→∃v,vs[i]? = some v∧RV J w x v:=by
   intro l
   induction l with
   |nil=>intro vs _ i x h;simp at h
   |cons y l ih=>
     intro vs h i x hx
     simp only[RVs] at h
     obtain⟨u,us,rfl,h1,h2⟩:=h
     cases i with
     |zero=>simp at hx;subst hx;exact⟨u,rfl,h1⟩
     |succ i=>simpa using ih us h2 i x (by simpa using hx)
  simp only[ci]
  cases hx:args[i]? with
  |some x=>
    obtain⟨v,h1,h2⟩:=hget _ _ hv i x hx
    have hlt:i<vs.length:=(l4.1 h1).1
    have:(vs.toArray++Array.replicate (fn.ntmps-vs.toArray.size) undef).getD i undef=v:=by
     rw[v7,D9 (by simpa using hlt)]
     simp[h1]
    rw[this]
    simp only[y7]
    exact RV.rep x (RV.mono (fun b hb=>⟨⟨hJ b hb,fun _=>.inl hb,fun id a ho=>by cases ho⟩,rfl⟩) x h2)
  |none=>
    exact Xl
 refine wpIn_mono (bD (rd:=none) (B:=B) (ds:=[]) hT hm ay c hcm hok hr ⟨⟨hheld.lt,⟨hheld.lt,fun b hb=>.inr hb⟩,hheld⟩,Tr.refl,trivial⟩ (h _ _ _ w _)) (fun e a' w' hp=>?_)
 obtain⟨s',β',a0,ds',rfl,hQ,hr',_,ht,hmk⟩:=hp.plain
 have hres':rp T rs R .ret s'→bodyPostM (fen none) 0 P fn (fun e w'=>∃v r,e=.returned v∧R r∧w.heap.size≤w'.heap.size∧(∀b,b<w.heap.size→w'.heap[b]? = w.heap[b]?)∧(w'.os=w.os∧w'.output=w.output)∧RV (Own ⟨w.heap.size,J'⟩ w') w' r v) .ret { a0 with defers:=ds' } w':=by
  intro hQ
  refine nT hmk (fun w5 h5=>?_)
  obtain⟨v,avs,h1,⟨r,h2,h3⟩,_,vs',rfl,h4⟩:=ce hT (hr'.shut h5) hres hQ
  refine⟨_,h1,_,r,rfl,h3,by rw[h5.size];exact ht.size,fun b hb=>?_,⟨h5.os.1.trans ht.os.1,h5.os.2.trans ht.os.2⟩,h2.rep (hr'.shut h5) h4⟩
  rcases h5.same b with e|⟨e,_⟩
  ·rw[e];exact ht.old b hb
  ·omega
 cases e with
 |normal=>exact hres' hQ
 |ret=>exact hres' hQ
 |exit id=>exact hQ.elim
 |goto l=>exact hQ.elim
 |panic ch=>exact hQ.elim
 |outgrown=>exact hQ.elim
theorem lZ (B gb:Nat) (o:bE) (hT:aN P T) (hm:P.follows .mixedOrders=true) {f:FuncId}{fn:Func} (hf:P.funcs[f]? = some fn) (hb:fn.body=some c) (hn:(fn.name == "runtime.NumGoroutine")=false)
  (rs:List ResultVar) (hres:fn.results=rs.toArray) (hcm:eU c=true) (hok:codeOk fn.ntmps c=true) {xs:List AV} (hargs:xs.length≤fn.ntmps) {g:Nat→Nat}{ob:Obs}{R:AV→(Nat→Nat)→Obs→Prop}
  (h:∀b₀ β0 s0 w0,wpC (spF P none b₀ (PK gb o b₀ β0 s0 w0) B nQ) T c (bx (ro T rs R)) ⟨ci xs,g,ob⟩):ru P gb o f xs g ob R:=by
 refine⟨⟨fn,hf,by rw[hb];rfl,hn⟩,fun b₀ N β a fa w vs hgb hheld hr0 hv=>?_⟩
 refine eX (n:=0) (callsIn_of_wp hf hb trivial ?_)
 have hr:=jr (N:=fn.ntmps) hargs hr0 hv
 refine wpIn_mono (bD (rd:=none) (B:=B) (ds:=[]) hT hm cn c hcm hok hr ⟨⟨hgb,hheld⟩,rfl,Tr.refl⟩ (h b₀ β ⟨ci xs,g,ob⟩ w)) (fun e a' w' hp=>?_)
 obtain⟨s',β',a0,ds',rfl,hQ,hr',_,rfl,ht⟩:=hp.plain
 have hres':ro T rs R .ret s'→∃v,(results fn a0.tmps).run P w'=.ok v w'∧∃v' r g' ob' β',Ending.returned v=.returned v'∧R r g' ob'∧ag b₀ β' g' ob' w' r v'∧
   (∀id cells,ob' id=some cells→cF b₀ β' g' ob' w' (g' id) cells (β' id))∧(∀id id' a a',(ob' id).isSome=true→(ob' id').isSome=true→β' id=some a→β' id'=some a'→a.block=a'.block→id=id')∧
   Tr b₀ β ⟨fa,g,ob⟩ w β' ⟨fa,g',ob'⟩ w':=by
  rintro⟨s2,hvs,hR⟩
  obtain⟨β2,hr2,ht2⟩:=hvs b₀ fn.ntmps β' a0 w' hr'
  exact WD
 cases e with
 |normal=>exact⟨rfl,hres' hQ⟩
 |ret=>exact⟨rfl,hres' hQ⟩
 |exit id=>exact hQ.elim
 |goto l=>exact hQ.elim
 |panic ch=>exact hQ.elim
 |outgrown=>exact hQ.elim
theorem ru.mono {f:FuncId}{xs:List AV}{g:Nat→Nat}{ob:Obs}{R R':AV→(Nat→Nat)→Obs→Prop} (h:ru P gb o f xs g ob R) (hr:∀r g' ob',R r g' ob'→R' r g' ob'):ru P gb o f xs g ob R':=
 ⟨h.1,fun b₀ N β a fa w vs h0 h0' h1 h2=>(h.2 b₀ N β a fa w vs h0 h0' h1 h2).mono fun _ _ ⟨v,r,g',ob',β',q1,q2,q3⟩=>⟨v,r,g',ob',β',q1,hr _ _ _ q2,q3⟩⟩
end
end
section
def dOf:Value→D
 |.bool b=>.bool b
 |.int k n=>.int k n
 |.string s=>.str s.data.toList
 |.slice none 0 0=>.nsl
 |.pointer none=>.nilp
 |.nilFunc=>.nilf
 |.nilIface=>.nili
 |.map none=>.nilm
 |_=>.sl []
theorem Dj {v:Value} (h:js (dOf v)=true):dV (dOf v)=v:=by
 unfold dOf at h ⊢
 split at h <;> first|(cases h;done)|rfl
def oh:Value→Bool
 |.agg _=>false
 |_=>true
theorem dVs:∀{l:List Value},(l.map dOf).all js=true→l=(l.map dOf).map dV
 |[],_=>rfl
 |v::l,h=>by
   simp only[l7,E4,s9] at h
   rw[l7,l7,Dj h.1,←dVs h.2]
def Ls (P:Program) (t:Nat):Option TI:=
 match P.underlying t,P.info? t with
 |some d,some i=>match i.zero with
   |some z=>
     let zs:=z.cells.toList.map dOf
     bif zs.all js && zs.length == i.size && (cK d || oh z) then some ⟨d,i.size,i.bytes,zs⟩ else none
   |none=>none
 |_,_=>none
variable {P:Program}
theorem Hk{t:Nat}{ti:TI} (h:Ls P t=some ti):nR P t ti:=by
 unfold Ls at h
 split at h
 ·next d i hd hi=>
  split at h
  ·next z hz=>
   simp only[cond_eq_ite] at h
   split at h
   ·next hc=>
    cases h
    simp only[s9,G0,J7] at hc
    obtain⟨⟨h1,h2⟩,h3⟩:=hc
    refine Hd (z:=z) hd (by rw[hi];simp[hz]) (dVs h1) h1 h2 (h3.imp id fun ho=>?_)
    have hz1:z.cells.toList=[z]:=by cases z <;> first|rfl|cases ho
    rw[hz1] at h1 ⊢
    simp only[l7,v8,E4,List.all_nil,L0] at h1
    exact(Dj h1).symm
   ·cases h
  ·cases h
 ·cases h
theorem Bu{l:List (Nat×TI)} (h:(l.map fun p=>Ls P p.1)=l.map fun p=>some p.2):aN P (zO l):=
 sS fun p hp=>Hk (by
  have:=List.map_inj_left.1 h p hp
  exact this)
end
section
abbrev Pan:=List PanicEntry→(Nat→Nat)→Obs→Prop
def Pan.on (Ψ:Pan):fj:=fun ch s=>Ψ ch s.gen s.obj
variable {R:AV→(Nat→Nat)→Obs→Prop}{K:St→Prop}
section
variable {P:Program}{T:Nat→TI}{b₀:Bs}{β:Loc}{w:World}{B:Nat}{Ψ:Pan}{rd:Option Nat}{Φ:St→Loc→List Deferred→World→Prop}
def Lo (b₀:Bs) (β:Loc) (fa:Nat→AV) (g:Nat→Nat) (ob:Obs) (w:World) (R:AV→(Nat→Nat)→Obs→Prop) (Ψ:Pan) (e:Ending) (w':World):Prop:=
 (∃v r g' ob' β',e=.returned v∧R r g' ob'∧ag b₀ β' g' ob' w' r v∧
    (∀id cells,ob' id=some cells→cF b₀ β' g' ob' w' (g' id) cells (β' id))∧(∀id id' a a',(ob' id).isSome=true→(ob' id').isSome=true→β' id=some a→β' id'=some a'→a.block=a'.block→id=id')∧
    Tr b₀ β ⟨fa,g,ob⟩ w β' ⟨fa,g',ob'⟩ w')∨
 (∃ch g' ob' β',e=.panicked ch∧Ψ ch g' ob'∧
    (∀id cells,ob' id=some cells→cF b₀ β' g' ob' w' (g' id) cells (β' id))∧(∀id id' a a',(ob' id).isSome=true→(ob' id').isSome=true→β' id=some a→β' id'=some a'→a.block=a'.block→id=id')∧
    Tr b₀ β ⟨fa,g,ob⟩ w β' ⟨fa,g',ob'⟩ w')
def cB (P:Program) (f:FuncId) (xs:List AV) (g:Nat→Nat) (ob:Obs) (R:AV→(Nat→Nat)→Obs→Prop) (Ψ:Pan):Prop:=
 ws P f∧∀(b₀:Bs) (N:Nat) (β:Loc) (a:Act) (fa:Nat→AV) (w:World) (vs:List Value),Rel b₀ N ⟨fa,g,ob⟩ β a w→aA b₀ β g ob w xs vs→
  Calls P f vs.toArray w (Lo b₀ β fa g ob w R Ψ)
theorem cB.mono {f:FuncId}{xs:List AV}{g:Nat→Nat}{ob:Obs}{R R':AV→(Nat→Nat)→Obs→Prop}{Ψ':Pan} (h:cB P f xs g ob R Ψ) (hr:∀r g' ob',R r g' ob'→R' r g' ob') (hp:∀ch g' ob',Ψ ch g' ob'→Ψ' ch g' ob'):cB P f xs g ob R' Ψ':=
 ⟨h.1,fun b₀ N β a fa w vs h1 h2=>(h.2 b₀ N β a fa w vs h1 h2).mono fun _ _ q=>q.imp (fun⟨v,r,g',ob',β',q1,q2,q3⟩=>⟨v,r,g',ob',β',q1,hr _ _ _ q2,q3⟩) (fun⟨ch,g',ob',β',q1,q2,q3⟩=>⟨ch,g',ob',β',q1,hp _ _ _ q2,q3⟩)⟩
def wi (b₀:Bs) (β0:Loc) (s0:St) (w0:World):St→Loc→List Deferred→World→Prop:=fun s β ds w=>ds=[]∧Tr b₀ β0 s0 w0 β s w
theorem aa {β0:Loc}{s0:St}{w0:World}:aQ b₀ (wi b₀ β0 s0 w0):=fun _ _ _ _ _ _ _ h ht=>⟨h.1,h.2.trans ht⟩
theorem yo (B:Nat) (hT:aN P T) (hm:P.follows .mixedOrders=true) {f:FuncId}{fn:Func}{c:Code} (hf:P.funcs[f]? = some fn) (hb:fn.body=some c) (hn:(fn.name == "runtime.NumGoroutine")=false)
  (rs:List ResultVar) (hres:fn.results=rs.toArray) (hcm:eU c=true) (hok:codeOk fn.ntmps c=true) {xs:List AV} (hargs:xs.length≤fn.ntmps) {g:Nat→Nat}{ob:Obs}
  (h:∀b₀ β0 s0 w0,wpC (spF P none b₀ (wi b₀ β0 s0 w0) B Ψ.on) T c (bx (ro T rs R)) ⟨ci xs,g,ob⟩):cB P f xs g ob R Ψ:=by
 refine⟨⟨fn,hf,by rw[hb];rfl,hn⟩,fun b₀ N β a fa w vs hr0 hv=>?_⟩
 refine eX (n:=0) (callsIn_of_wp hf hb trivial ?_)
 have hr:=jr (N:=fn.ntmps) hargs hr0 hv
 refine wpIn_mono (bD (rd:=none) (B:=B) (ds:=[]) hT hm aa c hcm hok hr ⟨rfl,Tr.refl⟩ (h b₀ β ⟨ci xs,g,ob⟩ w)) (fun e a' w' hp=>?_)
 obtain⟨s',β',a0,ds',rfl,hQ,hr',rfl,ht⟩:=hp
 rcases hQ with hQ|⟨ch,rfl,hQ⟩
 ·have hres':ro T rs R .ret s'→∃v,(results fn a0.tmps).run P w'=.ok v w'∧Lo b₀ β fa g ob w R Ψ (.returned v) w':=by
   rintro⟨s2,hvs,hR⟩
   obtain⟨β2,hr2,ht2⟩:=hvs b₀ fn.ntmps β' a0 w' hr'
   have hta:=ht.trans ht2
   obtain⟨v,avs,h1,h2,h3,_⟩:=ce hT hr2 hres hR
   exact⟨v,h1,.inl ⟨v,_,_,_,β2,rfl,h2,h3,hr2.obj,hr2.inj,⟨hta.size,hta.old,hta.keep,hta.os⟩⟩⟩
  cases e with
  |normal=>exact⟨rfl,hres' hQ⟩
  |ret=>exact⟨rfl,hres' hQ⟩
  |exit id=>exact hQ.elim
  |goto l=>exact hQ.elim
  |panic ch=>exact hQ.elim
  |outgrown=>exact hQ.elim
 ·exact⟨rfl,.inr ⟨ch,_,_,β',rfl,hQ,hr'.obj,hr'.inj,⟨ht.size,ht.old,ht.keep,ht.os⟩⟩⟩
theorem bQ (hΦ:aQ b₀ Φ) {o:Oper}{s:St}{k:Box K}{f:FuncId}{args:Array Operand}{tys:Array TypeId} (ho:o.op=.call ⟨.value (.func f),args,tys⟩)
  (hp:cB P f (args.toList.map s.ev) s.gen s.obj R Ψ) (hk:∀r g' ob',R r g' ob'→K (St.put ⟨s.f,g',ob'⟩ o.dst r)):aR (spF P rd b₀ Φ B Ψ.on) o s k:=by
 refine⟨fun s'=>∃r g' ob',R r g' ob'∧s'=St.put ⟨s.f,g',ob'⟩ o.dst r,fun N β a ds w hr hφ hdst next Q hn hx=>?_,fun _ ⟨r,g',ob',hr,e⟩=>e▸hk r g' ob' hr⟩
 have hnd:aE o=true:=by simp[aE,ho]
 refine eS hnd ?_
 unfold Oper.wp
 rw[gt ho hp.1 w]
 simp only[Oper.upon]
 have:=hp.2 b₀ N β a s.f w (args.toList.map a.eval) hr (gp hr _)
 rw[show (args.toList.map a.eval).toArray=args.map a.eval from H4 a7] at this
 refine this.mono fun e w' hE=>?_
 rcases hE with⟨v,r,g',ob',β',he,hR,hv,h1,h2,h3⟩|⟨ch,g',ob',β',he,hΨ,h1,h2,h3⟩
 ·exact WS
 ·subst he
  have hk:dU b₀ β s.gen s.obj w β' g' ob' w':=h3.keep
  have ht:Tr b₀ β s w β' ⟨s.f,g',ob'⟩ w':=⟨h3.size,h3.old,hk,h3.os⟩
  exact hx ch ⟨s.f,g',ob'⟩ β' a w' hΨ ⟨hr.defers,hr.size,fun i=>ag.keep hk _ (hr.f i),h1,h2,A9 hr.base h3.size⟩ (hΦ _ _ _ _ _ _ _ hφ ht)
theorem yp {Ψ:fj}{o:Oper}{s:St}{k:Box K}{x:Operand} (ho:o.op=.panic x) {v:Value} (hv:∀(N:Nat) (β:Loc) (a:Act) (w:World),Rel b₀ N s β a w→(Instr.panic (a.eval x)).run P w=.halt (.panic v) w)
  (hk:Ψ [{ v,recovered:=false }] s):aR (spF P rd b₀ Φ B Ψ) o s k:=by
 refine⟨fun _=>False,fun N β a ds w hr hφ hdst next Q hn hx=>?_,fun _ h=>h.elim⟩
 have hnd:aE o=true:=by simp[aE,ho]
 refine eS hnd ?_
 unfold Oper.wp
 have:(execOp a.eval o).run P w=.halt (.panic v) w:=by
  simp[execOp,ho,hv N β a w hr,Result.andThen]
 rw[this]
 exact hx _ s β a w hk hr hφ
end
end
section
variable {K:St→Prop}{x:Operand}
section
variable {P:Program}{b₀:Bs}{rd:Option Nat}{Φ:St→Loc→List Deferred→World→Prop}{B:Nat}{Ψ:fj}
theorem kX (hΦ:aQ b₀ Φ) {o:Oper}{s:St}{k:Box K}{t:TypeId} (ho:o.op=.makeInterface t x) {fs:Array Field} (hu:P.underlying t=some (.struct fs)) {kd:IntKind}{n:Int}
  (hx:s.ev x=.agg [.d (.int kd n)]) (hk:K (s.put o.dst (.exact (.iface t (.agg #[.int kd n]))))):aR (spF P rd b₀ Φ B Ψ) o s k:=by
 refine⟨fun s'=>s'=s.put o.dst (.exact (.iface t (.agg #[.int kd n]))),fun N β a ds w hr hφ hd next Q hn _=>?_,fun _ e=>e▸hk⟩
 refine eS YS ?_
 have hv:=hr.ev x
 rw[hx] at hv
 simp only[ag] at hv
 obtain⟨vs,h1,h2,h3⟩:=hv
 obtain⟨u,hu1,hu2⟩:=h3 0 _ rfl
 simp only[aq] at hu2
 obtain rfl:=hu2.inv_int
 have hvs:vs = #[.int kd n]:=by
  apply Array.ext_getElem?
  intro j
  match j with
  |0=>rw[hu1];rfl
  |j+1=>rw[I7 (by rw[h2];simp),I7 a7]
 subst hvs
 have hex:(execOp a.eval o).run P w=.ok (.value (.iface t (.agg #[.int kd n]))) w:=by
  simp[execOp,ho,h1,Instr.makeInterface,run_underlying hu]
 have hr':=hr.put hd (x:=.exact (.iface t (.agg #[.int kd n]))) (v:=.iface t (.agg #[.int kd n])) (by simp only[ag])
 exact Wd
theorem kY {o:Oper}{s:St}{k:Box K} (ho:o.op=.panic x) {t:TypeId}{u:Value} (hx:s.ev x=.exact (.iface t u)) (hk:Ψ [{ v:=.iface t u,recovered:=false }] s):aR (spF P rd b₀ Φ B Ψ) o s k:=by
 refine yp ho (v:=.iface t u) (fun N β a w hr=>?_) hk
 have hv:=hr.ev x
 rw[hx] at hv
 simp only[ag] at hv
 rw[hv]
 simp[Instr.panic]
end
end
end
section
attribute [local congr] Go.Am.ite_cc
section
variable {s:St}{K:St→Prop}{w:World}{a:Act}{o:Oper}{f:FuncId}{β:Loc}{tys:Array TypeId}{ds:List Deferred}{Q:Exit→Act→World→Prop}{u:Value}{ms:Array (String×TypeId)}{args:Array Operand}{R:AV→(Nat→Nat)→Obs→Prop}{caps:List PC}{x:Operand}{k:Box K}
section
variable {P:Program}{T:Nat→TI}{b₀:Bs}{rd:Option Nat}{Φ:St→Loc→List Deferred→World→Prop}{B:Nat}{Ψ:fj}{Ψ0:Pan}
theorem bq (hΦ:aQ b₀ Φ) (ho:o.op=.call ⟨.value (.func f),args,tys⟩)
  (hp:cB P f (args.toList.map s.ev) s.gen s.obj R Ψ0) (hx:∀ch g' ob',Ψ0 ch g' ob'→Ψ ch ⟨s.f,g',ob'⟩) (hk:∀r g' ob',R r g' ob'→K (St.put ⟨s.f,g',ob'⟩ o.dst r)):aR (spF P rd b₀ Φ B Ψ) o s k:=by
 refine⟨fun s'=>∃r g' ob',R r g' ob'∧s'=St.put ⟨s.f,g',ob'⟩ o.dst r,fun N β a ds w hr hφ hdst next Q hn hx'=>?_,fun _ ⟨r,g',ob',hr,e⟩=>e▸hk r g' ob' hr⟩
 have hnd:aE o=true:=by simp[aE,ho]
 refine eS hnd ?_
 unfold Oper.wp
 rw[gt ho hp.1 w]
 exact Wz
theorem aH (hΦ:aQ b₀ Φ){t:Nat} (ho:o.op=.call ⟨.value (.tmp t),args,tys⟩) (hf:s.f t=.one (.clo f caps))
  (hp:cB P f (args.toList.map s.ev++caps.map iN) s.gen s.obj R Ψ0) (hx:∀ch g' ob',Ψ0 ch g' ob'→Ψ ch ⟨s.f,g',ob'⟩) (hk:∀r g' ob',R r g' ob'→K (St.put ⟨s.f,g',ob'⟩ o.dst r)) (hf1:f<1000000:=by decide):aR (spF P rd b₀ Φ B Ψ) o s k:=by
 refine⟨fun s'=>∃r g' ob',R r g' ob'∧s'=St.put ⟨s.f,g',ob'⟩ o.dst r,fun N β a ds w hr hφ hdst next Q hn hx'=>?_,fun _ ⟨r,g',ob',hr,e⟩=>e▸hk r g' ob' hr⟩
 have hnd:aE o=true:=by simp[aE,ho]
 refine eS hnd ?_
 have hv:=hr.f t
 rw[hf] at hv
 simp only[ag,aq] at hv
 obtain⟨vs,hv1,hv2,hv3⟩:=hv
 rw[qG hf1] at hv1
 have hrun:(execOp a.eval o).run P w=.ok (.enter f (args.map a.eval++vs)) w:=by
  exact VD
 unfold Oper.wp
 rw[hrun]
 simp only[Oper.upon]
 have hc:aA b₀ β s.gen s.obj w (caps.map iN) vs.toList:=lS Zi (fun i pc hi=>let ⟨u,h1,h2⟩:=hv3 i pc hi;⟨u,by simpa using h1,h2⟩)
 have:=hp.2 b₀ N β a s.f w (args.toList.map a.eval++vs.toList) hr ((gp hr _).append hc)
 rw[show (args.toList.map a.eval++vs.toList).toArray=args.map a.eval++vs from H4 a7] at this
 exact Va
@[go_sem] theorem Da {S:Sp}{dst:Option Tmp}{ty:TypeId}{ps:String}{af:Array Edge}{gd:Option (Nat×Bool)}{t u:TypeId}{ok:Bool}:opA S T ⟨dst,.typeAssert x t u ok,ty,ps,af,gd⟩ s k=aR S ⟨dst,.typeAssert x t u ok,ty,ps,af,gd⟩ s k:=j8 rfl rfl
theorem nW (hΦ:aQ b₀ Φ){t t0:TypeId} (ho:o.op=.typeAssert x t0 t true) {fs:Array Field} (hu:P.underlying t=some (.struct fs)) {kd:IntKind}{n:Int}
  (hx:s.ev x=.exact (.iface t (.agg #[.int kd n]))) (hk:K (s.put o.dst (.tup [.agg [.d (.int kd n)],bv true]))):aR (spF P rd b₀ Φ B Ψ) o s k:=by
 refine⟨fun s'=>s'=s.put o.dst (.tup [.agg [.d (.int kd n)],bv true]),fun N β a ds w hr hφ hd next Q hn _=>?_,fun _ e=>e▸hk⟩
 refine eS YS ?_
 have hv:=hr.ev x
 rw[hx] at hv
 simp only[ag] at hv
 have hex:(execOp a.eval o).run P w=.ok (.value (.tuple #[.agg #[.int kd n],.bool true])) w:=by
  simp[execOp,ho,hv,Instr.typeAssert,run_underlying hu]
 have hr':=hr.put hd (x:=.tup [.agg [.d (.int kd n)],bv true]) (v:=.tuple #[.agg #[.int kd n],.bool true]) (by
  simp only[ag,aA]
  refine⟨[.agg #[.int kd n],.bool true],rfl,_,_,rfl,⟨#[.int kd n],rfl,rfl,fun i c hi=>?_⟩,_,_,rfl,?_,rfl⟩
  ·match i,hi with
   |0,hi=>cases hi;exact⟨_,rfl,by simp only[aq];exact .int _ _⟩
  ·simp only[aq];exact .bool _)
 exact Wd
def SR (d:List Deferred) (b₀:Bs) (β0:Loc) (s0:St) (w0:World):St→Loc→List Deferred→World→Prop:=fun s β ds w=>ds=d∧Tr b₀ β0 s0 w0 β s w
theorem kp {d:List Deferred}{β0:Loc}{s0:St}{w0:World}:aQ b₀ (SR d b₀ β0 s0 w0):=fun _ _ _ _ _ _ _ h ht=>⟨h.1,h.2.trans ht⟩
theorem kq (hT:aN P T) (hm:P.follows .mixedOrders=true) (hΦ:aQ b₀ Φ) {N:Nat}{x y:Code} (hcm:eU x=true) (hc:codeOk N x=true) (hr:Rel b₀ N s β a w) (hφ:Φ s β ds w)
 (h:wpC (spF P rd b₀ Φ B nQ) T x (bx fun e s'=>e=.normal∧K s') s) (hy:∀s' β' a' ds' w',K s'→Rel b₀ N s' β' a' w'→Φ s' β' ds' w'→y.wpIn (fen rd) 0 P Q { a' with defers:=ds' } w'):(Code.seq x y).wpIn (fen rd) 0 P Q { a with defers:=ds } w:=by
 refine wpIn_seq (wpIn_mono (bD hT hm hΦ x hcm hc hr hφ h) (fun e a' w' hp=>?_))
 obtain⟨s',β',a0,ds',rfl,h1,h2,h3⟩:=hp
 rcases h1 with⟨rfl,h1⟩|⟨_,_,h⟩
 ·exact hy _ _ _ _ _ h1 h2 h3
 ·exact WM
theorem tN (hT:aN P T) (hm:P.follows .mixedOrders=true) (hΦ:aQ b₀ Φ) {N:Nat}{x:Code} (Ψ:fj) (K:Exit→St→Prop) (hcm:eU x=true) (hc:codeOk N x=true) (hr:Rel b₀ N s β a w) (hφ:Φ s β ds w)
  (h:wpC (spF P rd b₀ Φ B Ψ) T x (bx K) s) (hq:∀e s' β' a' ds' w',(K e s'∨∃ch,e=.panic ch∧Ψ ch s')→Rel b₀ N s' β' a' w'→Φ s' β' ds' w'→Q e { a' with defers:=ds' } w'):x.wpIn (fen rd) 0 P Q { a with defers:=ds } w:=by
 refine wpIn_mono (bD hT hm hΦ x hcm hc hr hφ h) (fun e a' w' hp=>?_)
 obtain⟨s',β',a0,ds',rfl,h1,h2,h3⟩:=hp
 exact hq _ _ _ _ _ _ h1 h2 h3
theorem tO (hT:aN P T) (hΦ:aQ b₀ Φ) {N id t:Nat}{o1 o2:Oper}{y:Code} (hn1:aE o1=true) (g1:o1.guard=none) (g2:o2.guard=none) (hd1:∀d,o1.dst=some d→d<N) (hd2:o2.dst=none)
  (ho2:o2.op=.defer ⟨.value (.tmp t),#[],tys⟩) (hr:Rel b₀ N s β a w) (hφ:Φ s β ds w) (h:opA (spF P none b₀ Φ B nQ) T o1 s (bx fun s'=>s'.f t=.one (.clo f caps)∧K s'))
  (hy:∀s' β' a' w' vs,K s'→Rel b₀ N s' β' a' w'→Φ s' β' ds w'→aA b₀ β' s'.gen s'.obj w' (caps.map iN) vs→y.wpIn (fen none) 0 P Q { a' with defers:=⟨.fn (.func f) vs.toArray,#[]⟩::ds } w') (hf1:f<1000000:=by decide):(Code.seq (.region id #[o1,o2] false) y).wpIn (fen none) 0 P Q { a with defers:=ds } w:=by
 refine wpIn_seq (wpIn_region ?_)
 show wpOpsIn (fen none) 0 P #[o1,o2] _ [0,1] _ _
 simp only[wpOpsIn,u7,s7,l9]
 rw[if_pos (by simp[Region.wanted,g1])]
 refine kR hT hΦ hr hφ hn1 hd1 h (fun s' β' a' w' h1 h2 h3=>?_) (fun ch s' β' a' w' h=>h.elim)
 obtain⟨hc,hK⟩:=h1
 rw[if_pos (by simp[Region.wanted,g2])]
 have hv:=h2.f t
 rw[hc] at hv
 simp only[ag,aq] at hv
 obtain⟨vs,hv1,hv2,hv3⟩:=hv
 rw[qG hf1] at hv1
 refine⟨fun _ _=>trivial,?_⟩
 have hrun:((o2.semAt (fen none).round ({ a' with defers:=ds }:Act).eval).run P w')=.ok (.defer ⟨.fn (.func f) vs,#[]⟩) w':=by
  rw[show (fen none).round=none from rfl,Oper.semAt_none]
  simp[execOp,ho2,resolve,Act.eval,hv1,Deferred.ofValue]
 rw[hrun,Oper.uponIn_defer]
 simp only[hd2,Act.put]
 exact hy s' β' a' w' vs.toList hK h2 h3 (lS Zi (fun i pc hi=>let ⟨u,h1,h2⟩:=hv3 i pc hi;⟨u,by simpa using h1,h2⟩))
theorem qw {tI t:TypeId} (hu:P.underlying tI=some (.interface ms)):(Op.equal tI (.iface t u) .nilIface).run P w=.ok false w:=by
 exact Xh
theorem sY{tI t tI2:TypeId}{d:Nat} (ho:o.op=.binOp .eql tI (.tmp d) (.const .nilIface) tI2) (hu:P.underlying tI=some (.interface ms)) (h:a.tmps.getD d undef=.iface t u) :
  (execOp a.eval o).run P w=.ok (.value (.bool false)) w:=by
 have e1:binOp .eql tI (.iface t u) .nilIface=(do pure (.bool (←Op.equal tI (.iface t u) .nilIface))):=rfl
 have e2:eqGuard .eql tI (.tmp d) (.const .nilIface) (.iface t u) .nilIface=pure ():=rfl
 have e3:a.eval (.tmp d)=.iface t u:=h
 have e4:a.eval (.const .nilIface)=.nilIface:=rfl
 unfold execOp
 simp only[ho,e3,e4,e1,e2,Sem.run_bind,Sem.run_pure,Result.andThen_ok,qw hu]
theorem ry (hT:aN P T) (hm:P.follows .mixedOrders=true) {fn fnD:Func}{N id id2 bl d e:Nat}{oR oE:Oper}{tI:TypeId}{x y:Code}
  (hf:P.funcs[f]? = some fnD) (hb:fnD.body=some (.seq (.region id #[oR] false) (.block bl (.seq (.region id2 #[oE] false) (.cond (.tmp e) x y))))) (hnn:(fnD.name == "runtime.NumGoroutine")=false)
  (hoR:oR.op=.call ⟨.builtin .recover,#[],#[]⟩) (hdR:oR.dst=some d) (gR:oR.guard=none) (hoE:oE.op=.binOp .eql tI (.tmp d) (.const .nilIface) tI) (hdE:oE.dst=some e) (gE:oE.guard=none) (hdn:d<fnD.ntmps) (hen:e<fnD.ntmps)
  (hres:fnD.results = #[]) (hcm:eU y=true) (hok:codeOk fnD.ntmps y=true) (huI:P.underlying tI=some (.interface ms)) {t:TypeId}{xs:List AV}{vs:List Value}{R:Ending→World→Prop} (hr:Rel b₀ N s β a w) (hv:aA b₀ β s.gen s.obj w xs vs) (hl:xs.length≤fnD.ntmps)
  {K:(Nat→Nat)→Obs→Prop} (hy:∀β0 s0 w0,wpC (spF P none b₀ (wi b₀ β0 s0 w0) B nQ) T y (bx fun ex s'=>ex=.normal∧K s'.gen s'.obj) ⟨upd (upd (ci xs) d (.exact (.iface t u))) e (bv false),s.gen,s.obj⟩)
  (hR:∀g' ob' β' w',K g' ob'→Rel b₀ N ⟨s.f,g',ob'⟩ β' a w'→Tr b₀ β s w β' ⟨s.f,g',ob'⟩ w'→∃v,(results fn a.tmps).run P w'=.ok v w'∧R (.returned v) w') :
  LeavesIn (fen none) 0 P fn a.tmps R [⟨.fn (.func f) vs.toArray,#[]⟩] (.panicking [{ v:=.iface t u,recovered:=false }]) w:=by
 refine leavesIn_cons (f:=f) (args:=vs.toArray) a7 (fun h=>by cases h) ?_ (fun _ _=>trivial) ?_
 ·exact Xu
 refine callsDIn_of_wpSIn hf hb trivial fun c₀ cs hu=>?_
 apply wpSIn_seq
 apply wpSIn_region
 show wpOpsSIn (fen none) 0 P #[oR] _ [0] _ _ _
 simp only[wpOpsSIn,u7,s7]
 refine⟨fun _ _=>trivial,?_⟩
 rw[if_pos (by simp[Region.wanted,gR])]
 have hrun:∀(a:Act) (w:World),(execOp a.eval oR).run P w=.ok .recover w:=fun a w=>by simp[execOp,hoR,resolve,invoke,builtin]
 rw[hrun]
 simp only[recoverD,hu,hdR,Exit.thenS]
 refine wpSIn_of_wpIn rfl ?_
 have hr0:=jr (N:=fnD.ntmps) (fa:=s.f) hl hr hv
 have hr1:=hr0.put (dst:=some d) (fun d' h=>by cases h;exact hdn) (x:=.exact (.iface t u)) (v:=.iface t u) (by simp only[ag])
 refine wpIn_block (wpIn_seq (wpIn_region ?_))
 show wpOpsIn (fen none) 0 P #[oE] _ [0] _ _
 simp only[wpOpsIn,u7,s7]
 rw[if_pos (by simp[Region.wanted,gE])]
 have hvd:=hr1.f d
 simp only[St.put,upd,if_pos,ag] at hvd
 refine⟨fun _ _=>trivial,?_⟩
 rw[show (fen none).round=none from rfl,Oper.semAt_none]
 rw[sY hoE huI hvd,Oper.uponIn_value]
 simp only[hdE]
 have hr2:Rel b₀ fnD.ntmps ⟨upd (upd (ci xs) d (.exact (.iface t u))) e (bv false),s.gen,s.obj⟩ β _ w:=hr1.put (dst:=some e) (fun d' h=>by cases h;exact hen) (x:=bv false) (v:=.bool false) (by simp only[ag,aq,bv];exact .bool _)
 have hve:=hr2.f e
 simp only[upd,if_pos,bv,ag,aq] at hve
 refine wpIn_cond (t:=false) hve.inv_bool ?_
 rw[if_neg a8]
 have hy2:=bD (rd:=none) (B:=B) (ds:=[]) hT hm aa y hcm hok hr2 ⟨rfl,Tr.refl⟩ (hy β ⟨upd (upd (ci xs) d (.exact (.iface t u))) e (bv false),s.gen,s.obj⟩ w)
 refine wpIn_mono hy2 (fun ex a' w' hp=>?_)
 obtain⟨s',β',a0,ds',rfl,h1,h2,rfl,h4⟩:=hp
 rcases h1 with⟨rfl,h1⟩|⟨_,_,h⟩
 case inr=>exact h.elim
 have hk:dU b₀ β s.gen s.obj w β' s'.gen s'.obj w':=h4.keep
 have ht:Tr b₀ β s w β' ⟨s.f,s'.gen,s'.obj⟩ w':=⟨h4.size,h4.old,hk,h4.os⟩
 have hrA:Rel b₀ N ⟨s.f,s'.gen,s'.obj⟩ β' a w':=⟨hr.defers,hr.size,fun i=>ag.keep hk _ (hr.f i),h2.obj,h2.inj,A9 hr.base h4.size⟩
 obtain⟨v,hv1,hv2⟩:=hR _ _ _ _ h1 hrA ht
 refine⟨rfl,.panicking [{ v:=.iface t u,recovered:=true }],rfl,.tuple #[],by simp[results,hres],?_⟩
 simp only[settle,List.dropWhile_nil,LeavesIn]
 exact⟨v,hv1,hv2⟩
end
end
end
section
open Go.ChangeShapes Go.WideShapes Go.ChangeAt Go.RowKit
section
variable {H:Type}{enc:TypeId×Value→H}
theorem ma {C:Checked}{os:Os}{f:FuncId}{fn:Func}{s:ChangeSpec}{conds:List PathCond}{laid:List (String×DataW Unit)} (own:ownKnob C.prog.godebug=none) (started:os.Started) (noInit:C.prog.inits.idxOf? f=none) (hfn:C.prog.funcs[f]? = some fn)
  (witness:∃(w:World) (tape:Tape) (i:Input),w.os=os∧(w.forCall tape i).Shaped C.prog∧i.vars=[]∧Input.okWide C.prog (w.forCall tape i) .any w.heap.size f i∧
    ((s.pre enc C.prog fn conds false (w.forCall tape i).memory i.args∧laidMetH C.prog laid (w.forCall tape i).memory)∧sizedMet enc C.prog fn (OpenSpec.ofChange s) false (w.forCall tape i).memory i.args)∧Assume.holds {} C.prog (lone (Frame.enter C.prog f i.args .normal) [] (w.forCall tape i)))
  (hvars:s.vars=[]) (hl:laidOutB C.prog=true) (hts:fn.params.toList.all (fun t=>C.prog.readableRec t&&decide (t<C.prog.types.size))=true) {tb:TypeId} (hres:fn.resultTypes = #[tb]) (htb:C.prog.underlying tb=some .bool)
  (hspec:∀ds:List (DataW H),ds.length=fn.params.toList.length→s.fn H ds = { results:=[.lit (.bool true)],args:=ds })
  (hcall:∀(W:World) (base:Nat) (args:Array Value) (ds:List (DataW H)) (ps:List MemPlace),laidMetH C.prog laid W→(∀(j:Nat) t v,fn.params[j]? = some t→args[j]? = some v→Value.okWide C.prog W .any base t v)→DataW.TrodAll enc C.prog W 0 (fun _=>true) true fn.params.toList args.toList ds ps→(DataW.weightsEach C.prog fn.params.toList ds).all (·≤reachBytes)=true→vV C.prog f args W) :
  ReturnsInHanded {} C os f .any (fun w args=>(s.pre enc C.prog fn conds false w args∧laidMetH C.prog laid w)∧sizedMet enc C.prog fn (OpenSpec.ofChange s) false w args) (s.post enc C.prog fn false true false false):=by
 refine returnsInHanded_of_change_and (X:=fun w _=>laidMetH C.prog laid w) (fun _ _ _ hh h=>h.of_heap hh) own started noInit hfn witness ?_
 intro W base args ds gs before hval hW hcnd hsz hX _
 have hW':=hW
 obtain⟨p,q,hA,hV,rfl,hfz,hnd⟩:=hW
 rw[hvars] at hV
 obtain⟨rfl,rfl⟩:=trodVars_none hV
 have hvt:s.plain.varTypes C.prog=[]:=by simp[ChangeSpec.plain,DataSpec.varTypes,hvars]
 rw[hvt,l8,l8] at hsz
 refine(hcall W base args ds p hX hval hA hsz).mono fun e W' ⟨he,hs,hb,ho⟩=>⟨_,he,?_⟩
 have hlt:∀x∈p,x.block<W.heap.size:=fun x hx=>hW'.lt x YZ
 have hsp:s.fn H (ds++[]) = { results:=[.lit (.bool true)],args:=ds }:=by rw[l8];exact hspec ds (pY _ _ _ _ hA)
 refine⟨ds,[],p++[],[],p,[],hW',?_,?_,?_,He hb ho _,fun h=>by cases h⟩
 ·rw[hsp,hres]
  exact trodAll_mk1 ⟨1,by simp[DataW.trod,htb,Value.cells]⟩
 ·rw[hsp]
  exact ng hl hb _ _ _ _ hts hlt hA
 ·rw[hsp,hvars]
  exact rfl
theorem sX {P:Program}{w:World}{gb:Nat}{o:bE} (hG:ny gb o w) {f:FuncId}{args:List AV} (h:bi P gb o f args (· = bv true)) {vs:List Value} (hv:RVs (fun b=>b<w.heap.size) w args vs):vV P f vs.toArray w:=by
 refine(h.2 _ w vs hG (fun _ h=>h) hv).mono fun e w' ⟨v,r,h1,h2,h3,h4,h5,h6⟩=>⟨?_,h3,h4,h5⟩
 subst h2
 simp only[RV] at h6
 obtain⟨x,hx,hr⟩:=h6
 cases hx
 cases hr
 exact h1
end
end
section
section
def kT (S:Sp) (T:Nat→TI) (ops:Array Oper) (ids:List Nat) (l:List Ent) (s:St) {K:St→Prop} (_:Box K):Prop:=dv S T ops ids True l s (bx fun s'=>True→K s')
variable {ops:Array Oper}{Q:Exit→St→Prop}
section
variable {P:Program}{T:Nat→TI}{b₀:Bs}{w:World}{rd:Option Nat}{Φ:St→Loc→List Deferred→World→Prop}{Ψ:fj}
theorem tM {hT:aN P T} (hΦ:aQ b₀ Φ) {B N:Nat}{ops:Array Oper}{ds:List Deferred}{Q:Exit→Act→World→Prop} (hnd:ops.toList.all aE=true) (hds:er N ops.toList=true) (I:(Nat→Bool)→St→Prop)
  (hstep:∀(L:Nat→Bool) (s:St) (i:Nat) (o:Oper),I L s→ops[i]? = some o→L i=false→(∀e∈o.after.toList,Region.binds .any e=true→L e.on=true)→
    (∀j o',L j=true→ops[j]? = some o'→∀e∈o'.after.toList,Region.binds .any e=true→L e.on=true)→mH ops o s∧opA (spF P rd b₀ Φ B Ψ) T o s (bx fun s'=>I (upd L i true) s')) :
  ∀(fuel:Nat) (listed:Array Bool) {s:St}{β:Loc}{a:Act}{w:World},listed.size=ops.size→listed.toList.count false≤fuel→Rel b₀ N s β a w→Φ s β ds w→I (fun i=>listed.getD i false) s→
   (∀j o',listed.getD j false=true→ops[j]? = some o'→∀e∈o'.after.toList,Region.binds .any e=true→listed.getD e.on false=true)→
   (∀L s' β' a' w',I L s'→Rel b₀ N s' β' a' w'→Φ s' β' ds w'→(∃listed',L=(fun i=>listed'.getD i false)∧listed'.size=ops.size∧Region.ready .any ops listed'=[])→Q .normal { a' with defers:=ds } w')→
   (∀ch s' β' a' w',Ψ ch s'→Rel b₀ N s' β' a' w'→Φ s' β' ds w'→Q (.panic ch) { a' with defers:=ds } w')→
   wpAnyIn (fen rd) 0 P .any ops Q fuel listed { a with defers:=ds } w
 |0,listed,s,β,a,w,hsz,hc,hr,hφ,hI,hid,hQ,hX=>by
   exact Vz
 |fuel+1,listed,s,β,a,w,hsz,hc,hr,hφ,hI,hid,hQ,hX=>by
   refine⟨fun hrd=>hQ _ s β a w hI hr hφ ⟨listed,rfl,hsz,hrd⟩,fun i hi=>?_⟩
   unfold Region.ready at hi
   simp only[UT,D6,s9,H3] at hi
   obtain⟨hi1,hi2,hi3⟩:=hi
   have ho:ops[i]? = some ops[i]:=y2 hi1
   rw[ho] at hi3
   simp only[x8,y7,P3,G0,H3] at hi3
   have hli:listed[i]? = some false:=by
    exact Xn
   have hL:listed.getD i false=false:=by rw[v7,hli];rfl
   have hedge:∀e∈ops[i].after.toList,Region.binds .any e=true→listed.getD e.on false=true:=fun e he hb=>by
    exact WI
   obtain⟨hgd,hst⟩:=hstep _ s i ops[i] hI ho hL hedge hid
   have hgi:Region.wanted ops[i] (yielded ops a.tmps)=true:=by
    unfold mH at hgd
    cases hg:(ops[i]).guard with
    |none=>simp[Region.wanted,hg]
    |some p=>
      obtain⟨j,want⟩:=p
      rw[hg] at hgd
      obtain⟨d,hj,hb⟩:=hgd
      have hy:=hr.yielded hj hb
      simp[Region.wanted,hg,hy]
   have hdi:∀d,(ops[i]).dst=some d→d<N:=fun d hd=>by
    exact W8
   have hni:aE ops[i]=true:=x7.1 hnd ops[i] (G3 hi1)
   unfold wpOpIn
   rw[ho]
   simp only
   rw[if_pos hgi]
   have hset:(fun j=>(listed.setIfInBounds i true).getD j false)=upd (fun j=>listed.getD j false) i true:=by
    funext j
    exact V9
   refine kR hT hΦ hr hφ hni hdi hst (fun s' β' a' w' hI' hr' hφ'=>?_) hX
   refine tM (hT:=hT) hΦ hnd hds I hstep fuel (listed.setIfInBounds i true) (by simpa using hsz) Ze hr' hφ' (by rw[hset];exact hI') (fun j o' hj hoj e he hb=>?_) hQ hX
   exact Vo
theorem pe (hT:aN P T) (hm:P.follows .mixedOrders=true) (hΦ:aQ b₀ Φ) {B id:Nat}{s:St}{q:Box Q} (hnd:ops.toList.all aE=true) (hbk:ri ops=true) (I:(Nat→Bool)→St→Prop) (h0:I (fun _=>false) s)
  (hstep:∀(L:Nat→Bool) (s:St) (i:Nat) (o:Oper),I L s→ops[i]? = some o→L i=false→(∀e∈o.after.toList,Region.binds .any e=true→L e.on=true)→
    (∀j o',L j=true→ops[j]? = some o'→∀e∈o'.after.toList,Region.binds .any e=true→L e.on=true)→mH ops o s∧opA (spF P rd b₀ Φ B Ψ) T o s (bx fun s'=>I (upd L i true) s'))
  (hend:∀L s',I L s'→(∀i,i<ops.size→L i=true)→Q .normal s'):iB (spF P rd b₀ Φ B Ψ) T id ops s q:=by
 refine .inr ⟨fun e s'=>e=.normal∧Q .normal s',fun N β a ds w hc hr hφ=>?_,fun e s' ⟨h1,h2⟩=>h1▸h2⟩
 have hr1:Rel b₀ N s β a { w with drawn:=w.drawn+1 }:=hr.of_heap rfl
 have hφ1:Φ s β ds { w with drawn:=w.drawn+1 }:=hΦ _ _ _ _ _ _ _ hφ (Tr.same rfl rfl rfl)
 refine wpIn_region_any hm (tM (hT:=hT) hΦ hnd hc I hstep ops.size (Array.replicate ops.size false) a7 a7 hr1 hφ1 ?_ (fun j o' hj=>?_) (fun L s' β' a' w' h2 h4 h5 h6=>⟨s',β',a',ds,rfl,.inl ⟨rfl,hend L s' h2 YD⟩,h4,h5⟩) (fun ch s' β' a' w' h1 h2 h3=>⟨s',β',a',ds,rfl,.inr ⟨ch,rfl,h1⟩,h2,h3⟩))
 ·exact V6
 ·rw[v7,C3] at hj
  split at hj <;> simp at hj
theorem fP (hT:aN P T) (hm:P.follows .mixedOrders=true) (hΦ:aQ b₀ Φ) {B id:Nat}{s:St}{q:Box Q} (ids:List Nat) (tb:List (List Nat×List Nat×List Nat×Bool)) (nid:Nat) (hnd0:ops.toList.all aE=true) (hok:rk ops tb nid=true) (hnid:ids.length=nid) (hnd:ids.Nodup)
  (h:kT (spF P rd b₀ Φ B Ψ) T ops ids (gO ops.toList tb) s (bx fun s'=>Q .normal s')):iB (spF P rd b₀ Φ B Ψ) T id ops s q:=by
 obtain⟨h1,I,h2,h3,h4⟩:=rn (z:=True) (Q:=Q) ids tb nid hok hnid hnd h
 exact pe hT hm hΦ hnd0 h1 I h2 h3 fun L s' a b=>h4 L s' a b (.inr trivial)
end
section steps
variable {S:Sp}{T:Nat→TI}{ops:Array Oper}{ids:List Nat}{f:Nat→AV}{g:Nat→Nat}{ob:Nat→Option (List C)}{K:St→Prop}{k:Box K}{op:Op}{ty:TypeId}{ps:String}{af:Array Edge}{gd:Option (Nat×Bool)}{rd hd:List Nat}{r:List Ent}{d:Nat}
theorem aI {v:AV} (hg:GdE ops ⟨⟨some d,op,ty,ps,af,gd⟩,rd,hd,[],false⟩ ⟨f,g,ob⟩) (h1:∀(fa:Nat→AV) (ga:Nat→Nat) (oa:Nat→Option (List C)) (K':St→Prop),K' ⟨upd (maskf rd f fa) d v,maskm ids hd g ga,maskm ids hd ob oa⟩→opA S T ⟨some d,op,ty,ps,af,gd⟩ ⟨maskf rd f fa,maskm ids hd g ga,maskm ids hd ob oa⟩ (bx K'))
  (h2:kT S T ops ids r ⟨upd f d v,g,ob⟩ k):kT S T ops ids (⟨⟨some d,op,ty,ps,af,gd⟩,rd,hd,[],false⟩::r) ⟨f,g,ob⟩ k:=by
 unfold kT at h2 ⊢
 unfold dv
 exact⟨v,[],⟨rfl,fun fa ga oa K' hK=>h1 fa ga oa K' (hK fun _=>trivial),hg⟩,h2⟩
theorem dy {v:AV}{a x:Nat}{y:Option (List C)} (hg:GdE ops ⟨⟨some d,op,ty,ps,af,gd⟩,rd,hd,[a],false⟩ ⟨f,g,ob⟩) (h1:∀(fa:Nat→AV) (ga:Nat→Nat) (oa:Nat→Option (List C)) (K':St→Prop),K' ⟨upd (maskf rd f fa) d v,upd (maskm ids hd g ga) (ids.getD a 0) x,upd (maskm ids hd ob oa) (ids.getD a 0) y⟩→opA S T ⟨some d,op,ty,ps,af,gd⟩ ⟨maskf rd f fa,maskm ids hd g ga,maskm ids hd ob oa⟩ (bx K'))
  (h2:kT S T ops ids r ⟨upd f d v,upd g (ids.getD a 0) x,upd ob (ids.getD a 0) y⟩ k):kT S T ops ids (⟨⟨some d,op,ty,ps,af,gd⟩,rd,hd,[a],false⟩::r) ⟨f,g,ob⟩ k:=by
 unfold kT at h2 ⊢
 unfold dv
 exact⟨v,[(x,y)],⟨rfl,fun fa ga oa K' hK=>h1 fa ga oa K' (hK fun _=>trivial),hg⟩,h2⟩
end steps
end
section
variable {w:World}{s:St}{a:Act}{o:Oper}{ms:Array (String×TypeId)}{tI:TypeId}
section
variable {P:Program}{T:Nat→TI}{b₀:Bs}{rd:Option Nat}{Φ:St→Loc→List Deferred→World→Prop}{B:Nat}{Ψ:fj}{Ψ0:Pan}
theorem yr (hT:aN P T) (hm:P.follows .mixedOrders=true) (hΦ:aQ b₀ Φ) {N:Nat}{x y:Code}{β:Loc}{ds:List Deferred}{Q:Exit→Act→World→Prop} (hcm:eU x=true) (hc:codeOk N x=true) (hr:Rel b₀ N s β a w) (hφ:Φ s β ds w)
  {K K2:St→Prop} (h:wpC (spF P rd b₀ Φ B nQ) T x (bx fun e s'=>(e=.normal∧K s')∨(e=.ret∧K2 s')) s) (hy:∀s' β' a' ds' w',K s'→Rel b₀ N s' β' a' w'→Φ s' β' ds' w'→y.wpIn (fen rd) 0 P Q { a' with defers:=ds' } w')
  (hz:∀s' β' a' ds' w',K2 s'→Rel b₀ N s' β' a' w'→Φ s' β' ds' w'→Q .ret { a' with defers:=ds' } w'):(Code.seq x y).wpIn (fen rd) 0 P Q { a with defers:=ds } w:=by
 refine wpIn_seq (wpIn_mono (bD hT hm hΦ x hcm hc hr hφ h) (fun e a' w' hp=>?_))
 obtain⟨s',β',a0,ds',rfl,h1,h2,h3⟩:=hp
 rcases h1 with(⟨rfl,h1⟩|⟨rfl,h1⟩)|⟨_,_,h⟩
 ·exact hy _ _ _ _ _ h1 h2 h3
 ·exact hz _ _ _ _ _ h1 h2 h3
 ·exact WM
theorem yu (hΦ:aQ b₀ Φ){K:St→Prop}{k:Box K}{t:Nat}{args:Array Operand}{tys:Array TypeId} (ho:o.op=.call ⟨.value (.tmp t),args,tys⟩) {f:FuncId}{caps:List PC} (hf:s.f t=.one (.clo (f+1000000) caps)) {R:AV→(Nat→Nat)→Obs→Prop}
  (hp:cB P f (caps.map iN++args.toList.map s.ev) s.gen s.obj R Ψ0) (hx:∀ch g' ob',Ψ0 ch g' ob'→Ψ ch ⟨s.f,g',ob'⟩) (hk:∀r g' ob',R r g' ob'→K (St.put ⟨s.f,g',ob'⟩ o.dst r)):aR (spF P rd b₀ Φ B Ψ) o s k:=by
 refine⟨fun s'=>∃r g' ob',R r g' ob'∧s'=St.put ⟨s.f,g',ob'⟩ o.dst r,fun N β a ds w hr hφ hdst next Q hn hx'=>?_,fun _ ⟨r,g',ob',hr,e⟩=>e▸hk r g' ob' hr⟩
 have hnd:aE o=true:=by simp[aE,ho]
 refine eS hnd ?_
 have hv:=hr.f t
 rw[hf] at hv
 simp only[ag,aq] at hv
 obtain⟨vs,hv1,hv2,hv3⟩:=hv
 rw[vY f] at hv1
 have hrun:(execOp a.eval o).run P w=.ok (.enter f (vs++args.map a.eval)) w:=by
  exact VD
 unfold Oper.wp
 rw[hrun]
 simp only[Oper.upon]
 have hc:aA b₀ β s.gen s.obj w (caps.map iN) vs.toList:=lS Zi (fun i pc hi=>let ⟨u,h1,h2⟩:=hv3 i pc hi;⟨u,by simpa using h1,h2⟩)
 have:=hp.2 b₀ N β a s.f w (vs.toList++args.toList.map a.eval) hr (hc.append (gp hr _))
 rw[show (vs.toList++args.toList.map a.eval).toArray=vs++args.map a.eval from H4 a7] at this
 exact Va
theorem sZ (hu:P.underlying tI=some (.interface ms)):(Op.equal tI .nilIface .nilIface).run P w=.ok true w:=by
 exact Xh
theorem wk{tI tI2:TypeId}{d:Nat} (ho:o.op=.binOp .eql tI (.tmp d) (.const .nilIface) tI2) (hu:P.underlying tI=some (.interface ms)) (h:a.tmps.getD d undef=.nilIface) :
  (execOp a.eval o).run P w=.ok (.value (.bool true)) w:=by
 have e1:binOp .eql tI .nilIface .nilIface=(do pure (.bool (←Op.equal tI .nilIface .nilIface))):=rfl
 have e2:eqGuard .eql tI (.tmp d) (.const .nilIface) .nilIface .nilIface=pure ():=rfl
 have e3:a.eval (.tmp d)=.nilIface:=h
 have e4:a.eval (.const .nilIface)=.nilIface:=rfl
 unfold execOp
 simp only[ho,e3,e4,e1,e2,Sem.run_bind,Sem.run_pure,Result.andThen_ok,sZ hu]
theorem yv (hT:aN P T) (hm:P.follows .mixedOrders=true) {fn fnD:Func}{f:FuncId}{N id id2 bl d e:Nat}{oR oE:Oper}{x y:Code}
  (hf:P.funcs[f]? = some fnD) (hb:fnD.body=some (.seq (.region id #[oR] false) (.block bl (.seq (.region id2 #[oE] false) (.cond (.tmp e) x y))))) (hnn:(fnD.name == "runtime.NumGoroutine")=false)
  (hoR:oR.op=.call ⟨.builtin .recover,#[],#[]⟩) (hdR:oR.dst=some d) (gR:oR.guard=none) (hoE:oE.op=.binOp .eql tI (.tmp d) (.const .nilIface) tI) (hdE:oE.dst=some e) (gE:oE.guard=none) (hdn:d<fnD.ntmps) (hen:e<fnD.ntmps)
  (hres:fnD.results = #[]) (hcm:eU x=true) (hok:codeOk fnD.ntmps x=true) (huI:P.underlying tI=some (.interface ms)){β:Loc}{xs:List AV}{vs:List Value}{R:Ending→World→Prop} (hr:Rel b₀ N s β a w) (hv:aA b₀ β s.gen s.obj w xs vs) (hl:xs.length≤fnD.ntmps)
  {K:(Nat→Nat)→Obs→Prop} (hy:∀β0 s0 w0,wpC (spF P none b₀ (wi b₀ β0 s0 w0) B nQ) T x (bx fun ex s'=>ex=.normal∧K s'.gen s'.obj) ⟨upd (upd (ci xs) d (.exact .nilIface)) e (bv true),s.gen,s.obj⟩)
  (hR:∀g' ob' β' w',K g' ob'→Rel b₀ N ⟨s.f,g',ob'⟩ β' a w'→Tr b₀ β s w β' ⟨s.f,g',ob'⟩ w'→∃v,(results fn a.tmps).run P w'=.ok v w'∧R (.returned v) w') :
  LeavesIn (fen none) 0 P fn a.tmps R [⟨.fn (.func f) vs.toArray,#[]⟩] .returning w:=by
 refine leavesIn_cons (f:=f) (args:=vs.toArray) a7 (fun h=>by cases h) ?_ (fun _ _=>trivial) ?_
 ·exact Xu
 refine callsDIn_of_wpSIn hf hb trivial fun c₀ cs hu=>?_
 apply wpSIn_seq
 apply wpSIn_region
 show wpOpsSIn (fen none) 0 P #[oR] _ [0] _ _ _
 simp only[wpOpsSIn,u7,s7]
 refine⟨fun _ _=>trivial,?_⟩
 rw[if_pos (by simp[Region.wanted,gR])]
 have hrun:∀(a:Act) (w:World),(execOp a.eval oR).run P w=.ok .recover w:=fun a w=>by simp[execOp,hoR,resolve,invoke,builtin]
 rw[hrun]
 simp only[recoverD,hu,hdR,Exit.thenS]
 refine wpSIn_of_wpIn rfl ?_
 have hr0:=jr (N:=fnD.ntmps) (fa:=s.f) hl hr hv
 have hr1:=hr0.put (dst:=some d) (fun d' h=>by cases h;exact hdn) (x:=.exact .nilIface) (v:=.nilIface) (by simp only[ag])
 refine wpIn_block (wpIn_seq (wpIn_region ?_))
 show wpOpsIn (fen none) 0 P #[oE] _ [0] _ _
 simp only[wpOpsIn,u7,s7]
 rw[if_pos (by simp[Region.wanted,gE])]
 have hvd:=hr1.f d
 simp only[St.put,upd,if_pos,ag] at hvd
 refine⟨fun _ _=>trivial,?_⟩
 rw[show (fen none).round=none from rfl,Oper.semAt_none]
 rw[wk hoE huI hvd,Oper.uponIn_value]
 simp only[hdE]
 have hr2:Rel b₀ fnD.ntmps ⟨upd (upd (ci xs) d (.exact .nilIface)) e (bv true),s.gen,s.obj⟩ β _ w:=hr1.put (dst:=some e) (fun d' h=>by cases h;exact hen) (x:=bv true) (v:=.bool true) (by simp only[ag,aq,bv];exact .bool _)
 have hve:=hr2.f e
 simp only[upd,if_pos,bv,ag,aq] at hve
 refine wpIn_cond (t:=true) hve.inv_bool ?_
 rw[if_pos a8]
 have hy2:=bD (rd:=none) (B:=B) (ds:=[]) hT hm aa x hcm hok hr2 ⟨rfl,Tr.refl⟩ (hy β ⟨upd (upd (ci xs) d (.exact .nilIface)) e (bv true),s.gen,s.obj⟩ w)
 refine wpIn_mono hy2 (fun ex a' w' hp=>?_)
 obtain⟨s',β',a0,ds',rfl,h1,h2,rfl,h4⟩:=hp
 rcases h1 with⟨rfl,h1⟩|⟨_,_,h⟩
 case inr=>exact h.elim
 have hk:dU b₀ β s.gen s.obj w β' s'.gen s'.obj w':=h4.keep
 have ht:Tr b₀ β s w β' ⟨s.f,s'.gen,s'.obj⟩ w':=⟨h4.size,h4.old,hk,h4.os⟩
 have hrA:Rel b₀ N ⟨s.f,s'.gen,s'.obj⟩ β' a w':=⟨hr.defers,hr.size,fun i=>ag.keep hk _ (hr.f i),h2.obj,h2.inj,A9 hr.base h4.size⟩
 obtain⟨v,hv1,hv2⟩:=hR _ _ _ _ h1 hrA ht
 refine⟨rfl,.returning,by rw[←hu],.tuple #[],by simp[results,hres],?_⟩
 simp only[settle,LeavesIn]
 exact⟨v,hv1,hv2⟩
end
section
variable {S:Sp}{T:Nat→TI}{ops:Array Oper}{ids:List Nat}{f:Nat→AV}{g:Nat→Nat}{ob:Nat→Option (List C)}{rd hd:List Nat}{K:St→Prop}{k:Box K}
theorem fQ{ef:List Nat} (hg:GdE ops ⟨o,rd,hd,ef,true⟩ ⟨f,g,ob⟩) (h:∀K':St→Prop,(∀s'',K s''→K' s'')→opA S T o ⟨f,g,ob⟩ (bx K')):kT S T ops ids [⟨o,rd,hd,ef,true⟩] ⟨f,g,ob⟩ k:=by
 unfold kT dv;exact⟨⟨fun _=>trivial,fun K' hK=>h K' fun s'' q=>hK s'' fun _=>q⟩,hg⟩
end
end
section
def SS (B:Nat):PC→Prop
 |.d _=>True
 |.ptr id _ _=>id<B
def lI (B:Nat):C→Prop
 |.d _=>True
 |.osl id _ _ _ _=>id<B
 |.ptr id _ _=>id<B
 |.mp id _ _=>id<B
 |.lsl _=>True
 |.raw _=>True
 |.clo _ caps=>∀p∈caps,SS B p
def ST (B:Nat) (g:Nat→Nat):PC→Prop
 |.d _=>True
 |.ptr id g1 _=>id<B∨g1≤g id
def okC (B:Nat) (g:Nat→Nat):C→Prop
 |.d _=>True
 |.osl id g1 _ _ _=>id<B∨g1≤g id
 |.ptr id g1 _=>id<B∨g1≤g id
 |.mp id g1 _=>id<B∨g1≤g id
 |.lsl _=>True
 |.raw _=>True
 |.clo _ caps=>∀p∈caps,ST B g p
variable {g:Nat→Nat}{B:Nat}{w':World}{c:C}{β' β2:Loc}{g1 g2:Nat→Nat}{ob1 ob2:Obs}{ob:Obs}{cells:List C}{xs:List AV}{R:AV→(Nat→Nat)→Obs→Prop}
theorem lI.ok (h:lI B c):okC B g c:=by
 cases c with
 |osl=>exact .inl h
 |ptr=>exact .inl h
 |mp=>exact .inl h
 |clo f caps=>
   intro p hp
   have:=h p hp
   cases p with
   |d=>trivial
   |ptr=>exact .inl this
 |d=>trivial
 |lsl=>trivial
 |raw=>trivial
def iO (S:List Nat) (g g':Nat→Nat):Nat→Nat:=fun i=>if i∈S then g' i else g i
def eL (S:List Nat) (ob ob':Obs):Obs:=fun i=>if i∈S then ob' i else ob i
structure Db (B:Nat) (S:List Nat) (g:Nat→Nat) (ob:Obs) (g':Nat→Nat) (ob':Obs):Prop where
 same:∀i,i<B→i∉S→g' i=g i∧ob' i=ob i
 low:∀i∈S,∀cells,ob' i=some cells→∀c∈cells,lI B c
section
variable {P:Program}{T:Nat→TI}{b₀:Bs}{β:Loc}{w:World}
theorem aq.okC {B:Nat}{g:Nat→Nat}{ob:Obs}{c:C}{v:Value} (h:aq b₀ β g ob w c v):okC B g c:=by
 cases c with
 |d=>trivial
 |osl=>exact .inr h.2.1
 |ptr=>exact .inr h.2.1
 |mp=>exact .inr h.2.1
 |lsl=>trivial
 |raw=>trivial
 |clo f caps=>
   obtain⟨vs,_,h2,h3⟩:=h
   intro p hp
   obtain⟨i,hi⟩:=C9 hp
   obtain⟨u,_,hr⟩:=h3 i p hi
   cases p with
   |d=>trivial
   |ptr=>exact .inr hr.2.1
theorem db.okC {B:Nat}{g:Nat→Nat}{R:C→Value→Prop} (hR:∀c v,R c v→Go.Am.okC B g c) {kd:TypeDesc}{cs:List C}{es:List MapEntry} (h:db R kd cs es):∀c∈cs,Go.Am.okC B g c:=by
 induction h with
 |nil=>intro c hc;cases hc
 |cons hk h1 h2 _ ih=>
   intro c hc
   simp only[x9] at hc
   rcases hc with rfl|rfl|hc
   ·trivial
   ·exact hR _ _ h2
   ·exact ih c hc
theorem gN.okC {B:Nat}{g:Nat→Nat}{ob:Obs}{kd:Nat}{c:C}{v:Value} (h:gN b₀ β g ob w kd c v):Go.Am.okC B g c:=by
 unfold gN at h
 split at h
 ·exact aq.okC h
 ·obtain⟨ds,vs,rfl,_⟩:=h
  trivial
theorem cF.okC {B:Nat}{g:Nat→Nat}{ob:Obs}{e:Nat}{cells:List C}{x:Option Addr} (h:cF b₀ β g ob w e cells x):∀c∈cells,Go.Am.okC B g c:=by
 intro c hc
 cases x with
 |none=>have h:cells=[]:=h;subst h;cases hc
 |some a=>
   cases hs:a.spot with
   |none=>
     obtain⟨_,arr,el,lo,hi,_,_,_,h6⟩:=h.cells hs
     obtain⟨i,hi⟩:=C9 hc
     obtain⟨v,_,hr⟩:=h6 i c hi
     exact hr.okC
   |some kd=>
     obtain⟨_,⟨es,clock,_,h4⟩|⟨_,o,h3,_⟩⟩:=h.map hs
     ·exact db.okC (fun _ _=>gN.okC) h4 c hc
     ·subst h3
      simp only[C7] at hc
      subst hc
      trivial
structure Conv (b₀:Bs) (B:Nat) (g:Nat→Nat) (β':Loc) (g1:Nat→Nat) (ob1:Obs) (w':World) (β2:Loc) (g2:Nat→Nat) (ob2:Obs):Prop where
 imm:∀b,Imm b₀ β' ob1 w' b→Imm b₀ β2 ob2 w' b
 live:∀id,id<B→g2 id=g1 id∧((ob2 id).isSome=true→(ob1 id).isSome=true∧β2 id=β' id)
 dead:∀id,¬id<B→ob2 id=none∧g2 id=g id
theorem Conv.rep (hc:Conv b₀ B g β' g1 ob1 w' β2 g2 ob2){v:Value} (hok:okC B g c) (h:aq b₀ β' g1 ob1 w' c v):aq b₀ β2 g2 ob2 w' c v:=by
 have hle:∀id x,id<B∨x≤g id→x≤g1 id→x≤g2 id:=fun id x hx h1=>by
  by_cases hb:id<B
  ·rw[(hc.live id hb).1];exact h1
  ·rw[(hc.dead id hb).2];exact hx.resolve_left hb
 have hlv:∀id x,g2 id=x→(ob2 id).isSome=true→g1 id=x∧(ob1 id).isSome=true∧β2 id=β' id:=fun id x hx ho=>by
  by_cases hb:id<B
  ·exact⟨by rw[←(hc.live id hb).1];exact hx,(hc.live id hb).2 ho⟩
  ·rw[(hc.dead id hb).1] at ho;cases ho
 cases c with
 |d x=>exact bB.mono h fun b hb=>⟨hc.imm b hb,rfl⟩
 | osl id x sz off len=>exact⟨h.1,hle id x hok h.2.1,fun hg ho=>by
    obtain⟨l1,l2,l3⟩:=hlv id x hg ho
    rw[l3];exact h.2.2 l1 l2⟩
 | ptr id x off=>exact⟨h.1,hle id x hok h.2.1,fun hg ho=>by
    obtain⟨l1,l2,l3⟩:=hlv id x hg ho
    rw[l3];exact h.2.2 l1 l2⟩
 | mp id x kd=>exact⟨h.1,hle id x hok h.2.1,fun hg ho=>by
    obtain⟨l1,l2,l3⟩:=hlv id x hg ho
    rw[l3];exact h.2.2 l1 l2⟩
 |lsl n=>exact h
 |raw o=>exact h.elim
 |clo f caps=>
   obtain⟨vs,h1,h2,h3⟩:=h
   refine⟨vs,h1,h2,fun i pc hp=>?_⟩
   obtain⟨u,hu,hr⟩:=h3 i pc hp
   refine⟨u,hu,?_⟩
   have hpok:=hok pc (l6 hp)
   cases pc with
   |d x=>exact bB.mono hr fun b hb=>⟨hc.imm b hb,rfl⟩
   | ptr id x off=>exact⟨hr.1,hle id x hpok hr.2.1,fun hg ho=>by
      obtain⟨l1,l2,l3⟩:=hlv id x hg ho
      rw[l3];exact hr.2.2 l1 l2⟩
theorem Conv.repM (hc:Conv b₀ B g β' g1 ob1 w' β2 g2 ob2) {kd:Nat}{v:Value} (hok:okC B g c) (h:gN b₀ β' g1 ob1 w' kd c v):gN b₀ β2 g2 ob2 w' kd c v:=by
 unfold gN at h ⊢
 split
 ·rename_i hk
  rw[if_pos hk] at h
  exact hc.rep hok h
 ·rename_i hk
  rw[if_neg hk] at h
  obtain⟨ds,vs,q1,q2,q3,q4⟩:=h
  exact⟨ds,vs,q1,q2,q3,fun i x hx=>let ⟨u,hu,hr⟩:=q4 i x hx;⟨u,hu,bB.mono hr fun b hb=>⟨hc.imm b hb,rfl⟩⟩⟩
theorem db.okMono{R R':C→Value→Prop}{kd:TypeDesc}{cs:List C}{es:List MapEntry} (h:db R kd cs es) (hok:∀c∈cs,Go.Am.okC B g c) (hr:∀c v,Go.Am.okC B g c→R c v→R' c v):db R' kd cs es:=by
 induction h with
 |nil=>exact .nil
 |cons hk h1 h2 _ ih=>exact .cons hk h1 (hr _ _ (hok _ a7) h2) (ih fun c hc=>hok c (by simp[hc]))
theorem Conv.obj (hc:Conv b₀ B g β' g1 ob1 w' β2 g2 ob2) {e:Nat}{x:Option Addr} (hok:∀c∈cells,okC B g c) (h:cF b₀ β' g1 ob1 w' e cells x):cF b₀ β2 g2 ob2 w' e cells x:=by
 cases x with
 |none=>exact h
 |some a=>
   cases hs:a.spot with
   |none=>
     obtain⟨h1,arr,el,lo,hi,h2,h3,h4,h6⟩:=h.cells hs
     refine .ofCells hs ⟨h1,arr,el,lo,hi,h2,h3,h4,fun j c hj=>?_⟩
     obtain⟨v,hv,hr⟩:=h6 j c hj
     exact⟨v,hv,hc.rep (hok c (l6 hj)) hr⟩
   |some kd=>
     obtain⟨h1,⟨es,clock,h2,h4⟩|hraw⟩:=h.map hs
     ·exact .ofMap hs ⟨h1,.inl ⟨es,clock,h2,h4.okMono hok fun _ _ q1 q2=>hc.repM q1 q2⟩⟩
     ·exact .ofMap hs ⟨h1,.inr hraw⟩
theorem wj {N M:Nat}{S:List Nat}{fa:Nat→AV}{a0 a':Act}{s':St}{β':Loc} (hr0:Rel b₀ M ⟨fa,g,ob⟩ β a0 w) (hr:Rel b₀ N s' β' a' w')
  {s0:St} (h0g:s0.gen=g) (h0o:s0.obj=ob) (ht:Tr b₀ β s0 w β' s' w') (hS:∀i∈S,i<B) (hB:∀i,B≤i→ob i=none) (he:Db B S g ob s'.gen s'.obj) :
  ∃β2:Loc,Conv b₀ B g β' s'.gen s'.obj w' β2 (iO S g s'.gen) (eL S ob s'.obj)∧
   (∀id cells,eL S ob s'.obj id=some cells→cF b₀ β2 (iO S g s'.gen) (eL S ob s'.obj) w' (iO S g s'.gen id) cells (β2 id))∧
   (∀id id' a a',(eL S ob s'.obj id).isSome=true→(eL S ob s'.obj id').isSome=true→β2 id=some a→β2 id'=some a'→a.block=a'.block→id=id')∧
   (∀id,(eL S ob s'.obj id).isSome=true→(s'.obj id).isSome=true∧¬B≤id∧β2 id=β' id)∧
   Tr b₀ β ⟨fa,g,ob⟩ w β2 ⟨fa,iO S g s'.gen,eL S ob s'.obj⟩ w':=by
 subst h0g h0o
 have hlow:∀id,(s0.obj id).isSome=true→id<B:=fun id ho=>T0 fun hc=>by
  rw[hB id a6] at ho;cases ho
 have hmem:∀id,id∈S→iO S s0.gen s'.gen id=s'.gen id∧eL S s0.obj s'.obj id=s'.obj id:=fun id h=>⟨if_pos h,if_pos h⟩
 have hnot:∀id,id∉S→iO S s0.gen s'.gen id=s0.gen id∧eL S s0.obj s'.obj id=s0.obj id:=fun id h=>⟨if_neg h,if_neg h⟩
 have hkl:∀id,id∉S→(s0.obj id).isSome=true→s'.gen id=s0.gen id∧(s'.obj id).isSome=true∧β' id=β id:=fun id h ho=>by
  obtain⟨q1,q2⟩:=he.same id (hlow id ho) h
  have q3:(s'.obj id).isSome=true:=by rw[q2];exact ho
  exact⟨q1,q3,(ht.keep.live id q1 q3).2.1⟩
 let β2:Loc:=fun id=>if id∈S then β' id else β id
 have hβm:∀id,id∈S→β2 id=β' id:=fun id h=>if_pos h
 have hβn:∀id,id∉S→β2 id=β id:=fun id h=>if_neg h
 have hall:∀id,(eL S s0.obj s'.obj id).isSome=true→(s'.obj id).isSome=true∧¬B≤id∧β2 id=β' id:=fun id ho=>by
  by_cases h:id∈S
  ·rw[(hmem id h).2] at ho
   exact⟨ho,by have:=hS id h;omega,hβm id h⟩
  ·rw[(hnot id h).2] at ho
   obtain⟨_,q2,q3⟩:=hkl id h ho
   exact⟨q2,by have:=hlow id ho;omega,(hβn id h).trans q3.symm⟩
 have himm:∀b,Imm b₀ β' s'.obj w' b→Imm b₀ β2 (eL S s0.obj s'.obj) w' b:=fun b hb=>⟨hb.1,hb.2.1,fun id a ho hβ=>by
  obtain⟨q1,_,q3⟩:=hall id ho
  exact hb.2.2 id a q1 (by rw[←q3];exact hβ)⟩
 have hconv:Conv b₀ B s0.gen β' s'.gen s'.obj w' β2 (iO S s0.gen s'.gen) (eL S s0.obj s'.obj):=by
  refine⟨himm,fun id hb=>⟨?_,fun ho=>⟨(hall id ho).1,(hall id ho).2.2⟩⟩,fun id hb=>?_⟩
  ·by_cases h:id∈S
   ·exact(hmem id h).1
   ·rw[(hnot id h).1,(he.same id hb h).1]
  ·have h:id∉S:=fun h=>hb (hS id h)
   exact⟨by rw[(hnot id h).2];exact hB id a6,(hnot id h).1⟩
 refine⟨β2,hconv,fun id cells hc=>?_,fun i1 i2 a1 a2 h1 h2 e1 e2 hb=>?_,hall,ht.size,ht.old,⟨fun b hb=>⟨himm b (ht.imm b hb).1,(ht.imm b hb).2⟩,fun id=>?_,fun id hg ho=>?_⟩,ht.os⟩
 ·by_cases h:id∈S
  ·rw[(hmem id h).1,hβm id h]
   rw[(hmem id h).2] at hc
   exact hconv.obj (fun c hcc=>(he.low id h cells hc c hcc).ok) (hr.obj id cells hc)
  ·rw[(hnot id h).1,hβn id h]
   rw[(hnot id h).2] at hc
   have ho:(s0.obj id).isSome=true:=by rw[hc];rfl
   obtain⟨q1,q2,q3⟩:=hkl id h ho
   have h1:=hr.obj id cells (by rw[(he.same id (hlow id ho) h).2];exact hc)
   rw[q1,q3] at h1
   exact hconv.obj (fun c hcc=>(hr0.obj id cells hc).okC c hcc) h1
 ·obtain⟨p1,_,p3⟩:=hall i1 h1
  obtain⟨p4,_,p6⟩:=hall i2 h2
  exact hr.inj i1 i2 a1 a2 p1 p4 (by rw[←p3];exact e1) (by rw[←p6];exact e2) hb
 ·show s0.gen id≤iO S s0.gen s'.gen id
  by_cases h:id∈S
  ·rw[(hmem id h).1];exact ht.gen id
  ·rw[(hnot id h).1];exact l0 _
 ·change iO S s0.gen s'.gen id=s0.gen id at hg
  change (eL S s0.obj s'.obj id).isSome=true at ho
  by_cases h:id∈S
  ·rw[(hmem id h).1] at hg
   rw[(hmem id h).2] at ho
   obtain⟨q1,q2,q3⟩:=ht.keep.live id hg ho
   exact⟨q1,(hβm id h).trans q2,q3⟩
  ·rw[(hnot id h).2] at ho
   obtain⟨q1,q2,q3⟩:=hkl id h ho
   exact⟨ho,hβn id h,(ht.keep.live id q1 q2).2.2⟩
theorem eE.repL {B N:Nat}{s:St}{a:Act}{ob':Obs} (hob':∀id,(ob' id).isSome=true→(s.obj id).isSome=true∧¬B≤id) (hr:Rel b₀ N s β a w) {g':Nat→Nat}{β':Loc} (hβ:∀id,(ob' id).isSome=true→β' id=β id) :
  ∀{ts rs:List AV}{vs:List Value},eE B s ts rs→aA b₀ β s.gen s.obj w ts vs→aA b₀ β' g' ob' w rs vs
 |[],rs,vs,h,hv=>by simp only[eE] at h;subst h;simp only[aA] at hv ⊢;exact hv
 |t::ts,rs,vs,h,hv=>by
   simp only[eE] at h
   obtain⟨r,rs',rfl,h1,h2⟩:=h
   simp only[aA] at hv ⊢
   obtain⟨u,us,e,h3,h4⟩:=hv
   exact⟨u,us,e,h1.rep hob' hr h3 hβ,eE.repL hob' hr hβ h2 h4⟩
def aT (B:Nat) (S:List Nat) (g:Nat→Nat) (ob:Obs) (R:AV→(Nat→Nat)→Obs→Prop) (s:St) (avs:List AV):Prop:=Db B S g ob s.gen s.obj∧∃rs',eE B s avs rs'∧R (pack rs') (iO S g s.gen) (eL S ob s.obj)
def Lp (T:Nat→TI) (rs:List ResultVar) (B:Nat) (S:List Nat) (g:Nat→Nat) (ob:Obs) (R:AV→(Nat→Nat)→Obs→Prop):Exit→St→Prop
 |.normal,s|.ret,s=>∃s',ab s s'∧gU T s' rs (bx fun avs=>aT B S g ob R s' avs)
 |_,_=>False
def Dc (B:Nat) (S:List Nat) (g:Nat→Nat) (ob:Obs) (X:Pan):fj:=fun ch s=>Db B S g ob s.gen s.obj∧X ch (iO S g s.gen) (eL S ob s.obj)
theorem yq (B:Nat) (S:List Nat) (hT:aN P T) (hm:P.follows .mixedOrders=true) {f:FuncId}{fn:Func}{c:Code} (hf:P.funcs[f]? = some fn) (hb:fn.body=some c) (hn:(fn.name == "runtime.NumGoroutine")=false)
  (rs:List ResultVar) (hres:fn.results=rs.toArray) (hcm:eU c=true) (hok:codeOk fn.ntmps c=true) (hargs:xs.length≤fn.ntmps){X:Pan}
  (hS:∀i∈S,i<B) (hB:∀i,B≤i→ob i=none)
  (h:∀b₀ β0 s0 w0,wpC (spF P none b₀ (wi b₀ β0 s0 w0) B (Dc B S g ob X)) T c (bx (Lp T rs B S g ob R)) ⟨ci xs,g,ob⟩):cB P f xs g ob R X:=by
 refine⟨⟨fn,hf,by rw[hb];rfl,hn⟩,fun b₀ N β a fa w vs hr0 hv=>?_⟩
 refine eX (n:=0) (callsIn_of_wp hf hb trivial ?_)
 have hr:=jr (N:=fn.ntmps) hargs hr0 hv
 refine wpIn_mono (bD (rd:=none) (B:=B) (ds:=[]) hT hm aa c hcm hok hr ⟨rfl,Tr.refl⟩ (h b₀ β ⟨ci xs,g,ob⟩ w)) (fun e a' w' hp=>?_)
 obtain⟨s',β',a0,ds',rfl,hQ,hr',rfl,ht⟩:=hp
 rcases hQ with hQ|⟨ch,rfl,hE,hX⟩
 ·have hres':Lp T rs B S g ob R .ret s'→∃v,(results fn a0.tmps).run P w'=.ok v w'∧Lo b₀ β fa g ob w R X (.returned v) w':=by
   rintro⟨s2,hvs,hR⟩
   obtain⟨β2,hr2,ht2⟩:=hvs b₀ fn.ntmps β' a0 w' hr'
   have hta:=ht.trans ht2
   obtain⟨v,avs,h1,⟨hE,rs',hfz,hR'⟩,h3,vs',rfl,h4⟩:=ce hT hr2 hres hR
   obtain⟨β3,hcv,k1,k2,k3,k4⟩:=wj (a0:=a) (fa:=fa) hr0 hr2 rfl rfl hta hS hB hE
   refine⟨kj vs',h1,.inl ⟨kj vs',_,_,_,β3,rfl,hR',wb (hfz.repL (fun id ho=>⟨(k3 id ho).1,(k3 id ho).2.1⟩) hr2 (fun id ho=>(k3 id ho).2.2) h4),k1,k2,k4⟩⟩
  cases e with
  |normal=>exact⟨rfl,hres' hQ⟩
  |ret=>exact⟨rfl,hres' hQ⟩
  |exit id=>exact hQ.elim
  |goto l=>exact hQ.elim
  |panic ch=>exact hQ.elim
  |outgrown=>exact hQ.elim
 ·obtain⟨β3,hcv,k1,k2,k3,k4⟩:=wj (a0:=a) (fa:=fa) hr0 hr' rfl rfl ht hS hB hE
  exact⟨rfl,.inr ⟨ch,_,_,β3,rfl,hX,k1,k2,k4⟩⟩
theorem cB.toR {f:FuncId} (h:cB P f xs g ob R (fun _ _ _=>False)):fg P f xs g ob R:=
 ⟨h.1,fun b₀ N β a fa w vs h1 h2=>(h.2 b₀ N β a fa w vs h1 h2).mono fun _ _ q=>q.elim id fun⟨_,_,_,_,_,h,_⟩=>h.elim⟩
theorem Dd {t:Nat}{g g':Nat→Nat} (h:g' t=g t):iO [t] g g'=g:=by
 funext i
 simp only[iO,C7]
 split
 ·rename_i e;subst e;exact h
 ·rfl
theorem De {t:Nat}{ob ob':Obs}:eL [t] ob ob'=upd ob t (ob' t):=by
 funext i
 simp only[eL,C7,upd]
 split
 ·rename_i e;subst e;rfl
 ·rfl
theorem Df {g g':Nat→Nat}:iO [] g g'=g:=by funext i;simp[iO]
theorem Dg {ob ob':Obs}:eL [] ob ob'=ob:=by funext i;simp[eL]
theorem ep {α:Type}{P:Nat→Prop}{s:St}{id g sz n:Nat} (hp:P id) (hg:s.gen id=g) (l:List α) (enc:α→List D) (ho:s.obj id=some cells) (hc:cells=l.flatMap (fun a=>(enc a).map .d)) (hsz:∀a∈l,(enc a).length=sz) (hn:l.length=n) :
  fc P s (.osl id g sz 0 n) (.sl (l.map enc)):=by
 have hfl:(l.map enc).flatten.map C.d=cells:=by rw[hc,List.flatMap_def,List.map_flatten,UR];rfl
 have hlen:(l.map enc).flatten.length=n*sz:=by
  rw[←hn];clear ho hc hn hfl
  induction l with
  |nil=>simp
  |cons a l ih=>simp only[l7,G1,j4,j6,hsz a a7,ih (fun b hb=>hsz b (by simp[hb])),E6];omega
 refine .osl hp hg ho (by rw[←hfl,j5,hlen];omega) (by simpa using hn) (fun e he=>by obtain⟨a,ha,rfl⟩:=H8.1 he;exact hsz a ha) (fun j=>.d ((l.map enc).flatten.getD j default)) (fun j x hx=>?_) (fun j x hx=>?_)
 ·rw[C5,←hfl,w8,hx]
  simp[List.getD,hx]
 ·simp only[List.getD,hx,y7]
  exact .d x
end
end
section
section
variable {P:Program}{T:Nat→TI}{b₀:Bs}{β:Loc}{w:World}
end
section
variable {P:Program}{T:Nat→TI}{b₀:Bs}{w:World}{rd:Option Nat}{Φ:St→Loc→List Deferred→World→Prop}{Ψ:fj}
def PL (ops:Array Oper):Bool:=ops.toList.any fal
theorem jj (z:Prop) (hT:aN P T) (hm:P.follows .mixedOrders=true) (hΦ:aQ b₀ Φ) {B id:Nat}{ops:Array Oper}{s:St}{Q:Exit→St→Prop}{q:Box Q} (ids:List Nat) (tb:List (List Nat×List Nat×List Nat×Bool)) (nid:Nat) (hnd0:ops.toList.all aE=true) (hok:(rk ops tb nid&&PL ops)=true) (hnid:ids.length=nid) (hnd:ids.Nodup)
  (h:dv (spF P rd b₀ Φ B Ψ) T ops ids z (gO ops.toList tb) s (bx fun s'=>z→Q .normal s')):iB (spF P rd b₀ Φ B Ψ) T id ops s q:=by
 rw[s9] at hok
 obtain⟨h1,I,h2,h3,h4⟩:=rn (Q:=Q) ids tb nid hok.1 hnid hnd h
 refine pe hT hm hΦ hnd0 h1 I h2 h3 (fun L s' h5 h6=>h4 L s' h5 h6 ?_)
 obtain⟨o,ho,hf⟩:=Q3.1 hok.2
 obtain⟨i,hi⟩:=C9 ho
 exact .inl ⟨i,o,by simpa using hi,hf⟩
end
variable {v:AV}{y:Option (List C)}
section steps
variable {S:Sp}{T:Nat→TI}{ops:Array Oper}{ids:List Nat}{z:Prop}{f:Nat→AV}{g:Nat→Nat}{ob:Nat→Option (List C)}{K:St→Prop}{k:Box K}{op:Op}{ty:TypeId}{ps:String}{af:Array Edge}{gd:Option (Nat×Bool)}{rd hd:List Nat}{r:List Ent}{d:Nat}
theorem br (hf:fal ⟨some d,op,ty,ps,af,gd⟩=false) (hg:GdE ops ⟨⟨some d,op,ty,ps,af,gd⟩,rd,hd,[],false⟩ ⟨f,g,ob⟩) (h1:∀(fa:Nat→AV) (ga:Nat→Nat) (oa:Nat→Option (List C)) (K':St→Prop),K' ⟨upd (maskf rd f fa) d v,maskm ids hd g ga,maskm ids hd ob oa⟩→opA S T ⟨some d,op,ty,ps,af,gd⟩ ⟨maskf rd f fa,maskm ids hd g ga,maskm ids hd ob oa⟩ (bx K'))
  (h2:dv S T ops ids z r ⟨upd f d v,g,ob⟩ k):dv S T ops ids z (⟨⟨some d,op,ty,ps,af,gd⟩,rd,hd,[],false⟩::r) ⟨f,g,ob⟩ k:=by
 unfold dv
 exact⟨v,[],⟨rfl,fun fa ga oa K' hK=>h1 fa ga oa K' (hK fun h=>by rw[hf] at h;cases h),hg⟩,h2⟩
theorem iD{a x:Nat} (hf:fal ⟨some d,op,ty,ps,af,gd⟩=false) (hg:GdE ops ⟨⟨some d,op,ty,ps,af,gd⟩,rd,hd,[a],false⟩ ⟨f,g,ob⟩) (h1:∀(fa:Nat→AV) (ga:Nat→Nat) (oa:Nat→Option (List C)) (K':St→Prop),K' ⟨upd (maskf rd f fa) d v,upd (maskm ids hd g ga) (ids.getD a 0) x,upd (maskm ids hd ob oa) (ids.getD a 0) y⟩→opA S T ⟨some d,op,ty,ps,af,gd⟩ ⟨maskf rd f fa,maskm ids hd g ga,maskm ids hd ob oa⟩ (bx K'))
  (h2:dv S T ops ids z r ⟨upd f d v,upd g (ids.getD a 0) x,upd ob (ids.getD a 0) y⟩ k):dv S T ops ids z (⟨⟨some d,op,ty,ps,af,gd⟩,rd,hd,[a],false⟩::r) ⟨f,g,ob⟩ k:=by
 unfold dv
 exact⟨v,[(x,y)],⟨rfl,fun fa ga oa K' hK=>h1 fa ga oa K' (hK fun h=>by rw[hf] at h;cases h),hg⟩,h2⟩
theorem jk{a:Nat} (hg:GdE ops ⟨⟨some d,op,ty,ps,af,gd⟩,rd,hd,[a],false⟩ ⟨f,g,ob⟩) (hv:ids.getD a 0∉hd.map (fun b=>ids.getD b 0)) (h1:∀(fa:Nat→AV) (ga:Nat→Nat) (oa:Nat→Option (List C)) (K':St→Prop),(z→K' ⟨upd (maskf rd f fa) d v,maskm ids hd g ga,upd (maskm ids hd ob oa) (ids.getD a 0) y⟩)→opA S T ⟨some d,op,ty,ps,af,gd⟩ ⟨maskf rd f fa,maskm ids hd g ga,maskm ids hd ob oa⟩ (bx K'))
  (h2:dv S T ops ids z r ⟨upd f d v,g,upd ob (ids.getD a 0) y⟩ k):dv S T ops ids z (⟨⟨some d,op,ty,ps,af,gd⟩,rd,hd,[a],false⟩::r) ⟨f,g,ob⟩ k:=by
 have hself:∀(α:Type) (h:Nat→α) (i:Nat),upd h i (h i)=h:=fun α h i=>by funext j;simp only[upd];split <;> simp_all
 have hmask:∀ga:Nat→Nat,maskm ids hd g ga (ids.getD a 0)=g (ids.getD a 0):=fun ga=>by
  clear h1 h2 hg
  induction hd with
  |nil=>rfl
  |cons b bs ih=>
    exact Xp
 unfold dv
 refine⟨v,[(g (ids.getD a 0),y)],⟨rfl,fun fa ga oa K' hK=>h1 fa ga oa K' (fun hz=>?_),hg⟩,?_⟩
 ·have e:ki ids ⟨⟨some d,op,ty,ps,af,gd⟩,rd,hd,[a],false⟩ v [(g (ids.getD a 0),y)] ⟨maskf rd f fa,maskm ids hd g ga,maskm ids hd ob oa⟩=⟨upd (maskf rd f fa) d v,maskm ids hd g ga,upd (maskm ids hd ob oa) (ids.getD a 0) y⟩:=by
   simp only[ki,uS,setm,l7,v8]
   rw[←hmask ga,hself]
  rw[←e];exact hK fun _=>hz
 ·have e:ki ids ⟨⟨some d,op,ty,ps,af,gd⟩,rd,hd,[a],false⟩ v [(g (ids.getD a 0),y)] ⟨f,g,ob⟩=⟨upd f d v,g,upd ob (ids.getD a 0) y⟩:=by
   simp only[ki,uS,setm,l7,v8]
   rw[hself]
  rw[e];exact h2
theorem jl {o:Oper}{ef:List Nat} (hf:fal o=false) (hg:GdE ops ⟨o,rd,hd,ef,true⟩ ⟨f,g,ob⟩) (h:∀K':St→Prop,(∀s'',K s''→K' s'')→opA S T o ⟨f,g,ob⟩ (bx K')):dv S T ops ids z [⟨o,rd,hd,ef,true⟩] ⟨f,g,ob⟩ k:=by
 unfold dv
 exact⟨⟨fun h'=>(by rw[hf] at h';cases h'),h⟩,hg⟩
end steps
end
end
section
attribute [local congr] Go.Am.ite_cc
section
section
variable {P:Program}{b₀:Bs}{rd:Option Nat}{B0:Nat}{Ψ:fj}{op:Oper}{s:St}{K:St→Prop}{k:Box K}{f:FuncId}{args:Array Operand}{tys:Array TypeId}{R:AV→Prop}{β0:Loc}{s0:St}{w0:World}
theorem fm (ho:op.op=.call ⟨.value (.func f),args,tys⟩) (hp:aG P f (args.toList.map s.ev) R) (hk:∀r,R r→K (s.put op.dst r)) (hd:(args.toList.map s.ev).all dO=true:=by simp only[go_sem];rfl):aR (sp P) op s k:=
 dX ho hp hd hk
theorem cp {gb:Nat}{o:bE} (ho:op.op=.call ⟨.value (.func f),args,tys⟩) (hp:bi P gb o f (args.toList.map s.ev) R) (hk:∀r,R r→K (s.put op.dst r)) (hd:(args.toList.map s.ev).all dO=true:=by simp only[go_sem];rfl):aR (spF P rd b₀ (CZ gb o b₀ β0 s0 w0) B0 Ψ) op s k:=
 il ay (fun _ _ _ _ h=>h.1.2) ho hp hd hk
theorem iE {gb:Nat}{o:bE} (ho:op.op=.call ⟨.value (.func f),args,tys⟩) (hp:aG P f (args.toList.map s.ev) R) (hk:∀r,R r→K (s.put op.dst r)) (hd:(args.toList.map s.ev).all dO=true:=by simp only[go_sem];rfl):aR (spF P rd b₀ (CZ gb o b₀ β0 s0 w0) B0 Ψ) op s k:=
 kS ay ho hp hd hk
theorem SV (ho:op.op=.call ⟨.value (.func f),args,tys⟩) (hp:aG P f (args.toList.map s.ev) R) (hk:∀r,R r→K (s.put op.dst r)) (hd:(args.toList.map s.ev).all dO=true:=by simp only[go_sem];rfl):aR (spF P rd b₀ (wi b₀ β0 s0 w0) B0 Ψ) op s k:=
 kS aa ho hp hd hk
end
end
end
end Go.Am
namespace Go.Proofs.YtgiigidgdhplfaaGreatDoor
section
attribute [local congr] Go.Am.ite_cc
open Go Go.Am
section
def ti2:TI:=⟨.int .i64,1,8,[.int .i64 0]⟩
def ti4:TI:=⟨.bool,1,1,[.bool false]⟩
def ti5:TI:=⟨.int .u8,1,1,[.int .u8 0]⟩
def ti7:TI:=⟨.struct #[⟨ "x",2,0,false,"","runtime",0⟩,⟨ "y",3,1,false,"","runtime",8⟩,⟨ "signed",4,2,false,"","runtime",16⟩,⟨ "code",6,3,false,"","runtime",17⟩],4,24,[.int .i64 0,.int .i64 0,.bool false,.int .u8 0]⟩
def ti9:TI:=⟨.string,1,16,[.str []]⟩
def DM:TI:=⟨.int .u64,1,8,[.int .u64 0]⟩
def LE:TI:=⟨.struct #[⟨ "msg",9,0,false,"","runtime",0⟩,⟨ "addr",12,1,false,"","runtime",16⟩],2,24,[.str [],.int .u64 0]⟩
def PX:TI:=⟨.pointer 309,1,8,[.nilp]⟩
def PY:TI:=⟨.pointer 312,1,8,[.nilp]⟩
def PZ:TI:=⟨.pointer 319,1,8,[.nilp]⟩
def LF:TI:=⟨.struct #[⟨ "typ",17,0,false,"","internal/runtime/maps",0⟩],1,8,[.nilp]⟩
def Qa:TI:=⟨.interface #[],1,16,[.nili]⟩
def HA:TI:=⟨.struct #[⟨ "End",3,0,false,"","",0⟩,⟨ "Out",9,1,false,"","",8⟩,⟨ "Steps",3,2,false,"","",24⟩],3,32,[.int .i64 0,.str [],.int .i64 0]⟩
def Qb:TI:=⟨.func #[38] #[9,23] false,1,8,[.nilf]⟩
def HB:TI:=⟨.int .u32,1,4,[.int .u32 0]⟩
def LG:TI:=⟨.slice 35,1,24,[.nsl]⟩
def HC:TI:=⟨.struct #[⟨ "Code",36,0,false,"","",0⟩,⟨ "Data",3,1,false,"","",24⟩],2,32,[.nsl,.int .i64 0]⟩
def LH:TI:=⟨.slice 9,1,24,[.nsl]⟩
def LI:TI:=⟨.slice 126,1,24,[.nsl]⟩
def LJ:TI:=⟨.slice 129,1,24,[.nsl]⟩
def HD:TI:=⟨.struct #[⟨ "Vars",39,0,false,"","",0⟩,⟨ "Arrays",42,1,false,"","",24⟩,⟨ "Funcs",43,2,false,"","",48⟩],3,72,[.nsl,.nsl,.nsl]⟩
def Qc:TI:=⟨.func #[45] #[38,23] false,1,8,[.nilf]⟩
def LK:TI:=⟨.slice 5,1,24,[.nsl]⟩
def Qd:TI:=⟨.array 16 5,16,16,[.int .u8 0,.int .u8 0,.int .u8 0,.int .u8 0,.int .u8 0,.int .u8 0,.int .u8 0,.int .u8 0,.int .u8 0,.int .u8 0,.int .u8 0,.int .u8 0,.int .u8 0,.int .u8 0,.int .u8 0,.int .u8 0]⟩
def Qe:TI:=⟨.func #[38,9,3] #[29] false,1,8,[.nilf]⟩
def HE:TI:=⟨.pointer 62,1,8,[.nilp]⟩
def DN:TI:=⟨.struct #[⟨ "addr",60,0,false,"","strings",0⟩,⟨ "buf",52,1,false,"","strings",8⟩],2,32,[.nilp,.nsl]⟩
def DO:TI:=⟨.struct #[⟨ "Op",3,0,false,"","",0⟩,⟨ "A",3,1,false,"","",8⟩,⟨ "B",3,2,false,"","",16⟩,⟨ "C",3,3,false,"","",24⟩],4,32,[.int .i64 0,.int .i64 0,.int .i64 0,.int .i64 0]⟩
def Qf:TI:=⟨.func #[] #[9,23] false,1,8,[.nilf]⟩
def Qg:TI:=⟨.slice 74,1,24,[.nsl]⟩
def Qh:TI:=⟨.pointer 119,1,8,[.nilp]⟩
def Qi:TI:=⟨.func #[78] #[] false,1,8,[.nilf]⟩
def LL:TI:=⟨.slice 144,1,24,[.nsl]⟩
def HF:TI:=⟨.struct #[⟨ "Words",3,0,false,"","",0⟩,⟨ "Funcs",82,1,false,"","",8⟩],2,32,[.int .i64 0,.nsl]⟩
def LM:TI:=⟨.slice 158,1,24,[.nsl]⟩
def HG:TI:=⟨.struct #[⟨ "Words",3,0,false,"","",0⟩,⟨ "Funcs",89,1,false,"","",8⟩],2,32,[.int .i64 0,.nsl]⟩
def Qj:TI:=⟨.func #[84] #[38,23] false,1,8,[.nilf]⟩
def LN:TI:=⟨.array 16 35,16,64,[.int .u32 0,.int .u32 0,.int .u32 0,.int .u32 0,.int .u32 0,.int .u32 0,.int .u32 0,.int .u32 0,.int .u32 0,.int .u32 0,.int .u32 0,.int .u32 0,.int .u32 0,.int .u32 0,.int .u32 0,.int .u32 0]⟩
def HH:TI:=⟨.struct #[⟨ "PC",3,0,false,"","",0⟩,⟨ "Reg",96,1,false,"","",8⟩,⟨ "Mem",36,17,false,"","",72⟩,⟨ "Read",3,18,false,"","",96⟩,⟨ "Out",9,19,false,"","",104⟩,⟨ "Steps",3,20,false,"","",120⟩,⟨ "End",3,21,false,"","",128⟩],22,136,[.int .i64 0,.int .u32 0,.int .u32 0,.int .u32 0,.int .u32 0,.int .u32 0,.int .u32 0,.int .u32 0,.int .u32 0,.int .u32 0,.int .u32 0,.int .u32 0,.int .u32 0,.int .u32 0,.int .u32 0,.int .u32 0,.int .u32 0,.nsl,.int .i64 0,.str [],.int .i64 0,.int .i64 0]⟩
def DP:TI:=⟨.slice 104,1,24,[.nsl]⟩
def wB:TI:=⟨.struct #[⟨ "Ins",69,0,true,"","",0⟩,⟨ "note",9,4,false,"","seedcorn/seed",32⟩],5,48,[.int .i64 0,.int .i64 0,.int .i64 0,.int .i64 0,.str []]⟩
def Ad:TI:=⟨.slice 3,1,24,[.nsl]⟩
def Kg:TI:=⟨.pointer 5,1,8,[.nilp]⟩
def DQ:TI:=⟨.slice 122,1,24,[.nsl]⟩
def Ae:TI:=⟨.struct #[⟨ "at",3,0,false,"","seedcorn/parse",0⟩],1,8,[.int .i64 0]⟩
def Af:TI:=⟨.struct #[⟨ "tokens",113,0,false,"","seedcorn/parse",0⟩,⟨ "next",3,1,false,"","seedcorn/parse",24⟩,⟨ "end",3,2,false,"","seedcorn/parse",32⟩],3,40,[.nsl,.int .i64 0,.int .i64 0]⟩
def wC:TI:=⟨.struct #[⟨ "Kind",3,0,false,"","",0⟩,⟨ "Text",9,1,false,"","",8⟩,⟨ "Num",35,2,false,"","",24⟩,⟨ "At",3,3,false,"","",32⟩],4,40,[.int .i64 0,.str [],.int .u32 0,.int .i64 0]⟩
def wD:TI:=⟨.struct #[⟨ "Name",9,0,false,"","",0⟩,⟨ "Size",3,1,false,"","",16⟩],2,24,[.str [],.int .i64 0]⟩
def DR:TI:=⟨.slice 182,1,24,[.nsl]⟩
def wE:TI:=⟨.struct #[⟨ "Name",9,0,false,"","",0⟩,⟨ "Params",39,1,false,"","",16⟩,⟨ "Locals",39,2,false,"","",40⟩,⟨ "Word",4,3,false,"","",64⟩,⟨ "Body",127,4,false,"","",72⟩],5,96,[.str [],.nsl,.nsl,.bool false,.nsl]⟩
def DS:TI:=⟨.map 9 140,1,8,[.nilm]⟩
def Ag:TI:=⟨.struct #[⟨ "outside",134,0,false,"","seedcorn/core",0⟩,⟨ "inside",134,1,false,"","seedcorn/core",8⟩],2,16,[.nilm,.nilm]⟩
def Ah:TI:=⟨.struct #[⟨ "slot",3,0,false,"","seedcorn/core",0⟩,⟨ "size",3,1,false,"","seedcorn/core",8⟩],2,16,[.int .i64 0,.int .i64 0]⟩
def DT:TI:=⟨.slice 189,1,24,[.nsl]⟩
def wF:TI:=⟨.struct #[⟨ "Params",3,0,false,"","",0⟩,⟨ "Slots",3,1,false,"","",8⟩,⟨ "First",3,2,false,"","",16⟩,⟨ "Word",4,3,false,"","",24⟩,⟨ "Body",141,4,false,"","",32⟩],5,56,[.int .i64 0,.int .i64 0,.int .i64 0,.bool false,.nsl]⟩
def DU:TI:=⟨.slice 107,1,24,[.nsl]⟩
def Ai:TI:=⟨.struct #[⟨ "depths",145,0,false,"","seedcorn/emit",0⟩,⟨ "back",107,1,false,"","seedcorn/emit",24⟩,⟨ "base",107,2,false,"","seedcorn/emit",48⟩,⟨ "data",3,3,false,"","seedcorn/emit",72⟩],4,80,[.nsl,.nsl,.nsl,.int .i64 0]⟩
def Kh:TI:=⟨.pointer 153,1,8,[.nilp]⟩
def DV:TI:=⟨.slice 69,1,24,[.nsl]⟩
def DW:TI:=⟨.slice 197,1,24,[.nsl]⟩
def Aj:TI:=⟨.struct #[⟨ "s",91,0,false,"","seedcorn/emit",0⟩,⟨ "plan",147,2,false,"","seedcorn/emit",32⟩,⟨ "code",150,6,false,"","seedcorn/emit",112⟩,⟨ "entry",107,7,false,"","seedcorn/emit",136⟩,⟨ "places",145,8,false,"","seedcorn/emit",160⟩,⟨ "holes",151,9,false,"","seedcorn/emit",184⟩,⟨ "f",3,10,false,"","seedcorn/emit",208⟩,⟨ "depth",3,11,false,"","seedcorn/emit",216⟩],12,224,[.int .i64 0,.nsl,.nsl,.nsl,.nsl,.int .i64 0,.nsl,.nsl,.nsl,.nsl,.int .i64 0,.int .i64 0]⟩
def DX:TI:=⟨.slice 252,1,24,[.nsl]⟩
def wG:TI:=⟨.struct #[⟨ "Params",3,0,false,"","",0⟩,⟨ "Slots",3,1,false,"","",8⟩,⟨ "First",3,2,false,"","",16⟩,⟨ "Word",4,3,false,"","",24⟩,⟨ "Code",155,4,false,"","",32⟩],5,56,[.int .i64 0,.int .i64 0,.int .i64 0,.bool false,.nsl]⟩
def Ki:TI:=⟨.unsafePointer,1,8,[.nilp]⟩
def Kj:TI:=⟨.func #[3] #[4] false,1,8,[.nilf]⟩
def Ak:TI:=⟨.struct #[⟨ "name",9,0,false,"","seedcorn/inst",0⟩,⟨ "a",4,1,false,"","seedcorn/inst",16⟩,⟨ "b",4,2,false,"","seedcorn/inst",17⟩,⟨ "c",3,3,false,"","seedcorn/inst",24⟩],4,32,[.str [],.bool false,.bool false,.int .i64 0]⟩
def DY:TI:=⟨.func #[213] #[] false,1,8,[.nilf]⟩
def Kk:TI:=⟨.func #[5] #[4] false,1,8,[.nilf]⟩
def DZ:TI:=⟨.slice 224,1,24,[.nsl]⟩
def wH:TI:=⟨.struct #[⟨ "Kind",3,0,false,"","",0⟩,⟨ "Name",9,1,false,"","",8⟩,⟨ "E",180,2,false,"","",24⟩,⟨ "Then",127,3,false,"","",48⟩,⟨ "Else",127,4,false,"","",72⟩],5,96,[.int .i64 0,.str [],.nsl,.nsl,.nsl]⟩
def Ea:TI:=⟨.slice 245,1,24,[.nsl]⟩
def wI:TI:=⟨.struct #[⟨ "Kind",3,0,false,"","",0⟩,⟨ "Slot",3,1,false,"","",8⟩,⟨ "Size",3,2,false,"","",16⟩,⟨ "E",186,3,false,"","",24⟩,⟨ "Then",141,4,false,"","",48⟩,⟨ "Else",141,5,false,"","",72⟩],6,96,[.int .i64 0,.int .i64 0,.int .i64 0,.nsl,.nsl,.nsl]⟩
def Eb:TI:=⟨.map 3 256,1,8,[.nilm]⟩
def wJ:TI:=⟨.struct #[⟨ "at",3,0,false,"","seedcorn/emit",0⟩,⟨ "f",3,1,false,"","seedcorn/emit",8⟩,⟨ "place",3,2,false,"","seedcorn/emit",16⟩],3,24,[.int .i64 0,.int .i64 0,.int .i64 0]⟩
def Al:TI:=⟨.struct #[⟨ "word",4,0,false,"","seedcorn/lower",0⟩,⟨ "code",155,1,false,"","seedcorn/lower",8⟩],2,32,[.bool false,.nsl]⟩
def Ec:TI:=⟨.array 24 5,24,24,[.int .u8 0,.int .u8 0,.int .u8 0,.int .u8 0,.int .u8 0,.int .u8 0,.int .u8 0,.int .u8 0,.int .u8 0,.int .u8 0,.int .u8 0,.int .u8 0,.int .u8 0,.int .u8 0,.int .u8 0,.int .u8 0,.int .u8 0,.int .u8 0,.int .u8 0,.int .u8 0,.int .u8 0,.int .u8 0,.int .u8 0,.int .u8 0]⟩
def Ed:TI:=⟨.slice 4,1,24,[.nsl]⟩
def Ao:TI:=⟨.struct #[⟨ "s",98,0,false,"","seedcorn/seedcornref10",0⟩,⟨ "out",52,22,false,"","seedcorn/seedcornref10",136⟩,⟨ "code",150,23,false,"","seedcorn/seedcornref10",160⟩,⟨ "ok",206,24,false,"","seedcorn/seedcornref10",184⟩,⟨ "words",36,25,false,"","seedcorn/seedcornref10",208⟩,⟨ "in",9,26,false,"","seedcorn/seedcornref10",232⟩,⟨ "counts",107,27,false,"","seedcorn/seedcornref10",248⟩],28,272,[.int .i64 0,.int .u32 0,.int .u32 0,.int .u32 0,.int .u32 0,.int .u32 0,.int .u32 0,.int .u32 0,.int .u32 0,.int .u32 0,.int .u32 0,.int .u32 0,.int .u32 0,.int .u32 0,.int .u32 0,.int .u32 0,.int .u32 0,.nsl,.int .i64 0,.str [],.int .i64 0,.int .i64 0,.nsl,.nsl,.nsl,.nsl,.str [],.nsl]⟩
def Kl:TI:=⟨.func #[35] #[4] false,1,8,[.nilf]⟩
def Km:TI:=⟨.pointer 273,1,8,[.nilp]⟩
def Kn:TI:=⟨.array 24 9,24,384,[.str [],.str [],.str [],.str [],.str [],.str [],.str [],.str [],.str [],.str [],.str [],.str [],.str [],.str [],.str [],.str [],.str [],.str [],.str [],.str [],.str [],.str [],.str [],.str []]⟩
def wK:TI:=⟨.struct #[⟨ "Kind",3,0,false,"","",0⟩,⟨ "Op",3,1,false,"","",8⟩,⟨ "Num",35,2,false,"","",16⟩,⟨ "Name",9,3,false,"","",24⟩,⟨ "Kids",180,4,false,"","",40⟩],5,64,[.int .i64 0,.int .i64 0,.int .u32 0,.str [],.nsl]⟩
def Ee:TI:=⟨.map 9 236,1,8,[.nilm]⟩
def Ap:TI:=⟨.struct #[⟨ "outside",226,0,false,"","seedcorn/scope",0⟩,⟨ "inside",226,1,false,"","seedcorn/scope",8⟩],2,16,[.nilm,.nilm]⟩
def Aq:TI:=⟨.struct #[⟨ "kind",3,0,false,"","seedcorn/scope",0⟩,⟨ "name",9,1,false,"","seedcorn/scope",8⟩,⟨ "arguments",3,2,false,"","seedcorn/scope",24⟩],3,32,[.int .i64 0,.str [],.int .i64 0]⟩
def Ar:TI:=⟨.struct #[⟨ "kind",3,0,false,"","seedcorn/scope",0⟩,⟨ "number",3,1,false,"","seedcorn/scope",8⟩],2,16,[.int .i64 0,.int .i64 0]⟩
def Ef:TI:=⟨.func #[234] #[] false,1,8,[.nilf]⟩
def Ko:TI:=⟨.pointer 286,1,8,[.nilp]⟩
def wL:TI:=⟨.struct #[⟨ "Kind",3,0,false,"","",0⟩,⟨ "Op",3,1,false,"","",8⟩,⟨ "Num",35,2,false,"","",16⟩,⟨ "Slot",3,3,false,"","",24⟩,⟨ "Size",3,4,false,"","",32⟩,⟨ "Kids",186,5,false,"","",40⟩],6,64,[.int .i64 0,.int .i64 0,.int .u32 0,.int .i64 0,.int .i64 0,.nsl]⟩
def As:TI:=⟨.struct #[⟨ "items",107,0,false,"","seedcorn/stack",0⟩],1,24,[.nsl]⟩
def wM:TI:=⟨.struct #[⟨ "Op",3,0,false,"","",0⟩,⟨ "A",3,1,false,"","",8⟩,⟨ "B",3,2,false,"","",16⟩,⟨ "N",35,3,false,"","",24⟩],4,32,[.int .i64 0,.int .i64 0,.int .i64 0,.int .u32 0]⟩
def Eg:TI:=⟨.func #[149,252] #[] false,1,8,[.nilf]⟩
def Eh:TI:=⟨.pointer 199,1,8,[.nilp]⟩
def Kp:TI:=⟨.pointer 189,1,8,[.nilp]⟩
def Kq:TI:=⟨.array 20 111,20,160,[.int .u64 0,.int .u64 0,.int .u64 0,.int .u64 0,.int .u64 0,.int .u64 0,.int .u64 0,.int .u64 0,.int .u64 0,.int .u64 0,.int .u64 0,.int .u64 0,.int .u64 0,.int .u64 0,.int .u64 0,.int .u64 0,.int .u64 0,.int .u64 0,.int .u64 0,.int .u64 0]⟩
def Kr:TI:=⟨.pointer 210,1,8,[.nilp]⟩
def Ei:TI:=⟨.struct #[⟨ "code",36,0,false,"","seedcorn/machine",0⟩,⟨ "in",9,1,false,"","seedcorn/machine",24⟩,⟨ "s",98,2,false,"","seedcorn/machine",40⟩,⟨ "own",4,24,false,"","seedcorn/machine",176⟩,⟨ "more",52,25,false,"","seedcorn/machine",184⟩],26,208,[.nsl,.str [],.int .i64 0,.int .u32 0,.int .u32 0,.int .u32 0,.int .u32 0,.int .u32 0,.int .u32 0,.int .u32 0,.int .u32 0,.int .u32 0,.int .u32 0,.int .u32 0,.int .u32 0,.int .u32 0,.int .u32 0,.int .u32 0,.int .u32 0,.nsl,.int .i64 0,.str [],.int .i64 0,.int .i64 0,.bool false,.nsl]⟩
def Ks:TI:=⟨.array 10 9,10,160,[.str [],.str [],.str [],.str [],.str [],.str [],.str [],.str [],.str [],.str []]⟩
def Ej:TI:=⟨.func #[127] #[] false,1,8,[.nilf]⟩
def Ek:TI:=⟨.func #[180] #[] false,1,8,[.nilf]⟩
def El:TI:=⟨.map 9 129,1,8,[.nilm]⟩
def Em:TI:=⟨.func #[224] #[3] false,1,8,[.nilf]⟩
def En:TI:=⟨.array 10 283,10,80,[.nilf,.nilf,.nilf,.nilf,.nilf,.nilf,.nilf,.nilf,.nilf,.nilf]⟩
def Au:TI:=⟨.struct #[⟨ "funcs",282,0,false,"","seedcorn/typing",0⟩,⟨ "ask",284,1,false,"","seedcorn/typing",8⟩],11,88,[.nilm,.nilf,.nilf,.nilf,.nilf,.nilf,.nilf,.nilf,.nilf,.nilf,.nilf]⟩
def Kt:TI:=⟨.pointer 247,1,8,[.nilp]⟩
def Ku:TI:=⟨.pointer 245,1,8,[.nilp]⟩
def Kv:TI:=⟨.array 32 5,32,32,[.int .u8 0,.int .u8 0,.int .u8 0,.int .u8 0,.int .u8 0,.int .u8 0,.int .u8 0,.int .u8 0,.int .u8 0,.int .u8 0,.int .u8 0,.int .u8 0,.int .u8 0,.int .u8 0,.int .u8 0,.int .u8 0,.int .u8 0,.int .u8 0,.int .u8 0,.int .u8 0,.int .u8 0,.int .u8 0,.int .u8 0,.int .u8 0,.int .u8 0,.int .u8 0,.int .u8 0,.int .u8 0,.int .u8 0,.int .u8 0,.int .u8 0,.int .u8 0]⟩
def Tt:Nat→TI:=zO [(2,ti2),(3,ti2),(4,ti4),(5,ti5),(6,ti5),(7,ti7),(8,ti7),(9,ti9),(10,ti9),(11,ti9),(12,DM),(13,LE),(14,LE),(15,PX),(16,PY),(17,PZ),(18,LF),(19,LF),(20,Qa),(23,ti2),(28,HA),(29,HA),(34,Qb),(35,HB),(36,LG),(37,HC),(38,HC),(39,LH),(42,LI),(43,LJ),(44,HD),(45,HD),(50,Qc),(52,LK),(53,Qd),(54,DM),(57,Qe),(60,HE),(61,DN),(62,DN),(68,DO),(69,DO),(74,Qf),(75,Qg),(78,Qh),(80,Qi),(82,LL),(83,HF),(84,HF),(89,LM),(90,HG),(91,HG),(93,Qj),(96,LN),(97,HH),(98,HH),(101,DP),(103,wB),(104,wB),(107,Ad),(111,DM),(112,Kg),(113,DQ),(116,Ae),(117,Ae),(118,Af),(119,Af),(121,wC),(122,wC),(125,wD),(126,wD),(127,DR),(128,wE),(129,wE),(134,DS),(137,Ag),(138,Ag),(139,Ah),(140,Ah),(141,DT),(143,wF),(144,wF),(145,DU),(146,Ai),(147,Ai),(149,Kh),(150,DV),(151,DW),(152,Aj),(153,Aj),(155,DX),(157,wG),(158,wG),(162,Ki),(164,Kj),(165,Ak),(166,Ak),(170,DY),(171,DY),(175,Kk),(180,DZ),(181,wH),(182,wH),(186,Ea),(188,wI),(189,wI),(192,Eb),(196,wJ),(197,wJ),(198,Al),(199,Al),(201,Ec),(206,Ed),(209,Ao),(210,Ao),(213,Kl),(214,Km),(220,Kn),(223,wK),(224,wK),(226,Ee),(230,Ap),(231,Ap),(233,Aq),(234,Aq),(235,Ar),(236,Ar),(238,Ef),(239,Ko),(244,wL),(245,wL),(246,As),(247,As),(251,wM),(252,wM),(256,Eg),(258,Eh),(260,Kp),(264,Kq),(267,Kr),(272,Ei),(273,Ei),(276,Ks),(280,Ej),(281,Ek),(282,El),(283,Em),(284,En),(285,Au),(286,Au),(288,Kt),(290,Ku),(299,Kv),(314,ti5)]
theorem aB:aN Tryz.prog Tt:=Bu c8
theorem Qk:nR Tryz.prog 60 HE:=aB 60 rfl
theorem SY:nR Tryz.prog 62 DN:=aB 62 rfl
attribute [go_sem] ti2 ti4 ti5 ti7 ti9 DM LE PX PY PZ LF Qa HA Qb HB LG HC LH LI LJ HD Qc LK Qd Qe HE DN DO Qf Qg Qh Qi LL HF LM HG Qj LN HH DP wB Ad Kg DQ Ae Af wC wD DR wE DS Ag Ah DT wF DU Ai Kh DV DW Aj DX wG Ki Kj Ak DY Kk DZ wH Ea wI Eb wJ Al Ec Ed Ao Kl Km Kn wK Ee Ap Aq Ar Ef Ko wL As wM Eg Eh Kp Kq Kr Ei Ks Ej Ek El Em En Au Kt Ku Kv
theorem mixed:Tryz.prog.follows .mixedOrders=true:=c8
@[go_sem] theorem UJ:Tt 2=ti2:=j8 rfl rfl
@[go_sem] theorem UK:Tt 3=ti2:=j8 rfl rfl
@[go_sem] theorem UL:Tt 4=ti4:=j8 rfl rfl
@[go_sem] theorem UM:Tt 5=ti5:=j8 rfl rfl
@[go_sem] theorem UN:Tt 9=ti9:=j8 rfl rfl
@[go_sem] theorem SZ:cr Tt 9=false:=j8 rfl rfl
@[go_sem] theorem Uo:Tt 23=ti2:=j8 rfl rfl
@[go_sem] theorem Up:Tt 29=HA:=j8 rfl rfl
@[go_sem] theorem Sr:eW Tt 29=true:=j8 rfl rfl
@[go_sem] theorem Uq:Tt 35=HB:=j8 rfl rfl
@[go_sem] theorem Ur:Tt 36=LG:=j8 rfl rfl
@[go_sem] theorem Ss:aL Tt 36=HB:=j8 rfl rfl
@[go_sem] theorem Su:cr Tt 36=true:=j8 rfl rfl
@[go_sem] theorem Us:Tt 38=HC:=j8 rfl rfl
@[go_sem] theorem Sv:eW Tt 38=true:=j8 rfl rfl
@[go_sem] theorem Ut:Tt 39=LH:=j8 rfl rfl
@[go_sem] theorem Sw:aL Tt 39=ti9:=j8 rfl rfl
@[go_sem] theorem Sx:cr Tt 39=true:=j8 rfl rfl
@[go_sem] theorem Uu:Tt 42=LI:=j8 rfl rfl
@[go_sem] theorem Sy:aL Tt 42=wD:=j8 rfl rfl
@[go_sem] theorem SA:cr Tt 42=true:=j8 rfl rfl
@[go_sem] theorem Uv:Tt 43=LJ:=j8 rfl rfl
@[go_sem] theorem SB:aL Tt 43=wE:=j8 rfl rfl
@[go_sem] theorem SC:cr Tt 43=true:=j8 rfl rfl
@[go_sem] theorem Uw:Tt 45=HD:=j8 rfl rfl
@[go_sem] theorem SD:eW Tt 45=true:=j8 rfl rfl
@[go_sem] theorem Ux:Tt 52=LK:=j8 rfl rfl
@[go_sem] theorem SE:aL Tt 52=ti5:=j8 rfl rfl
@[go_sem] theorem SF:cr Tt 52=true:=j8 rfl rfl
@[go_sem] theorem Uy:Tt 60=HE:=j8 rfl rfl
@[go_sem] theorem Uz:Tt 62=DN:=j8 rfl rfl
@[go_sem] theorem UA:Tt 69=DO:=j8 rfl rfl
@[go_sem] theorem SG:eW Tt 69=true:=j8 rfl rfl
@[go_sem] theorem UB:Tt 82=LL:=j8 rfl rfl
@[go_sem] theorem SH:aL Tt 82=wF:=j8 rfl rfl
@[go_sem] theorem SI:cr Tt 82=true:=j8 rfl rfl
@[go_sem] theorem UC:Tt 84=HF:=j8 rfl rfl
@[go_sem] theorem SJ:eW Tt 84=true:=j8 rfl rfl
@[go_sem] theorem UD:Tt 89=LM:=j8 rfl rfl
@[go_sem] theorem SK:aL Tt 89=wG:=j8 rfl rfl
@[go_sem] theorem SL:cr Tt 89=true:=j8 rfl rfl
@[go_sem] theorem UE:Tt 91=HG:=j8 rfl rfl
@[go_sem] theorem SM:eW Tt 91=true:=j8 rfl rfl
@[go_sem] theorem UF:Tt 96=LN:=j8 rfl rfl
@[go_sem] theorem SN:cr Tt 96=false:=j8 rfl rfl
@[go_sem] theorem UG:Tt 98=HH:=j8 rfl rfl
@[go_sem] theorem SO:eW Tt 98=true:=j8 rfl rfl
@[go_sem] theorem Ta:Tt 101=DP:=j8 rfl rfl
@[go_sem] theorem Ql:aL Tt 101=wB:=j8 rfl rfl
@[go_sem] theorem Qm:cr Tt 101=true:=j8 rfl rfl
@[go_sem] theorem Tb:Tt 104=wB:=j8 rfl rfl
@[go_sem] theorem Qn:eW Tt 104=true:=j8 rfl rfl
@[go_sem] theorem Tc:Tt 107=Ad:=j8 rfl rfl
@[go_sem] theorem Qo:aL Tt 107=ti2:=j8 rfl rfl
@[go_sem] theorem Qp:cr Tt 107=true:=j8 rfl rfl
@[go_sem] theorem Td:Tt 111=DM:=j8 rfl rfl
@[go_sem] theorem Te:Tt 113=DQ:=j8 rfl rfl
@[go_sem] theorem Qq:aL Tt 113=wC:=j8 rfl rfl
@[go_sem] theorem Qr:cr Tt 113=true:=j8 rfl rfl
@[go_sem] theorem Tf:Tt 117=Ae:=j8 rfl rfl
@[go_sem] theorem Qs:eW Tt 117=true:=j8 rfl rfl
@[go_sem] theorem Tg:Tt 119=Af:=j8 rfl rfl
@[go_sem] theorem Qt:eW Tt 119=true:=j8 rfl rfl
@[go_sem] theorem Ti:Tt 122=wC:=j8 rfl rfl
@[go_sem] theorem Qu:eW Tt 122=true:=j8 rfl rfl
@[go_sem] theorem Tj:Tt 126=wD:=j8 rfl rfl
@[go_sem] theorem Qv:eW Tt 126=true:=j8 rfl rfl
@[go_sem] theorem Tk:Tt 127=DR:=j8 rfl rfl
@[go_sem] theorem Qw:aL Tt 127=wH:=j8 rfl rfl
@[go_sem] theorem Qx:cr Tt 127=true:=j8 rfl rfl
@[go_sem] theorem Tl:Tt 129=wE:=j8 rfl rfl
@[go_sem] theorem Tm:Tt 134=DS:=j8 rfl rfl
@[go_sem] theorem Tn:Tt 138=Ag:=j8 rfl rfl
@[go_sem] theorem Qy:eW Tt 138=true:=j8 rfl rfl
@[go_sem] theorem To:Tt 140=Ah:=j8 rfl rfl
@[go_sem] theorem Qz:eW Tt 140=true:=j8 rfl rfl
@[go_sem] theorem Tp:Tt 141=DT:=j8 rfl rfl
@[go_sem] theorem QA:aL Tt 141=wI:=j8 rfl rfl
@[go_sem] theorem QB:cr Tt 141=true:=j8 rfl rfl
@[go_sem] theorem Tq:Tt 144=wF:=j8 rfl rfl
@[go_sem] theorem QC:eW Tt 144=true:=j8 rfl rfl
@[go_sem] theorem Ts:Tt 145=DU:=j8 rfl rfl
@[go_sem] theorem QD:aL Tt 145=Ad:=j8 rfl rfl
@[go_sem] theorem QE:cr Tt 145=true:=j8 rfl rfl
@[go_sem] theorem Tu:Tt 147=Ai:=j8 rfl rfl
@[go_sem] theorem QF:eW Tt 147=true:=j8 rfl rfl
@[go_sem] theorem Tv:Tt 150=DV:=j8 rfl rfl
@[go_sem] theorem QG:aL Tt 150=DO:=j8 rfl rfl
@[go_sem] theorem QH:cr Tt 150=true:=j8 rfl rfl
@[go_sem] theorem Tw:Tt 151=DW:=j8 rfl rfl
@[go_sem] theorem QI:aL Tt 151=wJ:=j8 rfl rfl
@[go_sem] theorem QJ:cr Tt 151=true:=j8 rfl rfl
@[go_sem] theorem Tx:Tt 153=Aj:=j8 rfl rfl
@[go_sem] theorem QK:eW Tt 153=true:=j8 rfl rfl
@[go_sem] theorem Ty:Tt 155=DX:=j8 rfl rfl
@[go_sem] theorem QL:aL Tt 155=wM:=j8 rfl rfl
@[go_sem] theorem QM:cr Tt 155=true:=j8 rfl rfl
@[go_sem] theorem Tz:Tt 158=wG:=j8 rfl rfl
@[go_sem] theorem QN:eW Tt 158=true:=j8 rfl rfl
@[go_sem] theorem TA:Tt 166=Ak:=j8 rfl rfl
@[go_sem] theorem QO:eW Tt 166=true:=j8 rfl rfl
@[go_sem] theorem TB:Tt 180=DZ:=j8 rfl rfl
@[go_sem] theorem QP:aL Tt 180=wK:=j8 rfl rfl
@[go_sem] theorem QQ:cr Tt 180=true:=j8 rfl rfl
@[go_sem] theorem TC:Tt 182=wH:=j8 rfl rfl
@[go_sem] theorem QR:eW Tt 182=true:=j8 rfl rfl
@[go_sem] theorem TD:Tt 186=Ea:=j8 rfl rfl
@[go_sem] theorem QS:aL Tt 186=wL:=j8 rfl rfl
@[go_sem] theorem QT:cr Tt 186=true:=j8 rfl rfl
@[go_sem] theorem TE:Tt 189=wI:=j8 rfl rfl
@[go_sem] theorem QU:eW Tt 189=true:=j8 rfl rfl
@[go_sem] theorem TF:Tt 192=Eb:=j8 rfl rfl
@[go_sem] theorem TG:Tt 197=wJ:=j8 rfl rfl
@[go_sem] theorem QV:eW Tt 197=true:=j8 rfl rfl
@[go_sem] theorem TH:Tt 199=Al:=j8 rfl rfl
@[go_sem] theorem QW:eW Tt 199=true:=j8 rfl rfl
@[go_sem] theorem TJ:Tt 201=Ec:=j8 rfl rfl
@[go_sem] theorem QX:cr Tt 201=false:=j8 rfl rfl
@[go_sem] theorem TK:Tt 206=Ed:=j8 rfl rfl
@[go_sem] theorem QY:aL Tt 206=ti4:=j8 rfl rfl
@[go_sem] theorem QZ:cr Tt 206=true:=j8 rfl rfl
@[go_sem] theorem TL:Tt 210=Ao:=j8 rfl rfl
@[go_sem] theorem Ra:eW Tt 210=true:=j8 rfl rfl
@[go_sem] theorem TM:Tt 224=wK:=j8 rfl rfl
@[go_sem] theorem Rb:eW Tt 224=true:=j8 rfl rfl
@[go_sem] theorem TN:Tt 226=Ee:=j8 rfl rfl
@[go_sem] theorem TO:Tt 231=Ap:=j8 rfl rfl
@[go_sem] theorem Rc:eW Tt 231=true:=j8 rfl rfl
@[go_sem] theorem TP:Tt 234=Aq:=j8 rfl rfl
@[go_sem] theorem Rd:eW Tt 234=true:=j8 rfl rfl
@[go_sem] theorem TQ:Tt 236=Ar:=j8 rfl rfl
@[go_sem] theorem Re:eW Tt 236=true:=j8 rfl rfl
@[go_sem] theorem TR:Tt 238=Ef:=j8 rfl rfl
@[go_sem] theorem TS:Tt 245=wL:=j8 rfl rfl
@[go_sem] theorem Rf:eW Tt 245=true:=j8 rfl rfl
@[go_sem] theorem TT:Tt 247=As:=j8 rfl rfl
@[go_sem] theorem TU:Tt 252=wM:=j8 rfl rfl
@[go_sem] theorem Rg:eW Tt 252=true:=j8 rfl rfl
@[go_sem] theorem TV:Tt 256=Eg:=j8 rfl rfl
@[go_sem] theorem TW:Tt 258=Eh:=j8 rfl rfl
@[go_sem] theorem TX:Tt 280=Ej:=j8 rfl rfl
@[go_sem] theorem TY:Tt 281=Ek:=j8 rfl rfl
@[go_sem] theorem TZ:Tt 282=El:=j8 rfl rfl
@[go_sem] theorem Ua:Tt 283=Em:=j8 rfl rfl
@[go_sem] theorem Ub:Tt 284=En:=j8 rfl rfl
@[go_sem] theorem Rh:cr Tt 284=false:=j8 rfl rfl
@[go_sem] theorem Uc:Tt 286=Au:=j8 rfl rfl
@[go_sem] theorem Ri:eW Tt 286=true:=j8 rfl rfl
variable {f:FuncId}{fn:Func}{c:Code}{xs:List AV}{R:AV→Prop}{g:Nat→Nat}{ob:Obs}
theorem hdG {gb:Nat}{o:bE} (hf:Tryz.prog.funcs[f]? = some fn) (hb:fn.body=some c) (rs:List ResultVar) (h:∀b₀ β0 s0 w0 g,wpC (spF Tryz.prog none b₀ (CZ gb o b₀ β0 s0 w0) 0 nQ) Tt c (bx (rp Tt rs R)) ⟨ci xs,g,fun _=>none⟩) (hn:(fn.name == "runtime.NumGoroutine")=false:=by rfl) (hres:fn.results=rs.toArray:=by rfl) (hcm:eU c=true:=by kernel_rfl) (hok:codeOk fn.ntmps c=true:=by kernel_rfl) (hargs:Nat.ble xs.length fn.ntmps=true:=by kernel_rfl):bi Tryz.prog gb o f xs R:=uY 0 gb o aB mixed hf hb hn rs hres hcm hok (I8 hargs) h
theorem hdM (B:Nat) (S:List Nat) (hf:Tryz.prog.funcs[f]? = some fn) (hb:fn.body=some c) (rs:List ResultVar){R:AV→(Nat→Nat)→Obs→Prop}{X:Pan} (hS:∀i∈S,i<B) (hB:∀i,B≤i→ob i=none) (h:∀b₀ β0 s0 w0,wpC (spF Tryz.prog none b₀ (wi b₀ β0 s0 w0) B (Dc B S g ob X)) Tt c (bx (Lp Tt rs B S g ob R)) ⟨ci xs,g,ob⟩) (hn:(fn.name == "runtime.NumGoroutine")=false:=by rfl) (hres:fn.results=rs.toArray:=by rfl) (hcm:eU c=true:=by kernel_rfl) (hok:codeOk fn.ntmps c=true:=by kernel_rfl) (hargs:Nat.ble xs.length fn.ntmps=true:=by kernel_rfl):cB Tryz.prog f xs g ob R X:=yq B S aB mixed hf hb hn rs hres hcm hok (I8 hargs) hS hB h
theorem hdX (B:Nat) (hf:Tryz.prog.funcs[f]? = some fn) (hb:fn.body=some c) (rs:List ResultVar){R:AV→(Nat→Nat)→Obs→Prop}{X:Pan} (h:∀b₀ β0 s0 w0,wpC (spF Tryz.prog none b₀ (wi b₀ β0 s0 w0) B X.on) Tt c (bx (ro Tt rs R)) ⟨ci xs,g,ob⟩) (hn:(fn.name == "runtime.NumGoroutine")=false:=by rfl) (hres:fn.results=rs.toArray:=by rfl) (hcm:eU c=true:=by kernel_rfl) (hok:codeOk fn.ntmps c=true:=by kernel_rfl) (hargs:Nat.ble xs.length fn.ntmps=true:=by kernel_rfl):cB Tryz.prog f xs g ob R X:=yo B aB mixed hf hb hn rs hres hcm hok (I8 hargs) h
theorem hdR (hf:Tryz.prog.funcs[f]? = some fn) (hb:fn.body=some c) (rs:List ResultVar) (h:∀g,wpC (sp Tryz.prog) Tt c (bx (rp Tt rs R)) ⟨ci xs,g,fun _=>none⟩) (hn:(fn.name == "runtime.NumGoroutine")=false:=by rfl) (hres:fn.results=rs.toArray:=by rfl) (hok:codeOk fn.ntmps c=true:=by kernel_rfl) (hargs:Nat.ble xs.length fn.ntmps=true:=by kernel_rfl):aG Tryz.prog f xs R:=wc aB mixed hf hb hn rs hres hok (I8 hargs) h
theorem hdP (hf:Tryz.prog.funcs[f]? = some fn) (hb:fn.body=some c) (rs:List Nat) (h:∀g,wpC (sp Tryz.prog) Tt c (bx (yA rs R)) ⟨ci xs,g,fun _=>none⟩) (hn:(fn.name == "runtime.NumGoroutine")=false:=by rfl) (hres:fn.results=(rs.map ResultVar.tmp).toArray:=by rfl) (hok:codeOk fn.ntmps c=true:=by kernel_rfl) (hargs:Nat.ble xs.length fn.ntmps=true:=by kernel_rfl):aG Tryz.prog f xs R:=yB aB mixed hf hb hn rs hres hok (I8 hargs) h
theorem hdF (B:Nat) (hf:Tryz.prog.funcs[f]? = some fn) (hb:fn.body=some c) (rs:List Nat){R:AV→(Nat→Nat)→Obs→Prop} (h:wpC (spB Tryz.prog B) Tt c (bx (uN rs R)) ⟨ci xs,g,ob⟩) (hn:(fn.name == "runtime.NumGoroutine")=false:=by rfl) (hres:fn.results=(rs.map ResultVar.tmp).toArray:=by rfl) (hok:codeOk fn.ntmps c=true:=by kernel_rfl) (hargs:Nat.ble xs.length fn.ntmps=true:=by kernel_rfl):fg Tryz.prog f xs g ob R:=Bg B aB mixed hf hb hn rs hres hok (I8 hargs) h
end
end
end Go.Proofs.YtgiigidgdhplfaaGreatDoor
namespace Go.Asm
section
abbrev Str:=List UInt8
def small (c:UInt8):Bool:=decide (97≤c.toNat)&&decide (c.toNat≤122)
def letter (c:UInt8):Bool:=small c||(decide (65≤c.toNat)&&decide (c.toNat≤90))
def digit (c:UInt8):Bool:=decide (48≤c.toNat)&&decide (c.toNat≤57)
def iy (c:UInt8):Bool:=letter c||digit c||c==95
def Cx (n:Nat) (c:UInt8):Nat:=10*n+(c.toNat-48)
def fZ (s:Str):Nat:=s.foldl Cx 0
def names:List Str:=[[108,105],[108,117,105],[109,111,118],[97,100,100],[115,117,98],[109,117,108],[100,105,118],[109,111,100],[97,110,100],[111,114],[120,111,114],[115,104,108],[115,104,114],[108,116],[101,113],[108,100],[115,116],
 [106,109,112],[106,122],[106,110,122],[99,97,108,108],[114,101,116],[103,101,116],[112,117,116],[99,104,107],[104,97,108,116],[108,100,99]]
def shape (op:Nat):Bool×Bool×Nat:=
 if op=1∨op=2∨op=19∨op=20∨op=21∨op=25 then(true,false,1)
 else if op=3 then(true,true,0)
 else if 4≤op∧op≤15 then(true,true,2)
 else if op=16∨op=17∨op=27 then(true,true,1)
 else if op=18 then(false,false,1)
 else if op=22∨op=23∨op=24 then(true,false,0)
 else(false,false,0)
def word (op a b c:Nat):Nat:=op*16777216+a*1048576+b*65536+c
end
end Go.Asm
namespace Go.Proofs.YtgiigidgdhplfaaGreatDoor
section
open Go Go.Am Go.Asm
section
theorem getq {α:Type}{l:List α}{k:Nat} (h:k<l.length):∃x,l[k]? = some x:=⟨_,w9 h⟩
variable {c d:UInt8}
theorem PV (h:(c.toNat:Int)=(d.toNat:Int)):c=d:=P1.1 a6
theorem ni (h:c≠d):¬(c.toNat:Int)=(d.toNat:Int):=fun e=>h (PV e)
theorem yI {c:UInt8}:letter c=true↔(97≤c.toNat∧c.toNat≤122)∨(65≤c.toNat∧c.toNat≤90):=by simp[letter,small]
theorem tY {c:UInt8}:digit c=true↔48≤c.toNat∧c.toNat≤57:=by simp[digit]
end
end
section
attribute [local congr] Go.Am.ite_cc
open Go Go.Am Go.Asm
def preB (p s:Str):Bool:=decide (s.take p.length=p)
theorem wx (s p:Str):aG Tryz.prog 116 [sv s,sv p] (· = bv (preB p s)):=by
 refine hdP Tryz.func116 rfl [4] fun g=>?_
 simp only[go_sem]
 refine⟨fun h=>?_,fun h=>?_⟩
 ·exact⟨K9 _,a6,rfl⟩
 ·have:¬s.take p.length=p:=fun e=>by
   have:=congrArg List.length e
   simp only[A8] at this;omega
  simp[preB,this]
end
section
open Go Go.Am Go.Asm
end
end Go.Proofs.YtgiigidgdhplfaaGreatDoor
namespace Go.Proofs
section
open Go.Shelf Go.RowKit Go.Lib
section
variable {P:Program}{ρ:Ren}
end
section
variable {P:Program}{ρ:Ren}
end
end
section
open Go.Shelf
end
end Go.Proofs
namespace Go.Proofs.YtgiigidgdhplfaaGreatDoor
section
open Go Go.Am Go.Asm
end
section
attribute [local congr] Go.Am.ite_cc
open Go Go.Am Go.Asm
def nameOf (op:Nat):Str:=match op with|0=>[]|k+1=>names.getD k []
def rO (op:Nat):AV:=.agg [.d (.str (nameOf op)),.d (.bool (Asm.shape op).1),.d (.bool (Asm.shape op).2.1),.d (.int .i64 ((Asm.shape op).2.2:Nat))]
theorem wz {op:Nat} (h:op=0∨28≤op):rO op=.agg [.d (.str []),.d (.bool false),.d (.bool false),.d (.int .i64 0)]:=by
 rcases h with rfl|h
 ·rfl
 ·have h1:nameOf op=[]:=by
   exact Xf
  have h2:Asm.shape op=(false,false,0):=by
   unfold Asm.shape
   repeat rw[if_neg (by omega)]
  unfold rO;rw[h1,h2];rfl
theorem rP {s:St}{n:Str}{a b:Bool}{c:Int}:jc s (.agg [.d (.str n),.d (.bool a),.d (.bool b),.d (.int .i64 c)]) (.agg [.d (.str n),.d (.bool a),.d (.bool b),.d (.int .i64 c)]):=by
 refine⟨[.str n,.bool a,.bool b,.int .i64 c],rfl,fun i c hc=>?_,rfl⟩
 match i,hc with
 |0,hc=>cases hc;exact⟨_,rfl,.d _⟩
 |1,hc=>cases hc;exact⟨_,rfl,.d _⟩
 |2,hc=>cases hc;exact⟨_,rfl,.d _⟩
 |3,hc=>cases hc;exact⟨_,rfl,.d _⟩
theorem tZ (op:Int):aG Tryz.prog 77 [iv .i64 op] (· = rO op.toNat):=by
 refine hdR Tryz.func77 rfl [.cell 2 166] fun g=>?_
 simp only[go_sem]
 repeat' (first|refine And.intro (fun h=>?_) (fun h=>?_)|fail)
 all_goals first
  | (subst h
     exact⟨_,rP,rfl⟩)
  | (have e:op.toNat=0∨28≤op.toNat:=a6
     refine⟨_,rP,?_⟩
     rw[wz e])
def iP (op:Nat):Bool:=decide (1≤op)&&decide (op≤27)
theorem BG (op:Nat):(decide (¬nameOf op=[]))=iP op:=by
 unfold iP
 by_cases h:op≤27
 ·have:∀k,k≤27→decide (¬nameOf k=[])=(decide (1≤k)&&decide (k≤27)):=a8
  exact this op h
 ·have h1:nameOf op=[]:=by
   exact Xf
  simp[h1,h]
theorem Hy (op:Int):aG Tryz.prog 76 [iv .i64 op] (· = bv (iP op.toNat)):=by
 refine hdP Tryz.func76 rfl [2] fun g=>?_
 simp only[go_sem]
 refine fm rfl (by simp only[go_sem];exact tZ op) ?_
 rintro _ rfl
 unfold rO
 simp only[go_sem]
 rw[←BG]
def inW (v most:Int) (b:Bool):Bool:=if b=true then decide (0≤v) && decide (v≤most) else decide (v=0)
theorem rQ (v most:Int) (b:Bool):aG Tryz.prog 78 [iv .i64 v,iv .i64 most,bv b] (· = bv (inW v most b)):=by
 refine hdP Tryz.func78 rfl [6] fun g=>?_
 exact Xo
def ou (op:Nat):Int:=if (Asm.shape op).2.2=2 then 15 else 65535
def cj (op a b c:Int):Bool:=iP op.toNat&&(inW a 15 (Asm.shape op.toNat).1&&(inW b 15 (Asm.shape op.toNat).2.1&&inW c (ou op.toNat) (decide ((Asm.shape op.toNat).2.2≠0))))
def ju (op a b c:Int):AV:=.agg [.d (.int .i64 op),.d (.int .i64 a),.d (.int .i64 b),.d (.int .i64 c)]
theorem Ac (op a b c:Int):aG Tryz.prog 51 [ju op a b c] (· = bv (cj op a b c)):=by
 refine hdP Tryz.func51 rfl [2] fun g=>?_
 unfold ju
 simp only[go_sem]
 refine fm rfl (by simp only[go_sem];exact Hy op) ?_
 rintro _ rfl
 cases hk:iP op.toNat
 ·simp only[go_sem]
  simp[cj,hk]
 simp only[go_sem]
 refine fm rfl (by simp only[go_sem];exact tZ op) ?_
 rintro _ rfl
 have hrr:cj op a b c=(inW a 15 (Asm.shape op.toNat).1&&(inW b 15 (Asm.shape op.toNat).2.1&&inW c (ou op.toNat) (decide ((Asm.shape op.toNat).2.2≠0)))):=by unfold cj;rw[hk,w7]
 rw[hrr]
 unfold rO ou
 generalize (Asm.shape op.toNat).1=p
 generalize (Asm.shape op.toNat).2.1=q
 generalize (Asm.shape op.toNat).2.2=r
 have hr0:decide (¬((r:Nat):Int)=0)=decide (r≠0):=by
  have:(((r:Nat):Int)=0)=(r=0):=by apply propext;omega
  simp only[this,ne_eq]
 by_cases hr:r=2
 case' pos=>
  have hri:((r:Nat):Int)=2:=a6
  rw[if_pos hr]
  simp only[go_sem,hri]
 case' neg=>
  have hri:¬((r:Nat):Int)=2:=a6
  rw[if_neg hr]
  simp only[go_sem,hri]
 all_goals
  refine fm rfl (by simp only[go_sem];exact rQ a 15 p) ?_
  rintro _ rfl
  cases h1:inW a 15 p
  ·simp only[go_sem]
   try simp
  simp only[go_sem]
  refine fm rfl (by simp only[go_sem];exact rQ b 15 q) ?_
  rintro _ rfl
  cases h2:inW b 15 q
  ·simp only[go_sem]
   try simp
  simp only[go_sem,hr0]
  refine fm rfl (by simp only[go_sem,hr0];exact rQ c _ _) ?_
  rintro _ rfl
  simp only[go_sem]
  first|done|(subst hr;simp;done)|simp
theorem LD (x y:Nat) (hx:x<4294967296) (hy:y<4294967296):(BitVec.ofInt 32 (x:Int) |||BitVec.ofInt 32 (y:Int)).toNat=x |||y:=by
 rw[BitVec.toNat_or]
 have h:∀n:Nat,n<4294967296→(BitVec.ofInt 32 (n:Int)).toNat=n:=fun n hn=>by
  rw[J1]
  omega
 rw[h x hx,h y hy]
theorem wrapN (n:Nat) (h:n<4294967296):IntKind.u32.wrap (n:Int)=n:=by rw[IntKind.wrap_u32];omega
theorem DL (a b k:Nat) (h:b<2^k):(a*2^k) |||b=a*2^k+b:=by
 rw[U3,Nat.two_pow_add_eq_or_of_lt h]
theorem Hz (o a b c:Nat) (h1:o≤27) (h2:a≤15) (h3:b≤15) (h4:c≤65535):IntKind.u32.wrap
   ((BitVec.ofInt 32
        (IntKind.u32.wrap
          ((BitVec.ofInt 32
               (IntKind.u32.wrap
                 ((BitVec.ofInt 32 (IntKind.u32.wrap ((o:Int)*2^min 24 32)) |||
                     BitVec.ofInt 32 (IntKind.u32.wrap ((a:Int)*2^min 20 32))).toNat:Int)) |||
              BitVec.ofInt 32 (IntKind.u32.wrap ((b:Int)*2^min 16 32))).toNat:Int)) |||
       BitVec.ofInt 32 (c:Int)).toNat:Int)=(word o a b c:Nat):=by
 have e1:((o:Int)*2^min 24 32)=((o*2^24:Nat):Int):=by rw[R3];rfl
 have e2:((a:Int)*2^min 20 32)=((a*2^20:Nat):Int):=by rw[R3];rfl
 have e3:((b:Int)*2^min 16 32)=((b*2^16:Nat):Int):=by rw[R3];rfl
 rw[e1,e2,e3,wrapN (o*2^24) a6,wrapN (a*2^20) a6,wrapN (b*2^16) a6,LD (o*2^24) (a*2^20) a6 a6,DL o (a*2^20) 24 a6,
  wrapN (o*2^24+a*2^20) a6,LD (o*2^24+a*2^20) (b*2^16) a6 a6,
  show o*2^24+a*2^20=(o*16+a)*2^20 by omega,DL (o*16+a) (b*2^16) 20 a6,wrapN ((o*16+a)*2^20+b*2^16) a6,LD ((o*16+a)*2^20+b*2^16) c a6 a6,
  show (o*16+a)*2^20+b*2^16=((o*16+a)*16+b)*2^16 by omega,DL ((o*16+a)*16+b) c 16 a6,wrapN (((o*16+a)*16+b)*2^16+c) a6]
 have e:((o*16+a)*16+b)*2^16+c=word o a b c:=by unfold word;omega
 rw[e]
theorem tl {op a b c:Int} (h:cj op a b c=true):1≤op∧op≤27∧0≤a∧a≤15∧0≤b∧b≤15∧0≤c∧c≤65535:=by
 unfold cj at h
 simp only[s9] at h
 obtain⟨h1,h2,h3,h4⟩:=h
 have hin:∀{v m:Int}{p:Bool},0≤m→inW v m p=true→0≤v∧v≤m:=by
  intro v m p hm hv
  unfold inW at hv
  split at hv
  ·simpa using hv
  ·have:v=0:=by simpa using hv
   omega
 have h2:=hin a8 h2
 have h3:=hin a8 h3
 have hm:0≤ou op.toNat∧ou op.toNat≤65535:=by unfold ou;split <;> decide
 have h4:=hin hm.1 h4
 simp only[iP,s9,C4] at h1
 omega
theorem wA (op a b c:Int):aG Tryz.prog 48 [ju op a b c] (· = if cj op a b c=true then .tup [iv .u32 (word op.toNat a.toNat b.toNat c.toNat:Nat),iv .i64 0] else .tup [iv .u32 0,iv .i64 1]):=by
 refine hdP Tryz.func48 rfl [2,3] fun g=>?_
 unfold ju
 simp only[go_sem]
 refine fm rfl (by simp only[go_sem];exact Ac op a b c) ?_
 rintro _ rfl
 cases hk:cj op a b c
 ·simp only[go_sem]
  try rfl
 obtain⟨b1,b2,b3,b4,b5,b6,b7,b8⟩:=tl hk
 have w1:IntKind.u32.wrap op=op:=by rw[IntKind.wrap_u32] <;> omega
 have w2:IntKind.u32.wrap a=a:=by rw[IntKind.wrap_u32] <;> omega
 have w3:IntKind.u32.wrap b=b:=by rw[IntKind.wrap_u32] <;> omega
 have w4:IntKind.u32.wrap c=c:=by rw[IntKind.wrap_u32] <;> omega
 simp only[go_sem,w1,w2,w3,w4]
 obtain⟨o,rfl⟩:∃n:Nat,op=n:=⟨op.toNat,a6⟩
 obtain⟨a,rfl⟩:∃n:Nat,a=n:=⟨a.toNat,a6⟩
 obtain⟨b,rfl⟩:∃n:Nat,b=n:=⟨b.toNat,a6⟩
 obtain⟨c,rfl⟩:∃n:Nat,c=n:=⟨c.toNat,a6⟩
 simp only[A6]
 exact Hz o a b c a6 a6 a6 a6
end
section
open Go Go.Am Go.Asm
theorem BH (s:Str) (c:UInt8):fZ (s++[c])=10*fZ s+(c.toNat-48):=by simp[fZ,Cx]
theorem BI {s:Str}{k:Nat}{c:UInt8} (h:s[k]? = some c):fZ (s.take (k+1))=10*fZ (s.take k)+(c.toNat-48):=by
 rw[A2,h];exact BH _ _
end
section
open Go Go.RowKit Go.Shelf
end
end Go.Proofs.YtgiigidgdhplfaaGreatDoor
namespace Go.Am
section
theorem gv {P:Program}{gb:Nat}{o:bE}{f:FuncId}{args:List AV} (hf:ws P f) (hs:(args.all fun x=>match x with|.one c=>gk c|_=>false)=true) {r:AV} (hr:ct r=true)
  (h:∀w:World,ny gb o w→Calls P f (args.map ly).toArray w fun e w'=>e=.returned (ly r)∧w.heap.size≤w'.heap.size∧(∀b,b<w.heap.size→w'.heap[b]? = w.heap[b]?)∧(w'.os=w.os∧w'.output=w.output)):bi P gb o f args (· = r):=by
 refine⟨hf,fun J w vs hG hJ hv=>?_⟩
 have hvs:vs=args.map ly:=by
  clear h hf
  induction args generalizing vs with
  |nil=>simp only[RVs] at hv;exact hv
  |cons x xs ih=>
    simp only[RVs] at hv
    obtain⟨u,us,rfl,h1,h2⟩:=hv
    simp only[E4,s9] at hs
    rw[l7,←ih hs.2 us h2]
    congr 1
    cases x with
    |one c=>
      simp only[RV,RVc] at h1
      obtain⟨x,rfl,h1⟩:=h1
      simp only[ly,scC]
      exact bB.scalar hs.1 h1
    |_=>simp at hs
 rw[hvs]
 refine(h w hG).mono fun e w' ⟨he,h1,h2,h3⟩=>⟨_,r,he,rfl,h1,h2,h3,?_⟩
 exact tF hr
end
end Go.Am
namespace Go.Proofs.YtgiigidgdhplfaaGreatDoor
section
open Go Go.Am Go.Asm
theorem pq:∀l:List UInt8,u8s (l.map fun b=>.d (.int .u8 (b.toNat:Nat)))=some (l.map fun b=>((b.toNat:Nat):Int))
 |[]=>rfl
 |b::l=>by
   have ih:=pq l
   simp only[l7,u8s] at ih ⊢
   rw[ih];rfl
theorem eN {s:St} (x:D):jc s (.one (.d x)) (.one (.d (eQ x))):=⟨_,.d x,rfl⟩
end
end Go.Proofs.YtgiigidgdhplfaaGreatDoor
namespace Go.Src
section
open Go.Asm (Str digit letter iy fZ)
structure Tok where
 kind:Nat
 text:Str
 num:Nat
 place:Nat
 deriving DecidableEq
def FL:List Str:=[[118,97,114],[97,114,114,97,121],[102,117,110,99],[119,111,114,100],[105,102],[101,108,115,101],[119,104,105,108,101],[114,101,116,117,114,110],[112,117,116],[103,101,116]]
def Nk:List Str:=[[60,60],[62,62],[61,61],[38,38],[124,124],[40],[41],[123],[125],[91],[93],[59],[44],[61],[43],[45],[42],[47],[37],[38],[124],[94],[60],[33]]
inductive R (α:Type) where
 |ok (a:α)
 |err (e:Nat)
def firstT (s:Str):R (Nat×Str×Nat):=
 match s with
 |[]=>.err 3
 |c::_=>
   if digit c=true then(if 4294967295<fZ (s.takeWhile digit) then .err 2 else .ok (2,s.takeWhile digit,fZ (s.takeWhile digit)))
   else if c=39 then
    (match s with
     |_::x::y::_=>if y=39∧32≤x.toNat∧x.toNat≤126∧x≠39∧x≠92 then .ok (2,[c,x,y],x.toNat) else .err 3
     | _=>.err 3)
   else if letter c=true then
    (if 20<(s.takeWhile iy).length then .err 2 else if (s.takeWhile iy)∈FL then .ok (3,s.takeWhile iy,0) else .ok (1,s.takeWhile iy,0))
   else match Nk.find? (fun t=>t.isPrefixOf s) with
    |some t=>.ok (4,t,0)
    |none=>.err 3
def qn:Nat→Nat→Str→R (List Tok)×Nat
 |0,_,_=>(.ok [],0)
 |_+1,_,[]=>(.ok [],0)
 |n+1,k,c::r=>
   if c=32∨c=9∨c=10 then qn n (k+1) r
   else if c=47∧r.head? = some 47 then qn n (k+((c::r).takeWhile (· != 10)).length) ((c::r).dropWhile (· != 10))
   else match firstT (c::r) with
    |.err e=>(.err e,k)
    |.ok (kd,t,v)=>match qn n (k+t.length) ((c::r).drop t.length) with
      |(.ok l,p)=>(.ok (⟨kd,t,v,k⟩::l),p)
      |(.err e,p)=>(.err e,p)
def pG (s:Str):List Tok×Nat×Nat:=
 if 20000<s.length then([],0,2)
 else match qn (s.length+1) 0 s with
  |(.ok l,_)=>(l,0,0)
  |(.err e,p)=>([],p,e)
inductive Ex where
 |mk (kind op num:Int) (name:Str) (kids:List Ex)
inductive Stm where
 |mk (kind:Int) (name:Str) (e:List Ex) (th el:List Stm)
structure Fn where
 name:Str
 params:List Str
 locals:List Str
 word:Bool
 body:List Stm
structure Prog where
 vars:List Str
 arrays:List (Str×Int)
 funcs:List Fn
def uB (s:Str):Int×Int×Nat:=
 if s=[124,124] then(9,0,1) else if s=[38,38] then(8,0,2) else if s=[61,61] then(6,15,3) else if s=[60] then(6,14,4)
 else if s=[124] then(6,10,5) else if s=[94] then(6,11,5) else if s=[38] then(6,9,6) else if s=[60,60] then(6,12,7) else if s=[62,62] then(6,13,7)
 else if s=[43] then(6,4,8) else if s=[45] then(6,5,8) else if s=[42] then(6,6,9) else if s=[47] then(6,7,9) else if s=[37] then(6,8,9) else(0,0,0)
def jQ:Str:=[40]
def ir:Str:=[41]
def vO:Str:=[44]
def jR:Str:=[59]
end
end Go.Src
namespace Go.Proofs.YtgiigidgdhplfaaGreatDoor
section
attribute [local congr] Go.Am.ite_cc
open Go Go.Am Go.Asm
theorem kB (c:UInt8):aG Tryz.prog 117 [iv .u8 c.toNat] (· = bv (digit c)):=by
 refine hdP Tryz.func117 rfl [2] fun g=>?_
 simp only[go_sem]
 have e:=@tY c
 cases hs:digit c <;> rw[hs] at e <;> simp at e <;> ((repeat' (first|refine⟨?_,?_⟩|intro _)) <;> (first|rfl|(exfalso;omega)|(simp;omega)))
theorem mW (c:UInt8):aG Tryz.prog 120 [iv .u8 c.toNat] (· = bv (letter c)):=by
 refine hdP Tryz.func120 rfl [2] fun g=>?_
 simp only[go_sem]
 have e:=@yI c
 cases hs:letter c <;> rw[hs] at e <;> simp at e <;> ((repeat' (first|refine⟨?_,?_⟩|intro _)) <;> (first|rfl|(exfalso;omega)|(simp;omega)))
theorem IQ (c:UInt8):aG Tryz.prog 86 [iv .u8 c.toNat] (· = bv (c != 10)):=by
 refine hdP Tryz.func86 rfl [2] fun g=>?_
 by_cases h:c=10
 ·subst h
  have hi:(((10:UInt8).toNat:Nat):Int)=10:=rfl
  simp only[go_sem,hi]
  rfl
 ·have hi:¬((c.toNat:Nat):Int)=10:=ni (d:=10) h
  have hb:(c != 10)=true:=by simpa using h
  simp only[go_sem,hi,hb]
theorem um (c:UInt8):aG Tryz.prog 122 [iv .u8 c.toNat] (· = bv (iy c)):=by
 refine hdP Tryz.func122 rfl [2] fun g=>?_
 simp only[go_sem]
 refine fm rfl (by simp only[go_sem];exact mW c) ?_
 rintro _ rfl
 unfold iy
 cases hl:letter c
 ·simp only[go_sem]
  refine fm rfl (by simp only[go_sem];exact kB c) ?_
  rintro _ rfl
  cases hd:digit c
  ·by_cases h:c=95
   ·subst h
    have hi:(((95:UInt8).toNat:Nat):Int)=95:=rfl
    simp only[go_sem,hi]
    rfl
   ·have hi:¬((c.toNat:Nat):Int)=95:=ni (d:=95) h
    have hb:(c==95)=false:=by simpa using h
    simp only[go_sem,hi,hb,Bool.or_false]
  ·simp only[go_sem,Bool.or_true,Bool.true_or]
 ·simp only[go_sem,Bool.true_or]
theorem lm {p:UInt8→Bool}:∀{s:Str}{k:Nat},(s.take k).all p=true→(s[k]?).all (fun c=>!p c)=true→s.takeWhile p=s.take k
 |[],k,_,_=>by simp
 |a::s,0,_,h=>by
   simp only[s7,Option.all_some,H3] at h
   simp[h]
 |a::s,k+1,h1,h2=>by
   simp only[F8,E4,s9] at h1
   rw[l9] at h2
   rw[J9,if_pos h1.1,F8,lm h1.2 h2]
theorem qQ {f:FuncId}{p:UInt8→Bool} (hp:∀c,aG Tryz.prog f [iv .u8 c.toNat] (· = bv (p c))) (s:Str) (hs:s.length≤1000000000):aG Tryz.prog 85 [sv s,.one (.d (.fn f))] (· = sv (s.takeWhile p)):=by
 refine hdP Tryz.func85 rfl [4] fun g=>?_
 simp only[go_sem]
 refine du (fun n st=>∃k:Nat,n+k=s.length∧st.f 0=sv s∧st.f 1=.one (.d (.fn f))∧st.f 5=iv .i64 k∧(s.take k).all p=true) s.length ?_ ?_
 ·refine⟨0,a6,?_⟩
  simp only[go_sem]
  rfl
 rintro n fs g ob ⟨k,hk,q0,q1,q5,hall⟩
 simp only at q0 q1 q5
 have hw:=ah (k:=k) a6
 have hk0:(0:Int)≤(k:Int):=a6
 by_cases hlt:k<s.length
 ·obtain⟨c,hc⟩:=getq hlt
  have hlti:(k:Int)<(s.length:Int):=a6
  simp only[go_sem,q0,q1,q5,hlti,hc,hk0]
  refine dL (f:=f) rfl (by simp only[go_sem,q1]) (by simp only[go_sem];exact hp c) XX ?_
  rintro _ rfl
  cases hpc:p c
  ·have ht:=lm (p:=p) hall (by rw[hc];simp[hpc])
   simp only[go_sem,q0,q5]
   refine⟨a6,a6,?_⟩
   rw[ht]
   try rfl
  ·simp only[go_sem,q5,hw]
   refine bP (n-1) a6 ⟨k+1,a6,?_⟩
   simp only[go_sem,q0,q1]
   rw[A2,hc]
   simp[hall,hpc]
 ·obtain rfl:k=s.length:=a6
  have hlti:¬(s.length:Int)<(s.length:Int):=a6
  have ht:=lm (p:=p) hall (by rw[B9 (l0 _)];rfl)
  rw[ht,G9]
  simp only[go_sem,q0,q1,q5,hlti]
  exact⟨a6,a6⟩
theorem xm {s t:Str}:t.isPrefixOf s=decide (t.length≤s.length∧s.take t.length=t):=by
 rw[Bool.eq_iff_iff,N7,C4]
 constructor
 ·rintro⟨r,rfl⟩;exact⟨a7,a7⟩
 ·rintro⟨h1,h2⟩;exact⟨s.drop t.length,(congrArg (· ++ s.drop t.length) h2.symm).trans (H0 _ _)⟩
theorem Ff (s p:Str):preB p s=p.isPrefixOf s:=by
 rw[xm]
 unfold preB
 rw[decide_eq_decide]
 constructor
 ·intro h
  have:=congrArg List.length h
  rw[A8] at this
  exact⟨a6,h⟩
 ·exact fun h=>h.2
theorem qj (s t:Str):aG Tryz.prog 84 [sv s,sv t] (· = bv (t.isPrefixOf s)):=by
 refine hdP Tryz.func84 rfl [4] fun g=>?_
 simp only[go_sem]
 refine fm rfl (by simp only[go_sem];exact wx s t) ?_
 rintro _ rfl
 simp only[go_sem,Ff]
theorem IR {s:St}{c:C}{x:D} (h:Frz s c x):jc s (.one c) (.one (.d x)):=⟨_,h,rfl⟩
def jJ (t:Src.Tok):List D:=[.int .i64 (t.kind:Nat),.str t.text,.int .u32 (t.num:Nat),.int .i64 (t.place:Nat)]
def lp (t:Src.Tok):AV:=.agg ((jJ t).map .d)
def oh:Src.R (Nat×Str×Nat)→AV
 |.ok (k,t,v)=>.tup [lp ⟨k,t,v,0⟩,iv .i64 0]
 |.err e=>.tup [lp ⟨0,[],0,0⟩,iv .i64 (e:Nat)]
theorem cT {s:St}{k v e:Nat}{t:Str}:nc s [.agg [.d (.int .i64 (k:Nat)),.d (.str t),.d (.int .u32 (v:Nat)),.d (.int .i64 0)],iv .i64 (e:Nat)] (.tup [lp ⟨k,t,v,0⟩,iv .i64 (e:Nat)]):=by
 refine⟨_,⟨_,_,rfl,⟨[.int .i64 (k:Nat),.str t,.int .u32 (v:Nat),.int .i64 0],rfl,fun i c hc'=>?_,rfl⟩,_,_,rfl,eN _,rfl⟩,rfl⟩
 match i,hc' with
 |0,hc'=>cases hc';exact⟨_,rfl,.d _⟩
 |1,hc'=>cases hc';exact⟨_,rfl,.d _⟩
 |2,hc'=>cases hc';exact⟨_,rfl,.d _⟩
 |3,hc'=>cases hc';exact⟨_,rfl,.d _⟩
theorem IS (c:UInt8) (n:Nat):n≤Cx n c:=by unfold Cx;omega
theorem Cd (s:Str) (k:Nat):fZ (s.take k)≤fZ s:=by
 have h:∀(l:Str) (n:Nat),n≤l.foldl Cx n:=fun l=>by
  induction l with
  |nil=>intro n;exact l0 _
  |cons c l ih=>intro n;exact A9 (IS c n) (ih _)
 conv=>rhs;rw[←H0 k s]
 unfold fZ
 rw[List.foldl_append]
 exact h _ _
theorem zc (s:Str) (hs:s.length≤1000000000) (hd:s.all digit=true):aG Tryz.prog 118 [sv s] (· = oh (if 4294967295<fZ s then .err 2 else .ok (2,s,fZ s))):=by
 refine hdR Tryz.func118 rfl [.cell 2 122,.tmp 3] fun g=>?_
 simp only[go_sem]
 refine du (fun n st=>∃k:Nat,n+k=s.length∧st.f 0=sv s∧st.f 2=.one (.ptr 2 (nxC 123 (g 2)) 0)∧st.gen 2=nxC 123 (g 2)∧st.obj 2=some [.d (.int .i64 0),.d (.str []),.d (.int .u32 0),.d (.int .i64 0)]∧st.f 4=iv .u64 (fZ (s.take k):Nat)∧st.f 5=iv .i64 k∧fZ (s.take k)≤4294967295) s.length ?_ ?_
 ·refine⟨0,a6,?_⟩
  simp only[go_sem]
  exact⟨rfl,a8⟩
 rintro n f g' ob ⟨k,hk,q0,q2,g2,o2,q4,q5,hle⟩
 simp only at q0 q2 g2 o2 q4 q5
 have hw:=ah (k:=k) a6
 have hk0:(0:Int)≤(k:Int):=a6
 by_cases hlt:k<s.length
 ·obtain⟨c,hc⟩:=getq hlt
  have hlti:(k:Int)<(s.length:Int):=a6
  have hnx:=BI hc
  have hmono:=Cd s (k+1)
  have hdc:=tY.1 (x7.1 hd c (l6 hc))
  have w1:IntKind.u64.wrap ((fZ (s.take k):Int)*10)=((fZ (s.take k)*10:Nat):Int):=by rw[IntKind.wrap_u64];omega
  have w2:IntKind.u8.wrap ((c.toNat:Int)-48)=((c.toNat-48:Nat):Int):=by rw[IntKind.wrap_u8];omega
  have w3:IntKind.u64.wrap ((c.toNat-48:Nat):Int)=((c.toNat-48:Nat):Int):=by rw[IntKind.wrap_u64];omega
  have w4:IntKind.u64.wrap (((fZ (s.take k)*10:Nat):Int)+((c.toNat-48:Nat):Int))=(fZ (s.take (k+1)):Int):=by rw[IntKind.wrap_u64,hnx];omega
  by_cases hbig:4294967295<fZ (s.take (k+1))
  ·have hbi:(4294967295:Int)<(fZ (s.take (k+1)):Int):=a6
   rw[if_pos a6]
   simp only[go_sem,q0,q2,g2,o2,q4,q5,hlti,hk0,hc,w1,w2,w3,w4,hbi]
   exact⟨_,cT (k:=0) (v:=0) (e:=2),rfl⟩
  ·have hbi:¬(4294967295:Int)<(fZ (s.take (k+1)):Int):=a6
   simp only[go_sem,q0,q2,g2,o2,q4,q5,hlti,hk0,hc,w1,w2,w3,w4,hbi,hw]
   refine bP (n-1) a6 ⟨k+1,a6,?_⟩
   simp only[go_sem,q0,q2,g2,o2]
   omega
 ·obtain rfl:k=s.length:=a6
  have hlti:¬(s.length:Int)<(s.length:Int):=a6
  rw[l5 (l0 _)] at q4 hle
  have w5:IntKind.u32.wrap (fZ s:Int)=(fZ s:Int):=by rw[IntKind.wrap_u32];omega
  rw[if_neg a6]
  simp only[go_sem,q0,q2,g2,o2,q4,q5,hlti,w5]
  exact⟨_,cT (k:=2) (e:=0),rfl⟩
def ql:Str→Src.R (Nat×Str×Nat)
 |c::x::y::_=>if y=39∧32≤x.toNat∧x.toNat≤126∧x≠39∧x≠92 then .ok (2,[c,x,y],x.toNat) else .err 3
 |_=>.err 3
theorem Fs (s:Str):aG Tryz.prog 119 [sv s] (· = oh (ql s)):=by
 refine hdR Tryz.func119 rfl [.cell 2 122,.tmp 3] fun g=>?_
 by_cases hlen:s.length<3
 ·have hi:(s.length:Int)<3:=a6
  have hb:ql s=.err 3:=by
   match s,hlen with
   |[],_=>rfl
   |[_],_=>rfl
   |[_,_],_=>rfl
   |_::_::_::_,h=>simp at h;omega
  rw[hb]
  simp only[go_sem,hi]
  exact Wq
 obtain⟨c,x,y,r,rfl⟩:∃c x y r,s=c::x::y::r:=by
  match s,hlen with
  |c::x::y::r,_=>exact⟨c,x,y,r,rfl⟩
  |[],h=>simp at h
  |[_],h=>simp at h
  |[_,_],h=>simp at h
 have hi:¬((c::x::y::r).length:Int)<3:=a6
 have h2:(c::x::y::r)[2]? = some y:=rfl
 have h1:(c::x::y::r)[1]? = some x:=rfl
 have ht:(c::x::y::r).take 3=[c,x,y]:=rfl
 have hl3:3≤(c::x::y::r).length:=a7
 rw[show ql (c::x::y::r)=(if y=39∧32≤x.toNat∧x.toNat≤126∧x≠39∧x≠92 then .ok (2,[c,x,y],x.toNat) else .err 3) from rfl]
 generalize (c::x::y::r)=s at hi h2 h1 ht hl3
 by_cases e1:y=39
 case neg=>
  have e1i:¬((y.toNat:Nat):Int)=39:=ni (d:=39) e1
  rw[if_neg (fun h=>e1 h.1)]
  simp only[go_sem,hi,h2,e1i]
  exact Wq
 have e1i:((y.toNat:Nat):Int)=39:=by rw[e1];rfl
 by_cases e2:32≤x.toNat
 case neg=>
  have e2i:((x.toNat:Nat):Int)<32:=a6
  rw[if_neg (fun h=>e2 h.2.1)]
  simp only[go_sem,hi,h2,h1,e1i,e2i]
  exact Wq
 have e2i:¬((x.toNat:Nat):Int)<32:=a6
 by_cases e3:x.toNat≤126
 case neg=>
  have e3i:(126:Int)<((x.toNat:Nat):Int):=a6
  rw[if_neg (fun h=>e3 h.2.2.1)]
  simp only[go_sem,hi,h2,h1,e1i,e2i,e3i]
  exact Wq
 have e3i:¬(126:Int)<((x.toNat:Nat):Int):=a6
 by_cases e4:x=39
 ·have e4i:((x.toNat:Nat):Int)=39:=by rw[e4];rfl
  rw[if_neg (fun h=>h.2.2.2.1 e4)]
  simp only[go_sem,hi,h2,h1,e1i,e2i,e3i,e4i]
  exact Wq
 have e4i:¬((x.toNat:Nat):Int)=39:=ni (d:=39) e4
 by_cases e5:x=92
 ·have e5i:((x.toNat:Nat):Int)=92:=by rw[e5];rfl
  rw[if_neg (fun h=>h.2.2.2.2 e5)]
  simp only[go_sem,hi,h2,h1,e1i,e2i,e3i,e4i,e5i]
  exact Wq
 have e5i:¬((x.toNat:Nat):Int)=92:=ni (d:=92) e5
 rw[if_pos ⟨e1,e2,e3,e4,e5⟩]
 have w5:IntKind.u32.wrap ((x.toNat:Nat):Int)=((x.toNat:Nat):Int):=by have:=x.toNat_lt;rw[IntKind.wrap_u32];omega
 simp only[go_sem,hi,h2,h1,e1i,e2i,e3i,e4i,e5i]
 refine bc b9 ?_
 simp only[go_sem,h1,w5,C1,ht]
 exact⟨hl3,_,cT (k:=2) (e:=0),rfl⟩
end
end Go.Proofs.YtgiigidgdhplfaaGreatDoor
namespace Go.Am
section
section
section
variable {P:Program}{T:Nat→TI}{b₀:Bs}{β:Loc}{g:Nat→Nat}{ob:Obs}{n₀:Nat}{w w':World}
end
end
end
end Go.Am
namespace Go.Proofs.YtgiigidgdhplfaaGreatDoor
section
attribute [local congr] Go.Am.ite_cc
open Go Go.Am Go.Asm
def gK (o:bE):Prop:=∀w:World,ny 3 o w→(∀(i:Nat) t,Src.FL[i]? = some t→w.cell? ⟨3,i,none⟩=some (.string ⟨t.toArray⟩))∧(∀(i:Nat) t,Src.Nk[i]? = some t→w.cell? ⟨1,i,none⟩=some (.string ⟨t.toArray⟩))
theorem xu {o:bE} (ho:gK o) (s:Str):bi Tryz.prog 3 o 124 [sv s] (· = bv (decide (s∈Src.FL))):=by
 refine hdG Tryz.func124 rfl [.tmp 2] fun b₀ β0 s0 w0 g=>?_
 have hwl:Src.FL.length=10:=rfl
 simp only[go_sem]
 refine ai (fun n st=>∃k:Nat,n+k=10∧st.f 0=sv s∧st.f 4=iv .i64 k∧s∉Src.FL.take k) 10 ?_ ?_
 ·refine⟨0,rfl,?_⟩
  simp only[go_sem]
  simp
 rintro n f g' ob ⟨k,hk,q0,q4,hno⟩
 simp only at q0 q4
 have hw:=ah (k:=k) a6
 by_cases hlt:k<10
 ·have hlti:(k:Int)<10:=a6
  obtain⟨t,ht⟩:=getq (l:=Src.FL) (k:=k) a6
  simp only[go_sem,q0,q4,hlti]
  refine kn ay (fun s β ds w h=>h.1.2) aB (n:=10) (e:=9) rfl rfl a8 (kd:=.i64) (i:=k) (by simp only[go_sem,q4]) hlt (cs:=[.str t]) (fun j x hx=>by match j,hx with|0,hx=>cases hx;rfl) (fun w hw j x hx=>by
   match j,hx with
   | 0,hx=>cases hx;rw[show k*(Tt 9).size+0=k from by show k*1+0=k;omega];exact(ho w hw).1 k t ht) ?_
  by_cases he:t=s
  ·have hin:s∈Src.FL:=he▸l6 ht
   simp only[go_sem,q0,he]
   exact(E0 hin).symm
  ·simp only[go_sem,q0,q4,he,hw]
   refine ae (n-1) a6 ⟨k+1,a6,?_⟩
   simp only[go_sem,q0]
   rw[A2,ht]
   simp[hno,z7 he]
 ·obtain rfl:k=10:=a6
  rw[l5 (by rw[hwl];decide)] at hno
  simp only[go_sem,q0,q4,show ¬((10:Nat):Int)<10 by decide]
  exact(y9 hno).symm
def qm (s:Str):Src.R (Nat×Str×Nat):=if 20<s.length then .err 2 else if s∈Src.FL then .ok (3,s,0) else .ok (1,s,0)
theorem Ft {o:bE} (ho:gK o) (s:Str):bi Tryz.prog 3 o 121 [sv s] (· = oh (qm s)):=by
 refine hdG Tryz.func121 rfl [.cell 2 122,.tmp 3] fun b₀ β0 s0 w0 g=>?_
 unfold qm
 by_cases h20:20<s.length
 ·have h20i:(20:Int)<(s.length:Int):=a6
  rw[if_pos h20]
  simp only[go_sem,h20i,da]
  exact⟨_,cT (k:=0) (v:=0) (e:=2),rfl⟩
 have h20i:¬(20:Int)<(s.length:Int):=a6
 rw[if_neg h20]
 simp only[go_sem,h20i]
 refine cp rfl (by simp only[go_sem];exact xu ho s) ?_
 rintro _ rfl
 by_cases hin:s∈Src.FL
 ·rw[if_pos hin,E0 hin]
  simp only[go_sem,da]
  exact⟨_,cT (k:=3) (v:=0) (e:=0),rfl⟩
 ·rw[if_neg hin,y9 hin]
  simp only[go_sem,da]
  exact⟨_,cT (k:=1) (v:=0) (e:=0),rfl⟩
end
end Go.Proofs.YtgiigidgdhplfaaGreatDoor
