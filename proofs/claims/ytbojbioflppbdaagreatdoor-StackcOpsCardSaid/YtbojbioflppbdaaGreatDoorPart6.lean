/- A part of the proof; no conditions. -/
import Derived.Test.YtbojbioflppbdaaGreatDoorPart5
import Derived.RangeFuncSeq
import Derived.Below
import Derived.Lib.UnsafeStr
import Derived.Laws.Externs
import Derived.Handed
import Derived.Lay
import Derived.LaidMore
import Derived.SevenTiedAt
import Derived.Stop.Joined
import Derived.KernelRfl
import Derived.Test.YtbojbioflppbdaaGreatDoorProg
import Derived.Lib.Bytealg
import Derived.Shelf.Strings.IndexAnyAll
import Derived.Laws.RangeAny
import Derived.WalkMore
import Derived.Shelf.RegionOpenPlain
import Derived.BigQuiet
import Derived.Laws.Runes
import Derived.Shelf.Small.Utf8
import Derived.Lib.QuoteLoop
import Derived.Lib.TrimU
import Derived.Lib.OthersKept
import Derived.Shelf.Strings.SlTrimAscii
import Derived.Shelf.Strings.Runes
set_option linter.unusedSimpArgs false
set_option linter.unusedVariables false
set_option maxHeartbeats 64000000
set_option maxRecDepth 100000
namespace Go.Am
section
section
variable {B B' id:Nat}{ops:Array Oper}{Q:Exit→St→Prop}
section
variable {P:Program}{T:Nat→TI}{b₀:Bs}{w:World}{rd:Option Nat}{Φ:St→Loc→List Deferred→World→Prop}{Ψ:fP}
theorem tn {hT:aQ P T} (hΦ:aW b₀ Φ) {B N:Nat}{ops:Array Oper}{ds:List Deferred}{Q:Exit→Act→World→Prop} (hnd:ops.toList.all aJ=true) (hg:ops.toList.all (fun o=>o.guard.isNone)=true) (hds:eD N ops.toList=true) (I:(Nat→Bool)→St→Prop)
  (hstep:∀(L:Nat→Bool) (s:St) (i:Nat) (o:Oper),I L s→ops[i]? = some o→L i=false→(∀e∈o.after.toList,Region.binds .any e=true→L e.on=true)→
    (∀j o',L j=true→ops[j]? = some o'→∀e∈o'.after.toList,Region.binds .any e=true→L e.on=true)→opA (spB P B) T o s (bx fun s'=>I (upd L i true) s')) :
  ∀(fuel:Nat) (listed:Array Bool) {s:St}{β:Loc}{a:Act}{w:World},listed.size=ops.size→listed.toList.count false≤fuel→Rel b₀ N s β a w→Φ s β ds w→I (fun i=>listed.getD i false) s→
   (∀j o',listed.getD j false=true→ops[j]? = some o'→∀e∈o'.after.toList,Region.binds .any e=true→listed.getD e.on false=true)→
   (∀L s' β' a' w',I L s'→Rel b₀ N s' β' a' w'→Φ s' β' ds w'→(∃listed',L=(fun i=>listed'.getD i false)∧listed'.size=ops.size∧Region.ready .any ops listed'=[])→Q .normal { a' with defers:=ds } w')→
   wpAnyIn (fen rd) 0 P .any ops Q fuel listed { a with defers:=ds } w
 |0,listed,s,β,a,w,hsz,hc,hr,hφ,hI,hid,hQ=>by
   have hall:∀i,i<ops.size→listed.getD i true=true:=fun i hi=>by
    have hnf:false∉listed.toList:=fun h=>by
     have:=P7.2 h;omega
    rw[v7,y7 a6]
    simp only[x8]
    cases hq:listed[i]'a6 with
    |true=>rfl
    |false=>exact absurd (hq▸O8.2 (Q1 a6)) hnf
   have hrd:Region.ready .any ops listed=[]:=by
    unfold Region.ready
    rw[K8]
    intro i hi
    simp[hall i (A2.1 hi)]
   exact⟨hrd,hQ _ s β a w hI hr hφ ⟨listed,rfl,hsz,hrd⟩⟩
 |fuel+1,listed,s,β,a,w,hsz,hc,hr,hφ,hI,hid,hQ=>by
   refine⟨fun hrd=>hQ _ s β a w hI hr hφ ⟨listed,rfl,hsz,hrd⟩,fun i hi=>?_⟩
   unfold Region.ready at hi
   simp only[Q9,A2,l7,E3] at hi
   obtain⟨hi1,hi2,hi3⟩:=hi
   have ho:ops[i]? = some ops[i]:=y7 hi1
   rw[ho] at hi3
   simp only[w8,x8,N3,C3,E3] at hi3
   have hli:listed[i]? = some false:=by
    rw[v7,y7 a6] at hi2
    rw[y7 a6]
    simpa using hi2
   have hL:listed.getD i false=false:=by rw[v7,hli];rfl
   have hedge:∀e∈ops[i].after.toList,Region.binds .any e=true→listed.getD e.on false=true:=fun e he hb=>by
    rcases hi3 e (by simpa using he) with h|h
    ·rw[hb] at h;cases h
    ·exact h
   have hgi:(ops[i]).guard=none:=by
    have:=r0.1 hg ops[i] (F8 hi1)
    simpa using this
   have hdi:∀d,(ops[i]).dst=some d→d<N:=fun d hd=>by
    have:=r0.1 hds ops[i] (F8 hi1)
    rw[hd] at this
    simpa using this
   have hni:aJ ops[i]=true:=r0.1 hnd ops[i] (F8 hi1)
   unfold wpOpIn
   rw[ho]
   simp only
   rw[if_pos (by simp[Region.wanted,hgi])]
   have hset:(fun j=>(listed.setIfInBounds i true).getD j false)=upd (fun j=>listed.getD j false) i true:=by
    funext j
    simp only[upd,v7,L0]
    by_cases hj:i=j
    ·subst hj;simp[hsz,hi1]
    ·have:¬j=i:=fun e=>hj e.symm
     simp[hj,this]
   refine eY hni (ku hT hr hdi (hstep _ s i ops[i] hI ho hL hedge hid) (fun s' β' a' w' hI' hr' ht'=>⟨hr'.defers,?_⟩))
   refine tn (hT:=hT) hΦ hnd hg hds I hstep fuel (listed.setIfInBounds i true) (by simpa using hsz) (by have:=count_set hli;omega) hr' (hΦ _ _ _ _ _ _ _ hφ ht') (by rw[hset];exact hI') (fun j o' hj hoj e he hb=>?_) hQ
   have e1:=congrFun hset
   simp only[upd] at e1
   rw[e1] at hj ⊢
   by_cases hej:e.on=i
   ·rw[if_pos hej]
   ·rw[if_neg hej]
    by_cases hji:j=i
    ·subst hji
     rw[ho] at hoj
     cases hoj
     exact hedge e he hb
    ·rw[if_neg hji] at hj
     exact hid j o' hj hoj e he hb
theorem oS (hT:aQ P T) (hm:P.follows .mixedOrders=true) (hΦ:aW b₀ Φ){s:St}{q:Box Q} (hnd:ops.toList.all aJ=true) (hok:(ops.toList.all (fun o=>o.guard.isNone)&&nJ ops)=true) (I:(Nat→Bool)→St→Prop) (h0:I (fun _=>false) s)
  (hstep:∀(L:Nat→Bool) (s:St) (i:Nat) (o:Oper),I L s→ops[i]? = some o→L i=false→(∀e∈o.after.toList,Region.binds .any e=true→L e.on=true)→
    (∀j o',L j=true→ops[j]? = some o'→∀e∈o'.after.toList,Region.binds .any e=true→L e.on=true)→opA (spB P B) T o s (bx fun s'=>I (upd L i true) s'))
  (hend:∀L s',I L s'→(∀i,i<ops.size→L i=true)→Q .normal s'):js (spF P rd b₀ Φ B' Ψ) T id ops s q:=by
 rw[l7] at hok
 obtain⟨hg,hbk⟩:=hok
 refine .inr ⟨fun e s'=>e=.normal∧Q .normal s',fun N β a ds w hc hr hφ=>?_,fun e s' ⟨h1,h2⟩=>h1▸h2⟩
 have hr1:Rel b₀ N s β a { w with drawn:=w.drawn+1 }:=hr.of_heap rfl
 have hφ1:Φ s β ds { w with drawn:=w.drawn+1 }:=hΦ _ _ _ _ _ _ _ hφ (Tr.same rfl rfl rfl)
 refine wpIn_region_any hm (tn (hT:=hT) hΦ hnd hg hc I hstep ops.size (Array.replicate ops.size false) a7 a7 hr1 hφ1 ?_ (fun j o' hj=>?_) (fun L s' β' a' w' h2 h4 h5 h6=>⟨s',β',a',ds,rfl,.inl ⟨rfl,hend L s' h2 (by obtain⟨listed,rfl,e1,e2⟩:=h6;exact oQ hbk e1 e2)⟩,h4,h5⟩))
 ·have:(fun i=>(Array.replicate ops.size false).getD i false)=fun _=>false:=by
   funext i
   rw[v7,C1]
   split <;> rfl
  rw[this];exact h0
 ·rw[v7,C1] at hj
  split at hj <;> simp at hj
theorem mC (hT:aQ P T) (hm:P.follows .mixedOrders=true) (hΦ:aW b₀ Φ){s:St}{q:Box Q} (ids:List Nat) (tb:List (List Nat×List Nat×List Nat×Bool)) (nid:Nat) (hnd0:ops.toList.all aJ=true) (hok:yU ops tb nid=true) (hnid:ids.length=nid) (hnd:ids.Nodup)
  (h:iB (spB P B) T ids (dv ops.toList tb) s (bx fun s'=>Q .normal s')):js (spF P rd b₀ Φ B' Ψ) T id ops s q:=by
 obtain⟨h1,I,h2,h3,h4⟩:=yV (Q:=Q) ids tb nid hok hnid hnd h
 exact oS hT hm hΦ hnd0 h1 I h2 h3 h4
end
end
section
section
variable {P:Program}{T:Nat→TI}{b₀:Bs}{w:World}
theorem lT {N:Nat}{xs:List AV}{vs:List Value}{g:Nat→Nat}{ob:Obs}{β:Loc}{fa:Nat→AV}{M:Nat}{a:Act} (hargs:xs.length≤N) (hr0:Rel b₀ M ⟨fa,g,ob⟩ β a w) (hv:aE b₀ β g ob w xs vs) :
  Rel b₀ N ⟨dC xs,g,ob⟩ β { tmps:=vs.toArray++Array.replicate (N-vs.toArray.size) undef,defers:=[]} w:=by
 have hl:=hv.len
 refine⟨rfl,by simp;omega,fun i=>?_,hr0.obj,hr0.inj,hr0.base⟩
 simp only[dC]
 cases hx:xs[i]? with
 |some x=>
   obtain⟨v,h1,h2⟩:=hv.get hx
   have hlt:i<vs.length:=(l0.1 h1).1
   have:(vs.toArray++Array.replicate (N-vs.toArray.size) undef).getD i undef=v:=by
    rw[v7,E0 (by simpa using hlt)]
    simp[h1]
   rw[this]
   simpa only[x8] using h2
 |none=>
   have hge:xs.length≤i:=by simpa using hx
   have:(vs.toArray++Array.replicate (N-vs.toArray.size) undef).getD i undef=undef:=by
    rw[v7,G0 (by simp;omega)]
    simp[C1]
    split <;> rfl
   rw[this]
   exact ck
end
end
section
def Mk (b₀:Bs) (β:Loc) (ob:Obs) (w:World) (n₀:Nat):List Deferred→Prop
 |[]=>True
 |d::ds=>(∃D,d = { target:=.collected D,args:=#[]}∧n₀≤D∧Imm b₀ β ob w D∧w.heap[D]? = some (.deferred (some []))∧∀d'∈ds,d'≠d)∧Mk b₀ β ob w n₀ ds
def Nn (b₀:Bs) (β0:Loc) (s0:St) (w0:World):St→Loc→List Deferred→World→Prop:=fun s β ds w=>Tr b₀ β0 s0 w0 β s w∧Mk b₀ β s.obj w w0.heap.size ds
theorem Mk.keep {b₀:Bs}{β β':Loc}{s s':St}{w w':World} (h:Tr b₀ β s w β' s' w') {n₀:Nat}:∀{ds:List Deferred},Mk b₀ β s.obj w n₀ ds→Mk b₀ β' s'.obj w' n₀ ds
 |[],_=>trivial
 |d::ds,hm=>by
   obtain⟨⟨D,h1,h2,h3,h4,h5⟩,hr⟩:=hm
   exact⟨⟨D,h1,h2,(h.imm D h3).1,by rw[(h.imm D h3).2];exact h4,h5⟩,Mk.keep h hr⟩
theorem Ag {b₀:Bs}{β0:Loc}{s0:St}{w0:World}:aW b₀ (Nn b₀ β0 s0 w0):=fun _ _ _ _ _ _ _ h ht=>⟨h.1.trans ht,h.2.keep ht⟩
section
variable {P:Program}{T:Nat→TI}{b₀:Bs}{β:Loc}{w:World}
end
end
section
section
variable {P:Program}{T:Nat→TI}{b₀:Bs}{β:Loc}{w:World}
end
end
section
variable {cells:List C}
section
variable {P:Program}{T:Nat→TI}{b₀:Bs}{β:Loc}{w:World}
def St.claimAt (s:St) (o b j sz:Nat) (cells:List C):St:=⟨s.f,upd s.gen b (s.gen b+1),upd (upd s.obj o (some (cells.set j (.osl b (s.gen b+1) sz 0 0)))) b (some [])⟩
theorem vA {s:St}{t o b j sz:Nat} (ht:(∃off,s.f t=.one (.ptr o (s.gen o) off))∨∃sz off len,s.f t=.one (.osl o (s.gen o) sz off len)) (ho:s.obj o=some cells) (hj:cells[j]? = some (.d .nsl)) (n1:o≠b):ag s (s.claimAt o b j sz cells):=by
 intro b₀ N β a w hr
 let β':Loc:=fun i=>if i=b then none else β i
 have hlive:∀i,i≠b→((s.claimAt o b j sz cells).obj i).isSome=true→(s.obj i).isSome=true:=fun i hib hi=>by
  simp only[St.claimAt,upd,if_neg hib] at hi
  by_cases e2:i=o
  ·subst e2;rw[ho];rfl
  ·rwa [if_neg e2] at hi
 have hkeep:eb b₀ β s.gen s.obj w β' (s.claimAt o b j sz cells).gen (s.claimAt o b j sz cells).obj w:=by
  refine⟨fun x hx=>⟨⟨hx.1,hx.2.1,fun i a' hi hβ=>?_⟩,rfl⟩,fun i=>?_,fun i hg hi=>?_⟩
  ·by_cases hib:i=b
   ·simp[β',hib] at hβ
   ·simp only[β',if_neg hib] at hβ
    exact hx.2.2 i a' (hlive i hib hi) hβ
  ·simp only[St.claimAt,upd];split
   ·rename_i e;subst e;omega
   ·omega
  ·by_cases hib:i=b
   ·subst hib;simp[St.claimAt,upd] at hg
   ·exact⟨hlive i hib hi,by simp[β',hib],fun a' _ arr el fr h=>⟨arr,el,fr,h,j9 _⟩⟩
 have hspot:∀ad,β o=some ad→ad.spot=none:=fun ad hβ=>by
  have hv:=hr.f t
  rcases ht with⟨off,ht⟩|⟨sz,off,len,ht⟩
  ·rw[ht] at hv
   simp only[ae,aw] at hv
   obtain⟨a',h1,h2,_⟩:=hv.2.2 trivial (by rw[ho];rfl)
   rw[hβ] at h1;cases h1;exact h2
  ·rw[ht] at hv
   simp only[ae] at hv
   exact(gw hv rfl (by rw[ho];rfl)).spot ad hβ
 refine⟨β',⟨hr.defers,hr.size,fun i=>ae.keep hkeep _ (hr.f i),fun i cells' hc'=>?_,fun i1 i2 a1 a2 l1 l2 b1 b2 hb=>?_,hr.base⟩,j9 _,fun _ _=>rfl,hkeep,rfl,rfl⟩
 ·by_cases hib:i=b
  ·subst hib
   simp only[St.claimAt,upd,A9,u7] at hc'
   subst hc'
   simp only[β',A9]
   rfl
  ·by_cases e2:i=o
   ·subst e2
    simp only[St.claimAt,upd,if_neg hib,A9,u7] at hc'
    subst hc'
    have hob:=hr.obj i cells ho
    have hβ':β' i=β i:=by simp[β',n1]
    rw[hβ']
    cases hβ:β i with
    |none=>rw[hβ] at hob;have:cells=[]:=hob;subst this;simp at hj
    |some ad=>
      rw[hβ] at hob
      obtain⟨g1,arr,el,lo,hi,g2,g3,g4,g5⟩:=hob.cells (hspot ad hβ)
      refine .ofCells (hspot ad hβ) ⟨g1,arr,el,lo,hi,g2,by simpa[St.claimAt,upd,hib] using g3,by simpa using g4,fun k c hk=>?_⟩
      by_cases hkj:k=j
      ·subst hkj
       have hlt:=(l0.1 hj).1
       rw[List.getElem?_set_self hlt] at hk
       cases hk
       obtain⟨v,hv,hrv⟩:=g5 k _ hj
       simp only[aw] at hrv
       obtain rfl:=hrv.inv_nsl
       refine⟨_,hv,rfl,by simp[St.claimAt,upd],fun _ _=>?_⟩
       simp only[β',A9]
       exact⟨rfl,rfl⟩
      ·rw[O9 (z6 hkj)] at hk
       obtain⟨v,hv,hrv⟩:=g5 k c hk
       exact⟨v,hv,hrv.keep hkeep⟩
   ·simp only[St.claimAt,upd,if_neg hib,if_neg e2] at hc'
    have:=(hr.obj i cells' hc').keep hkeep (fun _ _=>rfl)
    simpa[β',hib,St.claimAt,upd] using this
 ·have h1:i1≠b:=fun e=>by simp[β',e] at b1
  have h2:i2≠b:=fun e=>by simp[β',e] at b2
  simp only[β',if_neg h1] at b1
  simp only[β',if_neg h2] at b2
  exact hr.inj i1 i2 a1 a2 (hlive i1 h1 l1) (hlive i2 h2 l2) b1 b2 hb
theorem cD {s:St}{t o b j sz off:Nat} (ht:s.f t=.one (.ptr o (s.gen o) off)) (ho:s.obj o=some cells) (hj:cells[j]? = some (.d .nsl)) (n1:o≠b):ag s (s.claimAt o b j sz cells):=
 vA (.inl ⟨off,ht⟩) ho hj n1
end
end
end
section
attribute [local congr] Go.Am.ite_cc
section
variable {s:St}{K:List AV→Prop}{T:Nat→TI}{fn:Func}{g:Nat→Nat}{rs:List ResultVar}{R:AV→Prop}{r:List ResultVar}{k:Box K}
section
variable {P:Program}{T:Nat→TI}{b₀:Bs}{β:Loc}{w:World}
def iC (T:Nat→TI) (s:St):List ResultVar→{K:List AV→Prop}→Box K→Prop
 |[],K,_=>K []
 |.tmp t::r,K,_=>iC T s r (bx fun vs=>K (s.f t::vs))
 |.cell a ty::r,K,_=>pP (T ty) s (s.f a) (bx fun v=>iC T s r (bx fun vs=>K (v::vs)))
theorem lS (hT:aQ P T) {N:Nat}{s:St}{a:Act} (hr:Rel b₀ N s β a w) :
  ∀(rs:List ResultVar) {K:List AV→Prop}{k:Box K},iC T s rs k→∃vs avs,(∀g:ResultVar→Sem Value,(∀t,g (.tmp t)=pure (a.tmps.getD t undef))→(∀x t,g (.cell x t)=do loadVar t (←asAddr (a.tmps.getD x undef)))→(rs.mapM g).run P w=.ok vs w)∧K avs∧aE b₀ β s.gen s.obj w avs vs
 |[],K,k,h=>⟨[],[],fun _ _ _=>by simp,h,by simp only[aE]⟩
 |.tmp t::r,K,k,h=>by
   obtain⟨vs,avs,h1,h2,h3⟩:=lS hT hr r h
   refine⟨_::vs,_::avs,fun g hg hg2=>?_,h2,by simp only[aE];exact⟨_,_,rfl,hr.f t,h3⟩⟩
   simp only[N8,Sem.run_bind,hg,Sem.run_pure,Result.andThen_ok,h1 g hg hg2]
 |.cell x ty::r,K,k,h=>by
   unfold iC at h
   obtain⟨y,cv,hK,hrun,hrep⟩:=pV hT hr h (hr.f x)
   obtain⟨vs,avs,h1,h2,h3⟩:=lS hT hr r hK
   refine⟨cv::vs,y::avs,fun g hg hg2=>?_,h2,by simp only[aE];exact⟨_,_,rfl,hrep,h3⟩⟩
   have hl:=hrun w .refl
   have hcell:(g (.cell x ty)).run P w=.ok cv w:=by
    rw[hg2]
    unfold Instr.loadAt at hl
    cases hv:a.tmps.getD x undef with
    |pointer p=>
      rw[hv] at hl
      cases p with
      |some p=>simpa[Instr.sureAddr,asAddr] using hl
      |none=>simp[Instr.sureAddr] at hl
    |_=>rw[hv] at hl;simp[Instr.sureAddr] at hl
   simp only[N8,Sem.run_bind,hcell,Sem.run_pure,Result.andThen_ok,h1 g hg hg2]
def pack:List AV→AV
 |[t]=>t
 |ts=>.tup ts
def ko:List Value→Value
 |[v]=>v
 |vs=>.tuple vs.toArray
theorem vB{ob:Obs}:∀{avs:List AV}{vs:List Value},aE b₀ β g ob w avs vs→ae b₀ β g ob w (pack avs) (ko vs)
 |[],vs,h=>by simp only[aE] at h;subst h;simp only[pack,ko,ae,aE];exact⟨[],rfl,rfl⟩
 |[t],vs,h=>by simp only[aE] at h;obtain⟨u,us,rfl,h1,rfl⟩:=h;exact h1
 |t::t'::ts,vs,h=>by
   have h0:=h
   simp only[aE] at h
   obtain⟨u,us,rfl,h1,u',us',rfl,h2,h3⟩:=h
   simp only[pack,ko,ae]
   exact⟨_,rfl,h0⟩
theorem dt (hT:aQ P T) {N:Nat}{a:Act} (hr:Rel b₀ N s β a w) (hres:fn.results=rs.toArray) (h:iC T s rs k) :
  ∃v avs,(results fn a.tmps).run P w=.ok v w∧K avs∧ae b₀ β s.gen s.obj w (pack avs) v∧∃vs,v=ko vs∧aE b₀ β s.gen s.obj w avs vs:=by
 obtain⟨vs,avs,h1,h2,h3⟩:=lS hT hr rs h
 refine⟨ko vs,avs,?_,h2,vB h3,vs,rfl,h3⟩
 unfold results
 simp only[hres,Q2,Sem.run_bind,Sem.run_map]
 rw[h1 _ (fun _=>rfl) (fun _ _=>rfl)]
 simp only[Result.andThen_ok,Sem.run_pure]
 match vs with
 |[]=>simp[ko]
 |[t]=>simp[ko]
 |t::t'::ts=>simp[ko]
def yW (T:Nat→TI) (rs:List ResultVar) (R:AV→(Nat→Nat)→Obs→Prop):Exit→St→Prop
 |.normal,s|.ret,s=>∃s',ag s s'∧iC T s' rs (bx fun avs=>R (pack avs) s'.gen s'.obj)
 |_,_=>False
theorem Js (B:Nat) (hT:aQ P T) (hm:P.follows .mixedOrders=true) {f:FuncId}{c:Code} (hf:P.funcs[f]? = some fn) (hb:fn.body=some c) (hn:(fn.name == "runtime.NumGoroutine")=false)
  (rs:List ResultVar) (hres:fn.results=rs.toArray) (hok:codeOk fn.ntmps c=true) {xs:List AV} (hargs:xs.length≤fn.ntmps){ob:Obs}{R:AV→(Nat→Nat)→Obs→Prop}
  (h:wpC (spB P B) T c (bx (yW T rs R)) ⟨dC xs,g,ob⟩):jb P f xs g ob R:=by
 refine⟨⟨fn,hf,by rw[hb];rfl,hn⟩,fun b₀ N β a fa w vs hr0 hv=>?_⟩
 refine calls_of_wp hf hb ?_
 have hl:=hv.len
 have hr:Rel b₀ fn.ntmps ⟨dC xs,g,ob⟩ β { tmps:=vs.toArray++Array.replicate (fn.ntmps-vs.toArray.size) undef,defers:=[]} w:=by
  refine⟨rfl,by simp;omega,fun i=>?_,hr0.obj,hr0.inj,hr0.base⟩
  simp only[dC]
  cases hx:xs[i]? with
  |some x=>
    obtain⟨v,h1,h2⟩:=hv.get hx
    have hlt:i<vs.length:=(l0.1 h1).1
    have:(vs.toArray++Array.replicate (fn.ntmps-vs.toArray.size) undef).getD i undef=v:=by
     rw[v7,E0 (by simpa using hlt)]
     simp[h1]
    rw[this]
    simpa only[x8] using h2
  |none=>
    have hge:xs.length≤i:=by simpa using hx
    have:(vs.toArray++Array.replicate (fn.ntmps-vs.toArray.size) undef).getD i undef=undef:=by
     rw[v7,G0 (by simp;omega)]
     simp[C1]
     split <;> rfl
    rw[this]
    exact ck
 refine wp_mono (dP (B:=B) hT hm c hok hr h) (fun e a' w' hp=>?_)
 obtain⟨s',β',hQ,hr',ht⟩:=hp
 have hres':yW T rs R .ret s'→∃v,(results fn a'.tmps).run P w'=.ok v w'∧∃v' r g' ob' β',Ending.returned v=.returned v'∧R r g' ob'∧ae b₀ β' g' ob' w' r v'∧
   (∀id cells,ob' id=some cells→cG b₀ β' g' ob' w' (g' id) cells (β' id))∧(∀id id' a a',(ob' id).isSome=true→(ob' id').isSome=true→β' id=some a→β' id'=some a'→a.block=a'.block→id=id')∧
   Tr b₀ β ⟨fa,g,ob⟩ w β' ⟨fa,g',ob'⟩ w':=by
  rintro⟨s2,hvs,hR⟩
  obtain⟨β2,hr2,ht2⟩:=hvs b₀ fn.ntmps β' a' w' hr'
  have hta:=ht.trans ht2
  obtain⟨v,avs,h1,h2,h3,_⟩:=dt hT hr2 hres hR
  exact⟨v,h1,v,_,_,_,β2,rfl,h2,h3,hr2.obj,hr2.inj,⟨hta.size,hta.old,hta.keep,hta.os⟩⟩
 cases e with
 |normal=>exact⟨hr'.defers,hres' hQ⟩
 |ret=>exact⟨hr'.defers,hres' hQ⟩
 |exit id=>exact hQ.elim
 |goto l=>exact hQ.elim
 |panic ch=>exact hQ.elim
 |outgrown=>exact hQ.elim
def nO (s:St):List AV→AV→Prop
 |[t],r=>jK s t r
 |ts,r=>∃rs,cH s ts rs∧r=.tup rs
theorem nO.rep {N:Nat}{s:St}{a:Act} (hr:Rel b₀ N s β a w):∀{ts:List AV}{r:AV}{vs:List Value},nO s ts r→aE b₀ β s.gen s.obj w ts vs→RV (Own b₀ w) w r (ko vs):=by
 have hmany:∀(ts rs:List AV) (vs:List Value),cH s ts rs→aE b₀ β s.gen s.obj w ts vs→RVs (Own b₀ w) w rs vs:=by
  intro ts
  induction ts with
  |nil=>intro rs vs h hv;simp only[cH] at h;simp only[aE] at hv;subst h hv;simp only[RVs]
  |cons t ts ih=>
    intro rs vs h hv
    simp only[cH] at h
    simp only[aE] at hv
    obtain⟨r,rs',rfl,h1,h2⟩:=h
    obtain⟨u,us,rfl,h3,h4⟩:=hv
    simp only[RVs]
    exact⟨_,_,rfl,h1.rep hr h3,ih _ _ h2 h4⟩
 intro ts r vs h hv
 match ts,h with
 |[],⟨rs,h1,h2⟩=>
   subst h2
   have:=hmany _ _ _ h1 hv
   simp only[aE] at hv
   subst hv
   simp only[RV,ko];exact⟨_,rfl,this⟩
 |[t],h=>
   simp only[aE] at hv
   obtain⟨u,us,rfl,h1,rfl⟩:=hv
   exact jK.rep hr h h1
 |t::t'::ts,⟨rs,h1,h2⟩=>
   subst h2
   have:=hmany _ _ _ h1 hv
   simp only[aE] at hv
   obtain⟨u,us,rfl,_,u',us',rfl,_,_⟩:=hv
   simp only[RV,ko];exact⟨_,rfl,this⟩
def vC (T:Nat→TI) (rs:List ResultVar) (R:AV→Prop):Exit→St→Prop
 |.normal,s|.ret,s=>iC T s rs (bx fun avs=>∃r,nO s avs r∧R r)
 |_,_=>False
theorem bM (hT:aQ P T) (hm:P.follows .mixedOrders=true) {f:FuncId}{c:Code} (hf:P.funcs[f]? = some fn) (hb:fn.body=some c) (hn:(fn.name == "runtime.NumGoroutine")=false)
  (rs:List ResultVar) (hres:fn.results=rs.toArray) (hok:codeOk fn.ntmps c=true) {args:List AV} (hargs:args.length≤fn.ntmps)
  (h:∀g,wpC (sp P) T c (bx (vC T rs R)) ⟨dC args,g,fun _=>none⟩):aR P f args R:=by
 refine⟨⟨fn,hf,by rw[hb];rfl,hn⟩,fun J w vs hJ hv=>?_⟩
 refine calls_of_wp hf hb ?_
 have hlen:∀(l:List AV) (vs:List Value),RVs J w l vs→vs.length=l.length:=by
  intro l
  induction l with
  |nil=>intro vs h;simp only[RVs] at h;subst h;rfl
  |cons x l ih=>intro vs h;simp only[RVs] at h;obtain⟨u,us,rfl,_,h⟩:=h;simp[ih us h]
 have hl:=hlen _ _ hv
 let J':Nat→Prop:=J
 have hr:Rel ⟨w.heap.size,J'⟩ fn.ntmps ⟨dC args,fun _=>0,fun _=>none⟩ (fun _=>none) { tmps:=vs.toArray++Array.replicate (fn.ntmps-vs.toArray.size) undef,defers:=[]} w:=by
  refine⟨rfl,by simp;omega,fun i=>?_,fun id cells ho=>(by cases ho),fun id id' a a' ho=>(by cases ho),j9 _⟩
  have hget:∀(l:List AV) (vs:List Value),RVs J w l vs→∀(i:Nat) (x:AV),l[i]? = some x→∃v,vs[i]? = some v∧RV J w x v:=by
   intro l
   induction l with
   |nil=>intro vs _ i x h;simp at h
   |cons y l ih=>
     intro vs h i x hx
     simp only[RVs] at h
     obtain⟨u,us,rfl,h1,h2⟩:=h
     cases i with
     |zero=>simp at hx;subst hx;exact⟨u,rfl,h1⟩
     |succ i=>simpa using ih us h2 i x (by simpa using hx)
  simp only[dC]
  cases hx:args[i]? with
  |some x=>
    obtain⟨v,h1,h2⟩:=hget _ _ hv i x hx
    have hlt:i<vs.length:=(l0.1 h1).1
    have:(vs.toArray++Array.replicate (fn.ntmps-vs.toArray.size) undef).getD i undef=v:=by
     rw[v7,E0 (by simpa using hlt)]
     simp[h1]
    rw[this]
    simp only[x8]
    exact RV.rep x (RV.mono (fun b hb=>⟨⟨hJ b hb,fun _=>hb,fun id a ho=>by cases ho⟩,rfl⟩) x h2)
  |none=>
    have hge:args.length≤i:=by simpa using hx
    have:(vs.toArray++Array.replicate (fn.ntmps-vs.toArray.size) undef).getD i undef=undef:=by
     rw[v7,G0 (by simp;omega)]
     simp[C1]
     split <;> rfl
    rw[this]
    exact ck
 refine wp_mono (dP hT hm c hok hr (h _)) (fun e a' w' hp=>?_)
 obtain⟨s',β',hQ,hr',ht⟩:=hp
 have hres':vC T rs R .ret s'→∃v,(results fn a'.tmps).run P w'=.ok v w'∧∃r,R r∧RV (Own ⟨w.heap.size,J'⟩ w') w' r v:=by
  intro hQ
  obtain⟨v,avs,h1,⟨r,h2,h3⟩,_,vs',rfl,h4⟩:=dt hT hr' hres hQ
  exact⟨_,h1,r,h3,h2.rep hr' h4⟩
 cases e with
 |normal=>
   obtain⟨v,h1,r,h2,h3⟩:=hres' hQ
   exact⟨hr'.defers,v,h1,v,r,rfl,h2,ht.size,fun b hb=>ht.old b hb,ht.os,h3⟩
 |ret=>
   obtain⟨v,h1,r,h2,h3⟩:=hres' hQ
   exact⟨hr'.defers,v,h1,v,r,rfl,h2,ht.size,fun b hb=>ht.old b hb,ht.os,h3⟩
 |exit id=>exact hQ.elim
 |goto l=>exact hQ.elim
 |panic ch=>exact hQ.elim
 |outgrown=>exact hQ.elim
end
@[go_sem] theorem LT:iC T s [] k=K []:=j8 rfl rfl
@[go_sem] theorem LU{t:Nat}:iC T s (.tmp t::r) k=iC T s r (bx fun vs=>K (s.f t::vs)):=j8 rfl rfl
@[go_sem] theorem Jt{a ty:Nat}:iC T s (.cell a ty::r) k=pP (T ty) s (s.f a) (bx fun v=>iC T s r (bx fun vs=>K (v::vs))):=j8 rfl rfl
@[go_sem] theorem LV:vC T rs R .ret s=iC T s rs (bx fun avs=>∃r,nO s avs r∧R r):=j8 rfl rfl
@[go_sem] theorem Nl{t r:AV}:nO s [t] r=jK s t r:=j8 rfl rfl
theorem de {α:Type}{id g sz n:Nat}{cells:List C} (hg:s.gen id=g) (l:List α) (enc:α→List D) (ho:s.obj id=some cells) (hc:cells=l.flatMap (fun a=>(enc a).map .d)) (hn:∀a∈l,∀x∈enc a,fh x=x) (hs:∀a∈l,(enc a).length=sz) (hl:l.length=n) :
  Frz s (.osl id g sz 0 n) (.sl (l.map enc)):=by
 have hfl:cells=(l.map enc).flatten.map .d:=by rw[hc];clear hn hs hl hc ho;induction l with|nil=>rfl|cons a l ih=>simp[ih]
 have hlen:cells.length=n*sz:=by
  rw[hfl,j5]
  clear hfl hc hn ho
  subst hl
  induction l with
  |nil=>simp
  |cons a l ih=>
    simp only[l5,D3,j4,j6,hs a a7,ih (fun b hb=>hs b (by simp[hb]))]
    rw[E7];omega
 refine .osl hg ho a6 (by simpa using hl) (fun e he=>by obtain⟨a,ha,rfl⟩:=G8.1 he;exact hs a ha) (fun j=>(cells[0+j]?).getD (.d .nsl)) (fun j x hx=>?_) (fun j x hx=>?_)
 ·rw[hfl,C2,x7,hx];rfl
 ·rw[hfl,C2,x7,hx]
  simp only[w8,x8]
  have hxn:fh x=x:=by
   have hm:=l4 hx
   obtain⟨e,he,hxe⟩:=List.mem_flatten.1 hm
   obtain⟨a,ha,rfl⟩:=G8.1 he
   exact hn a ha x hxe
  have:=Frz.d (s:=s) x
  rwa [hxn] at this
end
end
section
section
structure lD (b₀:Bs) (β:Loc) (ob:Obs) (n₀:Nat) (w w':World):Prop where
 size:w'.heap.size=w.heap.size
 os:w'.os=w.os∧w'.output=w.output
 same:∀b,w'.heap[b]? = w.heap[b]?∨(n₀≤b∧Imm b₀ β ob w b∧(∃x,w.heap[b]? = some (.deferred x))∧∃x,w'.heap[b]? = some (.deferred x))
section
variable {P:Program}{T:Nat→TI}{b₀:Bs}{β:Loc}{g:Nat→Nat}{ob:Obs}{n₀:Nat}{w w':World}
theorem lD.refl:lD b₀ β ob n₀ w w:=⟨rfl,⟨rfl,rfl⟩,fun _=>.inl rfl⟩
theorem lD.trans {w'':World} (h:lD b₀ β ob n₀ w w') (h':lD b₀ β ob n₀ w' w''):lD b₀ β ob n₀ w w'':=by
 refine⟨h'.size.trans h.size,⟨h'.os.1.trans h.os.1,h'.os.2.trans h.os.2⟩,fun b=>?_⟩
 rcases h.same b with e|⟨e1,e2,e3,e4⟩
 ·rcases h'.same b with e'|⟨e1',e2',e3',e4'⟩
  ·exact .inl (e'.trans e)
  ·exact .inr ⟨e1',by unfold Imm at *;rw[h.size] at e2';exact e2',by rw[←e];exact e3',e4'⟩
 ·rcases h'.same b with e'|⟨e1',e2',e3',e4'⟩
  ·exact .inr ⟨e1,e2,e3,by rw[e'];exact e4⟩
  ·exact .inr ⟨e1,e2,e3,e4'⟩
theorem lD.cell (h:lD b₀ β ob n₀ w w') {a:Addr}{v:Value} (hc:w.cell? a=some v):w'.cell? a=some v:=by
 rcases h.same a.block with e|⟨_,_,⟨x,e⟩,_⟩
 ·rw[jV e];exact hc
 ·simp[World.cell?,e] at hc
theorem lD.imm (h:lD b₀ β ob n₀ w w') {b:Nat} (hb:Imm b₀ β ob w b):Imm b₀ β ob w' b:=by unfold Imm at *;rw[h.size];exact hb
theorem bD.shut {J J':Nat→Prop}{x:D}{v:Value} (h:bD J w x v) (hJ:∀b,J b→J' b) (hc:∀a v,w.cell? a=some v→w'.cell? a=some v):bD J' w' x v:=by
 induction h with
 |bool b=>exact .bool b
 |int k n=>exact .int k n
 |str s=>exact .str s
 |nsl=>exact .nsl
 |nilp=>exact .nilp
 |nilf=>exact .nilf
 |nili=>exact .nili
 |nilm=>exact .nilm
 |fn f=>exact .fn f
 |yld l=>exact .yld l
 |sl0=>exact .sl0
 |sl vals hcap hj hsz hcl hr ih=>exact .sl vals hcap (fun h=>hJ _ (hj h)) hsz (fun i e he j x hx=>hc _ _ (hcl i e he j x hx)) ih
 |iptr vals hj hcl hr ih=>exact .iptr vals (fun h=>hJ _ (hj h)) (fun j x hx=>hc _ _ (hcl j x hx)) ih
theorem iW.shut (h:lD b₀ β ob n₀ w w') {c:PC}{v:Value} (hr:iW b₀ β g ob w c v):iW b₀ β g ob w' c v:=by
 cases c with
 |d x=>exact bD.shut hr (fun _=>h.imm) (fun _ _=>h.cell)
 |ptr id g1 off=>exact hr
theorem aw.shut (h:lD b₀ β ob n₀ w w') {c:C}{v:Value} (hr:aw b₀ β g ob w c v):aw b₀ β g ob w' c v:=by
 cases c with
 |d x=>exact bD.shut hr (fun _=>h.imm) (fun _ _=>h.cell)
 |osl id g1 sz off len=>
   obtain⟨h1,h2,h3⟩:=hr
   refine⟨h1,h2,fun hg ho=>?_⟩
   have h4:=h3 hg ho
   cases hβ:β id with
   |none=>rw[hβ] at h4;exact h4
   |some a=>
     rw[hβ] at h4
     obtain⟨h5,h6⟩:=h4
     refine⟨h5,?_⟩
     rcases h6 with⟨cap,q1,q2,q3⟩|h6
     ·refine .inl ⟨cap,q1,q2,fun arr el fr hh=>?_⟩
      rcases h.same a.block with e|⟨_,_,_,⟨x,e⟩⟩
      ·exact q3 arr el fr (by rw[←e];exact hh)
      ·rw[e] at hh;cases hh
     ·exact .inr h6
 |ptr id g1 off=>exact hr
 |clo f caps=>
   obtain⟨vs,h1,h2,h3⟩:=hr
   exact⟨vs,h1,h2,fun i pc hp=>let ⟨u,hu,hr⟩:=h3 i pc hp;⟨u,hu,hr.shut h⟩⟩
 |mp id g1 kd=>exact hr
 |lsl n=>exact hr
 |raw o=>exact hr
theorem kl.shut (h:lD b₀ β ob n₀ w w') {cs:List C}{vs:Array Value} (hr:kl b₀ β g ob w cs vs):kl b₀ β g ob w' cs vs:=
 ⟨hr.1,fun i c hc=>let ⟨u,hu,hr⟩:=hr.2 i c hc;⟨u,hu,hr.shut h⟩⟩
mutual
theorem ae.shut (h:lD b₀ β ob n₀ w w'):(x:AV)→{v:Value}→ae b₀ β g ob w x v→ae b₀ β g ob w' x v
 |.one _,_,hr=>by simp only[ae] at hr ⊢;exact aw.shut h hr
 |.agg _,_,hr=>by simp only[ae] at hr ⊢;obtain⟨vs,h1,h2⟩:=hr;exact⟨vs,h1,h2.shut h⟩
 |.tup ts,_,hr=>by simp only[ae] at hr ⊢;obtain⟨vs,h1,h2⟩:=hr;exact⟨vs,h1,aE.shut h ts h2⟩
 |.junk,_,_=>by simp only[ae]
 |.exact _,_,hr=>by simp only[ae] at hr ⊢;exact hr
theorem aE.shut (h:lD b₀ β ob n₀ w w'):(x:List AV)→{v:List Value}→aE b₀ β g ob w x v→aE b₀ β g ob w' x v
 |[],_,hr=>by simp only[aE] at hr ⊢;exact hr
 |t::ts,_,hr=>by simp only[aE] at hr ⊢;obtain⟨u,us,h1,h2,h3⟩:=hr;exact⟨u,us,h1,ae.shut h t h2,aE.shut h ts h3⟩
end
theorem Rel.shut {N:Nat}{s:St}{a:Act} (hr:Rel b₀ N s β a w) (h:lD b₀ β s.obj n₀ w w'):Rel b₀ N s β a w':=by
 refine⟨hr.defers,hr.size,fun i=>ae.shut h _ (hr.f i),fun id cells ho=>?_,hr.inj,by rw[h.size];exact hr.base⟩
 have h1:=hr.obj id cells ho
 cases hβ:β id with
 |none=>rw[hβ] at h1;exact h1
 |some ad=>
   rw[hβ] at h1
   have he:w'.heap[ad.block]? = w.heap[ad.block]?:=by
    rcases h.same ad.block with e|⟨_,e,_⟩
    ·exact e
    ·exact absurd rfl (e.2.2 id ad (by simp[ho]) hβ)
   cases hs:ad.spot with
   |none=>
     obtain⟨h2,arr,el,lo,hi,h3,h4,h5,h6⟩:=h1.cells hs
     exact .ofCells hs ⟨h2,arr,el,lo,hi,by rw[he];exact h3,h4,h5,fun j c hc=>let ⟨v,hv,hr⟩:=h6 j c hc;⟨v,hv,hr.shut h⟩⟩
   |some kd=>
     obtain⟨h2,⟨es,clock,h3,h4⟩|⟨hk100,o,h3,h4⟩⟩:=h1.map hs
     ·exact .ofMap hs ⟨h2,.inl ⟨es,clock,by rw[he];exact h3,h4.mono fun _ _ q=>by
       unfold gQ at q ⊢
       split
       ·rename_i hk
        rw[if_pos hk] at q
        exact aw.shut h q
       ·rename_i hk
        rw[if_neg hk] at q
        obtain⟨ds,vs,q1,q2,q3,q4⟩:=q
        exact⟨ds,vs,q1,q2,q3,fun i x hx=>let ⟨u,hu,hr⟩:=q4 i x hx;⟨u,hu,bD.shut hr (fun _=>h.imm) (fun _ _=>h.cell)⟩⟩⟩⟩
     ·exact .ofMap hs ⟨h2,.inr ⟨hk100,o,h3,by rw[he];exact h4⟩⟩
theorem Mk.put {D:Nat}{o:Obj}:∀{ds:List Deferred},Mk b₀ β ob w n₀ ds→(∀d'∈ds,d'≠{ target:=.collected D,args:=#[]})→Mk b₀ β ob (w.putObj D o) n₀ ds
 |[],_,_=>trivial
 |d::ds,hm,hne=>by
   obtain⟨⟨E,h1,h2,h3,h4,h5⟩,hr⟩:=hm
   have hE:E≠D:=fun he=>hne d a7 (by rw[h1,he])
   exact⟨⟨E,h1,h2,by unfold Imm at *;simpa using h3,by rw[World.putObj_heap_other hE];exact h4,h5⟩,hr.put (fun d' hd'=>hne d' (by simp[hd']))⟩
theorem nQ {fn:Func}{tmps:Array Value}{R:Ending→World→Prop}:∀{ds:List Deferred}{w:World},Mk b₀ β ob w n₀ ds→
  (∀w5,lD b₀ β ob n₀ w w5→∃v,(results fn tmps).run P w5=.ok v w5∧R (.returned v) w5)→LeavesInM (fen none) 0 P fn tmps R ds .returning w
 |[],w,_,h=>h w .refl
 |d::ds,w,hm,h=>by
   obtain⟨⟨D,h1,h2,h3,h4,h5⟩,hr⟩:=hm
   refine⟨a7,.inl ⟨D,_,by rw[h1],run_takeDeferred h4,?_⟩⟩
   have hlt:D<w.heap.size:=h3.1
   have hsh:lD b₀ β ob n₀ w (w.putObj D (.deferred none)):=⟨a7,⟨rfl,rfl⟩,fun b=>by
    by_cases hb:b=D
    ·subst hb
     exact .inr ⟨h2,h3,⟨_,h4⟩,⟨none,World.putObj_heap_same hlt⟩⟩
    ·exact .inl (World.putObj_heap_other hb)⟩
   exact nQ (hr.put (fun d' hd'=>by rw[←h1];exact h5 d' hd')) (fun w5 h6=>h w5 (hsh.trans h6))
end
end
section
section
variable {P:Program}{T:Nat→TI}{b₀:Bs}{β:Loc}{w:World}
end
end
end
section
attribute [local congr] Go.Am.ite_cc
section
variable {s:St}{res:List Nat}{R:AV→(Nat→Nat)→Obs→Prop}
theorem lV (p:Nat→Bool):ag s ⟨s.f,s.gen,fun i=>if p i=true then none else s.obj i⟩:=by
 refine oO (fun i=>p i=true) rfl (fun i=>.inl rfl) (fun i cells' hc=>?_)
 simp only at hc
 by_cases h:p i=true
 ·rw[if_pos h] at hc;cases hc
 ·rw[if_neg h] at hc
  exact⟨h,cells',hc,rfl,fun j c c' e1 e2=>.inl (by rw[e1] at e2;exact(F0 e2).symm)⟩
theorem bn (p:Nat→Bool) (h:R (lr s.f res) s.gen (fun i=>if p i=true then none else s.obj i)):xx res R .normal s:=⟨_,lV p,h⟩
theorem fV (p:Nat→Bool) (h:R (lr s.f res) s.gen (fun i=>if p i=true then none else s.obj i)):xx res R .ret s:=⟨_,lV p,h⟩
@[go_sem] theorem LW:ul .nilFunc=.one (.d .nilf):=j8 rfl rfl
end
end
section
section
variable {s:St}{o:Oper}{K:St→Prop}{f:FuncId}{args:Array Operand}{tys:Array TypeId}{R:AV→Prop}{k:Box K}
section
variable {P:Program}{T:Nat→TI}{b₀:Bs}{rd:Option Nat}{Φ:St→Loc→List Deferred→World→Prop}{Ψ:fP}{B0:Nat}
theorem ap {B:(Exit→St→Prop)→St→Prop}{b:Box B}{Q:Exit→St→Prop}{q:Box Q} (I:Nat→St→Prop) (n:Nat) (h0:I n s)
  (hr:∀n f g ob,I n ⟨f,g,ob⟩→B (kh (bx fun s'=>∃n' s₁,n'<n∧(spF P rd b₀ Φ B0 Ψ).vs s' s₁∧I n' s₁) q) ⟨f,g,ob⟩):qT (spF P rd b₀ Φ B0 Ψ) b q s:=
 ⟨I,⟨n,s,ag.refl s,h0⟩,fun n s hs=>hr n s.f s.gen s.obj hs⟩
theorem ah {I:Nat→St→Prop}{n:Nat} (n':Nat) (h:n'<n) (hI:I n' s):∃n' s₁,n'<n∧(spF P rd b₀ Φ B0 Ψ).vs s s₁∧I n' s₁:=⟨n',s,h,ag.refl s,hI⟩
theorem aF (hΦ:aW b₀ Φ) (ho:o.op=.call ⟨.value (.func f),args,tys⟩)
  (hp:aR P f (args.toList.map s.ev) R) (hd:(args.toList.map s.ev).all fb=true) (hk:∀r,R r→K (s.put o.dst r)):bi (spF P rd b₀ Φ B0 Ψ) o s k:=
 vD hΦ (by simp[aJ,ho]) (te (B:=0) (k:=k) ho hp hd hk)
theorem kp (hΦ:aW b₀ Φ) (ho:o.op=.call ⟨.value (.func f),args,tys⟩) {R:AV→(Nat→Nat)→Obs→Prop}
  (hp:jb P f (args.toList.map s.ev) s.gen s.obj R) (hk:∀r g' ob',R r g' ob'→K (St.put ⟨s.f,g',ob'⟩ o.dst r)):bi (spF P rd b₀ Φ B0 Ψ) o s k:=
 vD hΦ (by simp[aJ,ho]) (bH (B:=0) (k:=k) ho hp hk)
theorem dQ{B:Nat}{t:Nat} (ho:o.op=.call ⟨.value (.tmp t),args,tys⟩) (hf:s.f t=.one (.d (.fn f)))
  (hp:aR P f (args.toList.map s.ev) R) (hd:(args.toList.map s.ev).all fb=true) (hk:∀r,R r→K (s.put o.dst r)):bi (spB P B) o s k:=by
 refine⟨fun s'=>∃r,R r∧s'=s.put o.dst r,?_,fun _ ⟨r,hr,e⟩=>e▸hk r hr⟩
 intro b₀ N β a w hr hdst next Q hn
 have hv:=hr.f t
 rw[hf] at hv
 simp only[ae,aw] at hv
 have hv:a.tmps.getD t undef=.func (.func f) #[] #[]:=by generalize a.tmps.getD t undef=v at hv;cases hv;rfl
 have hrun:(execOp a.eval o).run P w=.ok (.enter f (args.map a.eval)) w:=by
  obtain⟨fn,h1,h2,h3⟩:=hp.1
  have h2:¬fn.body=none:=by intro h;rw[h] at h2;simp at h2
  have h3:¬fn.name = "runtime.NumGoroutine":=by simpa using h3
  simp[execOp,ho,resolve,Act.eval,hv,Deferred.ofValue,invoke,callFunc,h1,h2,h3]
 unfold Oper.wp
 rw[hrun]
 simp only[Oper.upon]
 have hargs:∀l:List Operand,(l.map s.ev).all fb=true→RVs (Imm b₀ β s.obj w) w (l.map s.ev) (l.map a.eval):=by
  intro l
  induction l with
  |nil=>intro _;simp only[w7,RVs]
  |cons x l ih=>
    intro h
    simp only[l5,D7,l7] at h
    simp only[l5,RVs]
    exact⟨_,_,rfl,ae.data h.1 (hr.ev x),ih h.2⟩
 have:=hp.2 (Imm b₀ β s.obj w) w (args.toList.map a.eval) (fun _ h=>h.1) (hargs _ hd)
 rw[show (args.toList.map a.eval).toArray=args.map a.eval from G6 a7] at this
 refine this.mono fun e w' ⟨v,r,he,hR,hs,hh,hos,hv⟩=>?_
 subst he
 obtain⟨g1,g2⟩:=hr.grow hs hh hos
 refine hn _ β _ w' ⟨r,hR,rfl⟩ (g1.put hdst (RV.rep r (RV.mono (fun b hb=>⟨qG hr (fun _ h=>h) hb,rfl⟩) r hv))) (g2.trans (Tr.same (St.put_gen _ _ _) (St.put_obj _ _ _) rfl))
theorem oV (hΦ:aW b₀ Φ){t:Nat} (ho:o.op=.call ⟨.value (.tmp t),args,tys⟩) (hf:s.f t=.one (.d (.fn f)))
  (hp:aR P f (args.toList.map s.ev) R) (hd:(args.toList.map s.ev).all fb=true) (hk:∀r,R r→K (s.put o.dst r)):bi (spF P rd b₀ Φ B0 Ψ) o s k:=
 vD hΦ (by simp[aJ,ho]) (dQ (B:=0) (k:=k) ho hf hp hd hk)
end
section
variable {S:Sp}{T:Nat→TI}
end
end
end
section
open Go.ChangeShapes Go.WideShapes Go.ChangeAt Go.RowKit
section
variable {H:Type}{enc:TypeId×Value→H}
end
end
section
section
abbrev cN:=Nat→Option Obj
def qr (gb:Nat) (o:cN) (w:World):Prop:=gb<w.heap.size∧∀b,b≤gb→w.heap[b]? = o b
variable {o:cN}{f:FuncId}{s:St}{w:World}{R:AV→Prop}{Φ:St→Loc→List Deferred→World→Prop}{K:St→Prop}{gb gb':Nat}{P:Program}{args:List AV}{tys:Array TypeId}{k:Box K}
theorem qr.lt {gb:Nat} (h:qr gb o w):gb<w.heap.size:=h.1
theorem qr.down (hl:gb≤gb') (h:qr gb' o w):qr gb o w:=⟨E6 hl h.1,fun b hb=>h.2 b (B1 hb hl)⟩
def nR (b₀:Bs) (gb:Nat) (o:cN) (w:World):Prop:=(gb<b₀.B∧∀b,b≤gb→b₀.I b)∧qr gb o w
def bR (P:Program) (gb:Nat) (o:cN) (f:FuncId) (args:List AV) (R:AV→Prop):Prop:=
 Av P f∧∀(J:Nat→Prop) (w:World) (vs:List Value),qr gb o w→(∀b,J b→b<w.heap.size)→RVs J w args vs→
  Calls P f vs.toArray w fun e w'=>∃v r,e=.returned v∧R r∧w.heap.size≤w'.heap.size∧(∀b,b<w.heap.size→w'.heap[b]? = w.heap[b]?)∧(w'.os=w.os∧w'.output=w.output)∧RV (fun b=>b<w'.heap.size∧(b<w.heap.size→J b∨b≤gb)) w' r v
theorem aR.toG{gb:Nat} (h:aR P f args R):bR P gb o f args R:=
 ⟨h.1,fun J w vs _ h1 h2=>(h.2 J w vs h1 h2).mono fun _ _ ⟨v,r,q1,q2,q3,q4,q5,q6⟩=>⟨v,r,q1,q2,q3,q4,q5,RV.mono (fun _ hb=>⟨⟨hb.1,fun hl=>.inl (hb.2 hl)⟩,rfl⟩) r q6⟩⟩
def Ce (P:Program) (gb:Nat) (o:cN) (f:FuncId) (xs:List AV) (g:Nat→Nat) (ob:Obs) (R:AV→(Nat→Nat)→Obs→Prop):Prop:=
 Av P f∧∀(b₀:Bs) (N:Nat) (β:Loc) (a:Act) (fa:Nat→AV) (w:World) (vs:List Value),gb<b₀.B→nR b₀ gb o w→Rel b₀ N ⟨fa,g,ob⟩ β a w→aE b₀ β g ob w xs vs→
  Calls P f vs.toArray w fun e w'=>∃v r g' ob' β',e=.returned v∧R r g' ob'∧ae b₀ β' g' ob' w' r v∧
   (∀id cells,ob' id=some cells→cG b₀ β' g' ob' w' (g' id) cells (β' id))∧(∀id id' a a',(ob' id).isSome=true→(ob' id').isSome=true→β' id=some a→β' id'=some a'→a.block=a'.block→id=id')∧
   Tr b₀ β ⟨fa,g,ob⟩ w β' ⟨fa,g',ob'⟩ w'
def No (gb:Nat) (o:cN) (b₀:Bs) (β0:Loc) (s0:St) (w0:World):St→Loc→List Deferred→World→Prop:=fun s β ds w=>(gb<b₀.B∧nR b₀ gb o w)∧Nn b₀ β0 s0 w0 s β ds w
section
variable {P:Program}{T:Nat→TI}{b₀:Bs}{rd:Option Nat}{gb:Nat}{o:cN}{Ψ:fP}{B0:Nat}{β0:Loc}{s0:St}{w0:World}
theorem ab:aW b₀ (No gb o b₀ β0 s0 w0):=fun _ _ _ _ _ _ _ h ht=>⟨⟨h.1.1,h.1.2.1,F1 h.1.2.2.1 ht.size,fun b hb=>by rw[ht.old b (E6 hb h.1.1)];exact h.1.2.2.2 b hb⟩,Ag _ _ _ _ _ _ _ h.2 ht⟩
theorem rj {N:Nat}{β:Loc}{a:Act} (hr:Rel b₀ N s β a w) (hG:nR b₀ gb o w) {b:Nat} (hb:b≤gb):Imm b₀ β s.obj w b:=by
 refine⟨E6 hb hG.2.1,fun _=>hG.1.2 b hb,fun id a' ho hβ he=>?_⟩
 obtain⟨cells,hc⟩:=J6.1 ho
 have h:=hr.obj id cells hc
 rw[hβ] at h
 have h1:=h.block.1
 have h2:=hG.1.1
 omega
theorem am (hΦ:aW b₀ Φ) (hG:∀s β ds w,Φ s β ds w→nR b₀ gb o w) {op:Oper}{args:Array Operand} (ho:op.op=.call ⟨.value (.func f),args,tys⟩)
  (hp:bR P gb o f (args.toList.map s.ev) R) (hd:(args.toList.map s.ev).all fb=true) (hk:∀r,R r→K (s.put op.dst r)):bi (spF P rd b₀ Φ B0 Ψ) op s k:=by
 refine⟨fun s'=>∃r,R r∧s'=s.put op.dst r,?_,fun _ ⟨r,hr,e⟩=>e▸hk r hr⟩
 intro N β a ds w hr hφ hdst next Q hn _
 have hnd:aJ op=true:=by simp[aJ,ho]
 refine eY hnd ?_
 unfold Oper.wp
 rw[gz ho hp.1 w]
 simp only[Oper.upon]
 have hargs:∀l:List Operand,(l.map s.ev).all fb=true→RVs (Imm b₀ β s.obj w) w (l.map s.ev) (l.map a.eval):=by
  intro l
  induction l with
  |nil=>intro _;simp only[w7,RVs]
  |cons x l ih=>
    intro h
    simp only[l5,D7,l7] at h
    simp only[l5,RVs]
    exact⟨_,_,rfl,ae.data h.1 (hr.ev x),ih h.2⟩
 have:=hp.2 (Imm b₀ β s.obj w) w (args.toList.map a.eval) (hG _ _ _ _ hφ).2 (fun _ h=>h.1) (hargs _ hd)
 rw[show (args.toList.map a.eval).toArray=args.map a.eval from G6 a7] at this
 refine this.mono fun e w' ⟨v,r,he,hR,hs,hh,hos,hv⟩=>?_
 subst he
 obtain⟨g1,g2⟩:=hr.grow hs hh hos
 have g3:=g2.trans (Tr.same (St.put_gen s op.dst r) (St.put_obj s op.dst r) rfl)
 have h1:=g1.put hdst (RV.rep r (RV.mono (fun b hb=>⟨qG hr (J:=fun b=>Imm b₀ β s.obj w b∨b≤gb) (fun b h=>h.elim id (rj hr (hG _ _ _ _ hφ))) hb,rfl⟩) r hv))
 exact⟨h1.defers,hn _ β _ w' ⟨r,hR,rfl⟩ h1 (hΦ _ _ _ _ _ _ _ hφ g3)⟩
theorem oW (hΦ:aW b₀ Φ) (hG:∀s β ds w,Φ s β ds w→nR b₀ gb o w) (hT:aQ P T) {dst:Option Tmp}{t n e gi:Nat}{ix:Operand}{ty:TypeId}{ps:String}{af:Array Edge}{gd:Option (Nat×Bool)}
  (ht:(T t).desc=.array n e) (he:okD (T e).desc=true) (hgi:gi≤gb) {kd:IntKind}{i:Nat} (hix:s.ev ix=iv kd i) (hi:i<n) {cs:List D} (hcs:∀(j:Nat) (x:D),cs[j]? = some x→ju x=true)
  (hrow:∀w:World,qr gb o w→∀(j:Nat) (x:D),cs[j]? = some x→w.cell? ⟨gi,i*(T e).size+j,none⟩=some (dV x)) (hk:K (s.put dst (.one (.d (.iptr cs))))) :
  bi (spF P rd b₀ Φ B0 Ψ) ⟨dst,.indexAddr t (.global gi) ix,ty,ps,af,gd⟩ s k:=by
 refine⟨fun s'=>s'=s.put dst (.one (.d (.iptr cs))),fun N β a ds w hr hφ hd next Q hn _=>?_,fun _ e=>e▸hk⟩
 refine eY rfl ?_
 have hH:=hG _ _ _ _ hφ
 have hvi:=hr.ev ix
 rw[hix] at hvi
 simp only[ae,aw] at hvi
 have hvi:=hvi.inv_int
 have hu:=(hT t (by rw[ht];rfl)).desc
 rw[ht] at hu
 have hte:=hT e he
 have hex:(execOp a.eval ⟨dst,.indexAddr t (.global gi) ix,ty,ps,af,gd⟩).run P w=.ok (.value (.pointer (some ⟨gi,i*(T e).size,none⟩))) w:=by
  simp[execOp,hvi,show a.eval (.global gi)=.pointer (some ⟨gi,0,none⟩) from rfl,Instr.indexAt,asIntOf,run_underlying hu,hi,bg hte,df,Instr.sureAddr]
 have hr':=hr.put hd (x:=.one (.d (.iptr cs))) (v:=.pointer (some ⟨gi,i*(T e).size,none⟩)) (by
  simp only[ae,aw]
  refine .iptr (fun j=>dV (cs.getD j .nsl)) (fun _=>rj hr hH hgi) (fun j x hx=>?_) (fun j x hx=>?_)
  ·rw[hrow w hH.2 j x hx];simp[A8,hx]
  ·rw[show cs.getD j .nsl=x by simp[A8,hx]];exact bD.of_plain (hcs j x hx))
 exact eK hex ⟨hr'.defers,hn _ β _ w rfl hr' (hΦ _ _ _ _ _ _ _ hφ (Tr.same (St.put_gen _ _ _) (St.put_obj _ _ _) rfl))⟩
theorem Al (hΦ:aW b₀ Φ) (hG:∀s β ds w,Φ s β ds w→gb<b₀.B∧nR b₀ gb o w) {op:Oper}{args:Array Operand} (ho:op.op=.call ⟨.value (.func f),args,tys⟩) {R:AV→(Nat→Nat)→Obs→Prop}
  (hp:Ce P gb o f (args.toList.map s.ev) s.gen s.obj R) (hk:∀r g' ob',R r g' ob'→K (St.put ⟨s.f,g',ob'⟩ op.dst r)):bi (spF P rd b₀ Φ B0 Ψ) op s k:=by
 refine⟨fun s'=>∃r g' ob',R r g' ob'∧s'=St.put ⟨s.f,g',ob'⟩ op.dst r,?_,fun _ ⟨r,g',ob',hr,e⟩=>e▸hk r g' ob' hr⟩
 intro N β a ds w hr hφ hdst next Q hn _
 have hnd:aJ op=true:=by simp[aJ,ho]
 refine eY hnd ?_
 unfold Oper.wp
 rw[gz ho hp.1 w]
 simp only[Oper.upon]
 obtain⟨hg1,hg2⟩:=hG _ _ _ _ hφ
 have:=hp.2 b₀ N β a s.f w (args.toList.map a.eval) hg1 hg2 hr (gv hr _)
 rw[show (args.toList.map a.eval).toArray=args.map a.eval from G6 a7] at this
 refine this.mono fun e w' ⟨v,r,g',ob',β',he,hR,hv,h1,h2,h3⟩=>?_
 subst he
 obtain⟨k1,k2⟩:=fU hr hdst hv h1 h2 h3
 exact⟨k1.defers,hn _ β' _ w' ⟨r,g',ob',hR,rfl⟩ k1 (hΦ _ _ _ _ _ _ _ hφ k2)⟩
end
def Qj (gb:Nat) (o:cN) (b₀:Bs) (β0:Loc) (s0:St) (w0:World):St→Loc→List Deferred→World→Prop:=fun s β ds w=>(gb<b₀.B∧nR b₀ gb o w)∧ds=[]∧Tr b₀ β0 s0 w0 β s w
section
variable {P:Program}{T:Nat→TI}{gb:Nat}{o:cN}
theorem kq {b₀:Bs}{β0:Loc}{s0:St}{w0:World}:aW b₀ (Qj gb o b₀ β0 s0 w0):=fun _ _ _ _ _ _ _ h ht=>⟨⟨h.1.1,h.1.2.1,F1 h.1.2.2.1 ht.size,fun b hb=>by rw[ht.old b (E6 hb h.1.1)];exact h.1.2.2.2 b hb⟩,h.2.1,h.2.2.trans ht⟩
end
theorem bR.up (hl:gb≤gb') (h:bR P gb o f args R):bR P gb' o f args R:=
 ⟨h.1,fun J w vs hG h1 h2=>(h.2 J w vs (hG.down hl) h1 h2).mono fun _ _ ⟨v,r,q1,q2,q3,q4,q5,q6⟩=>⟨v,r,q1,q2,q3,q4,q5,RV.mono (fun _ hb=>⟨⟨hb.1,fun hw=>(hb.2 hw).imp id (fun h=>B1 h hl)⟩,rfl⟩) r q6⟩⟩
end
section
variable {a:Act}{c:Code}{s:St}{K:Act→Prop}{ds:List Deferred}{Q:Exit→Act→World→Prop}{k:List Item}{cs:List Frame}
section
variable {P:Program}{T:Nat→TI}{b₀:Bs}{w:World}{rd:Option Nat}{Φ:St→Loc→List Deferred→World→Prop}{Ψ:fP}{B:Nat}{ops:Array Oper}
theorem rk (ha:a.defers=[]) (d:Option Nat) (v:Value):(a.put d v).defers=[]:=by cases d <;> exact ha
theorem uA {o:Oper} (ha:a.defers=[]) (h:o.still P a w K):o.still P a w (fun a'=>a'.defers=[]∧K a'):=by
 unfold Oper.still at *
 generalize (execOp a.eval o).run P w=r at *
 cases r with
 |ok n w'=>
   cases n <;> simp only[Oper.stillUpon] at h ⊢
   case enter f args=>obtain⟨h1,v,hc,hn⟩:=h;exact⟨h1,v,hc,rk ha _ _,hn⟩
   all_goals exact⟨h.1,rk ha _ _,h.2⟩
 |halt x w'=>simp only[Oper.stillUpon] at h
theorem lW {i:Nat}{K':Act→World→Prop}{Q':Exit→Act→World→Prop} (ha:a.defers=[]) (hnd:ops.toList.all aJ=true) (h:∀a',a'.defers=[]→K a'→K' { a' with defers:=ds } w) (hh:stOp P ops w i K a) :
  wpOpIn (fen rd) 0 P ops Q' i K' { a with defers:=ds } w:=by
 unfold stOp at hh
 unfold wpOpIn
 cases ho:ops[i]? with
 |none=>simp only[ho] at hh ⊢;exact h _ ha hh
 |some o=>
   simp only[ho] at hh ⊢
   have hno:aJ o=true:=r0.1 hnd o (by
    obtain⟨hi,e⟩:=A7.1 ho
    rw[←e];exact F8 hi)
   by_cases hw:Region.wanted o (yielded ops a.tmps)=true
   ·rw[if_pos hw] at hh ⊢
    exact eY hno (Oper.wp_of_still (K':=fun a' w'=>a'.defers=[]∧K' { a' with defers:=ds } w') (fun a' hk=>⟨hk.1,h a' hk.1 hk.2⟩) (uA ha hh))
   ·rw[if_neg hw] at hh ⊢
    refine⟨fun _ _=>trivial,?_⟩
    rw[nj]
    exact h _ (rk ha _ _) hh
theorem lx {n g:Nat}{ds:List Deferred}{L:Array Bool→Act→Prop}{Q':Exit→Act→World→Prop} (hnd:ops.toList.all aJ=true) (hL:∀listed a,a.defers=[]→L listed a→wpAnyIn (fen rd) 0 P .any ops Q' g listed { a with defers:=ds } w) :
  ∀(f:Nat) (listed:Array Bool) (a:Act),a.defers=[]→wpAnyL P .any ops w n L f listed a→wpAnyIn (fen rd) 0 P .any ops Q' (f+g) listed { a with defers:=ds } w
 |0,listed,a,ha,h=>by rw[C2];exact hL _ _ ha h
 |f+1,listed,a,ha,h=>by
   rw[show f+1+g=(f+g)+1 by omega]
   exact⟨fun h0=>absurd h0 h.1,fun i hi=>lW ha hnd (fun a' ha' h'=>lx hnd hL f _ a' ha' h') (h.2 i hi).2⟩
theorem kr {ds:List Deferred}{Q:Act→Prop}{Q':Exit→Act→World→Prop} (hnd:ops.toList.all aJ=true) (hQ:∀a,a.defers=[]→Q a→Q' .normal { a with defers:=ds } w):∀(fuel:Nat) (listed:Array Bool) (a:Act),a.defers=[]→
  wpAnyS P .any ops w Q fuel listed a→wpAnyIn (fen rd) 0 P .any ops Q' fuel listed { a with defers:=ds } w
 |0,_,_,ha,h=>⟨h.1,hQ _ ha h.2⟩
 |fuel+1,_,_,ha,h=>⟨fun h0=>hQ _ ha (h.1 h0),fun i hi=>lW ha hnd (fun a' ha'=>kr hnd hQ fuel _ a' ha') (h.2 i hi)⟩
theorem lX {F:Fence}{n:Nat}{Q':Exit→Act→World→Prop}:∀(l:List Oper) (k:Nat) (listed:Array Bool) (a:Act) (w:World),(∀j,l[j]? = ops[k+j]?)→
  Region.seqB .any ops l.length k listed=true→wpListIn F n P ops Q' l a w→wpAnyIn F n P .any ops Q' l.length listed a w
 |[],_,_,_,_,_,hB,h=>⟨by simpa[Region.seqB] using hB,h⟩
 |o::l,k,listed,a,w,hl,hB,h=>by
   have h0:ops[k]? = some o:=by simpa using(hl 0).symm
   simp only[j6,Region.seqB,l7,z8] at hB
   refine⟨fun h1=>(by rw[hB.1] at h1;cases h1),fun i hi=>?_⟩
   rw[hB.1] at hi
   have hik:i=k:=by simpa using hi
   subst hik
   have hw:wpOpIn F n P ops Q' i (wpListIn F n P ops Q' l) a w:=by unfold wpOpIn;simp only[h0];exact h
   exact wpOpIn_mono (fun a' w' h'=>lX l (i+1) _ a' w' (fun j=>by have:=hl (j+1);simpa[B4,Nat.add_comm 1 j] using this) hB.2 h') hw
theorem Ao {o:Oper} (hp:dy T o.op=true){K:St→Prop}{k:Box K} (h:opA (spF P rd b₀ Φ B Ψ) T o s k):opA (spB P B) T o s k:=by
 obtain⟨dst,op,ty,ps,af,gd⟩:=o
 cases op with
 |slice t x lo hi mx=>cases mx <;> first|exact h|(simp[dy] at hp;done)
 |indexAddr t x ix=>cases x <;> first|(simp[dy] at hp;done)|exact h
 |makeFunc f=>cases f <;> first|exact h|(simp[dy] at hp;done)
 |call c=>
   obtain⟨callee,args,tys⟩:=c
   cases callee with
   |value f=>simp[dy] at hp
   |invoke r m=>simp[dy] at hp
   |builtin b=>cases b <;> first|exact h|(simp[dy] at hp;done)
 |_=>first|exact h|(simp[dy] at hp;done)
theorem eZ (hT:aQ P T) {N:Nat}{β:Loc}{Q:Act→Prop}{K:St→Prop}{k:Box K} (more:List Oper):∀(l:List Oper) {s:St}{a:Act},Rel b₀ N s β a w→eD N l=true→l.all (dy T ·.op)=true→wpO (spF P rd b₀ Φ B Ψ) T ops (l++more) s k→
  (∀s' a',wpO (spF P rd b₀ Φ B Ψ) T ops more s' k→Rel b₀ N s' β a' w→Tr b₀ β s w β s' w→Q a')→wpStill P ops w Q l a
 |[],s,a,hr,_,_,h,hQ=>hQ s a h hr Tr.refl
 |o::rest,s,a,hr,hds,hp,h,hQ=>by
   obtain⟨hd,hds'⟩:=iF hds
   simp only[D7,l7] at hp
   rw[A0] at h
   unfold wpO at h
   unfold wpStill
   have hop:∀{s0:St},Rel b₀ N s0 β a w→Tr b₀ β s w β s0 w→opA (spF P rd b₀ Φ B Ψ) T o s0 (bx fun s'=>wpO (spF P rd b₀ Φ B Ψ) T ops (rest++more) s' k)→o.still P a w (wpStill P ops w Q rest):=fun {s0} hr0 ht0 h0=>by
    obtain⟨y,cv,h1,h2,h3⟩:=nV hT hr0 hp.1 (Ao hp.1 h0)
    unfold Oper.still
    rw[h2 w .refl]
    refine⟨rfl,eZ hT more rest (hr0.put hd h3) hds' hp.2 h1 (fun s' a' k1 k2 k3=>hQ s' a' k1 k2 (ht0.trans (Tr.trans (Tr.same (St.put_gen _ _ _) (St.put_obj _ _ _) rfl) k3)))⟩
   cases hg:o.guard with
   |none=>
     rw[hg] at h
     simp only at h
     rw[if_pos (by simp[Region.wanted,hg])]
     exact hop hr Tr.refl h
   |some p=>
     obtain⟨j,want⟩:=p
     rw[hg] at h
     simp only at h
     obtain⟨d,hj,h⟩:=aI h
     unfold kG at h
     split at h
     ·rename_i b hb
      have hy:=hr.yielded hj hb
      have h:=il h
      have hr':=hr.reput hb
      by_cases hw:b=want
      ·rw[if_pos hw] at h
       rw[if_pos (by simp[Region.wanted,hg,hy,hw])]
       exact hop hr' (Tr.same rfl rfl rfl) h
      ·rw[if_neg hw] at h
       rw[if_neg (by simp[Region.wanted,hg,hy,hw])]
       have hp':=hr'.put hd (x:=uv) (v:=undef) ck
       exact eZ hT more rest hp' hds' hp.2 h (fun s2 a2 k1 k2 k3=>hQ _ _ k1 k2 (Tr.trans (Tr.same (by rw[St.put_gen]) (by rw[St.put_obj]) rfl) k3))
     ·rename_i hb
      have hy:=hr.yielded_u hj hb
      rw[if_neg (by simp[Region.wanted,hg,hy])]
      have hp':=hr.put hd (x:=uv) (v:=undef) ck
      exact eZ hT more rest hp' hds' hp.2 h (fun s2 a2 k1 k2 k3=>hQ _ _ k1 k2 (Tr.trans (Tr.same (by rw[St.put_gen]) (by rw[St.put_obj]) rfl) k3))
     ·exact h.elim
theorem np (hT:aQ P T) (hm:P.follows .mixedOrders=true) (hΦ:aW b₀ Φ) {N id:Nat}{β:Loc}{K:St→Prop}{k:Box K} (hr:Rel b₀ N s β a w) (hφ:Φ s β ds w) (hnd:ops.toList.all aJ=true) (hd:eD N ops.toList=true) (hok:lL T ops=true)
  (h:wpO (spF P rd b₀ Φ B Ψ) T ops ops.toList s k) (hQ:∀s' β' a' w',K s'→Rel b₀ N s' β' a' w'→Φ s' β' ds w'→Q .normal { a' with defers:=ds } w') (hX:∀ch s' β' a' w',Ψ ch s'→Rel b₀ N s' β' a' w'→Φ s' β' ds w'→Q (.panic ch) { a' with defers:=ds } w'):(Code.region id ops true).wpIn (fen rd) 0 P Q { a with defers:=ds } w:=by
 have hr1:Rel b₀ N s β a { w with drawn:=w.drawn+1 }:=hr.of_heap rfl
 have hφ1:Φ s β ds { w with drawn:=w.drawn+1 }:=hΦ _ _ _ _ _ _ _ hφ (Tr.same rfl rfl rfl)
 simp only[lL,C3,l7,O2] at hok
 refine wpIn_region_any hm ?_
 rcases hok with⟨hp,hB⟩|⟨m,_,hp,hB⟩
 ·simp only[Region.lexB,l7] at hB
  refine kr (Q:=fun a'=>a'.defers=[]→Q .normal { a' with defers:=ds } { w with drawn:=w.drawn+1 }) hnd (fun a' ha h=>h ha) _ _ _ hr.defers ?_
  have hst:wpStill P ops { w with drawn:=w.drawn+1 } (fun a'=>a'.defers=[]→Q .normal { a' with defers:=ds } { w with drawn:=w.drawn+1 }) ops.toList a:=
   eZ hT [] ops.toList hr1 hd hp (by rw[l9];exact h) (fun s' a' k1 k2 k3 _=>hQ _ _ _ _ k1 k2 (hΦ _ _ _ _ _ _ _ hφ1 k3))
  have:=wpAnyS_lex (md:=.any) hB.1 ops.toList 0 (Array.replicate ops.size false) a a7 (by simpa using hB.2) hst
  simpa using this
 ·obtain⟨l,rfl⟩:∃l:List Oper,ops=l.toArray:=⟨ops.toList,a7⟩
  generalize hn0:l.toArray.size-m=n at hp hB
  simp only[Region.lexTailB,l7,z8] at hB
  obtain⟨⟨⟨⟨hsel,hn⟩,hs⟩,hc⟩,hlex⟩:=hB
  have hn':n<l.length:=by simpa using hn
  have htl:(l.take n).length=n:=by simp;omega
  have hdl:(l.drop n).length=l.toArray.size-n:=a7
  have inv0:HeadInv .any l.toArray n (Array.replicate l.toArray.size false):=
   ⟨a7,fun j oj _ hl=>(by rw[getD_replicate_false] at hl;cases hl),fun t _ ht=>getD_in (by simpa using ht) (getD_replicate_false _ _)⟩
  obtain⟨d1,d2⟩:=pY hd n
  have hnd2:(l.drop n).all aJ=true:=r0.2 fun o ho=>r0.1 hnd o (by simpa using M1 ho)
  have hst:wpStill P l.toArray { w with drawn:=w.drawn+1 } (fun a'=>a'.defers=[]→wpListIn (fen rd) 0 P l.toArray Q (l.drop n) { a' with defers:=ds } { w with drawn:=w.drawn+1 }) (l.take n) a:=by
   refine eZ hT (l.drop n) (l.take n) hr1 d1 hp (by rw[G1];simpa using h) (fun s' a' k1 k2 k3 _=>?_)
   exact ik hT hΦ (l.drop n) k2 (hΦ _ _ _ _ _ _ _ hφ1 k3) hnd2 d2 k1 hQ hX
  have H:=wpAnyL_lex (md:=.any) (g:=l.toArray.size-n) hsel hs hc hn (l.take n) 0 _ a (fun j hj=>by
   have hj':j<n:=by rw[htl] at hj;exact hj
   simp[hj']) (by simpa using htl) inv0 (by rw[htl];exact hlex) hst
  have:=lx (Q':=Q) (ds:=ds) (rd:=rd) (g:=l.toArray.size-n) hnd (fun listed a' ha hL=>by
   have:=lX (Q':=Q) (F:=fen rd) (n:=0) (l.drop n) n listed { a' with defers:=ds } { w with drawn:=w.drawn+1 } (fun j=>by simp[F9]) (by rw[hdl];exact hL.1) (hL.2 ha)
   rwa [hdl] at this) _ _ _ hr.defers H
  rw[htl,show n+(l.toArray.size-n)=l.toArray.size by omega] at this
  exact this
theorem fW {P:Program}{b:Frame}{w:World}:step P (lone (b.atR a (.code (.scope c)::k)) cs w)=.next (lone (b.atR a (.code c::.inScope c::k)) cs w):=
 step_lone_go (by simp[stepG,stepG.exec,Frame.atR])
theorem sK {P:Program}{b:Frame}{w:World}:step P (lone (b.atR a (.inScope c::k)) cs w)=.next (lone (b.atR a k) cs w):=
 step_lone_go (by simp[stepG,stepG.exec,Frame.atR])
theorem xE {F:Fence}{n:Nat}{P:Program}{w:World} (h:c.wpIn F n P (Exit.noGoto Q) a w):(Code.scope c).wpIn F n P Q a w:=by
 intro b k cs hro hb hr
 have h0:(lone (b.atR a (.code (.scope c)::k)) cs w).fenced P F:=fenced_calm hb hr rfl
 obtain⟨e,a₁,w₁,hq,harr⟩:=h b (.inScope c::k) cs hro hb hr
 cases e with
 |normal=>exact⟨.normal,a₁,w₁,hq,.head h0 fW (StepsIn.trans harr (.one (fenced_calm hb hr rfl) sK))⟩
 |exit id'=>
   have hx:exitTo id' (.inScope c::k)=exitTo id' k:=by simp[exitTo]
   exact⟨.exit id',a₁,w₁,hq,fun k' hk=>.head h0 fW (harr.1 k' (by rw[hx];exact hk)),
    fun hr' hk=>let ⟨k₁,h1,h2⟩:=harr.2 hr' (by rw[hx];exact hk);⟨k₁,h1,.head h0 fW h2⟩⟩
 |goto l=>exact hq.elim
 |ret=>exact⟨_,a₁,w₁,hq,.of_steps (.one h0 fW) harr⟩
 |panic ch=>exact⟨_,a₁,w₁,hq,.of_steps (.one h0 fW) harr⟩
 |outgrown=>exact⟨_,a₁,w₁,hq,.of_steps (.one h0 fW) harr⟩
def gy:Code→Bool
 |.region _ ops _=>ops.toList.all aJ
 |.seq x y=>gy x&&gy y
 |.cond _ x y=>gy x&&gy y
 |.block _ c=>gy c
 |.loop c=>gy c
 |.scope c=>gy c
 |_=>true
theorem bN (hT:aQ P T) (hm:P.follows .mixedOrders=true) (hΦ:aW b₀ Φ) {N:Nat}:∀(c:Code) {Q:Exit→St→Prop}{q:Box Q}{s:St}{β:Loc}{a:Act}{ds:List Deferred}{w:World},gy c=true→codeOk N c=true→Rel b₀ N s β a w→Φ s β ds w→wpC (spF P rd b₀ Φ B Ψ) T c q s→c.wpIn (fen rd) 0 P (yX b₀ N Φ Ψ Q) { a with defers:=ds } w
 |.skip,_,_,s,β,a,ds,_,_,_,hr,hφ,h=>wpIn_skip ⟨s,β,a,ds,rfl,.inl h,hr,hφ⟩
 |.label _,_,_,s,β,a,ds,_,_,_,hr,hφ,h=>wpIn_label ⟨s,β,a,ds,rfl,.inl h,hr,hφ⟩
 |.exit _,_,_,s,β,a,ds,_,_,_,hr,hφ,h=>wpIn_exit ⟨s,β,a,ds,rfl,.inl h,hr,hφ⟩
 |.goto _,_,_,s,β,a,ds,_,_,_,hr,hφ,h=>wpIn_goto ⟨s,β,a,ds,rfl,.inl h,hr,hφ⟩
 |.ret,_,_,s,β,a,ds,_,_,_,hr,hφ,h=>wpIn_ret ⟨s,β,a,ds,rfl,.inl h,hr,hφ⟩
 |.region id ops b,Q,q,s,β,a,ds,w,hcm,hc,hr,hφ,h=>by
   simp only[gy] at hcm
   cases b with
   |false=>
     have h:wpO (spF P rd b₀ Φ B Ψ) T ops ops.toList s (bx fun s'=>Q .normal s'):=h
     exact wpIn_region_list (ik hT hΦ ops.toList hr hφ hcm hc h (fun s' β' a' w' h1 h2 h3=>⟨s',β',a',ds,rfl,.inl h1,h2,h3⟩) (fun ch s' β' a' w' h1 h2 h3=>⟨s',β',a',ds,rfl,.inr ⟨ch,rfl,h1⟩,h2,h3⟩))
   |true=>
     rcases h with⟨hok,h⟩|⟨R,hR,hK⟩
     ·exact np hT hm hΦ hr hφ hcm hc hok h (fun s' β' a' w' h1 h2 h3=>⟨s',β',a',ds,rfl,.inl h1,h2,h3⟩) (fun ch s' β' a' w' h1 h2 h3=>⟨s',β',a',ds,rfl,.inr ⟨ch,rfl,h1⟩,h2,h3⟩)
     ·exact wpIn_mono (hR N β a ds w hc hr hφ) (fun e a' w' ⟨s',β',a0,ds',h0,h1,h2,h3⟩=>⟨s',β',a0,ds',h0,h1.imp (hK _ _) (fun h=>h),h2,h3⟩)
 |.seq x y,Q,q,s,β,a,ds,w,hcm,hc,hr,hφ,h=>by
   simp only[codeOk,l7] at hc
   simp only[gy,l7] at hcm
   have h:wpC (spF P rd b₀ Φ B Ψ) T x (bx (kh (bx fun s'=>wpC (spF P rd b₀ Φ B Ψ) T y q s') q)) s:=h
   refine wpIn_seq (wpIn_mono (bN hT hm hΦ x hcm.1 hc.1 hr hφ h) (fun e a' w' hp=>?_))
   obtain⟨s',β',a0,ds',rfl,h1,h2,h3⟩:=hp
   rcases h1 with h1|⟨ch,rfl,h1⟩
   ·cases e with
    |normal=>exact bN hT hm hΦ y hcm.2 hc.2 h2 h3 h1
    |_=>exact⟨s',β',a0,ds',rfl,.inl h1,h2,h3⟩
   ·exact⟨s',β',a0,ds',rfl,.inr ⟨ch,rfl,h1⟩,h2,h3⟩
 |.cond c x y,Q,q,s,β,a,ds,w,hcm,hc,hr,hφ,h=>by
   simp only[codeOk,l7] at hc
   simp only[gy,l7] at hcm
   obtain⟨b,hb,h⟩:=nk h (hr.ev c)
   refine wpIn_cond (t:=b) hb ?_
   cases b
   ·exact bN hT hm hΦ y hcm.2 hc.2 hr hφ h
   ·exact bN hT hm hΦ x hcm.1 hc.1 hr hφ h
 |.block id c,Q,q,s,β,a,ds,w,hcm,hc,hr,hφ,h=>by
   have h:wpC (spF P rd b₀ Φ B Ψ) T c (bx (gu id q)) s:=h
   refine wpIn_block (wpIn_mono (bN hT hm hΦ c hcm hc hr hφ h) (fun e a' w' hp=>?_))
   obtain⟨s',β',a0,ds',rfl,h1,h2,h3⟩:=hp
   rcases h1 with h1|⟨ch,rfl,h1⟩
   ·cases e with
    |exit i=>
      simp only[Exit.inBlock,gu] at h1 ⊢
      split at h1
      ·rename_i he;rw[if_pos he];exact⟨s',β',a0,ds',rfl,.inl h1,h2,h3⟩
      ·rename_i he;rw[if_neg he];exact⟨s',β',a0,ds',rfl,.inl h1,h2,h3⟩
    |_=>exact⟨s',β',a0,ds',rfl,.inl h1,h2,h3⟩
   ·exact⟨s',β',a0,ds',rfl,.inr ⟨ch,rfl,h1⟩,h2,h3⟩
 |.scope c,Q,q,s,β,a,ds,w,hcm,hc,hr,hφ,h=>by
   have h:wpC (spF P rd b₀ Φ B Ψ) T c (bx (nH q)) s:=h
   refine xE (wpIn_mono (bN hT hm hΦ c hcm hc hr hφ h) (fun e a' w' hp=>?_))
   obtain⟨s',β',a0,ds',rfl,h1,h2,h3⟩:=hp
   rcases h1 with h1|⟨ch,rfl,h1⟩
   ·cases e with
    |goto l=>exact h1.elim
    |_=>exact⟨s',β',a0,ds',rfl,.inl h1,h2,h3⟩
   ·exact⟨s',β',a0,ds',rfl,.inr ⟨ch,rfl,h1⟩,h2,h3⟩
 |.loop c,Q,q,s,β,a,ds,w,hcm,hc,hr,hφ,h=>by
   obtain⟨I,⟨n,s₁,hvs,h0⟩,hround⟩:=h
   obtain⟨β₁,hr1,ht1⟩:=hvs b₀ N β a w hr
   refine qn (fun n a' w'=>∃s' β' a0 ds',a' = { a0 with defers:=ds' }∧I n s'∧Rel b₀ N s' β' a0 w'∧Φ s' β' ds' w') n ⟨s₁,β₁,a,ds,rfl,h0,hr1,hΦ _ _ _ _ _ _ _ hφ ht1⟩ ?_
   rintro n a' w' ⟨s',β',a0,ds',rfl,h1,h2,h3⟩
   refine wpIn_mono (bN hT hm hΦ c hcm hc h2 h3 (hround n s' h1)) (fun e a2 w2 hp=>?_)
   obtain⟨s2,β2,a02,ds2,rfl,k1,k2,k3⟩:=hp
   rcases k1 with k1|⟨ch,rfl,k1⟩
   ·cases e with
    |normal=>
      obtain⟨n',s3,hlt,hvs',hI⟩:=k1
      obtain⟨β3,hr3,ht3⟩:=hvs' b₀ N β2 a02 w2 k2
      exact⟨n',hlt,s3,β3,a02,ds2,rfl,hI,hr3,hΦ _ _ _ _ _ _ _ k3 ht3⟩
    |_=>exact⟨s2,β2,a02,ds2,rfl,.inl k1,k2,k3⟩
   ·exact⟨s2,β2,a02,ds2,rfl,.inr ⟨ch,rfl,k1⟩,k2,k3⟩
 |.rangeFunc f ps x y,Q,q,s,β,a,ds,w,hcm,hc,hr,hφ,h=>by
   obtain⟨R,hR,hK⟩:=h
   exact wpIn_mono (hR N β a ds w hc hr hφ) (fun e a' w' ⟨s',β',a0,ds',h0,h1,h2,h3⟩=>⟨s',β',a0,ds',h0,h1.imp (hK _ _) (fun h=>h),h2,h3⟩)
 |.refuse y,Q,q,s,β,a,ds,w,hcm,hc,hr,hφ,h=>by
   obtain⟨R,hR,hK⟩:=h
   exact wpIn_mono (hR N β a ds w hc hr hφ) (fun e a' w' ⟨s',β',a0,ds',h0,h1,h2,h3⟩=>⟨s',β',a0,ds',h0,h1.imp (hK _ _) (fun h=>h),h2,h3⟩)
theorem aU {B0:Nat}{id:Nat}{ops:Array Oper}{Q:Exit→St→Prop}{q:Box Q} (hok:lL T ops=true) (h:wpO (spF P rd b₀ Φ B0 Ψ) T ops ops.toList s (bx fun s'=>Q .normal s')):js (spF P rd b₀ Φ B0 Ψ) T id ops s q:=.inl ⟨hok,h⟩
end
section
variable {P:Program}{T:Nat→TI}{gb:Nat}{o:cN}
theorem ax (B gb:Nat) (o:cN) (hT:aQ P T) (hm:P.follows .mixedOrders=true) {f:FuncId}{fn:Func} (hf:P.funcs[f]? = some fn) (hb:fn.body=some c) (hn:(fn.name == "runtime.NumGoroutine")=false)
  (rs:List ResultVar) (hres:fn.results=rs.toArray) (hcm:gy c=true) (hok:codeOk fn.ntmps c=true) {args:List AV} (hargs:args.length≤fn.ntmps) {R:AV→Prop}
  (h:∀b₀ β0 s0 w0 g,wpC (spF P none b₀ (No gb o b₀ β0 s0 w0) B qZ) T c (bx (vC T rs R)) ⟨dC args,g,fun _=>none⟩):bR P gb o f args R:=by
 refine⟨⟨fn,hf,by rw[hb];rfl,hn⟩,fun J w vs hheld hJ hv=>?_⟩
 refine jd (n:=0) (callsIn_of_wp_marks hf hb trivial ?_)
 have hlen:∀(l:List AV) (vs:List Value),RVs J w l vs→vs.length=l.length:=by
  intro l
  induction l with
  |nil=>intro vs h;simp only[RVs] at h;subst h;rfl
  |cons x l ih=>intro vs h;simp only[RVs] at h;obtain⟨u,us,rfl,_,h⟩:=h;simp[ih us h]
 have hl:=hlen _ _ hv
 let J':Nat→Prop:=fun b=>J b∨b≤gb
 have hr:Rel ⟨w.heap.size,J'⟩ fn.ntmps ⟨dC args,fun _=>0,fun _=>none⟩ (fun _=>none) { tmps:=vs.toArray++Array.replicate (fn.ntmps-vs.toArray.size) undef,defers:=[]} w:=by
  refine⟨rfl,by simp;omega,fun i=>?_,fun id cells ho=>(by cases ho),fun id id' a a' ho=>(by cases ho),j9 _⟩
  have hget:∀(l:List AV) (vs:List Value),RVs J w l vs→∀(i:Nat) (x:AV),l[i]? = some x→∃v,vs[i]? = some v∧RV J w x v:=by
   intro l
   induction l with
   |nil=>intro vs _ i x h;simp at h
   |cons y l ih=>
     intro vs h i x hx
     simp only[RVs] at h
     obtain⟨u,us,rfl,h1,h2⟩:=h
     cases i with
     |zero=>simp at hx;subst hx;exact⟨u,rfl,h1⟩
     |succ i=>simpa using ih us h2 i x (by simpa using hx)
  simp only[dC]
  cases hx:args[i]? with
  |some x=>
    obtain⟨v,h1,h2⟩:=hget _ _ hv i x hx
    have hlt:i<vs.length:=(l0.1 h1).1
    have:(vs.toArray++Array.replicate (fn.ntmps-vs.toArray.size) undef).getD i undef=v:=by
     rw[v7,E0 (by simpa using hlt)]
     simp[h1]
    rw[this]
    simp only[x8]
    exact RV.rep x (RV.mono (fun b hb=>⟨⟨hJ b hb,fun _=>.inl hb,fun id a ho=>by cases ho⟩,rfl⟩) x h2)
  |none=>
    have hge:args.length≤i:=by simpa using hx
    have:(vs.toArray++Array.replicate (fn.ntmps-vs.toArray.size) undef).getD i undef=undef:=by
     rw[v7,G0 (by simp;omega)]
     simp[C1]
     split <;> rfl
    rw[this]
    exact ck
 refine wpIn_mono (bN (rd:=none) (B:=B) (ds:=[]) hT hm ab c hcm hok hr ⟨⟨hheld.lt,⟨hheld.lt,fun b hb=>.inr hb⟩,hheld⟩,Tr.refl,trivial⟩ (h _ _ _ w _)) (fun e a' w' hp=>?_)
 obtain⟨s',β',a0,ds',rfl,hQ,hr',_,ht,hmk⟩:=hp.plain
 have hres':vC T rs R .ret s'→bodyPostM (fen none) 0 P fn (fun e w'=>∃v r,e=.returned v∧R r∧w.heap.size≤w'.heap.size∧(∀b,b<w.heap.size→w'.heap[b]? = w.heap[b]?)∧(w'.os=w.os∧w'.output=w.output)∧RV (Own ⟨w.heap.size,J'⟩ w') w' r v) .ret { a0 with defers:=ds' } w':=by
  intro hQ
  refine nQ hmk (fun w5 h5=>?_)
  obtain⟨v,avs,h1,⟨r,h2,h3⟩,_,vs',rfl,h4⟩:=dt hT (hr'.shut h5) hres hQ
  refine⟨_,h1,_,r,rfl,h3,by rw[h5.size];exact ht.size,fun b hb=>?_,⟨h5.os.1.trans ht.os.1,h5.os.2.trans ht.os.2⟩,h2.rep (hr'.shut h5) h4⟩
  rcases h5.same b with e|⟨e,_⟩
  ·rw[e];exact ht.old b hb
  ·omega
 cases e with
 |normal=>exact hres' hQ
 |ret=>exact hres' hQ
 |exit id=>exact hQ.elim
 |goto l=>exact hQ.elim
 |panic ch=>exact hQ.elim
 |outgrown=>exact hQ.elim
theorem Ce.mono {f:FuncId}{xs:List AV}{g:Nat→Nat}{ob:Obs}{R R':AV→(Nat→Nat)→Obs→Prop} (h:Ce P gb o f xs g ob R) (hr:∀r g' ob',R r g' ob'→R' r g' ob'):Ce P gb o f xs g ob R':=
 ⟨h.1,fun b₀ N β a fa w vs h0 h0' h1 h2=>(h.2 b₀ N β a fa w vs h0 h0' h1 h2).mono fun _ _ ⟨v,r,g',ob',β',q1,q2,q3⟩=>⟨v,r,g',ob',β',q1,hr _ _ _ q2,q3⟩⟩
end
end
section
def dOf:Value→D
 |.bool b=>.bool b
 |.int k n=>.int k n
 |.string s=>.str s.data.toList
 |.slice none 0 0=>.nsl
 |.pointer none=>.nilp
 |.nilFunc=>.nilf
 |.nilIface=>.nili
 |.map none=>.nilm
 |_=>.sl []
theorem Cr {v:Value} (h:ju (dOf v)=true):dV (dOf v)=v:=by
 unfold dOf at h ⊢
 split at h <;> first|(cases h;done)|rfl
def nX:Value→Bool
 |.agg _=>false
 |_=>true
theorem dVs:∀{l:List Value},(l.map dOf).all ju=true→l=(l.map dOf).map dV
 |[],_=>rfl
 |v::l,h=>by
   simp only[l5,D7,l7] at h
   rw[l5,l5,Cr h.1,←dVs h.2]
def Jy (P:Program) (t:Nat):Option TI:=
 match P.underlying t,P.info? t with
 |some d,some i=>match i.zero with
   |some z=>
     let zs:=z.cells.toList.map dOf
     bif zs.all ju && zs.length == i.size && (cL d || nX z) then some ⟨d,i.size,i.bytes,zs⟩ else none
   |none=>none
 |_,_=>none
variable {P:Program}
theorem FJ{t:Nat}{ti:TI} (h:Jy P t=some ti):qp P t ti:=by
 unfold Jy at h
 split at h
 ·next d i hd hi=>
  split at h
  ·next z hz=>
   simp only[cond_eq_ite] at h
   split at h
   ·next hc=>
    cases h
    simp only[l7,C3,E9] at hc
    obtain⟨⟨h1,h2⟩,h3⟩:=hc
    refine FB (z:=z) hd (by rw[hi];simp[hz]) (dVs h1) h1 h2 (h3.imp id fun ho=>?_)
    have hz1:z.cells.toList=[z]:=by cases z <;> first|rfl|cases ho
    rw[hz1] at h1 ⊢
    simp only[l5,w7,D7,List.all_nil,H8] at h1
    exact(Cr h1).symm
   ·cases h
  ·cases h
 ·cases h
theorem Ax{l:List (Nat×TI)} (h:(l.map fun p=>Jy P p.1)=l.map fun p=>some p.2):aQ P (yY l):=
 sI fun p hp=>FJ (by
  have:=List.map_inj_left.1 h p hp
  exact this)
end
end
end Go.Am
namespace Go.Proofs.YtbojbioflppbdaaGreatDoor
section
attribute [local congr] Go.Am.ite_cc
open Go Go.Am
def ti3:TI:=⟨.int .i64,1,8,[.int .i64 0]⟩
def ti4:TI:=⟨.bool,1,1,[.bool false]⟩
def ti5:TI:=⟨.int .u8,1,1,[.int .u8 0]⟩
def ti9:TI:=⟨.string,1,16,[.str []]⟩
def Nz:TI:=⟨.interface #[],1,16,[.nili]⟩
def JJ:TI:=⟨.slice 9,1,24,[.nsl]⟩
def JK:TI:=⟨.slice 102,1,24,[.nsl]⟩
def JL:TI:=⟨.slice 50,1,24,[.nsl]⟩
def FS:TI:=⟨.struct #[⟨ "Vars",23,0,false,"","",0⟩,⟨ "Arrays",24,1,false,"","",24⟩,⟨ "Funcs",25,2,false,"","",48⟩],3,72,[.nsl,.nsl,.nsl]⟩
def JM:TI:=⟨.slice 41,1,24,[.nsl]⟩
def FT:TI:=⟨.struct #[⟨ "Code",31,0,false,"","",0⟩,⟨ "Data",3,1,false,"","",24⟩],2,32,[.nsl,.int .i64 0]⟩
def NA:TI:=⟨.func #[27] #[33,28] false,1,8,[.nilf]⟩
def FU:TI:=⟨.struct #[⟨ "End",3,0,false,"","",0⟩,⟨ "Out",9,1,false,"","",8⟩,⟨ "Steps",3,2,false,"","",24⟩],3,32,[.int .i64 0,.str [],.int .i64 0]⟩
def FV:TI:=⟨.int .u32,1,4,[.int .u32 0]⟩
def JN:TI:=⟨.slice 44,1,24,[.nsl]⟩
def CG:TI:=⟨.struct #[⟨ "Kind",3,0,false,"","",0⟩,⟨ "Op",3,1,false,"","",8⟩,⟨ "Num",41,2,false,"","",16⟩,⟨ "Name",9,3,false,"","",24⟩,⟨ "Kids",42,4,false,"","",40⟩],5,64,[.int .i64 0,.int .i64 0,.int .u32 0,.str [],.nsl]⟩
def JO:TI:=⟨.slice 48,1,24,[.nsl]⟩
def CH:TI:=⟨.struct #[⟨ "Kind",3,0,false,"","",0⟩,⟨ "Name",9,1,false,"","",8⟩,⟨ "E",42,2,false,"","",24⟩,⟨ "Then",46,3,false,"","",48⟩,⟨ "Else",46,4,false,"","",72⟩],5,96,[.int .i64 0,.str [],.nsl,.nsl,.nsl]⟩
def CI:TI:=⟨.struct #[⟨ "Name",9,0,false,"","",0⟩,⟨ "Params",23,1,false,"","",16⟩,⟨ "Locals",23,2,false,"","",40⟩,⟨ "Word",4,3,false,"","",64⟩,⟨ "Body",46,4,false,"","",72⟩],5,96,[.str [],.nsl,.nsl,.bool false,.nsl]⟩
def NB:TI:=⟨.pointer 95,1,8,[.nilp]⟩
def NC:TI:=⟨.func #[60] #[] false,1,8,[.nilf]⟩
def JP:TI:=⟨.slice 117,1,24,[.nsl]⟩
def FW:TI:=⟨.struct #[⟨ "Words",3,0,false,"","",0⟩,⟨ "Funcs",64,1,false,"","",8⟩],2,32,[.int .i64 0,.nsl]⟩
def JQ:TI:=⟨.slice 135,1,24,[.nsl]⟩
def FX:TI:=⟨.struct #[⟨ "Words",3,0,false,"","",0⟩,⟨ "Funcs",71,1,false,"","",8⟩],2,32,[.int .i64 0,.nsl]⟩
def ND:TI:=⟨.func #[66] #[33,28] false,1,8,[.nilf]⟩
def JR:TI:=⟨.array 16 41,16,64,[.int .u32 0,.int .u32 0,.int .u32 0,.int .u32 0,.int .u32 0,.int .u32 0,.int .u32 0,.int .u32 0,.int .u32 0,.int .u32 0,.int .u32 0,.int .u32 0,.int .u32 0,.int .u32 0,.int .u32 0,.int .u32 0]⟩
def FY:TI:=⟨.struct #[⟨ "PC",3,0,false,"","",0⟩,⟨ "Reg",76,1,false,"","",8⟩,⟨ "Mem",31,17,false,"","",72⟩,⟨ "Read",3,18,false,"","",96⟩,⟨ "Out",9,19,false,"","",104⟩,⟨ "Steps",3,20,false,"","",120⟩,⟨ "End",3,21,false,"","",128⟩],22,136,[.int .i64 0,.int .u32 0,.int .u32 0,.int .u32 0,.int .u32 0,.int .u32 0,.int .u32 0,.int .u32 0,.int .u32 0,.int .u32 0,.int .u32 0,.int .u32 0,.int .u32 0,.int .u32 0,.int .u32 0,.int .u32 0,.int .u32 0,.nsl,.int .i64 0,.str [],.int .i64 0,.int .i64 0]⟩
def JS:TI:=⟨.slice 5,1,24,[.nsl]⟩
def NE:TI:=⟨.func #[33] #[9,28] false,1,8,[.nilf]⟩
def JT:TI:=⟨.slice 98,1,24,[.nsl]⟩
def FZ:TI:=⟨.struct #[⟨ "at",3,0,false,"","seedcorn/parse",0⟩],1,8,[.int .i64 0]⟩
def Ga:TI:=⟨.struct #[⟨ "tokens",89,0,false,"","seedcorn/parse",0⟩,⟨ "next",3,1,false,"","seedcorn/parse",24⟩,⟨ "end",3,2,false,"","seedcorn/parse",32⟩],3,40,[.nsl,.int .i64 0,.int .i64 0]⟩
def CJ:TI:=⟨.struct #[⟨ "Kind",3,0,false,"","",0⟩,⟨ "Text",9,1,false,"","",8⟩,⟨ "Num",41,2,false,"","",24⟩,⟨ "At",3,3,false,"","",32⟩],4,40,[.int .i64 0,.str [],.int .u32 0,.int .i64 0]⟩
def vY:TI:=⟨.struct #[⟨ "Name",9,0,false,"","",0⟩,⟨ "Size",3,1,false,"","",16⟩],2,24,[.str [],.int .i64 0]⟩
def CK:TI:=⟨.map 9 113,1,8,[.nilm]⟩
def ze:TI:=⟨.struct #[⟨ "outside",107,0,false,"","seedcorn/core",0⟩,⟨ "inside",107,1,false,"","seedcorn/core",8⟩],2,16,[.nilm,.nilm]⟩
def zf:TI:=⟨.struct #[⟨ "slot",3,0,false,"","seedcorn/core",0⟩,⟨ "size",3,1,false,"","seedcorn/core",8⟩],2,16,[.int .i64 0,.int .i64 0]⟩
def CL:TI:=⟨.slice 153,1,24,[.nsl]⟩
def vZ:TI:=⟨.struct #[⟨ "Params",3,0,false,"","",0⟩,⟨ "Slots",3,1,false,"","",8⟩,⟨ "First",3,2,false,"","",16⟩,⟨ "Word",4,3,false,"","",24⟩,⟨ "Body",114,4,false,"","",32⟩],5,56,[.int .i64 0,.int .i64 0,.int .i64 0,.bool false,.nsl]⟩
def CM:TI:=⟨.slice 119,1,24,[.nsl]⟩
def zg:TI:=⟨.slice 3,1,24,[.nsl]⟩
def zi:TI:=⟨.struct #[⟨ "depths",118,0,false,"","seedcorn/emit",0⟩,⟨ "back",119,1,false,"","seedcorn/emit",24⟩,⟨ "base",119,2,false,"","seedcorn/emit",48⟩,⟨ "data",3,3,false,"","seedcorn/emit",72⟩],4,80,[.nsl,.nsl,.nsl,.int .i64 0]⟩
def It:TI:=⟨.pointer 127,1,8,[.nilp]⟩
def CN:TI:=⟨.slice 130,1,24,[.nsl]⟩
def CO:TI:=⟨.slice 161,1,24,[.nsl]⟩
def zj:TI:=⟨.struct #[⟨ "s",73,0,false,"","seedcorn/emit",0⟩,⟨ "plan",121,2,false,"","seedcorn/emit",32⟩,⟨ "code",124,6,false,"","seedcorn/emit",112⟩,⟨ "entry",119,7,false,"","seedcorn/emit",136⟩,⟨ "places",118,8,false,"","seedcorn/emit",160⟩,⟨ "holes",125,9,false,"","seedcorn/emit",184⟩,⟨ "f",3,10,false,"","seedcorn/emit",208⟩,⟨ "depth",3,11,false,"","seedcorn/emit",216⟩],12,224,[.int .i64 0,.nsl,.nsl,.nsl,.nsl,.int .i64 0,.nsl,.nsl,.nsl,.nsl,.int .i64 0,.int .i64 0]⟩
def wa:TI:=⟨.struct #[⟨ "Op",3,0,false,"","",0⟩,⟨ "A",3,1,false,"","",8⟩,⟨ "B",3,2,false,"","",16⟩,⟨ "C",3,3,false,"","",24⟩],4,32,[.int .i64 0,.int .i64 0,.int .i64 0,.int .i64 0]⟩
def CP:TI:=⟨.slice 201,1,24,[.nsl]⟩
def wb:TI:=⟨.struct #[⟨ "Params",3,0,false,"","",0⟩,⟨ "Slots",3,1,false,"","",8⟩,⟨ "First",3,2,false,"","",16⟩,⟨ "Word",4,3,false,"","",24⟩,⟨ "Code",132,4,false,"","",32⟩],5,56,[.int .i64 0,.int .i64 0,.int .i64 0,.bool false,.nsl]⟩
def Iu:TI:=⟨.func #[5] #[4] false,1,8,[.nilf]⟩
def CQ:TI:=⟨.slice 194,1,24,[.nsl]⟩
def wc:TI:=⟨.struct #[⟨ "Kind",3,0,false,"","",0⟩,⟨ "Slot",3,1,false,"","",8⟩,⟨ "Size",3,2,false,"","",16⟩,⟨ "E",150,3,false,"","",24⟩,⟨ "Then",114,4,false,"","",48⟩,⟨ "Else",114,5,false,"","",72⟩],6,96,[.int .i64 0,.int .i64 0,.int .i64 0,.nsl,.nsl,.nsl]⟩
def CR:TI:=⟨.map 3 205,1,8,[.nilm]⟩
def we:TI:=⟨.struct #[⟨ "at",3,0,false,"","seedcorn/emit",0⟩,⟨ "f",3,1,false,"","seedcorn/emit",8⟩,⟨ "place",3,2,false,"","seedcorn/emit",16⟩],3,24,[.int .i64 0,.int .i64 0,.int .i64 0]⟩
def zk:TI:=⟨.struct #[⟨ "word",4,0,false,"","seedcorn/lower",0⟩,⟨ "code",132,1,false,"","seedcorn/lower",8⟩],2,32,[.bool false,.nsl]⟩
def CS:TI:=⟨.slice 4,1,24,[.nsl]⟩
def zl:TI:=⟨.struct #[⟨ "s",78,0,false,"","seedcorn/seedcornref10",0⟩,⟨ "out",82,22,false,"","seedcorn/seedcornref10",136⟩,⟨ "code",124,23,false,"","seedcorn/seedcornref10",160⟩,⟨ "ok",166,24,false,"","seedcorn/seedcornref10",184⟩,⟨ "words",31,25,false,"","seedcorn/seedcornref10",208⟩,⟨ "in",9,26,false,"","seedcorn/seedcornref10",232⟩,⟨ "counts",119,27,false,"","seedcorn/seedcornref10",248⟩],28,272,[.int .i64 0,.int .u32 0,.int .u32 0,.int .u32 0,.int .u32 0,.int .u32 0,.int .u32 0,.int .u32 0,.int .u32 0,.int .u32 0,.int .u32 0,.int .u32 0,.int .u32 0,.int .u32 0,.int .u32 0,.int .u32 0,.int .u32 0,.nsl,.int .i64 0,.str [],.int .i64 0,.int .i64 0,.nsl,.nsl,.nsl,.nsl,.str [],.nsl]⟩
def Iv:TI:=⟨.array 24 9,24,384,[.str [],.str [],.str [],.str [],.str [],.str [],.str [],.str [],.str [],.str [],.str [],.str [],.str [],.str [],.str [],.str [],.str [],.str [],.str [],.str [],.str [],.str [],.str [],.str []]⟩
def CT:TI:=⟨.map 9 185,1,8,[.nilm]⟩
def zm:TI:=⟨.struct #[⟨ "outside",175,0,false,"","seedcorn/scope",0⟩,⟨ "inside",175,1,false,"","seedcorn/scope",8⟩],2,16,[.nilm,.nilm]⟩
def zn:TI:=⟨.struct #[⟨ "kind",3,0,false,"","seedcorn/scope",0⟩,⟨ "name",9,1,false,"","seedcorn/scope",8⟩,⟨ "arguments",3,2,false,"","seedcorn/scope",24⟩],3,32,[.int .i64 0,.str [],.int .i64 0]⟩
def zo:TI:=⟨.struct #[⟨ "kind",3,0,false,"","seedcorn/scope",0⟩,⟨ "number",3,1,false,"","seedcorn/scope",8⟩],2,16,[.int .i64 0,.int .i64 0]⟩
def CU:TI:=⟨.func #[183] #[] false,1,8,[.nilf]⟩
def Iw:TI:=⟨.pointer 235,1,8,[.nilp]⟩
def wg:TI:=⟨.struct #[⟨ "Kind",3,0,false,"","",0⟩,⟨ "Op",3,1,false,"","",8⟩,⟨ "Num",41,2,false,"","",16⟩,⟨ "Slot",3,3,false,"","",24⟩,⟨ "Size",3,4,false,"","",32⟩,⟨ "Kids",150,5,false,"","",40⟩],6,64,[.int .i64 0,.int .i64 0,.int .u32 0,.int .i64 0,.int .i64 0,.nsl]⟩
def zp:TI:=⟨.struct #[⟨ "items",119,0,false,"","seedcorn/stack",0⟩],1,24,[.nsl]⟩
def wh:TI:=⟨.struct #[⟨ "Op",3,0,false,"","",0⟩,⟨ "A",3,1,false,"","",8⟩,⟨ "B",3,2,false,"","",16⟩,⟨ "N",41,3,false,"","",24⟩],4,32,[.int .i64 0,.int .i64 0,.int .i64 0,.int .u32 0]⟩
def CV:TI:=⟨.func #[123,201] #[] false,1,8,[.nilf]⟩
def zq:TI:=⟨.struct #[⟨ "name",9,0,false,"","seedcorn/inst",0⟩,⟨ "a",4,1,false,"","seedcorn/inst",16⟩,⟨ "b",4,2,false,"","seedcorn/inst",17⟩,⟨ "c",3,3,false,"","seedcorn/inst",24⟩],4,32,[.str [],.bool false,.bool false,.int .i64 0]⟩
def CW:TI:=⟨.pointer 164,1,8,[.nilp]⟩
def Ix:TI:=⟨.pointer 153,1,8,[.nilp]⟩
def Iy:TI:=⟨.pointer 170,1,8,[.nilp]⟩
def CX:TI:=⟨.int .u64,1,8,[.int .u64 0]⟩
def Iz:TI:=⟨.array 10 9,10,160,[.str [],.str [],.str [],.str [],.str [],.str [],.str [],.str [],.str [],.str []]⟩
def CY:TI:=⟨.func #[46] #[] false,1,8,[.nilf]⟩
def CZ:TI:=⟨.func #[42] #[] false,1,8,[.nilf]⟩
def Da:TI:=⟨.map 9 50,1,8,[.nilm]⟩
def Db:TI:=⟨.func #[44] #[3] false,1,8,[.nilf]⟩
def Dc:TI:=⟨.array 10 232,10,80,[.nilf,.nilf,.nilf,.nilf,.nilf,.nilf,.nilf,.nilf,.nilf,.nilf]⟩
def zr:TI:=⟨.struct #[⟨ "funcs",231,0,false,"","seedcorn/typing",0⟩,⟨ "ask",233,1,false,"","seedcorn/typing",8⟩],11,88,[.nilm,.nilf,.nilf,.nilf,.nilf,.nilf,.nilf,.nilf,.nilf,.nilf,.nilf]⟩
def IA:TI:=⟨.pointer 196,1,8,[.nilp]⟩
def IB:TI:=⟨.pointer 194,1,8,[.nilp]⟩
def Tt:Nat→TI:=yY [(3,ti3),(4,ti4),(5,ti5),(9,ti9),(20,Nz),(23,JJ),(24,JK),(25,JL),(26,FS),(27,FS),(28,ti3),(31,JM),(32,FT),(33,FT),(35,NA),(36,FU),(37,FU),(41,FV),(42,JN),(43,CG),(44,CG),(46,JO),(47,CH),(48,CH),(49,CI),(50,CI),(60,NB),(62,NC),(64,JP),(65,FW),(66,FW),(71,JQ),(72,FX),(73,FX),(75,ND),(76,JR),(77,FY),(78,FY),(82,JS),(87,NE),(89,JT),(92,FZ),(93,FZ),(94,Ga),(95,Ga),(97,CJ),(98,CJ),(101,vY),(102,vY),(107,CK),(110,ze),(111,ze),(112,zf),(113,zf),(114,CL),(116,vZ),(117,vZ),(118,CM),(119,zg),(120,zi),(121,zi),(123,It),(124,CN),(125,CO),(126,zj),(127,zj),(129,wa),(130,wa),(132,CP),(134,wb),(135,wb),(141,Iu),(150,CQ),(152,wc),(153,wc),(156,CR),(160,we),(161,we),(163,zk),(164,zk),(166,CS),(169,zl),(170,zl),(171,Iv),(175,CT),(179,zm),(180,zm),(182,zn),(183,zn),(184,zo),(185,zo),(187,CU),(188,Iw),(193,wg),(194,wg),(195,zp),(196,zp),(200,wh),(201,wh),(205,CV),(208,zq),(209,zq),(212,CW),(214,Ix),(218,Iy),(221,CX),(225,Iz),(229,CY),(230,CZ),(231,Da),(232,Db),(233,Dc),(234,zr),(235,zr),(237,IA),(240,IB)]
theorem ac:aQ Tryz.prog Tt:=Ax c8
attribute [go_sem] ti3 ti4 ti5 ti9 Nz JJ JK JL FS JM FT NA FU FV JN CG JO CH CI NB NC JP FW JQ FX ND JR FY JS NE JT FZ Ga CJ vY CK ze zf CL vZ CM zg zi It CN CO zj wa CP wb Iu CQ wc CR we zk CS zl Iv CT zm zn zo CU Iw wg zp wh CV zq CW Ix Iy CX Iz CY CZ Da Db Dc zr IA IB
theorem mixed:Tryz.prog.follows .mixedOrders=true:=c8
@[go_sem] theorem RS:Tt 3=ti3:=j8 rfl rfl
@[go_sem] theorem RT:Tt 4=ti4:=j8 rfl rfl
@[go_sem] theorem RU:Tt 5=ti5:=j8 rfl rfl
@[go_sem] theorem RW:Tt 9=ti9:=j8 rfl rfl
@[go_sem] theorem Qo:cJ Tt 9=false:=j8 rfl rfl
@[go_sem] theorem Rr:Tt 23=JJ:=j8 rfl rfl
@[go_sem] theorem Py:aP Tt 23=ti9:=j8 rfl rfl
@[go_sem] theorem Pz:cJ Tt 23=true:=j8 rfl rfl
@[go_sem] theorem Rs:Tt 24=JK:=j8 rfl rfl
@[go_sem] theorem PA:aP Tt 24=vY:=j8 rfl rfl
@[go_sem] theorem PB:cJ Tt 24=true:=j8 rfl rfl
@[go_sem] theorem Rt:Tt 25=JL:=j8 rfl rfl
@[go_sem] theorem PD:aP Tt 25=CI:=j8 rfl rfl
@[go_sem] theorem PE:cJ Tt 25=true:=j8 rfl rfl
@[go_sem] theorem Ru:Tt 27=FS:=j8 rfl rfl
@[go_sem] theorem PF:fe Tt 27=true:=j8 rfl rfl
@[go_sem] theorem Rv:Tt 28=ti3:=j8 rfl rfl
@[go_sem] theorem Rw:Tt 31=JM:=j8 rfl rfl
@[go_sem] theorem PG:aP Tt 31=FV:=j8 rfl rfl
@[go_sem] theorem PH:cJ Tt 31=true:=j8 rfl rfl
@[go_sem] theorem Rx:Tt 33=FT:=j8 rfl rfl
@[go_sem] theorem PI:fe Tt 33=true:=j8 rfl rfl
@[go_sem] theorem Ry:Tt 37=FU:=j8 rfl rfl
@[go_sem] theorem PJ:fe Tt 37=true:=j8 rfl rfl
@[go_sem] theorem Rz:Tt 41=FV:=j8 rfl rfl
@[go_sem] theorem RA:Tt 42=JN:=j8 rfl rfl
@[go_sem] theorem PK:aP Tt 42=CG:=j8 rfl rfl
@[go_sem] theorem PL:cJ Tt 42=true:=j8 rfl rfl
@[go_sem] theorem RB:Tt 44=CG:=j8 rfl rfl
@[go_sem] theorem PM:fe Tt 44=true:=j8 rfl rfl
@[go_sem] theorem RC:Tt 46=JO:=j8 rfl rfl
@[go_sem] theorem PN:aP Tt 46=CH:=j8 rfl rfl
@[go_sem] theorem PO:cJ Tt 46=true:=j8 rfl rfl
@[go_sem] theorem RD:Tt 48=CH:=j8 rfl rfl
@[go_sem] theorem PP:fe Tt 48=true:=j8 rfl rfl
@[go_sem] theorem RE:Tt 50=CI:=j8 rfl rfl
@[go_sem] theorem PQ:fe Tt 50=true:=j8 rfl rfl
@[go_sem] theorem RF:Tt 64=JP:=j8 rfl rfl
@[go_sem] theorem PS:aP Tt 64=vZ:=j8 rfl rfl
@[go_sem] theorem PT:cJ Tt 64=true:=j8 rfl rfl
@[go_sem] theorem RG:Tt 66=FW:=j8 rfl rfl
@[go_sem] theorem PU:fe Tt 66=true:=j8 rfl rfl
@[go_sem] theorem RH:Tt 71=JQ:=j8 rfl rfl
@[go_sem] theorem PV:aP Tt 71=wb:=j8 rfl rfl
@[go_sem] theorem PW:cJ Tt 71=true:=j8 rfl rfl
@[go_sem] theorem RI:Tt 73=FX:=j8 rfl rfl
@[go_sem] theorem PX:fe Tt 73=true:=j8 rfl rfl
@[go_sem] theorem RJ:Tt 76=JR:=j8 rfl rfl
@[go_sem] theorem PY:cJ Tt 76=false:=j8 rfl rfl
@[go_sem] theorem RK:Tt 78=FY:=j8 rfl rfl
@[go_sem] theorem PZ:fe Tt 78=true:=j8 rfl rfl
@[go_sem] theorem RL:Tt 82=JS:=j8 rfl rfl
@[go_sem] theorem Qa:aP Tt 82=ti5:=j8 rfl rfl
@[go_sem] theorem Qb:cJ Tt 82=true:=j8 rfl rfl
@[go_sem] theorem RM:Tt 89=JT:=j8 rfl rfl
@[go_sem] theorem Qc:aP Tt 89=CJ:=j8 rfl rfl
@[go_sem] theorem Qd:cJ Tt 89=true:=j8 rfl rfl
@[go_sem] theorem RN:Tt 93=FZ:=j8 rfl rfl
@[go_sem] theorem Qe:fe Tt 93=true:=j8 rfl rfl
@[go_sem] theorem RO:Tt 95=Ga:=j8 rfl rfl
@[go_sem] theorem Qf:fe Tt 95=true:=j8 rfl rfl
@[go_sem] theorem RP:Tt 98=CJ:=j8 rfl rfl
@[go_sem] theorem Qg:fe Tt 98=true:=j8 rfl rfl
@[go_sem] theorem Qp:Tt 102=vY:=j8 rfl rfl
@[go_sem] theorem NF:fe Tt 102=true:=j8 rfl rfl
@[go_sem] theorem Qq:Tt 107=CK:=j8 rfl rfl
@[go_sem] theorem Qr:Tt 111=ze:=j8 rfl rfl
@[go_sem] theorem NG:fe Tt 111=true:=j8 rfl rfl
@[go_sem] theorem Qs:Tt 113=zf:=j8 rfl rfl
@[go_sem] theorem NH:fe Tt 113=true:=j8 rfl rfl
@[go_sem] theorem Qt:Tt 114=CL:=j8 rfl rfl
@[go_sem] theorem NI:aP Tt 114=wc:=j8 rfl rfl
@[go_sem] theorem NJ:cJ Tt 114=true:=j8 rfl rfl
@[go_sem] theorem Qu:Tt 117=vZ:=j8 rfl rfl
@[go_sem] theorem NK:fe Tt 117=true:=j8 rfl rfl
@[go_sem] theorem Qv:Tt 118=CM:=j8 rfl rfl
@[go_sem] theorem NL:aP Tt 118=zg:=j8 rfl rfl
@[go_sem] theorem NM:cJ Tt 118=true:=j8 rfl rfl
@[go_sem] theorem Qw:Tt 119=zg:=j8 rfl rfl
@[go_sem] theorem NN:aP Tt 119=ti3:=j8 rfl rfl
@[go_sem] theorem NO:cJ Tt 119=true:=j8 rfl rfl
@[go_sem] theorem Qx:Tt 121=zi:=j8 rfl rfl
@[go_sem] theorem NP:fe Tt 121=true:=j8 rfl rfl
@[go_sem] theorem Qy:Tt 124=CN:=j8 rfl rfl
@[go_sem] theorem NQ:aP Tt 124=wa:=j8 rfl rfl
@[go_sem] theorem NR:cJ Tt 124=true:=j8 rfl rfl
@[go_sem] theorem Qz:Tt 125=CO:=j8 rfl rfl
@[go_sem] theorem NS:aP Tt 125=we:=j8 rfl rfl
@[go_sem] theorem NT:cJ Tt 125=true:=j8 rfl rfl
@[go_sem] theorem QA:Tt 127=zj:=j8 rfl rfl
@[go_sem] theorem NU:fe Tt 127=true:=j8 rfl rfl
@[go_sem] theorem QB:Tt 130=wa:=j8 rfl rfl
@[go_sem] theorem NV:fe Tt 130=true:=j8 rfl rfl
@[go_sem] theorem QC:Tt 132=CP:=j8 rfl rfl
@[go_sem] theorem NW:aP Tt 132=wh:=j8 rfl rfl
@[go_sem] theorem NX:cJ Tt 132=true:=j8 rfl rfl
@[go_sem] theorem QD:Tt 135=wb:=j8 rfl rfl
@[go_sem] theorem NY:fe Tt 135=true:=j8 rfl rfl
@[go_sem] theorem QE:Tt 150=CQ:=j8 rfl rfl
@[go_sem] theorem NZ:aP Tt 150=wg:=j8 rfl rfl
@[go_sem] theorem Oa:cJ Tt 150=true:=j8 rfl rfl
@[go_sem] theorem QF:Tt 153=wc:=j8 rfl rfl
@[go_sem] theorem Ob:fe Tt 153=true:=j8 rfl rfl
@[go_sem] theorem QG:Tt 156=CR:=j8 rfl rfl
@[go_sem] theorem QH:Tt 161=we:=j8 rfl rfl
@[go_sem] theorem Oc:fe Tt 161=true:=j8 rfl rfl
@[go_sem] theorem QI:Tt 164=zk:=j8 rfl rfl
@[go_sem] theorem Od:fe Tt 164=true:=j8 rfl rfl
@[go_sem] theorem QJ:Tt 166=CS:=j8 rfl rfl
@[go_sem] theorem Oe:aP Tt 166=ti4:=j8 rfl rfl
@[go_sem] theorem Of:cJ Tt 166=true:=j8 rfl rfl
@[go_sem] theorem QK:Tt 170=zl:=j8 rfl rfl
@[go_sem] theorem Og:fe Tt 170=true:=j8 rfl rfl
@[go_sem] theorem QL:Tt 175=CT:=j8 rfl rfl
@[go_sem] theorem QM:Tt 180=zm:=j8 rfl rfl
@[go_sem] theorem Oh:fe Tt 180=true:=j8 rfl rfl
@[go_sem] theorem QN:Tt 183=zn:=j8 rfl rfl
@[go_sem] theorem Oi:fe Tt 183=true:=j8 rfl rfl
@[go_sem] theorem QO:Tt 185=zo:=j8 rfl rfl
@[go_sem] theorem Oj:fe Tt 185=true:=j8 rfl rfl
@[go_sem] theorem QP:Tt 187=CU:=j8 rfl rfl
@[go_sem] theorem QQ:Tt 194=wg:=j8 rfl rfl
@[go_sem] theorem Ok:fe Tt 194=true:=j8 rfl rfl
@[go_sem] theorem QR:Tt 196=zp:=j8 rfl rfl
@[go_sem] theorem QS:Tt 201=wh:=j8 rfl rfl
@[go_sem] theorem Ol:fe Tt 201=true:=j8 rfl rfl
@[go_sem] theorem QT:Tt 205=CV:=j8 rfl rfl
@[go_sem] theorem QU:Tt 209=zq:=j8 rfl rfl
@[go_sem] theorem Om:fe Tt 209=true:=j8 rfl rfl
@[go_sem] theorem QV:Tt 212=CW:=j8 rfl rfl
@[go_sem] theorem QW:Tt 221=CX:=j8 rfl rfl
@[go_sem] theorem QX:Tt 229=CY:=j8 rfl rfl
@[go_sem] theorem QY:Tt 230=CZ:=j8 rfl rfl
@[go_sem] theorem QZ:Tt 231=Da:=j8 rfl rfl
@[go_sem] theorem Ra:Tt 232=Db:=j8 rfl rfl
@[go_sem] theorem Rb:Tt 233=Dc:=j8 rfl rfl
@[go_sem] theorem On:cJ Tt 233=false:=j8 rfl rfl
@[go_sem] theorem Rc:Tt 235=zr:=j8 rfl rfl
@[go_sem] theorem Oo:fe Tt 235=true:=j8 rfl rfl
end
end Go.Proofs.YtbojbioflppbdaaGreatDoor
namespace Go.Asm
section
abbrev Str:=List UInt8
def small (c:UInt8):Bool:=decide (97≤c.toNat)&&decide (c.toNat≤122)
def letter (c:UInt8):Bool:=small c||(decide (65≤c.toNat)&&decide (c.toNat≤90))
def digit (c:UInt8):Bool:=decide (48≤c.toNat)&&decide (c.toNat≤57)
def iz (c:UInt8):Bool:=letter c||digit c||c==95
def BD (n:Nat) (c:UInt8):Nat:=10*n+(c.toNat-48)
def gq (s:Str):Nat:=s.foldl BD 0
def names:List Str:=[[108,105],[108,117,105],[109,111,118],[97,100,100],[115,117,98],[109,117,108],[100,105,118],[109,111,100],[97,110,100],[111,114],[120,111,114],[115,104,108],[115,104,114],[108,116],[101,113],[108,100],[115,116],
 [106,109,112],[106,122],[106,110,122],[99,97,108,108],[114,101,116],[103,101,116],[112,117,116],[99,104,107],[104,97,108,116],[108,100,99]]
def shape (op:Nat):Bool×Bool×Nat:=
 if op=1∨op=2∨op=19∨op=20∨op=21∨op=25 then(true,false,1)
 else if op=3 then(true,true,0)
 else if 4≤op∧op≤15 then(true,true,2)
 else if op=16∨op=17∨op=27 then(true,true,1)
 else if op=18 then(false,false,1)
 else if op=22∨op=23∨op=24 then(true,false,0)
 else(false,false,0)
def word (op a b c:Nat):Nat:=op*16777216+a*1048576+b*65536+c
end
end Go.Asm
namespace Go.Proofs.YtbojbioflppbdaaGreatDoor
section
open Go Go.Am Go.Asm
section
theorem getq {α:Type}{l:List α}{k:Nat} (h:k<l.length):∃x,l[k]? = some x:=⟨_,s7 h⟩
variable {c d:UInt8}
theorem Nx (h:(c.toNat:Int)=(d.toNat:Int)):c=d:=UInt8.toNat_inj.1 a6
theorem nb (h:c≠d):¬(c.toNat:Int)=(d.toNat:Int):=fun e=>h (Nx e)
theorem xW {c:UInt8}:letter c=true↔(97≤c.toNat∧c.toNat≤122)∨(65≤c.toNat∧c.toNat≤90):=by simp[letter,small]
theorem tJ {c:UInt8}:digit c=true↔48≤c.toNat∧c.toNat≤57:=by simp[digit]
end
end
section
attribute [local congr] Go.Am.ite_cc
open Go Go.Am Go.Asm
def preB (p s:Str):Bool:=decide (s.take p.length=p)
theorem vV (s p:Str):aR Tryz.prog 76 [sv s,sv p] (· = bv (preB p s)):=by
 refine az ac mixed Tryz.func76 rfl b9 [4] rfl c8 (by simp[Tryz.ntmps76]) fun g=>?_
 simp only[go_sem]
 refine⟨fun h=>?_,fun h=>?_⟩
 ·exact⟨K7 _,a6,rfl⟩
 ·have:¬s.take p.length=p:=fun e=>by
   have:=congrArg List.length e
   simp only[B7] at this;omega
  simp[preB,this]
end
section
open Go Go.Am Go.Asm
end
end Go.Proofs.YtbojbioflppbdaaGreatDoor
namespace Go.Proofs
section
open Go.Shelf Go.RowKit Go.Lib
section
variable {P:Program}{ρ:Ren}
end
section
variable {P:Program}{ρ:Ren}
end
end
section
open Go.Shelf
end
end Go.Proofs
namespace Go.Proofs.YtbojbioflppbdaaGreatDoor
section
open Go Go.Am Go.Asm
end
section
attribute [local congr] Go.Am.ite_cc
open Go Go.Am Go.Asm
def nameOf (op:Nat):Str:=match op with|0=>[]|k+1=>names.getD k []
def rK (op:Nat):AV:=.agg [.d (.str (nameOf op)),.d (.bool (Asm.shape op).1),.d (.bool (Asm.shape op).2.1),.d (.int .i64 ((Asm.shape op).2.2:Nat))]
theorem vX {op:Nat} (h:op=0∨28≤op):rK op=.agg [.d (.str []),.d (.bool false),.d (.bool false),.d (.int .i64 0)]:=by
 rcases h with rfl|h
 ·rfl
 ·have h1:nameOf op=[]:=by
   obtain⟨k,rfl⟩:∃k,op=k+1:=⟨op-1,a6⟩
   have:names.length≤k:=by show 27≤k;omega
   simp[nameOf,this]
  have h2:Asm.shape op=(false,false,0):=by
   unfold Asm.shape
   repeat rw[if_neg (by omega)]
  unfold rK;rw[h1,h2];rfl
theorem rL {s:St}{n:Str}{a b:Bool}{c:Int}:jK s (.agg [.d (.str n),.d (.bool a),.d (.bool b),.d (.int .i64 c)]) (.agg [.d (.str n),.d (.bool a),.d (.bool b),.d (.int .i64 c)]):=by
 refine⟨[.str n,.bool a,.bool b,.int .i64 c],rfl,fun i c hc=>?_,rfl⟩
 match i,hc with
 |0,hc=>cases hc;exact⟨_,rfl,.d _⟩
 |1,hc=>cases hc;exact⟨_,rfl,.d _⟩
 |2,hc=>cases hc;exact⟨_,rfl,.d _⟩
 |3,hc=>cases hc;exact⟨_,rfl,.d _⟩
theorem tK (op:Int):aR Tryz.prog 121 [iv .i64 op] (· = rK op.toNat):=by
 refine bM ac mixed Tryz.func121 rfl b9 [.cell 2 209] rfl c8 (by simp[Tryz.ntmps121]) fun g=>?_
 simp only[go_sem]
 repeat' (first|refine C9 (fun h=>?_) (fun h=>?_)|fail)
 all_goals first
  | (subst h
     exact⟨_,rL,rfl⟩)
  | (have e:op.toNat=0∨28≤op.toNat:=a6
     refine⟨_,rL,?_⟩
     rw[vX e])
def iP (op:Nat):Bool:=decide (1≤op)&&decide (op≤27)
theorem AF (op:Nat):(decide (¬nameOf op=[]))=iP op:=by
 unfold iP
 by_cases h:op≤27
 ·have:∀k,k≤27→decide (¬nameOf k=[])=(decide (1≤k)&&decide (k≤27)):=a8
  exact this op h
 ·have h1:nameOf op=[]:=by
   obtain⟨k,rfl⟩:∃k,op=k+1:=⟨op-1,a6⟩
   have:names.length≤k:=by show 27≤k;omega
   simp[nameOf,this]
  simp[h1,h]
theorem FP (op:Int):aR Tryz.prog 120 [iv .i64 op] (· = bv (iP op.toNat)):=by
 refine az ac mixed Tryz.func120 rfl b9 [2] rfl c8 (by simp[Tryz.ntmps120]) fun g=>?_
 simp only[go_sem]
 refine aA rfl (by simp only[go_sem];exact tK op) (by simp only[go_sem];rfl) ?_
 rintro _ rfl
 unfold rK
 simp only[go_sem]
 rw[←AF]
def inW (v most:Int) (b:Bool):Bool:=if b=true then decide (0≤v) && decide (v≤most) else decide (v=0)
theorem rM (v most:Int) (b:Bool):aR Tryz.prog 122 [iv .i64 v,iv .i64 most,bv b] (· = bv (inW v most b)):=by
 refine az ac mixed Tryz.func122 rfl b9 [6] rfl c8 (by simp[Tryz.ntmps122]) fun g=>?_
 unfold inW
 cases b
 ·simp only[go_sem]
 ·simp only[go_sem]
  exact⟨fun h=>by simp[h],fun h=>by simp[h]⟩
def oe (op:Nat):Int:=if (Asm.shape op).2.2=2 then 15 else 65535
def ee (op a b c:Int):Bool:=iP op.toNat&&(inW a 15 (Asm.shape op.toNat).1&&(inW b 15 (Asm.shape op.toNat).2.1&&inW c (oe op.toNat) (decide ((Asm.shape op.toNat).2.2≠0))))
def nc (op a b c:Int):AV:=.agg [.d (.int .i64 op),.d (.int .i64 a),.d (.int .i64 b),.d (.int .i64 c)]
theorem FQ (op a b c:Int):aR Tryz.prog 71 [nc op a b c] (· = bv (ee op a b c)):=by
 refine az ac mixed Tryz.func71 rfl b9 [2] rfl c8 (by simp[Tryz.ntmps71]) fun g=>?_
 unfold nc
 simp only[go_sem]
 refine aA rfl (by simp only[go_sem];exact FP op) (by simp only[go_sem];rfl) ?_
 rintro _ rfl
 cases hk:iP op.toNat
 ·simp only[go_sem]
  simp[ee,hk]
 simp only[go_sem]
 refine aA rfl (by simp only[go_sem];exact tK op) (by simp only[go_sem];rfl) ?_
 rintro _ rfl
 have hrr:ee op a b c=(inW a 15 (Asm.shape op.toNat).1&&(inW b 15 (Asm.shape op.toNat).2.1&&inW c (oe op.toNat) (decide ((Asm.shape op.toNat).2.2≠0)))):=by unfold ee;rw[hk,w9]
 rw[hrr]
 unfold rK oe
 generalize (Asm.shape op.toNat).1=p
 generalize (Asm.shape op.toNat).2.1=q
 generalize (Asm.shape op.toNat).2.2=r
 have hr0:decide (¬((r:Nat):Int)=0)=decide (r≠0):=by
  have:(((r:Nat):Int)=0)=(r=0):=by apply propext;omega
  simp only[this,ne_eq]
 by_cases hr:r=2
 case' pos=>
  have hri:((r:Nat):Int)=2:=a6
  rw[if_pos hr]
  simp only[go_sem,hri]
 case' neg=>
  have hri:¬((r:Nat):Int)=2:=a6
  rw[if_neg hr]
  simp only[go_sem,hri]
 all_goals
  refine aA rfl (by simp only[go_sem];exact rM a 15 p) (by simp only[go_sem];rfl) ?_
  rintro _ rfl
  cases h1:inW a 15 p
  ·simp only[go_sem]
   try simp
  simp only[go_sem]
  refine aA rfl (by simp only[go_sem];exact rM b 15 q) (by simp only[go_sem];rfl) ?_
  rintro _ rfl
  cases h2:inW b 15 q
  ·simp only[go_sem]
   try simp
  simp only[go_sem,hr0]
  refine aA rfl (by simp only[go_sem,hr0];exact rM c _ _) (by simp only[go_sem];rfl) ?_
  rintro _ rfl
  simp only[go_sem]
  first|done|(subst hr;simp;done)|simp
theorem JI (x y:Nat) (hx:x<4294967296) (hy:y<4294967296):(BitVec.ofInt 32 (x:Int) |||BitVec.ofInt 32 (y:Int)).toNat=x |||y:=by
 rw[BitVec.toNat_or]
 have h:∀n:Nat,n<4294967296→(BitVec.ofInt 32 (n:Int)).toNat=n:=fun n hn=>by
  rw[N4]
  omega
 rw[h x hx,h y hy]
theorem wrapN (n:Nat) (h:n<4294967296):IntKind.u32.wrap (n:Int)=n:=by rw[IntKind.wrap_u32];omega
theorem CE (a b k:Nat) (h:b<2^k):(a*2^k) |||b=a*2^k+b:=by
 rw[Nat.mul_comm,Nat.two_pow_add_eq_or_of_lt h]
theorem FR (o a b c:Nat) (h1:o≤27) (h2:a≤15) (h3:b≤15) (h4:c≤65535):IntKind.u32.wrap
   ((BitVec.ofInt 32
        (IntKind.u32.wrap
          ((BitVec.ofInt 32
               (IntKind.u32.wrap
                 ((BitVec.ofInt 32 (IntKind.u32.wrap ((o:Int)*2^min 24 32)) |||
                     BitVec.ofInt 32 (IntKind.u32.wrap ((a:Int)*2^min 20 32))).toNat:Int)) |||
              BitVec.ofInt 32 (IntKind.u32.wrap ((b:Int)*2^min 16 32))).toNat:Int)) |||
       BitVec.ofInt 32 (c:Int)).toNat:Int)=(word o a b c:Nat):=by
 have e1:((o:Int)*2^min 24 32)=((o*2^24:Nat):Int):=by rw[L2];rfl
 have e2:((a:Int)*2^min 20 32)=((a*2^20:Nat):Int):=by rw[L2];rfl
 have e3:((b:Int)*2^min 16 32)=((b*2^16:Nat):Int):=by rw[L2];rfl
 rw[e1,e2,e3,wrapN (o*2^24) a6,wrapN (a*2^20) a6,wrapN (b*2^16) a6,JI (o*2^24) (a*2^20) a6 a6,CE o (a*2^20) 24 a6,
  wrapN (o*2^24+a*2^20) a6,JI (o*2^24+a*2^20) (b*2^16) a6 a6,
  show o*2^24+a*2^20=(o*16+a)*2^20 by omega,CE (o*16+a) (b*2^16) 20 a6,wrapN ((o*16+a)*2^20+b*2^16) a6,JI ((o*16+a)*2^20+b*2^16) c a6 a6,
  show (o*16+a)*2^20+b*2^16=((o*16+a)*16+b)*2^16 by omega,CE ((o*16+a)*16+b) c 16 a6,wrapN (((o*16+a)*16+b)*2^16+c) a6]
 have e:((o*16+a)*16+b)*2^16+c=word o a b c:=by unfold word;omega
 rw[e]
theorem sR {op a b c:Int} (h:ee op a b c=true):1≤op∧op≤27∧0≤a∧a≤15∧0≤b∧b≤15∧0≤c∧c≤65535:=by
 unfold ee at h
 simp only[l7] at h
 obtain⟨h1,h2,h3,h4⟩:=h
 have hin:∀{v m:Int}{p:Bool},0≤m→inW v m p=true→0≤v∧v≤m:=by
  intro v m p hm hv
  unfold inW at hv
  split at hv
  ·simpa using hv
  ·have:v=0:=by simpa using hv
   omega
 have h2:=hin a8 h2
 have h3:=hin a8 h3
 have hm:0≤oe op.toNat∧oe op.toNat≤65535:=by unfold oe;split <;> decide
 have h4:=hin hm.1 h4
 simp only[iP,l7,z8] at h1
 omega
theorem CF (op a b c:Int):aR Tryz.prog 49 [nc op a b c] (· = if ee op a b c=true then .tup [iv .u32 (word op.toNat a.toNat b.toNat c.toNat:Nat),iv .i64 0] else .tup [iv .u32 0,iv .i64 1]):=by
 refine az ac mixed Tryz.func49 rfl b9 [2,3] rfl c8 (by simp[Tryz.ntmps49]) fun g=>?_
 unfold nc
 simp only[go_sem]
 refine aA rfl (by simp only[go_sem];exact FQ op a b c) (by simp only[go_sem];rfl) ?_
 rintro _ rfl
 cases hk:ee op a b c
 ·simp only[go_sem]
  try rfl
 obtain⟨b1,b2,b3,b4,b5,b6,b7,b8⟩:=sR hk
 have w1:IntKind.u32.wrap op=op:=by rw[IntKind.wrap_u32] <;> omega
 have w2:IntKind.u32.wrap a=a:=by rw[IntKind.wrap_u32] <;> omega
 have w3:IntKind.u32.wrap b=b:=by rw[IntKind.wrap_u32] <;> omega
 have w4:IntKind.u32.wrap c=c:=by rw[IntKind.wrap_u32] <;> omega
 simp only[go_sem,w1,w2,w3,w4]
 obtain⟨o,rfl⟩:∃n:Nat,op=n:=⟨op.toNat,a6⟩
 obtain⟨a,rfl⟩:∃n:Nat,a=n:=⟨a.toNat,a6⟩
 obtain⟨b,rfl⟩:∃n:Nat,b=n:=⟨b.toNat,a6⟩
 obtain⟨c,rfl⟩:∃n:Nat,c=n:=⟨c.toNat,a6⟩
 simp only[A5]
 exact FR o a b c a6 a6 a6 a6
end
section
open Go Go.Am Go.Asm
theorem AG (s:Str) (c:UInt8):gq (s++[c])=10*gq s+(c.toNat-48):=by simp[gq,BD]
theorem AH {s:Str}{k:Nat}{c:UInt8} (h:s[k]? = some c):gq (s.take (k+1))=10*gq (s.take k)+(c.toNat-48):=by
 rw[A4,h];exact AG _ _
end
section
open Go Go.RowKit Go.Shelf
end
end Go.Proofs.YtbojbioflppbdaaGreatDoor
namespace Go.Am
section
end
end Go.Am
namespace Go.Proofs.YtbojbioflppbdaaGreatDoor
section
open Go Go.Am Go.Asm
theorem pk:∀l:List UInt8,u8s (l.map fun b=>.d (.int .u8 (b.toNat:Nat)))=some (l.map fun b=>((b.toNat:Nat):Int))
 |[]=>rfl
 |b::l=>by
   have ih:=pk l
   simp only[l5,u8s] at ih ⊢
   rw[ih];rfl
theorem jf {s:St} (x:D):jK s (.one (.d x)) (.one (.d (fh x))):=⟨_,.d x,rfl⟩
end
end Go.Proofs.YtbojbioflppbdaaGreatDoor
namespace Go.Src
section
open Go.Asm (Str digit letter iz gq)
structure Tok where
 kind:Nat
 text:Str
 num:Nat
 place:Nat
 deriving DecidableEq
def Ej:List Str:=[[118,97,114],[97,114,114,97,121],[102,117,110,99],[119,111,114,100],[105,102],[101,108,115,101],[119,104,105,108,101],[114,101,116,117,114,110],[112,117,116],[103,101,116]]
def KS:List Str:=[[60,60],[62,62],[61,61],[38,38],[124,124],[40],[41],[123],[125],[91],[93],[59],[44],[61],[43],[45],[42],[47],[37],[38],[124],[94],[60],[33]]
inductive R (α:Type) where
 |ok (a:α)
 |err (e:Nat)
def firstT (s:Str):R (Nat×Str×Nat):=
 match s with
 |[]=>.err 3
 |c::_=>
   if digit c=true then(if 4294967295<gq (s.takeWhile digit) then .err 2 else .ok (2,s.takeWhile digit,gq (s.takeWhile digit)))
   else if c=39 then
    (match s with
     |_::x::y::_=>if y=39∧32≤x.toNat∧x.toNat≤126∧x≠39∧x≠92 then .ok (2,[c,x,y],x.toNat) else .err 3
     | _=>.err 3)
   else if letter c=true then
    (if 20<(s.takeWhile iz).length then .err 2 else if (s.takeWhile iz)∈Ej then .ok (3,s.takeWhile iz,0) else .ok (1,s.takeWhile iz,0))
   else match KS.find? (fun t=>t.isPrefixOf s) with
    |some t=>.ok (4,t,0)
    |none=>.err 3
def qi:Nat→Nat→Str→R (List Tok)×Nat
 |0,_,_=>(.ok [],0)
 |_+1,_,[]=>(.ok [],0)
 |n+1,k,c::r=>
   if c=32∨c=9∨c=10 then qi n (k+1) r
   else if c=47∧r.head? = some 47 then qi n (k+((c::r).takeWhile (· != 10)).length) ((c::r).dropWhile (· != 10))
   else match firstT (c::r) with
    |.err e=>(.err e,k)
    |.ok (kd,t,v)=>match qi n (k+t.length) ((c::r).drop t.length) with
      |(.ok l,p)=>(.ok (⟨kd,t,v,k⟩::l),p)
      |(.err e,p)=>(.err e,p)
def pC (s:Str):List Tok×Nat×Nat:=
 if 20000<s.length then([],0,2)
 else match qi (s.length+1) 0 s with
  |(.ok l,_)=>(l,0,0)
  |(.err e,p)=>([],p,e)
inductive Ex where
 |mk (kind op num:Int) (name:Str) (kids:List Ex)
inductive Stm where
 |mk (kind:Int) (name:Str) (e:List Ex) (th el:List Stm)
structure Fn where
 name:Str
 params:List Str
 locals:List Str
 word:Bool
 body:List Stm
structure Prog where
 vars:List Str
 arrays:List (Str×Int)
 funcs:List Fn
def ud (s:Str):Int×Int×Nat:=
 if s=[124,124] then(9,0,1) else if s=[38,38] then(8,0,2) else if s=[61,61] then(6,15,3) else if s=[60] then(6,14,4)
 else if s=[124] then(6,10,5) else if s=[94] then(6,11,5) else if s=[38] then(6,9,6) else if s=[60,60] then(6,12,7) else if s=[62,62] then(6,13,7)
 else if s=[43] then(6,4,8) else if s=[45] then(6,5,8) else if s=[42] then(6,6,9) else if s=[47] then(6,7,9) else if s=[37] then(6,8,9) else(0,0,0)
def jR:Str:=[40]
def ir:Str:=[41]
def vm:Str:=[44]
def jS:Str:=[59]
end
end Go.Src
namespace Go.Proofs.YtbojbioflppbdaaGreatDoor
section
attribute [local congr] Go.Am.ite_cc
open Go Go.Am Go.Asm
theorem kA (c:UInt8):aR Tryz.prog 77 [iv .u8 c.toNat] (· = bv (digit c)):=by
 refine az ac mixed Tryz.func77 rfl b9 [2] rfl c8 (by simp[Tryz.ntmps77]) fun g=>?_
 simp only[go_sem]
 have e:=@tJ c
 cases hs:digit c <;> rw[hs] at e <;> simp at e <;> ((repeat' (first|refine⟨?_,?_⟩|intro _)) <;> (first|rfl|(exfalso;omega)|(simp;omega)))
theorem mO (c:UInt8):aR Tryz.prog 80 [iv .u8 c.toNat] (· = bv (letter c)):=by
 refine az ac mixed Tryz.func80 rfl b9 [2] rfl c8 (by simp[Tryz.ntmps80]) fun g=>?_
 simp only[go_sem]
 have e:=@xW c
 cases hs:letter c <;> rw[hs] at e <;> simp at e <;> ((repeat' (first|refine⟨?_,?_⟩|intro _)) <;> (first|rfl|(exfalso;omega)|(simp;omega)))
theorem He (c:UInt8):aR Tryz.prog 55 [iv .u8 c.toNat] (· = bv (c != 10)):=by
 refine az ac mixed Tryz.func55 rfl b9 [2] rfl c8 (by simp[Tryz.ntmps55]) fun g=>?_
 by_cases h:c=10
 ·subst h
  have hi:(((10:UInt8).toNat:Nat):Int)=10:=rfl
  simp only[go_sem,hi]
  rfl
 ·have hi:¬((c.toNat:Nat):Int)=10:=nb (d:=10) h
  have hb:(c != 10)=true:=by simpa using h
  simp only[go_sem,hi,hb]
theorem tW (c:UInt8):aR Tryz.prog 82 [iv .u8 c.toNat] (· = bv (iz c)):=by
 refine az ac mixed Tryz.func82 rfl b9 [2] rfl c8 (by simp[Tryz.ntmps82]) fun g=>?_
 simp only[go_sem]
 refine aA rfl (by simp only[go_sem];exact mO c) (by simp only[go_sem];rfl) ?_
 rintro _ rfl
 unfold iz
 cases hl:letter c
 ·simp only[go_sem]
  refine aA rfl (by simp only[go_sem];exact kA c) (by simp only[go_sem];rfl) ?_
  rintro _ rfl
  cases hd:digit c
  ·by_cases h:c=95
   ·subst h
    have hi:(((95:UInt8).toNat:Nat):Int)=95:=rfl
    simp only[go_sem,hi]
    rfl
   ·have hi:¬((c.toNat:Nat):Int)=95:=nb (d:=95) h
    have hb:(c==95)=false:=by simpa using h
    simp only[go_sem,hi,hb,R2]
  ·simp only[go_sem,Bool.or_true,Bool.true_or]
 ·simp only[go_sem,Bool.true_or]
theorem lf {p:UInt8→Bool}:∀{s:Str}{k:Nat},(s.take k).all p=true→(s[k]?).all (fun c=>!p c)=true→s.takeWhile p=s.take k
 |[],k,_,_=>by simp
 |a::s,0,_,h=>by
   simp only[v8,Option.all_some,E3] at h
   simp[h]
 |a::s,k+1,h1,h2=>by
   simp only[F2,D7,l7] at h1
   rw[l8] at h2
   rw[I8,if_pos h1.1,F2,lf h1.2 h2]
theorem qM {f:FuncId}{p:UInt8→Bool} (hp:∀c,aR Tryz.prog f [iv .u8 c.toNat] (· = bv (p c))) (s:Str) (hs:s.length≤1000000000):aR Tryz.prog 54 [sv s,.one (.d (.fn f))] (· = sv (s.takeWhile p)):=by
 refine az ac mixed Tryz.func54 rfl b9 [4] rfl c8 (by simp[Tryz.ntmps54]) fun g=>?_
 simp only[go_sem]
 refine dS (fun n st=>∃k:Nat,n+k=s.length∧st.f 0=sv s∧st.f 1=.one (.d (.fn f))∧st.f 5=iv .i64 k∧(s.take k).all p=true) s.length ?_ ?_
 ·refine⟨0,a6,?_⟩
  simp only[go_sem]
  rfl
 rintro n fs g ob ⟨k,hk,q0,q1,q5,hall⟩
 simp only at q0 q1 q5
 have hw:=ai (k:=k) a6
 have hk0:(0:Int)≤(k:Int):=a6
 by_cases hlt:k<s.length
 ·obtain⟨c,hc⟩:=getq hlt
  have hlti:(k:Int)<(s.length:Int):=a6
  simp only[go_sem,q0,q1,q5,hlti,hc,hk0]
  refine dQ (f:=f) rfl (by simp only[go_sem,q1]) (by simp only[go_sem];exact hp c) (by simp only[go_sem];rfl) ?_
  rintro _ rfl
  cases hpc:p c
  ·have ht:=lf (p:=p) hall (by rw[hc];simp[hpc])
   simp only[go_sem,q0,q5]
   refine⟨a6,a6,?_⟩
   rw[ht]
   try rfl
  ·simp only[go_sem,q5,hw]
   refine bW (n-1) a6 ⟨k+1,a6,?_⟩
   simp only[go_sem,q0,q1]
   rw[A4,hc]
   simp[hall,hpc]
 ·obtain rfl:k=s.length:=a6
  have hlti:¬(s.length:Int)<(s.length:Int):=a6
  have ht:=lf (p:=p) hall (by rw[C7 (j9 _)];rfl)
  rw[ht,G4]
  simp only[go_sem,q0,q1,q5,hlti]
  exact⟨a6,a6⟩
theorem wH {s t:Str}:t.isPrefixOf s=decide (t.length≤s.length∧s.take t.length=t):=by
 rw[Bool.eq_iff_iff,M3,z8]
 constructor
 ·rintro⟨r,rfl⟩;exact⟨a7,a7⟩
 ·rintro⟨h1,h2⟩;exact⟨s.drop t.length,(congrArg (· ++ s.drop t.length) h2.symm).trans (G1 _ _)⟩
theorem DM (s p:Str):preB p s=p.isPrefixOf s:=by
 rw[wH]
 unfold preB
 rw[decide_eq_decide]
 constructor
 ·intro h
  have:=congrArg List.length h
  rw[B7] at this
  exact⟨a6,h⟩
 ·exact fun h=>h.2
theorem qd (s t:Str):aR Tryz.prog 53 [sv s,sv t] (· = bv (t.isPrefixOf s)):=by
 refine az ac mixed Tryz.func53 rfl b9 [4] rfl c8 (by simp[Tryz.ntmps53]) fun g=>?_
 simp only[go_sem]
 refine aA rfl (by simp only[go_sem];exact vV s t) (by simp only[go_sem];rfl) ?_
 rintro _ rfl
 simp only[go_sem,DM]
theorem Hf {s:St}{c:C}{x:D} (h:Frz s c x):jK s (.one c) (.one (.d x)):=⟨_,h,rfl⟩
def lh (t:Src.Tok):List D:=[.int .i64 (t.kind:Nat),.str t.text,.int .u32 (t.num:Nat),.int .i64 (t.place:Nat)]
def mV (t:Src.Tok):AV:=.agg ((lh t).map .d)
def nX:Src.R (Nat×Str×Nat)→AV
 |.ok (k,t,v)=>.tup [mV ⟨k,t,v,0⟩,iv .i64 0]
 |.err e=>.tup [mV ⟨0,[],0,0⟩,iv .i64 (e:Nat)]
theorem cW {s:St}{k v e:Nat}{t:Str}:nO s [.agg [.d (.int .i64 (k:Nat)),.d (.str t),.d (.int .u32 (v:Nat)),.d (.int .i64 0)],iv .i64 (e:Nat)] (.tup [mV ⟨k,t,v,0⟩,iv .i64 (e:Nat)]):=by
 refine⟨_,⟨_,_,rfl,⟨[.int .i64 (k:Nat),.str t,.int .u32 (v:Nat),.int .i64 0],rfl,fun i c hc'=>?_,rfl⟩,_,_,rfl,jf _,rfl⟩,rfl⟩
 match i,hc' with
 |0,hc'=>cases hc';exact⟨_,rfl,.d _⟩
 |1,hc'=>cases hc';exact⟨_,rfl,.d _⟩
 |2,hc'=>cases hc';exact⟨_,rfl,.d _⟩
 |3,hc'=>cases hc';exact⟨_,rfl,.d _⟩
theorem Hg (c:UInt8) (n:Nat):n≤BD n c:=by unfold BD;omega
theorem Be (s:Str) (k:Nat):gq (s.take k)≤gq s:=by
 have h:∀(l:Str) (n:Nat),n≤l.foldl BD n:=fun l=>by
  induction l with
  |nil=>intro n;exact j9 _
  |cons c l ih=>intro n;exact B1 (Hg c n) (ih _)
 conv=>rhs;rw[←G1 k s]
 unfold gq
 rw[List.foldl_append]
 exact h _ _
theorem yv (s:Str) (hs:s.length≤1000000000) (hd:s.all digit=true):aR Tryz.prog 78 [sv s] (· = nX (if 4294967295<gq s then .err 2 else .ok (2,s,gq s))):=by
 refine bM ac mixed Tryz.func78 rfl b9 [.cell 2 98,.tmp 3] rfl c8 (by simp[Tryz.ntmps78]) fun g=>?_
 simp only[go_sem]
 refine dS (fun n st=>∃k:Nat,n+k=s.length∧st.f 0=sv s∧st.f 2=.one (.ptr 2 (nxC 99 (g 2)) 0)∧st.gen 2=nxC 99 (g 2)∧st.obj 2=some [.d (.int .i64 0),.d (.str []),.d (.int .u32 0),.d (.int .i64 0)]∧st.f 4=iv .u64 (gq (s.take k):Nat)∧st.f 5=iv .i64 k∧gq (s.take k)≤4294967295) s.length ?_ ?_
 ·refine⟨0,a6,?_⟩
  simp only[go_sem]
  exact⟨rfl,a8⟩
 rintro n f g' ob ⟨k,hk,q0,q2,g2,o2,q4,q5,hle⟩
 simp only at q0 q2 g2 o2 q4 q5
 have hw:=ai (k:=k) a6
 have hk0:(0:Int)≤(k:Int):=a6
 by_cases hlt:k<s.length
 ·obtain⟨c,hc⟩:=getq hlt
  have hlti:(k:Int)<(s.length:Int):=a6
  have hnx:=AH hc
  have hmono:=Be s (k+1)
  have hdc:=tJ.1 (r0.1 hd c (l4 hc))
  have w1:IntKind.u64.wrap ((gq (s.take k):Int)*10)=((gq (s.take k)*10:Nat):Int):=by rw[IntKind.wrap_u64];omega
  have w2:IntKind.u8.wrap ((c.toNat:Int)-48)=((c.toNat-48:Nat):Int):=by rw[IntKind.wrap_u8];omega
  have w3:IntKind.u64.wrap ((c.toNat-48:Nat):Int)=((c.toNat-48:Nat):Int):=by rw[IntKind.wrap_u64];omega
  have w4:IntKind.u64.wrap (((gq (s.take k)*10:Nat):Int)+((c.toNat-48:Nat):Int))=(gq (s.take (k+1)):Int):=by rw[IntKind.wrap_u64,hnx];omega
  by_cases hbig:4294967295<gq (s.take (k+1))
  ·have hbi:(4294967295:Int)<(gq (s.take (k+1)):Int):=a6
   rw[if_pos a6]
   simp only[go_sem,q0,q2,g2,o2,q4,q5,hlti,hk0,hc,w1,w2,w3,w4,hbi]
   exact⟨_,cW (k:=0) (v:=0) (e:=2),rfl⟩
  ·have hbi:¬(4294967295:Int)<(gq (s.take (k+1)):Int):=a6
   simp only[go_sem,q0,q2,g2,o2,q4,q5,hlti,hk0,hc,w1,w2,w3,w4,hbi,hw]
   refine bW (n-1) a6 ⟨k+1,a6,?_⟩
   simp only[go_sem,q0,q2,g2,o2]
   omega
 ·obtain rfl:k=s.length:=a6
  have hlti:¬(s.length:Int)<(s.length:Int):=a6
  rw[l6 (j9 _)] at q4 hle
  have w5:IntKind.u32.wrap (gq s:Int)=(gq s:Int):=by rw[IntKind.wrap_u32];omega
  rw[if_neg a6]
  simp only[go_sem,q0,q2,g2,o2,q4,q5,hlti,w5]
  exact⟨_,cW (k:=2) (e:=0),rfl⟩
def qe:Str→Src.R (Nat×Str×Nat)
 |c::x::y::_=>if y=39∧32≤x.toNat∧x.toNat≤126∧x≠39∧x≠92 then .ok (2,[c,x,y],x.toNat) else .err 3
 |_=>.err 3
theorem DN (s:Str):aR Tryz.prog 79 [sv s] (· = nX (qe s)):=by
 refine bM ac mixed Tryz.func79 rfl b9 [.cell 2 98,.tmp 3] rfl c8 (by simp[Tryz.ntmps79]) fun g=>?_
 by_cases hlen:s.length<3
 ·have hi:(s.length:Int)<3:=a6
  have hb:qe s=.err 3:=by
   match s,hlen with
   |[],_=>rfl
   |[_],_=>rfl
   |[_,_],_=>rfl
   |_::_::_::_,h=>simp at h;omega
  rw[hb]
  simp only[go_sem,hi]
  exact⟨_,cW (k:=0) (v:=0) (e:=3),rfl⟩
 obtain⟨c,x,y,r,rfl⟩:∃c x y r,s=c::x::y::r:=by
  match s,hlen with
  |c::x::y::r,_=>exact⟨c,x,y,r,rfl⟩
  |[],h=>simp at h
  |[_],h=>simp at h
  |[_,_],h=>simp at h
 have hi:¬((c::x::y::r).length:Int)<3:=a6
 have h2:(c::x::y::r)[2]? = some y:=rfl
 have h1:(c::x::y::r)[1]? = some x:=rfl
 have ht:(c::x::y::r).take 3=[c,x,y]:=rfl
 have hl3:3≤(c::x::y::r).length:=a7
 rw[show qe (c::x::y::r)=(if y=39∧32≤x.toNat∧x.toNat≤126∧x≠39∧x≠92 then .ok (2,[c,x,y],x.toNat) else .err 3) from rfl]
 generalize (c::x::y::r)=s at hi h2 h1 ht hl3
 by_cases e1:y=39
 case neg=>
  have e1i:¬((y.toNat:Nat):Int)=39:=nb (d:=39) e1
  rw[if_neg (fun h=>e1 h.1)]
  simp only[go_sem,hi,h2,e1i]
  exact⟨_,cW (k:=0) (v:=0) (e:=3),rfl⟩
 have e1i:((y.toNat:Nat):Int)=39:=by rw[e1];rfl
 by_cases e2:32≤x.toNat
 case neg=>
  have e2i:((x.toNat:Nat):Int)<32:=a6
  rw[if_neg (fun h=>e2 h.2.1)]
  simp only[go_sem,hi,h2,h1,e1i,e2i]
  exact⟨_,cW (k:=0) (v:=0) (e:=3),rfl⟩
 have e2i:¬((x.toNat:Nat):Int)<32:=a6
 by_cases e3:x.toNat≤126
 case neg=>
  have e3i:(126:Int)<((x.toNat:Nat):Int):=a6
  rw[if_neg (fun h=>e3 h.2.2.1)]
  simp only[go_sem,hi,h2,h1,e1i,e2i,e3i]
  exact⟨_,cW (k:=0) (v:=0) (e:=3),rfl⟩
 have e3i:¬(126:Int)<((x.toNat:Nat):Int):=a6
 by_cases e4:x=39
 ·have e4i:((x.toNat:Nat):Int)=39:=by rw[e4];rfl
  rw[if_neg (fun h=>h.2.2.2.1 e4)]
  simp only[go_sem,hi,h2,h1,e1i,e2i,e3i,e4i]
  exact⟨_,cW (k:=0) (v:=0) (e:=3),rfl⟩
 have e4i:¬((x.toNat:Nat):Int)=39:=nb (d:=39) e4
 by_cases e5:x=92
 ·have e5i:((x.toNat:Nat):Int)=92:=by rw[e5];rfl
  rw[if_neg (fun h=>h.2.2.2.2 e5)]
  simp only[go_sem,hi,h2,h1,e1i,e2i,e3i,e4i,e5i]
  exact⟨_,cW (k:=0) (v:=0) (e:=3),rfl⟩
 have e5i:¬((x.toNat:Nat):Int)=92:=nb (d:=92) e5
 rw[if_pos ⟨e1,e2,e3,e4,e5⟩]
 have w5:IntKind.u32.wrap ((x.toNat:Nat):Int)=((x.toNat:Nat):Int):=by have:=x.toNat_lt;rw[IntKind.wrap_u32];omega
 simp only[go_sem,hi,h2,h1,e1i,e2i,e3i,e4i,e5i]
 refine bF c9 ?_
 simp only[go_sem,h1,w5,B6,ht]
 exact⟨hl3,_,cW (k:=2) (e:=0),rfl⟩
end
end Go.Proofs.YtbojbioflppbdaaGreatDoor
namespace Go.Am
section
section
section
variable {P:Program}{T:Nat→TI}{b₀:Bs}{β:Loc}{g:Nat→Nat}{ob:Obs}{n₀:Nat}{w w':World}
end
end
end
end Go.Am
namespace Go.Proofs.YtbojbioflppbdaaGreatDoor
section
attribute [local congr] Go.Am.ite_cc
open Go Go.Am Go.Asm
def iK (o:cN):Prop:=∀w:World,qr 1 o w→(∀(i:Nat) t,Src.Ej[i]? = some t→w.cell? ⟨1,i,none⟩=some (.string ⟨t.toArray⟩))∧(∀(i:Nat) t,Src.KS[i]? = some t→w.cell? ⟨0,i,none⟩=some (.string ⟨t.toArray⟩))
theorem wJ {o:cN} (ho:iK o) (s:Str):bR Tryz.prog 1 o 84 [sv s] (· = bv (decide (s∈Src.Ej))):=by
 refine ax 0 1 o ac mixed Tryz.func84 rfl b9 [.tmp 2] rfl c8 c8 (by simp[Tryz.ntmps84]) fun b₀ β0 s0 w0 g=>?_
 have hwl:Src.Ej.length=10:=rfl
 simp only[go_sem]
 refine ap (fun n st=>∃k:Nat,n+k=10∧st.f 0=sv s∧st.f 4=iv .i64 k∧s∉Src.Ej.take k) 10 ?_ ?_
 ·refine⟨0,rfl,?_⟩
  simp only[go_sem]
  simp
 rintro n f g' ob ⟨k,hk,q0,q4,hno⟩
 simp only at q0 q4
 have hw:=ai (k:=k) a6
 by_cases hlt:k<10
 ·have hlti:(k:Int)<10:=a6
  obtain⟨t,ht⟩:=getq (l:=Src.Ej) (k:=k) a6
  simp only[go_sem,q0,q4,hlti]
  refine oW ab (fun s β ds w h=>h.1.2) ac (n:=10) (e:=9) rfl rfl a8 (kd:=.i64) (i:=k) (by simp only[go_sem,q4]) hlt (cs:=[.str t]) (fun j x hx=>by match j,hx with|0,hx=>cases hx;rfl) (fun w hw j x hx=>by
   match j,hx with
   | 0,hx=>cases hx;rw[show k*(Tt 9).size+0=k from by show k*1+0=k;omega];exact(ho w hw).1 k t ht) ?_
  by_cases he:t=s
  ·have hin:s∈Src.Ej:=he▸l4 ht
   simp only[go_sem,q0,he]
   exact(E8 hin).symm
  ·simp only[go_sem,q0,q4,he,hw]
   refine ah (n-1) a6 ⟨k+1,a6,?_⟩
   simp only[go_sem,q0]
   rw[A4,ht]
   simp[hno,z6 he]
 ·obtain rfl:k=10:=a6
  rw[l6 (by rw[hwl];decide)] at hno
  simp only[go_sem,q0,q4,show ¬((10:Nat):Int)<10 by decide]
  exact(y9 hno).symm
def qf (s:Str):Src.R (Nat×Str×Nat):=if 20<s.length then .err 2 else if s∈Src.Ej then .ok (3,s,0) else .ok (1,s,0)
theorem DO {o:cN} (ho:iK o) (s:Str):bR Tryz.prog 1 o 81 [sv s] (· = nX (qf s)):=by
 refine ax 0 1 o ac mixed Tryz.func81 rfl b9 [.cell 2 98,.tmp 3] rfl c8 c8 (by simp[Tryz.ntmps81]) fun b₀ β0 s0 w0 g=>?_
 unfold qf
 by_cases h20:20<s.length
 ·have h20i:(20:Int)<(s.length:Int):=a6
  rw[if_pos h20]
  simp only[go_sem,h20i,ew]
  exact⟨_,cW (k:=0) (v:=0) (e:=2),rfl⟩
 have h20i:¬(20:Int)<(s.length:Int):=a6
 rw[if_neg h20]
 simp only[go_sem,h20i]
 refine am ab (fun s β ds w h=>h.1.2) rfl (by simp only[go_sem];exact wJ ho s) (by simp only[go_sem];rfl) ?_
 rintro _ rfl
 by_cases hin:s∈Src.Ej
 ·rw[if_pos hin,E8 hin]
  simp only[go_sem,ew]
  exact⟨_,cW (k:=3) (v:=0) (e:=0),rfl⟩
 ·rw[if_neg hin,y9 hin]
  simp only[go_sem,ew]
  exact⟨_,cW (k:=1) (v:=0) (e:=0),rfl⟩
end
end Go.Proofs.YtbojbioflppbdaaGreatDoor
