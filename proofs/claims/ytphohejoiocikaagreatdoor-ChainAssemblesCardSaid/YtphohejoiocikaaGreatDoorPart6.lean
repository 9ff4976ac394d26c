/- A part of the proof; no conditions. -/
import Derived.Test.YtphohejoiocikaaGreatDoorPart5
import Derived.RangeFuncSeq
import Derived.Below
import Derived.Lib.UnsafeStr
import Derived.Laws.Externs
import Derived.Handed
import Derived.Lay
import Derived.LaidMore
import Derived.SevenTiedAt
import Derived.Stop.Joined
import Derived.KernelRfl
import Derived.DefersIn
import Derived.RecoverIn
import Derived.Test.YtphohejoiocikaaGreatDoorProg
import Derived.Lib.Bytealg
import Derived.Shelf.Strings.IndexAnyAll
import Derived.Laws.RangeAny
import Derived.WalkMore
import Derived.Shelf.RegionOpenPlain
import Derived.BigQuiet
import Derived.Laws.Runes
import Derived.Shelf.Small.Utf8
import Derived.Lib.QuoteLoop
import Derived.Lib.TrimU
import Derived.Lib.OthersKept
import Derived.Shelf.Strings.SlTrimAscii
import Derived.Shelf.Strings.Runes
set_option linter.unusedSimpArgs false
set_option linter.unusedVariables false
set_option maxHeartbeats 64000000
set_option maxRecDepth 100000
namespace Go.Am
section
section
variable {B B' id:Nat}{ops:Array Oper}{Q:Exit→St→Prop}
section
variable {P:Program}{T:Nat→TI}{b₀:Bs}{w:World}{rd:Option Nat}{Φ:St→Loc→List Deferred→World→Prop}{Ψ:dL}
theorem qg {hT:aI P T} (hΦ:aX b₀ Φ) {B N:Nat}{ops:Array Oper}{ds:List Deferred}{Q:Exit→Act→World→Prop} (hnd:ops.toList.all aF=true) (hg:ops.toList.all (fun o=>o.guard.isNone)=true) (hds:de N ops.toList=true) (I:(Nat→Bool)→St→Prop)
  (hstep:∀(L:Nat→Bool) (s:St) (i:Nat) (o:Oper),I L s→ops[i]? = some o→L i=false→(∀e∈o.after.toList,Region.binds .any e=true→L e.on=true)→
    (∀j o',L j=true→ops[j]? = some o'→∀e∈o'.after.toList,Region.binds .any e=true→L e.on=true)→opA (spB P B) T o s (bx fun s'=>I (upd L i true) s')) :
  ∀(fuel:Nat) (listed:Array Bool) {s:St}{β:Loc}{a:Act}{w:World},listed.size=ops.size→listed.toList.count false≤fuel→Rel b₀ N s β a w→Φ s β ds w→I (fun i=>listed.getD i false) s→
   (∀j o',listed.getD j false=true→ops[j]? = some o'→∀e∈o'.after.toList,Region.binds .any e=true→listed.getD e.on false=true)→
   (∀L s' β' a' w',I L s'→Rel b₀ N s' β' a' w'→Φ s' β' ds w'→(∃listed',L=(fun i=>listed'.getD i false)∧listed'.size=ops.size∧Region.ready .any ops listed'=[])→Q .normal { a' with defers:=ds } w')→
   wpAnyIn (fen rd) 0 P .any ops Q fuel listed { a with defers:=ds } w
 |0,listed,s,β,a,w,hsz,hc,hr,hφ,hI,hid,hQ=>by
   exact Mg
 |fuel+1,listed,s,β,a,w,hsz,hc,hr,hφ,hI,hid,hQ=>by
   refine⟨fun hrd=>hQ _ s β a w hI hr hφ ⟨listed,rfl,hsz,hrd⟩,fun i hi=>?_⟩
   unfold Region.ready at hi
   simp only[LV,A2,l5,C4] at hi
   obtain⟨hi1,hi2,hi3⟩:=hi
   have ho:ops[i]? = some ops[i]:=o9 hi1
   rw[ho] at hi3
   simp only[r0,s5,J2,B1,C4] at hi3
   have hli:listed[i]? = some false:=by
    exact NG
   have hL:listed.getD i false=false:=by rw[j7,hli];rfl
   have hedge:∀e∈ops[i].after.toList,Region.binds .any e=true→listed.getD e.on false=true:=fun e he hb=>by
    exact MZ
   have hgi:(ops[i]).guard=none:=by
    have:=l7.1 hg ops[i] (B5 hi1)
    simpa using this
   have hdi:∀d,(ops[i]).dst=some d→d<N:=fun d hd=>by
    exact Nb
   have hni:aF ops[i]=true:=l7.1 hnd ops[i] (B5 hi1)
   unfold wpOpIn
   rw[ho]
   simp only
   rw[if_pos (by simp[Region.wanted,hgi])]
   have hset:(fun j=>(listed.setIfInBounds i true).getD j false)=upd (fun j=>listed.getD j false) i true:=by
    funext j
    exact MA
   refine eN hni (io hT hr hdi (hstep _ s i ops[i] hI ho hL hedge hid) (fun s' β' a' w' hI' hr' ht'=>⟨hr'.defers,?_⟩))
   refine qg (hT:=hT) hΦ hnd hg hds I hstep fuel (listed.setIfInBounds i true) (by simpa using hsz) O6 hr' (hΦ _ _ _ _ _ _ _ hφ ht') (by rw[hset];exact hI') (fun j o' hj hoj e he hb=>?_) hQ
   exact Mb
theorem ww (hT:aI P T) (hm:P.follows .mixedOrders=true) (hΦ:aX b₀ Φ){s:St}{q:Box Q} (hnd:ops.toList.all aF=true) (hok:(ops.toList.all (fun o=>o.guard.isNone)&&ou ops)=true) (I:(Nat→Bool)→St→Prop) (h0:I (fun _=>false) s)
  (hstep:∀(L:Nat→Bool) (s:St) (i:Nat) (o:Oper),I L s→ops[i]? = some o→L i=false→(∀e∈o.after.toList,Region.binds .any e=true→L e.on=true)→
    (∀j o',L j=true→ops[j]? = some o'→∀e∈o'.after.toList,Region.binds .any e=true→L e.on=true)→opA (spB P B) T o s (bx fun s'=>I (upd L i true) s'))
  (hend:∀L s',I L s'→(∀i,i<ops.size→L i=true)→Q .normal s'):gY (spF P rd b₀ Φ B' Ψ) T id ops s q:=by
 rw[l5] at hok
 obtain⟨hg,hbk⟩:=hok
 refine .inr ⟨fun e s'=>e=.normal∧Q .normal s',fun N β a ds w hc hr hφ=>?_,fun e s' ⟨h1,h2⟩=>h1▸h2⟩
 have hr1:Rel b₀ N s β a { w with drawn:=w.drawn+1 }:=hr.of_heap rfl
 have hφ1:Φ s β ds { w with drawn:=w.drawn+1 }:=hΦ _ _ _ _ _ _ _ hφ (Tr.same rfl rfl rfl)
 refine wpIn_region_any hm (qg (hT:=hT) hΦ hnd hg hc I hstep ops.size (Array.replicate ops.size false) a7 a7 hr1 hφ1 ?_ (fun j o' hj=>?_) (fun L s' β' a' w' h2 h4 h5 h6=>⟨s',β',a',ds,rfl,.inl ⟨rfl,hend L s' h2 OK⟩,h4,h5⟩))
 ·exact Mx
 ·rw[j7,w7] at hj
  split at hj <;> simp at hj
theorem wx (hT:aI P T) (hm:P.follows .mixedOrders=true) (hΦ:aX b₀ Φ){s:St}{q:Box Q} (ids:List Nat) (tb:List (List Nat×List Nat×List Nat×Bool)) (nid:Nat) (hnd0:ops.toList.all aF=true) (hok:vk ops tb nid=true) (hnid:ids.length=nid) (hnd:ids.Nodup)
  (h:gp (spB P B) T ids (ff ops.toList tb) s (bx fun s'=>Q .normal s')):gY (spF P rd b₀ Φ B' Ψ) T id ops s q:=by
 obtain⟨h1,I,h2,h3,h4⟩:=vm (Q:=Q) ids tb nid hok hnid hnd h
 exact ww hT hm hΦ hnd0 h1 I h2 h3 h4
end
end
section
section
variable {P:Program}{T:Nat→TI}{b₀:Bs}{w:World}
theorem ll {N:Nat}{xs:List AV}{vs:List Value}{g:Nat→Nat}{ob:Obs}{β:Loc}{fa:Nat→AV}{M:Nat}{a:Act} (hargs:xs.length≤N) (hr0:Rel b₀ M ⟨fa,g,ob⟩ β a w) (hv:au b₀ β g ob w xs vs) :
  Rel b₀ N ⟨cD xs,g,ob⟩ β { tmps:=vs.toArray++Array.replicate (N-vs.toArray.size) undef,defers:=[]} w:=by
 have hl:=hv.len
 refine⟨rfl,by simp;omega,fun i=>?_,hr0.obj,hr0.inj,hr0.base⟩
 simp only[cD]
 cases hx:xs[i]? with
 |some x=>
   obtain⟨v,h1,h2⟩:=hv.get hx
   have hlt:i<vs.length:=(j0.1 h1).1
   have:(vs.toArray++Array.replicate (N-vs.toArray.size) undef).getD i undef=v:=by
    rw[j7,A7 (by simpa using hlt)]
    simp[h1]
   rw[this]
   simpa only[s5] using h2
 |none=>
   have hge:xs.length≤i:=by simpa using hx
   have:(vs.toArray++Array.replicate (N-vs.toArray.size) undef).getD i undef=undef:=by
    rw[j7,C3 N7]
    simp[w7]
    split <;> rfl
   rw[this]
   exact bJ
end
end
section
def Mk (b₀:Bs) (β:Loc) (ob:Obs) (w:World) (n₀:Nat):List Deferred→Prop
 |[]=>True
 |d::ds=>(∃D,d = { target:=.collected D,args:=#[]}∧n₀≤D∧Imm b₀ β ob w D∧w.heap[D]? = some (.deferred (some []))∧∀d'∈ds,d'≠d)∧Mk b₀ β ob w n₀ ds
def Io (b₀:Bs) (β0:Loc) (s0:St) (w0:World):St→Loc→List Deferred→World→Prop:=fun s β ds w=>Tr b₀ β0 s0 w0 β s w∧Mk b₀ β s.obj w w0.heap.size ds
theorem Mk.keep {b₀:Bs}{β β':Loc}{s s':St}{w w':World} (h:Tr b₀ β s w β' s' w') {n₀:Nat}:∀{ds:List Deferred},Mk b₀ β s.obj w n₀ ds→Mk b₀ β' s'.obj w' n₀ ds
 |[],_=>trivial
 |d::ds,hm=>by
   obtain⟨⟨D,h1,h2,h3,h4,h5⟩,hr⟩:=hm
   exact⟨⟨D,h1,h2,(h.imm D h3).1,by rw[(h.imm D h3).2];exact h4,h5⟩,Mk.keep h hr⟩
theorem wy {b₀:Bs}{β0:Loc}{s0:St}{w0:World}:aX b₀ (Io b₀ β0 s0 w0):=fun _ _ _ _ _ _ _ h ht=>⟨h.1.trans ht,h.2.keep ht⟩
section
variable {P:Program}{T:Nat→TI}{b₀:Bs}{β:Loc}{w:World}
end
end
section
section
variable {P:Program}{T:Nat→TI}{b₀:Bs}{β:Loc}{w:World}
end
end
section
variable {cells:List C}
section
variable {P:Program}{T:Nat→TI}{b₀:Bs}{β:Loc}{w:World}
def St.claimAt (s:St) (o b j sz:Nat) (cells:List C):St:=⟨s.f,upd s.gen b (s.gen b+1),upd (upd s.obj o (some (cells.set j (.osl b (s.gen b+1) sz 0 0)))) b (some [])⟩
theorem rR {s:St}{t o b j sz:Nat} (ht:(∃off,s.f t=.one (.ptr o (s.gen o) off))∨∃sz off len,s.f t=.one (.osl o (s.gen o) sz off len)) (ho:s.obj o=some cells) (hj:cells[j]? = some (.d .nsl)) (n1:o≠b):al s (s.claimAt o b j sz cells):=by
 intro b₀ N β a w hr
 let β':Loc:=fun i=>if i=b then none else β i
 have hlive:∀i,i≠b→((s.claimAt o b j sz cells).obj i).isSome=true→(s.obj i).isSome=true:=fun i hib hi=>by
  simp only[St.claimAt,upd,if_neg hib] at hi
  by_cases e2:i=o
  ·subst e2;rw[ho];rfl
  ·rwa [if_neg e2] at hi
 have hkeep:dO b₀ β s.gen s.obj w β' (s.claimAt o b j sz cells).gen (s.claimAt o b j sz cells).obj w:=by
  refine⟨fun x hx=>⟨⟨hx.1,hx.2.1,fun i a' hi hβ=>?_⟩,rfl⟩,fun i=>?_,fun i hg hi=>?_⟩
  ·by_cases hib:i=b
   ·simp[β',hib] at hβ
   ·simp only[β',if_neg hib] at hβ
    exact hx.2.2 i a' (hlive i hib hi) hβ
  ·simp only[St.claimAt,upd];split
   ·rename_i e;subst e;omega
   ·omega
  ·by_cases hib:i=b
   ·subst hib;simp[St.claimAt,upd] at hg
   ·exact⟨hlive i hib hi,by simp[β',hib],fun a' _ arr el fr h=>⟨arr,el,fr,h,b9 _⟩⟩
 have hspot:∀ad,β o=some ad→ad.spot=none:=fun ad hβ=>by
  have hv:=hr.f t
  rcases ht with⟨off,ht⟩|⟨sz,off,len,ht⟩
  ·rw[ht] at hv
   simp only[ab,aj] at hv
   obtain⟨a',h1,h2,_⟩:=hv.2.2 trivial OO
   rw[hβ] at h1;cases h1;exact h2
  ·rw[ht] at hv
   simp only[ab] at hv
   exact(eO hv rfl OO).spot ad hβ
 refine⟨β',⟨hr.defers,hr.size,fun i=>ab.keep hkeep _ (hr.f i),fun i cells' hc'=>?_,fun i1 i2 a1 a2 l1 l2 b1 b2 hb=>?_,hr.base⟩,b9 _,fun _ _=>rfl,hkeep,rfl,rfl⟩
 ·by_cases hib:i=b
  ·subst hib
   simp only[St.claimAt,upd,A9,l9] at hc'
   subst hc'
   simp only[β',A9]
   rfl
  ·by_cases e2:i=o
   ·subst e2
    simp only[St.claimAt,upd,if_neg hib,A9,l9] at hc'
    subst hc'
    have hob:=hr.obj i cells ho
    have hβ':β' i=β i:=by simp[β',n1]
    rw[hβ']
    cases hβ:β i with
    |none=>rw[hβ] at hob;have:cells=[]:=hob;subst this;simp at hj
    |some ad=>
      rw[hβ] at hob
      obtain⟨g1,arr,el,lo,hi,g2,g3,g4,g5⟩:=hob.cells (hspot ad hβ)
      refine .ofCells (hspot ad hβ) ⟨g1,arr,el,lo,hi,g2,by simpa[St.claimAt,upd,hib] using g3,by simpa using g4,fun k c hk=>?_⟩
      by_cases hkj:k=j
      ·subst hkj
       have hlt:=(j0.1 hj).1
       rw[List.getElem?_set_self hlt] at hk
       cases hk
       obtain⟨v,hv,hrv⟩:=g5 k _ hj
       simp only[aj] at hrv
       obtain rfl:=hrv.inv_nsl
       refine⟨_,hv,rfl,by simp[St.claimAt,upd],fun _ _=>?_⟩
       simp only[β',A9]
       exact⟨rfl,rfl⟩
      ·rw[List.getElem?_set_ne (C5 hkj)] at hk
       obtain⟨v,hv,hrv⟩:=g5 k c hk
       exact⟨v,hv,hrv.keep hkeep⟩
   ·simp only[St.claimAt,upd,if_neg hib,if_neg e2] at hc'
    have:=(hr.obj i cells' hc').keep hkeep (fun _ _=>rfl)
    simpa[β',hib,St.claimAt,upd] using this
 ·have h1:i1≠b:=fun e=>by simp[β',e] at b1
  have h2:i2≠b:=fun e=>by simp[β',e] at b2
  simp only[β',if_neg h1] at b1
  simp only[β',if_neg h2] at b2
  exact hr.inj i1 i2 a1 a2 (hlive i1 h1 l1) (hlive i2 h2 l2) b1 b2 hb
theorem ft {s:St}{t o b j sz off:Nat} (ht:s.f t=.one (.ptr o (s.gen o) off)) (ho:s.obj o=some cells) (hj:cells[j]? = some (.d .nsl)) (n1:o≠b):al s (s.claimAt o b j sz cells):=
 rR (.inl ⟨off,ht⟩) ho hj n1
end
end
end
section
attribute [local congr] Go.Am.ite_cc
section
variable {s:St}{K:List AV→Prop}{T:Nat→TI}{fn:Func}{g:Nat→Nat}{rs:List ResultVar}{R:AV→Prop}{r:List ResultVar}{k:Box K}
section
variable {P:Program}{T:Nat→TI}{b₀:Bs}{β:Loc}{w:World}
def gu (T:Nat→TI) (s:St):List ResultVar→{K:List AV→Prop}→Box K→Prop
 |[],K,_=>K []
 |.tmp t::r,K,_=>gu T s r (bx fun vs=>K (s.f t::vs))
 |.cell a ty::r,K,_=>mX (T ty) s (s.f a) (bx fun v=>gu T s r (bx fun vs=>K (v::vs)))
theorem jy (hT:aI P T) {N:Nat}{s:St}{a:Act} (hr:Rel b₀ N s β a w) :
  ∀(rs:List ResultVar) {K:List AV→Prop}{k:Box K},gu T s rs k→∃vs avs,(∀g:ResultVar→Sem Value,(∀t,g (.tmp t)=pure (a.tmps.getD t undef))→(∀x t,g (.cell x t)=do loadVar t (←asAddr (a.tmps.getD x undef)))→(rs.mapM g).run P w=.ok vs w)∧K avs∧au b₀ β s.gen s.obj w avs vs
 |[],K,k,h=>⟨[],[],fun _ _ _=>by simp,h,by simp only[au]⟩
 |.tmp t::r,K,k,h=>by
   obtain⟨vs,avs,h1,h2,h3⟩:=jy hT hr r h
   refine⟨_::vs,_::avs,fun g hg hg2=>?_,h2,by simp only[au];exact⟨_,_,rfl,hr.f t,h3⟩⟩
   simp only[J6,Sem.run_bind,hg,Sem.run_pure,Result.andThen_ok,h1 g hg hg2]
 |.cell x ty::r,K,k,h=>by
   unfold gu at h
   obtain⟨y,cv,hK,hrun,hrep⟩:=nf hT hr h (hr.f x)
   obtain⟨vs,avs,h1,h2,h3⟩:=jy hT hr r hK
   refine⟨cv::vs,y::avs,fun g hg hg2=>?_,h2,by simp only[au];exact⟨_,_,rfl,hrep,h3⟩⟩
   have hl:=hrun w .refl
   have hcell:(g (.cell x ty)).run P w=.ok cv w:=by
    rw[hg2]
    unfold Instr.loadAt at hl
    cases hv:a.tmps.getD x undef with
    |pointer p=>
      rw[hv] at hl
      cases p with
      |some p=>simpa[Instr.sureAddr,asAddr] using hl
      |none=>simp[Instr.sureAddr] at hl
    |_=>rw[hv] at hl;simp[Instr.sureAddr] at hl
   simp only[J6,Sem.run_bind,hcell,Sem.run_pure,Result.andThen_ok,h1 g hg hg2]
def pack:List AV→AV
 |[t]=>t
 |ts=>.tup ts
def ik:List Value→Value
 |[v]=>v
 |vs=>.tuple vs.toArray
theorem rS{ob:Obs}:∀{avs:List AV}{vs:List Value},au b₀ β g ob w avs vs→ab b₀ β g ob w (pack avs) (ik vs)
 |[],vs,h=>by simp only[au] at h;subst h;simp only[pack,ik,ab,au];exact⟨[],rfl,rfl⟩
 |[t],vs,h=>by simp only[au] at h;obtain⟨u,us,rfl,h1,rfl⟩:=h;exact h1
 |t::t'::ts,vs,h=>by
   have h0:=h
   simp only[au] at h
   obtain⟨u,us,rfl,h1,u',us',rfl,h2,h3⟩:=h
   simp only[pack,ik,ab]
   exact⟨_,rfl,h0⟩
theorem dm (hT:aI P T) {N:Nat}{a:Act} (hr:Rel b₀ N s β a w) (hres:fn.results=rs.toArray) (h:gu T s rs k) :
  ∃v avs,(results fn a.tmps).run P w=.ok v w∧K avs∧ab b₀ β s.gen s.obj w (pack avs) v∧∃vs,v=ik vs∧au b₀ β s.gen s.obj w avs vs:=by
 obtain⟨vs,avs,h1,h2,h3⟩:=jy hT hr rs h
 refine⟨ik vs,avs,?_,h2,rS h3,vs,rfl,h3⟩
 unfold results
 simp only[hres,LM,Sem.run_bind,Sem.run_map]
 rw[h1 _ (fun _=>rfl) (fun _ _=>rfl)]
 simp only[Result.andThen_ok,Sem.run_pure]
 match vs with
 |[]=>simp[ik]
 |[t]=>simp[ik]
 |t::t'::ts=>simp[ik]
def rT (T:Nat→TI) (rs:List ResultVar) (R:AV→(Nat→Nat)→Obs→Prop):Exit→St→Prop
 |.normal,s|.ret,s=>∃s',al s s'∧gu T s' rs (bx fun avs=>R (pack avs) s'.gen s'.obj)
 |_,_=>False
theorem tY (B:Nat) (hT:aI P T) (hm:P.follows .mixedOrders=true) {f:FuncId}{c:Code} (hf:P.funcs[f]? = some fn) (hb:fn.body=some c) (hn:(fn.name == "runtime.NumGoroutine")=false)
  (rs:List ResultVar) (hres:fn.results=rs.toArray) (hok:codeOk fn.ntmps c=true) {xs:List AV} (hargs:xs.length≤fn.ntmps){ob:Obs}{R:AV→(Nat→Nat)→Obs→Prop}
  (h:wpC (spB P B) T c (bx (rT T rs R)) ⟨cD xs,g,ob⟩):dK P f xs g ob R:=by
 refine⟨⟨fn,hf,by rw[hb];rfl,hn⟩,fun b₀ N β a fa w vs hr0 hv=>?_⟩
 refine calls_of_wp hf hb ?_
 have hl:=hv.len
 have hr:Rel b₀ fn.ntmps ⟨cD xs,g,ob⟩ β { tmps:=vs.toArray++Array.replicate (fn.ntmps-vs.toArray.size) undef,defers:=[]} w:=by
  refine⟨rfl,by simp;omega,fun i=>?_,hr0.obj,hr0.inj,hr0.base⟩
  simp only[cD]
  cases hx:xs[i]? with
  |some x=>
    exact My
  |none=>
    have hge:xs.length≤i:=by simpa using hx
    exact L7
 refine wp_mono (cV (B:=B) hT hm c hok hr h) (fun e a' w' hp=>?_)
 obtain⟨s',β',hQ,hr',ht⟩:=hp
 have hres':rT T rs R .ret s'→∃v,(results fn a'.tmps).run P w'=.ok v w'∧∃v' r g' ob' β',Ending.returned v=.returned v'∧R r g' ob'∧ab b₀ β' g' ob' w' r v'∧
   (∀id cells,ob' id=some cells→cw b₀ β' g' ob' w' (g' id) cells (β' id))∧(∀id id' a a',(ob' id).isSome=true→(ob' id').isSome=true→β' id=some a→β' id'=some a'→a.block=a'.block→id=id')∧
   Tr b₀ β ⟨fa,g,ob⟩ w β' ⟨fa,g',ob'⟩ w':=by
  rintro⟨s2,hvs,hR⟩
  obtain⟨β2,hr2,ht2⟩:=hvs b₀ fn.ntmps β' a' w' hr'
  have hta:=ht.trans ht2
  obtain⟨v,avs,h1,h2,h3,_⟩:=dm hT hr2 hres hR
  exact⟨v,h1,v,_,_,_,β2,rfl,h2,h3,hr2.obj,hr2.inj,⟨hta.size,hta.old,hta.keep,hta.os⟩⟩
 cases e with
 |normal=>exact⟨hr'.defers,hres' hQ⟩
 |ret=>exact⟨hr'.defers,hres' hQ⟩
 |exit id=>exact hQ.elim
 |goto l=>exact hQ.elim
 |panic ch=>exact hQ.elim
 |outgrown=>exact hQ.elim
def qP (s:St):List AV→AV→Prop
 |[t],r=>iR s t r
 |ts,r=>∃rs,ce s ts rs∧r=.tup rs
theorem qP.rep {N:Nat}{s:St}{a:Act} (hr:Rel b₀ N s β a w):∀{ts:List AV}{r:AV}{vs:List Value},qP s ts r→au b₀ β s.gen s.obj w ts vs→RV (Own b₀ w) w r (ik vs):=by
 have hmany:∀(ts rs:List AV) (vs:List Value),ce s ts rs→au b₀ β s.gen s.obj w ts vs→RVs (Own b₀ w) w rs vs:=by
  intro ts
  induction ts with
  |nil=>intro rs vs h hv;simp only[ce] at h;simp only[au] at hv;subst h hv;simp only[RVs]
  |cons t ts ih=>
    intro rs vs h hv
    simp only[ce] at h
    simp only[au] at hv
    obtain⟨r,rs',rfl,h1,h2⟩:=h
    obtain⟨u,us,rfl,h3,h4⟩:=hv
    simp only[RVs]
    exact⟨_,_,rfl,h1.rep hr h3,ih _ _ h2 h4⟩
 intro ts r vs h hv
 match ts,h with
 |[],⟨rs,h1,h2⟩=>
   subst h2
   have:=hmany _ _ _ h1 hv
   simp only[au] at hv
   subst hv
   simp only[RV,ik];exact⟨_,rfl,this⟩
 |[t],h=>
   simp only[au] at hv
   obtain⟨u,us,rfl,h1,rfl⟩:=hv
   exact iR.rep hr h h1
 |t::t'::ts,⟨rs,h1,h2⟩=>
   subst h2
   have:=hmany _ _ _ h1 hv
   simp only[au] at hv
   obtain⟨u,us,rfl,_,u',us',rfl,_,_⟩:=hv
   simp only[RV,ik];exact⟨_,rfl,this⟩
def oC (T:Nat→TI) (rs:List ResultVar) (R:AV→Prop):Exit→St→Prop
 |.normal,s|.ret,s=>gu T s rs (bx fun avs=>∃r,qP s avs r∧R r)
 |_,_=>False
theorem rU (hT:aI P T) (hm:P.follows .mixedOrders=true) {f:FuncId}{c:Code} (hf:P.funcs[f]? = some fn) (hb:fn.body=some c) (hn:(fn.name == "runtime.NumGoroutine")=false)
  (rs:List ResultVar) (hres:fn.results=rs.toArray) (hok:codeOk fn.ntmps c=true) {args:List AV} (hargs:args.length≤fn.ntmps)
  (h:∀g,wpC (sp P) T c (bx (oC T rs R)) ⟨cD args,g,fun _=>none⟩):ap P f args R:=by
 refine⟨⟨fn,hf,by rw[hb];rfl,hn⟩,fun J w vs hJ hv=>?_⟩
 refine calls_of_wp hf hb ?_
 have hlen:∀(l:List AV) (vs:List Value),RVs J w l vs→vs.length=l.length:=by
  intro l
  induction l with
  |nil=>intro vs h;simp only[RVs] at h;subst h;rfl
  |cons x l ih=>intro vs h;simp only[RVs] at h;obtain⟨u,us,rfl,_,h⟩:=h;simp[ih us h]
 have hl:=hlen _ _ hv
 let J':Nat→Prop:=J
 have hr:Rel ⟨w.heap.size,J'⟩ fn.ntmps ⟨cD args,fun _=>0,fun _=>none⟩ (fun _=>none) { tmps:=vs.toArray++Array.replicate (fn.ntmps-vs.toArray.size) undef,defers:=[]} w:=by
  refine⟨rfl,by simp;omega,fun i=>?_,fun id cells ho=>O7,fun id id' a a' ho=>O7,b9 _⟩
  have hget:∀(l:List AV) (vs:List Value),RVs J w l vs→∀(i:Nat) (x:AV),l[i]? = some x→∃v,vs[i]? = some v∧RV J w x v:=by
   intro l
   induction l with
   |nil=>intro vs _ i x h;simp at h
   |cons y l ih=>
     intro vs h i x hx
     simp only[RVs] at h
     obtain⟨u,us,rfl,h1,h2⟩:=h
     cases i with
     |zero=>simp at hx;subst hx;exact⟨u,rfl,h1⟩
     |succ i=>simpa using ih us h2 i x Oz
  simp only[cD]
  cases hx:args[i]? with
  |some x=>
    exact Mo
  |none=>
    exact NC
 refine wp_mono (cV hT hm c hok hr (h _)) (fun e a' w' hp=>?_)
 obtain⟨s',β',hQ,hr',ht⟩:=hp
 have hres':oC T rs R .ret s'→∃v,(results fn a'.tmps).run P w'=.ok v w'∧∃r,R r∧RV (Own ⟨w.heap.size,J'⟩ w') w' r v:=by
  intro hQ
  obtain⟨v,avs,h1,⟨r,h2,h3⟩,_,vs',rfl,h4⟩:=dm hT hr' hres hQ
  exact⟨_,h1,r,h3,h2.rep hr' h4⟩
 cases e with
 |normal=>
   obtain⟨v,h1,r,h2,h3⟩:=hres' hQ
   exact ML
 |ret=>
   obtain⟨v,h1,r,h2,h3⟩:=hres' hQ
   exact ML
 |exit id=>exact hQ.elim
 |goto l=>exact hQ.elim
 |panic ch=>exact hQ.elim
 |outgrown=>exact hQ.elim
end
@[go_sem] theorem Ha:gu T s [] k=K []:=b8 rfl rfl
@[go_sem] theorem Hb{t:Nat}:gu T s (.tmp t::r) k=gu T s r (bx fun vs=>K (s.f t::vs)):=b8 rfl rfl
@[go_sem] theorem Ez{a ty:Nat}:gu T s (.cell a ty::r) k=mX (T ty) s (s.f a) (bx fun v=>gu T s r (bx fun vs=>K (v::vs))):=b8 rfl rfl
@[go_sem] theorem Hc:oC T rs R .ret s=gu T s rs (bx fun avs=>∃r,qP s avs r∧R r):=b8 rfl rfl
@[go_sem] theorem Il{t r:AV}:qP s [t] r=iR s t r:=b8 rfl rfl
theorem jz {α:Type}{id g sz n:Nat}{cells:List C} (hg:s.gen id=g) (l:List α) (enc:α→List D) (ho:s.obj id=some cells) (hc:cells=l.flatMap (fun a=>(enc a).map .d)) (hn:∀a∈l,∀x∈enc a,fV x=x) (hs:∀a∈l,(enc a).length=sz) (hl:l.length=n) :
  Frz s (.osl id g sz 0 n) (.sl (l.map enc)):=by
 have hfl:cells=(l.map enc).flatten.map .d:=by rw[hc];clear hn hs hl hc ho;induction l with|nil=>rfl|cons a l ih=>simp[ih]
 have hlen:cells.length=n*sz:=by
  rw[hfl,b7]
  clear hfl hc hn ho
  subst hl
  induction l with
  |nil=>simp
  |cons a l ih=>
    simp only[j8,A6,c9,e8,hs a a7,ih (fun b hb=>hs b (by simp[hb]))]
    rw[C0];omega
 refine .osl hg ho a6 OF (fun e he=>by obtain⟨a,ha,rfl⟩:=A8.1 he;exact hs a ha) (fun j=>(cells[0+j]?).getD (.d .nsl)) (fun j x hx=>?_) (fun j x hx=>?_)
 ·rw[hfl,A3,l8,hx];rfl
 ·rw[hfl,A3,l8,hx]
  simp only[r0,s5]
  have hxn:fV x=x:=by
   have hm:=l4 hx
   obtain⟨e,he,hxe⟩:=List.mem_flatten.1 hm
   obtain⟨a,ha,rfl⟩:=A8.1 he
   exact hn a ha x hxe
  have:=Frz.d (s:=s) x
  rwa [hxn] at this
end
end
section
section
structure jl (b₀:Bs) (β:Loc) (ob:Obs) (n₀:Nat) (w w':World):Prop where
 size:w'.heap.size=w.heap.size
 os:w'.os=w.os∧w'.output=w.output
 same:∀b,w'.heap[b]? = w.heap[b]?∨(n₀≤b∧Imm b₀ β ob w b∧(∃x,w.heap[b]? = some (.deferred x))∧∃x,w'.heap[b]? = some (.deferred x))
section
variable {P:Program}{T:Nat→TI}{b₀:Bs}{β:Loc}{g:Nat→Nat}{ob:Obs}{n₀:Nat}{w w':World}
theorem jl.refl:jl b₀ β ob n₀ w w:=⟨rfl,⟨rfl,rfl⟩,fun _=>.inl rfl⟩
theorem jl.trans {w'':World} (h:jl b₀ β ob n₀ w w') (h':jl b₀ β ob n₀ w' w''):jl b₀ β ob n₀ w w'':=by
 refine⟨h'.size.trans h.size,⟨h'.os.1.trans h.os.1,h'.os.2.trans h.os.2⟩,fun b=>?_⟩
 rcases h.same b with e|⟨e1,e2,e3,e4⟩
 ·rcases h'.same b with e'|⟨e1',e2',e3',e4'⟩
  ·exact .inl (e'.trans e)
  ·exact .inr ⟨e1',by unfold Imm at *;rw[h.size] at e2';exact e2',by rw[←e];exact e3',e4'⟩
 ·rcases h'.same b with e'|⟨e1',e2',e3',e4'⟩
  ·exact .inr ⟨e1,e2,e3,by rw[e'];exact e4⟩
  ·exact .inr ⟨e1,e2,e3,e4'⟩
theorem jl.cell (h:jl b₀ β ob n₀ w w') {a:Addr}{v:Value} (hc:w.cell? a=some v):w'.cell? a=some v:=by
 rcases h.same a.block with e|⟨_,_,⟨x,e⟩,_⟩
 ·rw[gM e];exact hc
 ·simp[World.cell?,e] at hc
theorem jl.imm (h:jl b₀ β ob n₀ w w') {b:Nat} (hb:Imm b₀ β ob w b):Imm b₀ β ob w' b:=by unfold Imm at *;rw[h.size];exact hb
theorem bm.shut {J J':Nat→Prop}{x:D}{v:Value} (h:bm J w x v) (hJ:∀b,J b→J' b) (hc:∀a v,w.cell? a=some v→w'.cell? a=some v):bm J' w' x v:=by
 induction h with
 |bool b=>exact .bool b
 |int k n=>exact .int k n
 |str s=>exact .str s
 |nsl=>exact .nsl
 |nilp=>exact .nilp
 |nilf=>exact .nilf
 |nili=>exact .nili
 |nilm=>exact .nilm
 |fn f=>exact .fn f
 |yld l=>exact .yld l
 |sl0=>exact .sl0
 |sl vals hcap hj hsz hcl hr ih=>exact .sl vals hcap (fun h=>hJ _ (hj h)) hsz (fun i e he j x hx=>hc _ _ (hcl i e he j x hx)) ih
 |iptr vals hj hcl hr ih=>exact .iptr vals (fun h=>hJ _ (hj h)) (fun j x hx=>hc _ _ (hcl j x hx)) ih
theorem fU.shut (h:jl b₀ β ob n₀ w w') {c:PC}{v:Value} (hr:fU b₀ β g ob w c v):fU b₀ β g ob w' c v:=by
 cases c with
 |d x=>exact bm.shut hr (fun _=>h.imm) (fun _ _=>h.cell)
 |ptr id g1 off=>exact hr
theorem aj.shut (h:jl b₀ β ob n₀ w w') {c:C}{v:Value} (hr:aj b₀ β g ob w c v):aj b₀ β g ob w' c v:=by
 cases c with
 |d x=>exact bm.shut hr (fun _=>h.imm) (fun _ _=>h.cell)
 |osl id g1 sz off len=>
   obtain⟨h1,h2,h3⟩:=hr
   refine⟨h1,h2,fun hg ho=>?_⟩
   have h4:=h3 hg ho
   cases hβ:β id with
   |none=>rw[hβ] at h4;exact h4
   |some a=>
     rw[hβ] at h4
     obtain⟨h5,h6⟩:=h4
     refine⟨h5,?_⟩
     rcases h6 with⟨cap,q1,q2,q3⟩|h6
     ·refine .inl ⟨cap,q1,q2,fun arr el fr hh=>?_⟩
      rcases h.same a.block with e|⟨_,_,_,⟨x,e⟩⟩
      ·exact q3 arr el fr (by rw[←e];exact hh)
      ·rw[e] at hh;cases hh
     ·exact .inr h6
 |ptr id g1 off=>exact hr
 |clo f caps=>
   obtain⟨vs,h1,h2,h3⟩:=hr
   exact⟨vs,h1,h2,fun i pc hp=>let ⟨u,hu,hr⟩:=h3 i pc hp;⟨u,hu,hr.shut h⟩⟩
 |mp id g1 kd=>exact hr
 |lsl n=>exact hr
 |raw o=>exact hr
theorem ig.shut (h:jl b₀ β ob n₀ w w') {cs:List C}{vs:Array Value} (hr:ig b₀ β g ob w cs vs):ig b₀ β g ob w' cs vs:=
 ⟨hr.1,fun i c hc=>let ⟨u,hu,hr⟩:=hr.2 i c hc;⟨u,hu,hr.shut h⟩⟩
mutual
theorem ab.shut (h:jl b₀ β ob n₀ w w'):(x:AV)→{v:Value}→ab b₀ β g ob w x v→ab b₀ β g ob w' x v
 |.one _,_,hr=>by simp only[ab] at hr ⊢;exact aj.shut h hr
 |.agg _,_,hr=>by simp only[ab] at hr ⊢;obtain⟨vs,h1,h2⟩:=hr;exact⟨vs,h1,h2.shut h⟩
 |.tup ts,_,hr=>by simp only[ab] at hr ⊢;obtain⟨vs,h1,h2⟩:=hr;exact⟨vs,h1,au.shut h ts h2⟩
 |.junk,_,_=>by simp only[ab]
 |.exact _,_,hr=>by simp only[ab] at hr ⊢;exact hr
theorem au.shut (h:jl b₀ β ob n₀ w w'):(x:List AV)→{v:List Value}→au b₀ β g ob w x v→au b₀ β g ob w' x v
 |[],_,hr=>by simp only[au] at hr ⊢;exact hr
 |t::ts,_,hr=>by simp only[au] at hr ⊢;obtain⟨u,us,h1,h2,h3⟩:=hr;exact⟨u,us,h1,ab.shut h t h2,au.shut h ts h3⟩
end
theorem Rel.shut {N:Nat}{s:St}{a:Act} (hr:Rel b₀ N s β a w) (h:jl b₀ β s.obj n₀ w w'):Rel b₀ N s β a w':=by
 refine⟨hr.defers,hr.size,fun i=>ab.shut h _ (hr.f i),fun id cells ho=>?_,hr.inj,by rw[h.size];exact hr.base⟩
 have h1:=hr.obj id cells ho
 cases hβ:β id with
 |none=>rw[hβ] at h1;exact h1
 |some ad=>
   rw[hβ] at h1
   have he:w'.heap[ad.block]? = w.heap[ad.block]?:=by
    rcases h.same ad.block with e|⟨_,e,_⟩
    ·exact e
    ·exact absurd rfl (e.2.2 id ad Oi hβ)
   cases hs:ad.spot with
   |none=>
     obtain⟨h2,arr,el,lo,hi,h3,h4,h5,h6⟩:=h1.cells hs
     exact .ofCells hs ⟨h2,arr,el,lo,hi,by rw[he];exact h3,h4,h5,fun j c hc=>let ⟨v,hv,hr⟩:=h6 j c hc;⟨v,hv,hr.shut h⟩⟩
   |some kd=>
     obtain⟨h2,⟨es,clock,h3,h4⟩|⟨hk100,o,h3,h4⟩⟩:=h1.map hs
     ·exact .ofMap hs ⟨h2,.inl ⟨es,clock,by rw[he];exact h3,h4.mono fun _ _ q=>by
       unfold gP at q ⊢
       split
       ·rename_i hk
        rw[if_pos hk] at q
        exact aj.shut h q
       ·rename_i hk
        rw[if_neg hk] at q
        obtain⟨ds,vs,q1,q2,q3,q4⟩:=q
        exact⟨ds,vs,q1,q2,q3,fun i x hx=>let ⟨u,hu,hr⟩:=q4 i x hx;⟨u,hu,bm.shut hr (fun _=>h.imm) (fun _ _=>h.cell)⟩⟩⟩⟩
     ·exact .ofMap hs ⟨h2,.inr ⟨hk100,o,h3,by rw[he];exact h4⟩⟩
theorem Mk.put {D:Nat}{o:Obj}:∀{ds:List Deferred},Mk b₀ β ob w n₀ ds→(∀d'∈ds,d'≠{ target:=.collected D,args:=#[]})→Mk b₀ β ob (w.putObj D o) n₀ ds
 |[],_,_=>trivial
 |d::ds,hm,hne=>by
   obtain⟨⟨E,h1,h2,h3,h4,h5⟩,hr⟩:=hm
   have hE:E≠D:=fun he=>hne d a7 (by rw[h1,he])
   exact⟨⟨E,h1,h2,by unfold Imm at *;simpa using h3,by rw[World.putObj_heap_other hE];exact h4,h5⟩,hr.put (fun d' hd'=>hne d' (by simp[hd']))⟩
theorem lq {fn:Func}{tmps:Array Value}{R:Ending→World→Prop}:∀{ds:List Deferred}{w:World},Mk b₀ β ob w n₀ ds→
  (∀w5,jl b₀ β ob n₀ w w5→∃v,(results fn tmps).run P w5=.ok v w5∧R (.returned v) w5)→LeavesInM (fen none) 0 P fn tmps R ds .returning w
 |[],w,_,h=>h w .refl
 |d::ds,w,hm,h=>by
   obtain⟨⟨D,h1,h2,h3,h4,h5⟩,hr⟩:=hm
   refine⟨a7,.inl ⟨D,_,by rw[h1],run_takeDeferred h4,?_⟩⟩
   have hlt:D<w.heap.size:=h3.1
   have hsh:jl b₀ β ob n₀ w (w.putObj D (.deferred none)):=⟨a7,⟨rfl,rfl⟩,fun b=>by
    by_cases hb:b=D
    ·subst hb
     exact .inr ⟨h2,h3,⟨_,h4⟩,⟨none,World.putObj_heap_same hlt⟩⟩
    ·exact .inl (World.putObj_heap_other hb)⟩
   exact lq (hr.put (fun d' hd'=>by rw[←h1];exact h5 d' hd')) (fun w5 h6=>h w5 (hsh.trans h6))
end
end
section
variable {s:St}{o:Oper}{K:St→Prop}{B:Nat}{x:Operand}{tys:Array TypeId}{p n:Operand}{k:Box K}
section
variable {P:Program}{T:Nat→TI}{b₀:Bs}{β:Loc}{w:World}
theorem qS (ho:o.op=.call ⟨.builtin .unsafeSliceData,#[x],tys⟩) (hx:s.ev x=.one (.d .nsl)) (hk:K (s.put o.dst (.one (.d .nilp)))):br (spB P B) o s k:=by
 refine⟨fun s'=>s'=s.put o.dst (.one (.d .nilp)),fun b₀ N β a w hr hd next Q hn=>?_,fun _ e=>e▸hk⟩
 have hv:=hr.ev x
 rw[hx] at hv
 simp only[ab,aj] at hv
 have hv:=hv.inv_nsl
 have hex:(execOp a.eval o).run P w=.ok (.value (.pointer none)) w:=by
  simp[execOp,ho,resolve,invoke,hv,builtin,Lib.run_unsafeSliceData_nil]
 exact cC hex (hn _ β _ w rfl (hr.put hd (by simp only[ab,aj];exact .nilp)) (Tr.same (St.put_gen _ _ _) (St.put_obj _ _ _) rfl))
theorem xP (ho:o.op=.call ⟨.builtin .unsafeSliceData,#[x],tys⟩) {id g off len:Nat} (hx:s.ev x=.one (.osl id g 1 off len)) (hg:s.gen id=g) (hob:(s.obj id).isSome=true) (hl:0<len)
  (hk:K (s.put o.dst (.one (.ptr id g off)))):br (spB P B) o s k:=by
 refine⟨fun s'=>s'=s.put o.dst (.one (.ptr id g off)),fun b₀ N β a w hr hd next Q hn=>?_,fun _ e=>e▸hk⟩
 have hv:=hr.ev x
 rw[hx] at hv
 simp only[ab,aj] at hv
 obtain⟨_,hle,hat⟩:=hv
 have hat:=hat hg hob
 cases hβ:β id with
 |none=>rw[hβ] at hat;have:=hat.1;omega
 |some ad=>
   rw[hβ] at hat
   obtain⟨hsp,⟨cap,hv,hc,_⟩|⟨h0,_⟩⟩:=hat
   ·have hex:(execOp a.eval o).run P w=.ok (.value (.pointer (some ⟨ad.block,ad.off+off,none⟩))) w:=by
     have:=Lib.run_unsafeSliceData_row (P:=P) (w:=w) tys o.type ⟨ad.block,ad.off+off,none⟩ len cap a6
     simp[execOp,ho,resolve,invoke,hv,builtin,this]
    refine cC hex (hn _ β _ w rfl (hr.put hd ?_) (Tr.same (St.put_gen _ _ _) (St.put_obj _ _ _) rfl))
    simp only[ab,aj]
    exact⟨rfl,hle,fun _ _=>⟨ad,hβ,hsp,rfl⟩⟩
   ·omega
theorem pO{t1 t2:TypeId} (ho:o.op=.call ⟨.builtin .unsafeString,#[p,n],#[t1,t2]⟩) (hp:s.ev p=.one (.d .nilp)) (hn0:s.ev n=iv .i64 0) (hk:K (s.put o.dst (sv []))):br (spB P B) o s k:=by
 refine⟨fun s'=>s'=s.put o.dst (sv []),fun b₀ N β a w hr hd next Q hn=>?_,fun _ e=>e▸hk⟩
 have hv:=hr.ev p
 have hw:=hr.ev n
 rw[hp] at hv
 rw[hn0] at hw
 simp only[ab,aj] at hv hw
 have hw:=hw.inv_int
 have hv:a.eval p=.pointer none:=by generalize a.eval p=v at hv;cases hv;rfl
 have hex:(execOp a.eval o).run P w=.ok (.value (.string .empty)) w:=by
  simp[execOp,ho,resolve,invoke,hv,hw,builtin,Lib.run_unsafeString_none]
 refine cC hex (hn _ β _ w rfl (hr.put hd ?_) (Tr.same (St.put_gen _ _ _) (St.put_obj _ _ _) rfl))
 simp only[ab,aj]
 exact .str []
theorem rW (w:World) (a:Addr) (n:Nat):(w.freeze a n).heap.size=w.heap.size:=by unfold World.freeze;split <;> simp
theorem wE (w:World) (a:Addr) (n:Nat):(w.freeze a n).os=w.os∧(w.freeze a n).output=w.output:=by unfold World.freeze;split <;> exact⟨rfl,rfl⟩
theorem qT (w:World) (a:Addr) (n:Nat) {b:Nat} (hb:b≠a.block):(w.freeze a n).heap[b]? = w.heap[b]?:=by
 unfold World.freeze
 split
 ·rfl
 ·simp only[J9]
  rw[if_neg (fun e=>hb e.symm)]
theorem xQ {N:Nat}{a:Act} (hr:Rel b₀ N s β a w) {id:Nat}{ad:Addr} (ho:(s.obj id).isSome=true) (hβ:β id=some ad) {w':World} (hsz:w'.heap.size=w.heap.size) (hos:w'.os=w.os∧w'.output=w.output) (hoth:∀b,b≠ad.block→w'.heap[b]? = w.heap[b]?) :
  Rel b₀ N { s with obj:=upd s.obj id none } β a w'∧Tr b₀ β s w β { s with obj:=upd s.obj id none } w':=by
 have hB:b₀.B≤ad.block:=by
  obtain⟨cells,hc⟩:=E6.1 ho
  have:=hr.obj id cells hc
  rw[hβ] at this
  exact this.block.1
 have hlive:∀i,(upd s.obj id none i).isSome=true→i≠id∧(s.obj i).isSome=true:=fun i hi=>by
  simp only[upd] at hi
  by_cases hid:i=id
  ·simp[hid] at hi
  ·rw[if_neg hid] at hi;exact⟨hid,hi⟩
 have hne:∀i a',(upd s.obj id none i).isSome=true→β i=some a'→a'.block≠ad.block:=fun i a' hi ha' hb=>(hlive i hi).1 (hr.inj i id a' ad (hlive i hi).2 ho ha' hβ hb)
 have hkeep:dO b₀ β s.gen s.obj w β s.gen (upd s.obj id none) w':=by
  refine⟨fun b hb=>?_,fun _=>b9 _,fun i _ hi=>?_⟩
  ·have hnb:b≠ad.block:=fun he=>hb.2.2 id ad ho hβ he.symm
   exact⟨⟨by rw[hsz];exact hb.1,hb.2.1,fun i a' hi=>hb.2.2 i a' (hlive i hi).2⟩,hoth b hnb⟩
  ·refine⟨(hlive i hi).2,rfl,fun a' ha' arr1 el1 fr1 h1=>?_⟩
   rw[hoth _ (hne i a' hi ha')] at h1
   exact NM
 refine⟨⟨hr.defers,hr.size,fun i=>ab.keep hkeep _ (hr.f i),fun i cells' hc'=>?_,fun i i' a1 a2 h1 h2=>hr.inj i i' a1 a2 (hlive i h1).2 (hlive i' h2).2,by rw[hsz];exact hr.base⟩,by rw[hsz];exact b9 _,fun b hb=>hoth b a6,hkeep,hos⟩
 have hi:(upd s.obj id none i).isSome=true:=by
  have:upd s.obj id none i=some cells':=hc'
  rw[this];rfl
 have hc'':s.obj i=some cells':=by
  have h:=hc'
  simp only[upd,if_neg (hlive i hi).1] at h
  exact h
 exact(hr.obj i cells' hc'').keep hkeep (fun a' ha'=>hoth _ (hne i a' hi ha'))
theorem wF{t1 t2 e:TypeId} (ho:o.op=.call ⟨.builtin .unsafeString,#[p,n],#[t1,t2]⟩) (ht:P.underlying t1=some (.pointer e)) (hce:P.cellsOf e=1) {id g:Nat}{l:List UInt8}
  (hp:s.ev p=.one (.ptr id g 0)) (hn0:s.ev n=iv .i64 l.length) (hg:s.gen id=g) (hcode:code g=e+1) {cells:List C} (hob:s.obj id=some cells) (hfit:cells.take l.length=l.map fun b=>.d (gU b)) (hl:l≠[]) (h63:l.length≤9223372036854775807)
  (hk:K (St.put { s with obj:=upd s.obj id none } o.dst (sv l))):br (spB P B) o s k:=by
 refine⟨fun s'=>s'=St.put { s with obj:=upd s.obj id none } o.dst (sv l),fun b₀ N β a w hr hd next Q hn=>?_,fun _ e=>e▸hk⟩
 have hv:=hr.ev p
 have hw:=hr.ev n
 rw[hp] at hv
 rw[hn0] at hw
 simp only[ab,aj] at hv hw
 have hw:=hw.inv_int
 obtain⟨ad,hβ,hsp,hv⟩:=hv.2.2 hg (by rw[hob];rfl)
 have hobj:=hr.obj id cells hob
 rw[hβ] at hobj
 obtain⟨_,arr,el,lo,hi,hblk,⟨_,hcl⟩,hlen,hcells⟩:=hobj.cells hsp
 rw[hg,hcode] at hcl
 obtain⟨hel,hoff⟩:=hcl a6
 have hel:el=e:=Nat.add_right_cancel hel
 subst hel
 have hll:l.length≤cells.length:=by
  have:=congrArg List.length hfit
  simp at this
  omega
 have hrun:=Lib.run_unsafeString_row (P:=P) (w:=w) t1 t2 o.type el ht hce ad.block (arr.size) (by simp[World.shape?,hblk]) l hl a6 h63 (fun j x hx=>by
  have hjl:=(j0.1 hx).1
  have hcj:cells[j]? = some (.d (gU x)):=by
   have:=congrArg (fun m:List C=>m[j]?) hfit
   simp only[D5,hjl,A9,l8,hx,r0] at this
   exact this
  obtain⟨u,hu,hru⟩:=hcells j _ hcj
  simp only[aj,gU] at hru
  have hru:=hru.inv_int
  rw[hoff,A3] at hu
  rw[cq,A3,ct hblk,hu,hru])
 have hex:(execOp a.eval o).run P w=.ok (.value (.string ⟨l.toArray⟩)) (w.freeze ⟨ad.block,0,none⟩ l.length):=by
  rw[hoff] at hv
  simp[execOp,ho,resolve,invoke,hv,hw,builtin,hrun]
 obtain⟨r1,t1⟩:=xQ hr (by rw[hob];rfl) hβ (rW w ⟨ad.block,0,none⟩ l.length) (wE _ _ _) (fun b hb=>qT w ⟨ad.block,0,none⟩ l.length hb)
 refine cC hex (hn _ β _ _ rfl (r1.put hd ?_) (t1.trans (Tr.same (St.put_gen _ _ _) (St.put_obj _ _ _) rfl)))
 simp only[ab,aj]
 exact .str l
end
end
end
section
attribute [local congr] Go.Am.ite_cc
@[go_sem] theorem Hd:rL .nilIface=.one (.d .nili):=b8 rfl rfl
end
section
section
variable {s:St}{o:Oper}{K:St→Prop}{f:FuncId}{args:Array Operand}{tys:Array TypeId}{R:AV→Prop}{k:Box K}
section
variable {P:Program}{T:Nat→TI}{b₀:Bs}{rd:Option Nat}{Φ:St→Loc→List Deferred→World→Prop}{Ψ:dL}{B0:Nat}
theorem aM {B:(Exit→St→Prop)→St→Prop}{b:Box B}{Q:Exit→St→Prop}{q:Box Q} (I:Nat→St→Prop) (n:Nat) (h0:I n s)
  (hr:∀n f g ob,I n ⟨f,g,ob⟩→B (gD (bx fun s'=>∃n' s₁,n'<n∧(spF P rd b₀ Φ B0 Ψ).vs s' s₁∧I n' s₁) q) ⟨f,g,ob⟩):nb (spF P rd b₀ Φ B0 Ψ) b q s:=
 ⟨I,⟨n,s,al.refl s,h0⟩,fun n s hs=>hr n s.f s.gen s.obj hs⟩
theorem ar {I:Nat→St→Prop}{n:Nat} (n':Nat) (h:n'<n) (hI:I n' s):∃n' s₁,n'<n∧(spF P rd b₀ Φ B0 Ψ).vs s s₁∧I n' s₁:=⟨n',s,h,al.refl s,hI⟩
theorem kI (hΦ:aX b₀ Φ) (ho:o.op=.call ⟨.value (.func f),args,tys⟩)
  (hp:ap P f (args.toList.map s.ev) R) (hd:(args.toList.map s.ev).all dr=true) (hk:∀r,R r→K (s.put o.dst r)):br (spF P rd b₀ Φ B0 Ψ) o s k:=
 CZ hΦ (by simp[aF,ho]) (wt (B:=0) (k:=k) ho hp hd hk)
theorem am (hΦ:aX b₀ Φ) (ho:o.op=.call ⟨.value (.func f),args,tys⟩) {R:AV→(Nat→Nat)→Obs→Prop}
  (hp:dK P f (args.toList.map s.ev) s.gen s.obj R) (hk:∀r g' ob',R r g' ob'→K (St.put ⟨s.f,g',ob'⟩ o.dst r)):br (spF P rd b₀ Φ B0 Ψ) o s k:=
 CZ hΦ (by simp[aF,ho]) (fF (B:=0) (k:=k) ho hp hk)
theorem xR{B:Nat}{t:Nat} (ho:o.op=.call ⟨.value (.tmp t),args,tys⟩) (hf:s.f t=.one (.d (.fn f)))
  (hp:ap P f (args.toList.map s.ev) R) (hd:(args.toList.map s.ev).all dr=true) (hk:∀r,R r→K (s.put o.dst r)):br (spB P B) o s k:=by
 refine⟨fun s'=>∃r,R r∧s'=s.put o.dst r,?_,fun _ ⟨r,hr,e⟩=>e▸hk r hr⟩
 intro b₀ N β a w hr hdst next Q hn
 have hv:=hr.f t
 rw[hf] at hv
 simp only[ab,aj] at hv
 have hv:a.tmps.getD t undef=.func (.func f) #[] #[]:=by generalize a.tmps.getD t undef=v at hv;cases hv;rfl
 have hrun:(execOp a.eval o).run P w=.ok (.enter f (args.map a.eval)) w:=by
  obtain⟨fn,h1,h2,h3⟩:=hp.1
  have h2:¬fn.body=none:=by intro h;rw[h] at h2;simp at h2
  have h3:¬fn.name = "runtime.NumGoroutine":=by simpa using h3
  simp[execOp,ho,resolve,Act.eval,hv,Deferred.ofValue,invoke,callFunc,h1,h2,h3]
 unfold Oper.wp
 rw[hrun]
 exact L5
end
section
variable {S:Sp}{T:Nat→TI}
end
end
end
section
open Go.ChangeShapes Go.WideShapes Go.ChangeAt Go.RowKit
section
variable {H:Type}{enc:TypeId×Value→H}
end
end
section
section
abbrev bU:=Nat→Option Obj
def lr (gb:Nat) (o:bU) (w:World):Prop:=gb<w.heap.size∧∀b,b≤gb→w.heap[b]? = o b
variable {o:bU}{f:FuncId}{s:St}{w:World}{R:AV→Prop}{Φ:St→Loc→List Deferred→World→Prop}{K:St→Prop}{gb gb':Nat}{P:Program}{args:List AV}{tys:Array TypeId}{k:Box K}
theorem lr.lt {gb:Nat} (h:lr gb o w):gb<w.heap.size:=h.1
theorem lr.down (hl:gb≤gb') (h:lr gb' o w):lr gb o w:=⟨C7 hl h.1,fun b hb=>h.2 b (z6 hb hl)⟩
def ng (b₀:Bs) (gb:Nat) (o:bU) (w:World):Prop:=(gb<b₀.B∧∀b,b≤gb→b₀.I b)∧lr gb o w
def bu (P:Program) (gb:Nat) (o:bU) (f:FuncId) (args:List AV) (R:AV→Prop):Prop:=
 sk P f∧∀(J:Nat→Prop) (w:World) (vs:List Value),lr gb o w→(∀b,J b→b<w.heap.size)→RVs J w args vs→
  Calls P f vs.toArray w fun e w'=>∃v r,e=.returned v∧R r∧w.heap.size≤w'.heap.size∧(∀b,b<w.heap.size→w'.heap[b]? = w.heap[b]?)∧(w'.os=w.os∧w'.output=w.output)∧RV (fun b=>b<w'.heap.size∧(b<w.heap.size→J b∨b≤gb)) w' r v
theorem ap.toG{gb:Nat} (h:ap P f args R):bu P gb o f args R:=
 ⟨h.1,fun J w vs _ h1 h2=>(h.2 J w vs h1 h2).mono fun _ _ ⟨v,r,q1,q2,q3,q4,q5,q6⟩=>⟨v,r,q1,q2,q3,q4,q5,RV.mono (fun _ hb=>⟨⟨hb.1,fun hl=>.inl (hb.2 hl)⟩,rfl⟩) r q6⟩⟩
def xS (P:Program) (gb:Nat) (o:bU) (f:FuncId) (xs:List AV) (g:Nat→Nat) (ob:Obs) (R:AV→(Nat→Nat)→Obs→Prop):Prop:=
 sk P f∧∀(b₀:Bs) (N:Nat) (β:Loc) (a:Act) (fa:Nat→AV) (w:World) (vs:List Value),gb<b₀.B→ng b₀ gb o w→Rel b₀ N ⟨fa,g,ob⟩ β a w→au b₀ β g ob w xs vs→
  Calls P f vs.toArray w fun e w'=>∃v r g' ob' β',e=.returned v∧R r g' ob'∧ab b₀ β' g' ob' w' r v∧
   (∀id cells,ob' id=some cells→cw b₀ β' g' ob' w' (g' id) cells (β' id))∧(∀id id' a a',(ob' id).isSome=true→(ob' id').isSome=true→β' id=some a→β' id'=some a'→a.block=a'.block→id=id')∧
   Tr b₀ β ⟨fa,g,ob⟩ w β' ⟨fa,g',ob'⟩ w'
def xT (gb:Nat) (o:bU) (b₀:Bs) (β0:Loc) (s0:St) (w0:World):St→Loc→List Deferred→World→Prop:=fun s β ds w=>(gb<b₀.B∧ng b₀ gb o w)∧Io b₀ β0 s0 w0 s β ds w
section
variable {P:Program}{T:Nat→TI}{b₀:Bs}{rd:Option Nat}{gb:Nat}{o:bU}{Ψ:dL}{B0:Nat}{β0:Loc}{s0:St}{w0:World}
theorem aB:aX b₀ (xT gb o b₀ β0 s0 w0):=fun _ _ _ _ _ _ _ h ht=>⟨⟨h.1.1,h.1.2.1,F8 h.1.2.2.1 ht.size,fun b hb=>by rw[ht.old b (C7 hb h.1.1)];exact h.1.2.2.2 b hb⟩,wy _ _ _ _ _ _ _ h.2 ht⟩
theorem rX {N:Nat}{β:Loc}{a:Act} (hr:Rel b₀ N s β a w) (hG:ng b₀ gb o w) {b:Nat} (hb:b≤gb):Imm b₀ β s.obj w b:=by
 refine⟨C7 hb hG.2.1,fun _=>hG.1.2 b hb,fun id a' ho hβ he=>?_⟩
 obtain⟨cells,hc⟩:=E6.1 ho
 have h:=hr.obj id cells hc
 rw[hβ] at h
 have h1:=h.block.1
 have h2:=hG.1.1
 omega
theorem oG (hΦ:aX b₀ Φ) (hG:∀s β ds w,Φ s β ds w→ng b₀ gb o w) {op:Oper}{args:Array Operand} (ho:op.op=.call ⟨.value (.func f),args,tys⟩)
  (hp:bu P gb o f (args.toList.map s.ev) R) (hd:(args.toList.map s.ev).all dr=true) (hk:∀r,R r→K (s.put op.dst r)):br (spF P rd b₀ Φ B0 Ψ) op s k:=by
 refine⟨fun s'=>∃r,R r∧s'=s.put op.dst r,?_,fun _ ⟨r,hr,e⟩=>e▸hk r hr⟩
 intro N β a ds w hr hφ hdst next Q hn _
 have hnd:aF op=true:=by simp[aF,ho]
 refine eN hnd ?_
 unfold Oper.wp
 rw[eP ho hp.1 w]
 simp only[Oper.upon]
 have hargs:∀l:List Operand,(l.map s.ev).all dr=true→RVs (Imm b₀ β s.obj w) w (l.map s.ev) (l.map a.eval):=by
  intro l
  induction l with
  |nil=>intro _;simp only[n0,RVs]
  |cons x l ih=>
    intro h
    simp only[j8,w8,l5] at h
    simp only[j8,RVs]
    exact⟨_,_,rfl,ab.data h.1 (hr.ev x),ih h.2⟩
 have:=hp.2 (Imm b₀ β s.obj w) w (args.toList.map a.eval) (hG _ _ _ _ hφ).2 (fun _ h=>h.1) (hargs _ hd)
 rw[show (args.toList.map a.eval).toArray=args.map a.eval from E5 a7] at this
 refine this.mono fun e w' ⟨v,r,he,hR,hs,hh,hos,hv⟩=>?_
 subst he
 obtain⟨g1,g2⟩:=hr.grow hs hh hos
 have g3:=g2.trans (Tr.same (St.put_gen s op.dst r) (St.put_obj s op.dst r) rfl)
 have h1:=g1.put hdst (RV.rep r (RV.mono (fun b hb=>⟨ra hr (J:=fun b=>Imm b₀ β s.obj w b∨b≤gb) (fun b h=>h.elim id (rX hr (hG _ _ _ _ hφ))) hb,rfl⟩) r hv))
 exact⟨h1.defers,hn _ β _ w' ⟨r,hR,rfl⟩ h1 (hΦ _ _ _ _ _ _ _ hφ g3)⟩
theorem mn (hΦ:aX b₀ Φ) (hG:∀s β ds w,Φ s β ds w→ng b₀ gb o w) (hT:aI P T) {dst:Option Tmp}{t n e gi:Nat}{ix:Operand}{ty:TypeId}{ps:String}{af:Array Edge}{gd:Option (Nat×Bool)}
  (ht:(T t).desc=.array n e) (he:okD (T e).desc=true) (hgi:gi≤gb) {kd:IntKind}{i:Nat} (hix:s.ev ix=iv kd i) (hi:i<n) {cs:List D} (hcs:∀(j:Nat) (x:D),cs[j]? = some x→gv x=true)
  (hrow:∀w:World,lr gb o w→∀(j:Nat) (x:D),cs[j]? = some x→w.cell? ⟨gi,i*(T e).size+j,none⟩=some (dV x)) (hk:K (s.put dst (.one (.d (.iptr cs))))) :
  br (spF P rd b₀ Φ B0 Ψ) ⟨dst,.indexAddr t (.global gi) ix,ty,ps,af,gd⟩ s k:=by
 refine⟨fun s'=>s'=s.put dst (.one (.d (.iptr cs))),fun N β a ds w hr hφ hd next Q hn _=>?_,fun _ e=>e▸hk⟩
 refine eN rfl ?_
 have hH:=hG _ _ _ _ hφ
 have hvi:=hr.ev ix
 rw[hix] at hvi
 simp only[ab,aj] at hvi
 have hvi:=hvi.inv_int
 have hu:=(hT t (by rw[ht];rfl)).desc
 rw[ht] at hu
 have hte:=hT e he
 have hex:(execOp a.eval ⟨dst,.indexAddr t (.global gi) ix,ty,ps,af,gd⟩).run P w=.ok (.value (.pointer (some ⟨gi,i*(T e).size,none⟩))) w:=by
  simp[execOp,hvi,show a.eval (.global gi)=.pointer (some ⟨gi,0,none⟩) from rfl,Instr.indexAt,asIntOf,run_underlying hu,hi,aL hte,cq,Instr.sureAddr]
 have hr':=hr.put hd (x:=.one (.d (.iptr cs))) (v:=.pointer (some ⟨gi,i*(T e).size,none⟩)) (by
  simp only[ab,aj]
  refine .iptr (fun j=>dV (cs.getD j .nsl)) (fun _=>rX hr hH hgi) (fun j x hx=>?_) (fun j x hx=>?_)
  ·rw[hrow w hH.2 j x hx];simp[D7,hx]
  ·rw[show cs.getD j .nsl=x by simp[D7,hx]];exact bm.of_plain (hcs j x hx))
 exact MF
theorem wG (hΦ:aX b₀ Φ) (hG:∀s β ds w,Φ s β ds w→gb<b₀.B∧ng b₀ gb o w) {op:Oper}{args:Array Operand} (ho:op.op=.call ⟨.value (.func f),args,tys⟩) {R:AV→(Nat→Nat)→Obs→Prop}
  (hp:xS P gb o f (args.toList.map s.ev) s.gen s.obj R) (hk:∀r g' ob',R r g' ob'→K (St.put ⟨s.f,g',ob'⟩ op.dst r)):br (spF P rd b₀ Φ B0 Ψ) op s k:=by
 refine⟨fun s'=>∃r g' ob',R r g' ob'∧s'=St.put ⟨s.f,g',ob'⟩ op.dst r,?_,fun _ ⟨r,g',ob',hr,e⟩=>e▸hk r g' ob' hr⟩
 intro N β a ds w hr hφ hdst next Q hn _
 have hnd:aF op=true:=by simp[aF,ho]
 refine eN hnd ?_
 unfold Oper.wp
 rw[eP ho hp.1 w]
 simp only[Oper.upon]
 obtain⟨hg1,hg2⟩:=hG _ _ _ _ hφ
 have:=hp.2 b₀ N β a s.f w (args.toList.map a.eval) hg1 hg2 hr (ia hr _)
 rw[show (args.toList.map a.eval).toArray=args.map a.eval from E5 a7] at this
 refine this.mono fun e w' ⟨v,r,g',ob',β',he,hR,hv,h1,h2,h3⟩=>?_
 exact M5
end
def Kx (gb:Nat) (o:bU) (b₀:Bs) (β0:Loc) (s0:St) (w0:World):St→Loc→List Deferred→World→Prop:=fun s β ds w=>(gb<b₀.B∧ng b₀ gb o w)∧ds=[]∧Tr b₀ β0 s0 w0 β s w
section
variable {P:Program}{T:Nat→TI}{gb:Nat}{o:bU}
theorem il {b₀:Bs}{β0:Loc}{s0:St}{w0:World}:aX b₀ (Kx gb o b₀ β0 s0 w0):=fun _ _ _ _ _ _ _ h ht=>⟨⟨h.1.1,h.1.2.1,F8 h.1.2.2.1 ht.size,fun b hb=>by rw[ht.old b (C7 hb h.1.1)];exact h.1.2.2.2 b hb⟩,h.2.1,h.2.2.trans ht⟩
end
theorem bu.up (hl:gb≤gb') (h:bu P gb o f args R):bu P gb' o f args R:=
 ⟨h.1,fun J w vs hG h1 h2=>(h.2 J w vs (hG.down hl) h1 h2).mono fun _ _ ⟨v,r,q1,q2,q3,q4,q5,q6⟩=>⟨v,r,q1,q2,q3,q4,q5,RV.mono (fun _ hb=>⟨⟨hb.1,fun hw=>(hb.2 hw).imp id (fun h=>z6 h hl)⟩,rfl⟩) r q6⟩⟩
end
section
variable {a:Act}{c:Code}{s:St}{K:Act→Prop}{ds:List Deferred}{Q:Exit→Act→World→Prop}{k:List Item}{cs:List Frame}
section
variable {P:Program}{T:Nat→TI}{b₀:Bs}{w:World}{rd:Option Nat}{Φ:St→Loc→List Deferred→World→Prop}{Ψ:dL}{B:Nat}{ops:Array Oper}
theorem oH (ha:a.defers=[]) (d:Option Nat) (v:Value):(a.put d v).defers=[]:=by cases d <;> exact ha
theorem qU {o:Oper} (ha:a.defers=[]) (h:o.still P a w K):o.still P a w (fun a'=>a'.defers=[]∧K a'):=by
 unfold Oper.still at *
 generalize (execOp a.eval o).run P w=r at *
 cases r with
 |ok n w'=>
   cases n <;> simp only[Oper.stillUpon] at h ⊢
   case enter f args=>obtain⟨h1,v,hc,hn⟩:=h;exact⟨h1,v,hc,oH ha _ _,hn⟩
   all_goals exact⟨h.1,oH ha _ _,h.2⟩
 |halt x w'=>simp only[Oper.stillUpon] at h
theorem jB {i:Nat}{K':Act→World→Prop}{Q':Exit→Act→World→Prop} (ha:a.defers=[]) (hnd:ops.toList.all aF=true) (h:∀a',a'.defers=[]→K a'→K' { a' with defers:=ds } w) (hh:stOp P ops w i K a) :
  wpOpIn (fen rd) 0 P ops Q' i K' { a with defers:=ds } w:=by
 unfold stOp at hh
 unfold wpOpIn
 cases ho:ops[i]? with
 |none=>simp only[ho] at hh ⊢;exact h _ ha hh
 |some o=>
   simp only[ho] at hh ⊢
   have hno:aF o=true:=l7.1 hnd o (by
    obtain⟨hi,e⟩:=s9.1 ho
    rw[←e];exact B5 hi)
   by_cases hw:Region.wanted o (yielded ops a.tmps)=true
   ·rw[if_pos hw] at hh ⊢
    exact eN hno (Oper.wp_of_still (K':=fun a' w'=>a'.defers=[]∧K' { a' with defers:=ds } w') (fun a' hk=>⟨hk.1,h a' hk.1 hk.2⟩) (qU ha hh))
   ·rw[if_neg hw] at hh ⊢
    refine⟨fun _ _=>trivial,?_⟩
    rw[kD]
    exact h _ (oH ha _ _) hh
theorem ji {n g:Nat}{ds:List Deferred}{L:Array Bool→Act→Prop}{Q':Exit→Act→World→Prop} (hnd:ops.toList.all aF=true) (hL:∀listed a,a.defers=[]→L listed a→wpAnyIn (fen rd) 0 P .any ops Q' g listed { a with defers:=ds } w) :
  ∀(f:Nat) (listed:Array Bool) (a:Act),a.defers=[]→wpAnyL P .any ops w n L f listed a→wpAnyIn (fen rd) 0 P .any ops Q' (f+g) listed { a with defers:=ds } w
 |0,listed,a,ha,h=>by rw[A3];exact hL _ _ ha h
 |f+1,listed,a,ha,h=>by
   rw[show f+1+g=(f+g)+1 by omega]
   exact⟨fun h0=>absurd h0 h.1,fun i hi=>jB ha hnd (fun a' ha' h'=>ji hnd hL f _ a' ha' h') (h.2 i hi).2⟩
theorem im {ds:List Deferred}{Q:Act→Prop}{Q':Exit→Act→World→Prop} (hnd:ops.toList.all aF=true) (hQ:∀a,a.defers=[]→Q a→Q' .normal { a with defers:=ds } w):∀(fuel:Nat) (listed:Array Bool) (a:Act),a.defers=[]→
  wpAnyS P .any ops w Q fuel listed a→wpAnyIn (fen rd) 0 P .any ops Q' fuel listed { a with defers:=ds } w
 |0,_,_,ha,h=>⟨h.1,hQ _ ha h.2⟩
 |fuel+1,_,_,ha,h=>⟨fun h0=>hQ _ ha (h.1 h0),fun i hi=>jB ha hnd (fun a' ha'=>im hnd hQ fuel _ a' ha') (h.2 i hi)⟩
theorem jC {F:Fence}{n:Nat}{Q':Exit→Act→World→Prop}:∀(l:List Oper) (k:Nat) (listed:Array Bool) (a:Act) (w:World),(∀j,l[j]? = ops[k+j]?)→
  Region.seqB .any ops l.length k listed=true→wpListIn F n P ops Q' l a w→wpAnyIn F n P .any ops Q' l.length listed a w
 |[],_,_,_,_,_,hB,h=>⟨by simpa[Region.seqB] using hB,h⟩
 |o::l,k,listed,a,w,hl,hB,h=>by
   have h0:ops[k]? = some o:=by simpa using(hl 0).symm
   simp only[e8,Region.seqB,l5,z8] at hB
   refine⟨fun h1=>(by rw[hB.1] at h1;cases h1),fun i hi=>?_⟩
   rw[hB.1] at hi
   have hik:i=k:=by simpa using hi
   subst hik
   have hw:wpOpIn F n P ops Q' i (wpListIn F n P ops Q' l) a w:=by unfold wpOpIn;simp only[h0];exact h
   exact wpOpIn_mono (fun a' w' h'=>jC l (i+1) _ a' w' (fun j=>by have:=hl (j+1);simpa[z1,LD 1 j] using this) hB.2 h') hw
theorem wH {o:Oper} (hp:cB T o.op=true){K:St→Prop}{k:Box K} (h:opA (spF P rd b₀ Φ B Ψ) T o s k):opA (spB P B) T o s k:=by
 obtain⟨dst,op,ty,ps,af,gd⟩:=o
 cases op with
 |slice t x lo hi mx=>cases mx <;> first|exact h|(simp[cB] at hp;done)
 |indexAddr t x ix=>cases x <;> first|(simp[cB] at hp;done)|exact h
 |makeFunc f=>cases f <;> first|exact h|(simp[cB] at hp;done)
 |call c=>
   obtain⟨callee,args,tys⟩:=c
   cases callee with
   |value f=>simp[cB] at hp
   |invoke r m=>simp[cB] at hp
   |builtin b=>cases b <;> first|exact h|(simp[cB] at hp;done)
 |_=>first|exact h|(simp[cB] at hp;done)
theorem dz (hT:aI P T) {N:Nat}{β:Loc}{Q:Act→Prop}{K:St→Prop}{k:Box K} (more:List Oper):∀(l:List Oper) {s:St}{a:Act},Rel b₀ N s β a w→de N l=true→l.all (cB T ·.op)=true→wpO (spF P rd b₀ Φ B Ψ) T ops (l++more) s k→
  (∀s' a',wpO (spF P rd b₀ Φ B Ψ) T ops more s' k→Rel b₀ N s' β a' w→Tr b₀ β s w β s' w→Q a')→wpStill P ops w Q l a
 |[],s,a,hr,_,_,h,hQ=>hQ s a h hr Tr.refl
 |o::rest,s,a,hr,hds,hp,h,hQ=>by
   obtain⟨hd,hds'⟩:=fH hds
   simp only[w8,l5] at hp
   rw[A5] at h
   unfold wpO at h
   unfold wpStill
   have hop:∀{s0:St},Rel b₀ N s0 β a w→Tr b₀ β s w β s0 w→opA (spF P rd b₀ Φ B Ψ) T o s0 (bx fun s'=>wpO (spF P rd b₀ Φ B Ψ) T ops (rest++more) s' k)→o.still P a w (wpStill P ops w Q rest):=fun {s0} hr0 ht0 h0=>by
    obtain⟨y,cv,h1,h2,h3⟩:=lz hT hr0 hp.1 (wH hp.1 h0)
    unfold Oper.still
    rw[h2 w .refl]
    refine⟨rfl,dz hT more rest (hr0.put hd h3) hds' hp.2 h1 (fun s' a' k1 k2 k3=>hQ s' a' k1 k2 (ht0.trans (Tr.trans (Tr.same (St.put_gen _ _ _) (St.put_obj _ _ _) rfl) k3)))⟩
   cases hg:o.guard with
   |none=>
     exact Nr
   |some p=>
     obtain⟨j,want⟩:=p
     rw[hg] at h
     simp only at h
     obtain⟨d,hj,h⟩:=aq h
     unfold iD at h
     split at h
     ·rename_i b hb
      have hy:=hr.yielded hj hb
      have h:=fy h
      have hr':=hr.reput hb
      by_cases hw:b=want
      ·exact Nh
      ·rw[if_neg hw] at h
       rw[if_neg Oh]
       have hp':=hr'.put hd (x:=uv) (v:=undef) bJ
       exact M8
     ·rename_i hb
      have hy:=hr.yielded_u hj hb
      rw[if_neg OH]
      have hp':=hr.put hd (x:=uv) (v:=undef) bJ
      exact M8
     ·exact M4
theorem kJ (hT:aI P T) (hm:P.follows .mixedOrders=true) (hΦ:aX b₀ Φ) {N id:Nat}{β:Loc}{K:St→Prop}{k:Box K} (hr:Rel b₀ N s β a w) (hφ:Φ s β ds w) (hnd:ops.toList.all aF=true) (hd:de N ops.toList=true) (hok:js T ops=true)
  (h:wpO (spF P rd b₀ Φ B Ψ) T ops ops.toList s k) (hQ:∀s' β' a' w',K s'→Rel b₀ N s' β' a' w'→Φ s' β' ds w'→Q .normal { a' with defers:=ds } w') (hX:∀ch s' β' a' w',Ψ ch s'→Rel b₀ N s' β' a' w'→Φ s' β' ds w'→Q (.panic ch) { a' with defers:=ds } w'):(Code.region id ops true).wpIn (fen rd) 0 P Q { a with defers:=ds } w:=by
 have hr1:Rel b₀ N s β a { w with drawn:=w.drawn+1 }:=hr.of_heap rfl
 have hφ1:Φ s β ds { w with drawn:=w.drawn+1 }:=hΦ _ _ _ _ _ _ _ hφ (Tr.same rfl rfl rfl)
 simp only[js,B1,l5,K0] at hok
 refine wpIn_region_any hm ?_
 rcases hok with⟨hp,hB⟩|⟨m,_,hp,hB⟩
 ·simp only[Region.lexB,l5] at hB
  refine im (Q:=fun a'=>a'.defers=[]→Q .normal { a' with defers:=ds } { w with drawn:=w.drawn+1 }) hnd (fun a' ha h=>h ha) _ _ _ hr.defers ?_
  have hst:wpStill P ops { w with drawn:=w.drawn+1 } (fun a'=>a'.defers=[]→Q .normal { a' with defers:=ds } { w with drawn:=w.drawn+1 }) ops.toList a:=
   dz hT [] ops.toList hr1 hd hp (by rw[y1];exact h) (fun s' a' k1 k2 k3 _=>hQ _ _ _ _ k1 k2 (hΦ _ _ _ _ _ _ _ hφ1 k3))
  have:=wpAnyS_lex (md:=.any) hB.1 ops.toList 0 (Array.replicate ops.size false) a a7 (by simpa using hB.2) hst
  simpa using this
 ·obtain⟨l,rfl⟩:∃l:List Oper,ops=l.toArray:=⟨ops.toList,a7⟩
  generalize hn0:l.toArray.size-m=n at hp hB
  simp only[Region.lexTailB,l5,z8] at hB
  obtain⟨⟨⟨⟨hsel,hn⟩,hs⟩,hc⟩,hlex⟩:=hB
  have hn':n<l.length:=by simpa using hn
  have htl:(l.take n).length=n:=by simp;omega
  have hdl:(l.drop n).length=l.toArray.size-n:=a7
  have inv0:HeadInv .any l.toArray n (Array.replicate l.toArray.size false):=
   ⟨a7,fun j oj _ hl=>(by rw[getD_replicate_false] at hl;cases hl),fun t _ ht=>getD_in (by simpa using ht) (getD_replicate_false _ _)⟩
  obtain⟨d1,d2⟩:=nj hd n
  have hnd2:(l.drop n).all aF=true:=l7.2 fun o ho=>l7.1 hnd o (by simpa using H6 ho)
  have hst:wpStill P l.toArray { w with drawn:=w.drawn+1 } (fun a'=>a'.defers=[]→wpListIn (fen rd) 0 P l.toArray Q (l.drop n) { a' with defers:=ds } { w with drawn:=w.drawn+1 }) (l.take n) a:=by
   refine dz hT (l.drop n) (l.take n) hr1 d1 hp (by rw[E3];simpa using h) (fun s' a' k1 k2 k3 _=>?_)
   exact fv hT hΦ (l.drop n) k2 (hΦ _ _ _ _ _ _ _ hφ1 k3) hnd2 d2 k1 hQ hX
  have H:=wpAnyL_lex (md:=.any) (g:=l.toArray.size-n) hsel hs hc hn (l.take n) 0 _ a (fun j hj=>by
   have hj':j<n:=by rw[htl] at hj;exact hj
   simp[hj']) (by simpa using htl) inv0 (by rw[htl];exact hlex) hst
  have:=ji (Q':=Q) (ds:=ds) (rd:=rd) (g:=l.toArray.size-n) hnd (fun listed a' ha hL=>by
   have:=jC (Q':=Q) (F:=fen rd) (n:=0) (l.drop n) n listed { a' with defers:=ds } { w with drawn:=w.drawn+1 } (fun j=>by simp[A4]) (by rw[hdl];exact hL.1) (hL.2 ha)
   rwa [hdl] at this) _ _ _ hr.defers H
  rw[htl,show n+(l.toArray.size-n)=l.toArray.size by omega] at this
  exact this
theorem eC {P:Program}{b:Frame}{w:World}:step P (lone (b.atR a (.code (.scope c)::k)) cs w)=.next (lone (b.atR a (.code c::.inScope c::k)) cs w):=
 step_lone_go (by simp[stepG,stepG.exec,Frame.atR])
theorem pP {P:Program}{b:Frame}{w:World}:step P (lone (b.atR a (.inScope c::k)) cs w)=.next (lone (b.atR a k) cs w):=
 step_lone_go (by simp[stepG,stepG.exec,Frame.atR])
theorem ud {F:Fence}{n:Nat}{P:Program}{w:World} (h:c.wpIn F n P (Exit.noGoto Q) a w):(Code.scope c).wpIn F n P Q a w:=by
 intro b k cs hro hb hr
 have h0:(lone (b.atR a (.code (.scope c)::k)) cs w).fenced P F:=fenced_calm hb hr rfl
 obtain⟨e,a₁,w₁,hq,harr⟩:=h b (.inScope c::k) cs hro hb hr
 cases e with
 |normal=>exact⟨.normal,a₁,w₁,hq,.head h0 eC (StepsIn.trans harr (.one (fenced_calm hb hr rfl) pP))⟩
 |exit id'=>
   have hx:exitTo id' (.inScope c::k)=exitTo id' k:=by simp[exitTo]
   exact⟨.exit id',a₁,w₁,hq,fun k' hk=>.head h0 eC (harr.1 k' (by rw[hx];exact hk)),
    fun hr' hk=>let ⟨k₁,h1,h2⟩:=harr.2 hr' (by rw[hx];exact hk);⟨k₁,h1,.head h0 eC h2⟩⟩
 |goto l=>exact hq.elim
 |ret=>exact⟨_,a₁,w₁,hq,.of_steps (.one h0 eC) harr⟩
 |panic ch=>exact⟨_,a₁,w₁,hq,.of_steps (.one h0 eC) harr⟩
 |outgrown=>exact⟨_,a₁,w₁,hq,.of_steps (.one h0 eC) harr⟩
def eD:Code→Bool
 |.region _ ops _=>ops.toList.all aF
 |.seq x y=>eD x&&eD y
 |.cond _ x y=>eD x&&eD y
 |.block _ c=>eD c
 |.loop c=>eD c
 |.scope c=>eD c
 |_=>true
theorem bI (hT:aI P T) (hm:P.follows .mixedOrders=true) (hΦ:aX b₀ Φ) {N:Nat}:∀(c:Code) {Q:Exit→St→Prop}{q:Box Q}{s:St}{β:Loc}{a:Act}{ds:List Deferred}{w:World},eD c=true→codeOk N c=true→Rel b₀ N s β a w→Φ s β ds w→wpC (spF P rd b₀ Φ B Ψ) T c q s→c.wpIn (fen rd) 0 P (vn b₀ N Φ Ψ Q) { a with defers:=ds } w
 |.skip,_,_,s,β,a,ds,_,_,_,hr,hφ,h=>wpIn_skip ⟨s,β,a,ds,rfl,.inl h,hr,hφ⟩
 |.label _,_,_,s,β,a,ds,_,_,_,hr,hφ,h=>wpIn_label ⟨s,β,a,ds,rfl,.inl h,hr,hφ⟩
 |.exit _,_,_,s,β,a,ds,_,_,_,hr,hφ,h=>wpIn_exit ⟨s,β,a,ds,rfl,.inl h,hr,hφ⟩
 |.goto _,_,_,s,β,a,ds,_,_,_,hr,hφ,h=>wpIn_goto ⟨s,β,a,ds,rfl,.inl h,hr,hφ⟩
 |.ret,_,_,s,β,a,ds,_,_,_,hr,hφ,h=>wpIn_ret ⟨s,β,a,ds,rfl,.inl h,hr,hφ⟩
 |.region id ops b,Q,q,s,β,a,ds,w,hcm,hc,hr,hφ,h=>by
   simp only[eD] at hcm
   cases b with
   |false=>
     have h:wpO (spF P rd b₀ Φ B Ψ) T ops ops.toList s (bx fun s'=>Q .normal s'):=h
     exact wpIn_region_list (fv hT hΦ ops.toList hr hφ hcm hc h (fun s' β' a' w' h1 h2 h3=>⟨s',β',a',ds,rfl,.inl h1,h2,h3⟩) (fun ch s' β' a' w' h1 h2 h3=>⟨s',β',a',ds,rfl,.inr ⟨ch,rfl,h1⟩,h2,h3⟩))
   |true=>
     rcases h with⟨hok,h⟩|⟨R,hR,hK⟩
     ·exact kJ hT hm hΦ hr hφ hcm hc hok h (fun s' β' a' w' h1 h2 h3=>⟨s',β',a',ds,rfl,.inl h1,h2,h3⟩) (fun ch s' β' a' w' h1 h2 h3=>⟨s',β',a',ds,rfl,.inr ⟨ch,rfl,h1⟩,h2,h3⟩)
     ·exact Mw
 |.seq x y,Q,q,s,β,a,ds,w,hcm,hc,hr,hφ,h=>by
   simp only[codeOk,l5] at hc
   simp only[eD,l5] at hcm
   have h:wpC (spF P rd b₀ Φ B Ψ) T x (bx (gD (bx fun s'=>wpC (spF P rd b₀ Φ B Ψ) T y q s') q)) s:=h
   refine wpIn_seq (wpIn_mono (bI hT hm hΦ x hcm.1 hc.1 hr hφ h) (fun e a' w' hp=>?_))
   obtain⟨s',β',a0,ds',rfl,h1,h2,h3⟩:=hp
   rcases h1 with h1|⟨ch,rfl,h1⟩
   ·cases e with
    |normal=>exact bI hT hm hΦ y hcm.2 hc.2 h2 h3 h1
    |_=>exact⟨s',β',a0,ds',rfl,.inl h1,h2,h3⟩
   ·exact NK
 |.cond c x y,Q,q,s,β,a,ds,w,hcm,hc,hr,hφ,h=>by
   simp only[codeOk,l5] at hc
   simp only[eD,l5] at hcm
   obtain⟨b,hb,h⟩:=kF h (hr.ev c)
   refine wpIn_cond (t:=b) hb ?_
   cases b
   ·exact bI hT hm hΦ y hcm.2 hc.2 hr hφ h
   ·exact bI hT hm hΦ x hcm.1 hc.1 hr hφ h
 |.block id c,Q,q,s,β,a,ds,w,hcm,hc,hr,hφ,h=>by
   have h:wpC (spF P rd b₀ Φ B Ψ) T c (bx (eL id q)) s:=h
   refine wpIn_block (wpIn_mono (bI hT hm hΦ c hcm hc hr hφ h) (fun e a' w' hp=>?_))
   obtain⟨s',β',a0,ds',rfl,h1,h2,h3⟩:=hp
   rcases h1 with h1|⟨ch,rfl,h1⟩
   ·cases e with
    |exit i=>
      simp only[Exit.inBlock,eL] at h1 ⊢
      split at h1
      ·rename_i he;rw[if_pos he];exact⟨s',β',a0,ds',rfl,.inl h1,h2,h3⟩
      ·rename_i he;rw[if_neg he];exact⟨s',β',a0,ds',rfl,.inl h1,h2,h3⟩
    |_=>exact⟨s',β',a0,ds',rfl,.inl h1,h2,h3⟩
   ·exact NK
 |.scope c,Q,q,s,β,a,ds,w,hcm,hc,hr,hφ,h=>by
   have h:wpC (spF P rd b₀ Φ B Ψ) T c (bx (lg q)) s:=h
   refine ud (wpIn_mono (bI hT hm hΦ c hcm hc hr hφ h) (fun e a' w' hp=>?_))
   obtain⟨s',β',a0,ds',rfl,h1,h2,h3⟩:=hp
   rcases h1 with h1|⟨ch,rfl,h1⟩
   ·cases e with
    |goto l=>exact h1.elim
    |_=>exact⟨s',β',a0,ds',rfl,.inl h1,h2,h3⟩
   ·exact NK
 |.loop c,Q,q,s,β,a,ds,w,hcm,hc,hr,hφ,h=>by
   obtain⟨I,⟨n,s₁,hvs,h0⟩,hround⟩:=h
   obtain⟨β₁,hr1,ht1⟩:=hvs b₀ N β a w hr
   refine nB (fun n a' w'=>∃s' β' a0 ds',a' = { a0 with defers:=ds' }∧I n s'∧Rel b₀ N s' β' a0 w'∧Φ s' β' ds' w') n ⟨s₁,β₁,a,ds,rfl,h0,hr1,hΦ _ _ _ _ _ _ _ hφ ht1⟩ ?_
   rintro n a' w' ⟨s',β',a0,ds',rfl,h1,h2,h3⟩
   refine wpIn_mono (bI hT hm hΦ c hcm hc h2 h3 (hround n s' h1)) (fun e a2 w2 hp=>?_)
   obtain⟨s2,β2,a02,ds2,rfl,k1,k2,k3⟩:=hp
   rcases k1 with k1|⟨ch,rfl,k1⟩
   ·cases e with
    |normal=>
      obtain⟨n',s3,hlt,hvs',hI⟩:=k1
      obtain⟨β3,hr3,ht3⟩:=hvs' b₀ N β2 a02 w2 k2
      exact⟨n',hlt,s3,β3,a02,ds2,rfl,hI,hr3,hΦ _ _ _ _ _ _ _ k3 ht3⟩
    |_=>exact⟨s2,β2,a02,ds2,rfl,.inl k1,k2,k3⟩
   ·exact⟨s2,β2,a02,ds2,rfl,.inr ⟨ch,rfl,k1⟩,k2,k3⟩
 |.rangeFunc f ps x y,Q,q,s,β,a,ds,w,hcm,hc,hr,hφ,h=>by
   obtain⟨R,hR,hK⟩:=h
   exact Mw
 |.refuse y,Q,q,s,β,a,ds,w,hcm,hc,hr,hφ,h=>by
   obtain⟨R,hR,hK⟩:=h
   exact Mw
theorem cy {B0:Nat}{id:Nat}{ops:Array Oper}{Q:Exit→St→Prop}{q:Box Q} (hok:js T ops=true) (h:wpO (spF P rd b₀ Φ B0 Ψ) T ops ops.toList s (bx fun s'=>Q .normal s')):gY (spF P rd b₀ Φ B0 Ψ) T id ops s q:=.inl ⟨hok,h⟩
end
section
variable {P:Program}{T:Nat→TI}{gb:Nat}{o:bU}
theorem fY (B gb:Nat) (o:bU) (hT:aI P T) (hm:P.follows .mixedOrders=true) {f:FuncId}{fn:Func} (hf:P.funcs[f]? = some fn) (hb:fn.body=some c) (hn:(fn.name == "runtime.NumGoroutine")=false)
  (rs:List ResultVar) (hres:fn.results=rs.toArray) (hcm:eD c=true) (hok:codeOk fn.ntmps c=true) {args:List AV} (hargs:args.length≤fn.ntmps) {R:AV→Prop}
  (h:∀b₀ β0 s0 w0 g,wpC (spF P none b₀ (xT gb o b₀ β0 s0 w0) B qd) T c (bx (oC T rs R)) ⟨cD args,g,fun _=>none⟩):bu P gb o f args R:=by
 refine⟨⟨fn,hf,by rw[hb];rfl,hn⟩,fun J w vs hheld hJ hv=>?_⟩
 refine fX (n:=0) (callsIn_of_wp_marks hf hb trivial ?_)
 have hlen:∀(l:List AV) (vs:List Value),RVs J w l vs→vs.length=l.length:=by
  intro l
  induction l with
  |nil=>intro vs h;simp only[RVs] at h;subst h;rfl
  |cons x l ih=>intro vs h;simp only[RVs] at h;obtain⟨u,us,rfl,_,h⟩:=h;simp[ih us h]
 have hl:=hlen _ _ hv
 let J':Nat→Prop:=fun b=>J b∨b≤gb
 have hr:Rel ⟨w.heap.size,J'⟩ fn.ntmps ⟨cD args,fun _=>0,fun _=>none⟩ (fun _=>none) { tmps:=vs.toArray++Array.replicate (fn.ntmps-vs.toArray.size) undef,defers:=[]} w:=by
  refine⟨rfl,by simp;omega,fun i=>?_,fun id cells ho=>O7,fun id id' a a' ho=>O7,b9 _⟩
  have hget:∀(l:List AV) (vs:List Value),RVs J w l vs→∀(i:Nat) (x:AV),l[i]? = some x→∃v,vs[i]? = some v∧RV J w x v:=by
   intro l
   induction l with
   |nil=>intro vs _ i x h;simp at h
   |cons y l ih=>
     intro vs h i x hx
     simp only[RVs] at h
     obtain⟨u,us,rfl,h1,h2⟩:=h
     cases i with
     |zero=>simp at hx;subst hx;exact⟨u,rfl,h1⟩
     |succ i=>simpa using ih us h2 i x Oz
  simp only[cD]
  cases hx:args[i]? with
  |some x=>
    obtain⟨v,h1,h2⟩:=hget _ _ hv i x hx
    have hlt:i<vs.length:=(j0.1 h1).1
    have:(vs.toArray++Array.replicate (fn.ntmps-vs.toArray.size) undef).getD i undef=v:=by
     rw[j7,A7 (by simpa using hlt)]
     simp[h1]
    rw[this]
    simp only[s5]
    exact RV.rep x (RV.mono (fun b hb=>⟨⟨hJ b hb,fun _=>.inl hb,fun id a ho=>by cases ho⟩,rfl⟩) x h2)
  |none=>
    exact NC
 refine wpIn_mono (bI (rd:=none) (B:=B) (ds:=[]) hT hm aB c hcm hok hr ⟨⟨hheld.lt,⟨hheld.lt,fun b hb=>.inr hb⟩,hheld⟩,Tr.refl,trivial⟩ (h _ _ _ w _)) (fun e a' w' hp=>?_)
 obtain⟨s',β',a0,ds',rfl,hQ,hr',_,ht,hmk⟩:=hp.plain
 have hres':oC T rs R .ret s'→bodyPostM (fen none) 0 P fn (fun e w'=>∃v r,e=.returned v∧R r∧w.heap.size≤w'.heap.size∧(∀b,b<w.heap.size→w'.heap[b]? = w.heap[b]?)∧(w'.os=w.os∧w'.output=w.output)∧RV (Own ⟨w.heap.size,J'⟩ w') w' r v) .ret { a0 with defers:=ds' } w':=by
  intro hQ
  refine lq hmk (fun w5 h5=>?_)
  obtain⟨v,avs,h1,⟨r,h2,h3⟩,_,vs',rfl,h4⟩:=dm hT (hr'.shut h5) hres hQ
  refine⟨_,h1,_,r,rfl,h3,by rw[h5.size];exact ht.size,fun b hb=>?_,⟨h5.os.1.trans ht.os.1,h5.os.2.trans ht.os.2⟩,h2.rep (hr'.shut h5) h4⟩
  rcases h5.same b with e|⟨e,_⟩
  ·rw[e];exact ht.old b hb
  ·omega
 cases e with
 |normal=>exact hres' hQ
 |ret=>exact hres' hQ
 |exit id=>exact hQ.elim
 |goto l=>exact hQ.elim
 |panic ch=>exact hQ.elim
 |outgrown=>exact hQ.elim
theorem xS.mono {f:FuncId}{xs:List AV}{g:Nat→Nat}{ob:Obs}{R R':AV→(Nat→Nat)→Obs→Prop} (h:xS P gb o f xs g ob R) (hr:∀r g' ob',R r g' ob'→R' r g' ob'):xS P gb o f xs g ob R':=
 ⟨h.1,fun b₀ N β a fa w vs h0 h0' h1 h2=>(h.2 b₀ N β a fa w vs h0 h0' h1 h2).mono fun _ _ ⟨v,r,g',ob',β',q1,q2,q3⟩=>⟨v,r,g',ob',β',q1,hr _ _ _ q2,q3⟩⟩
end
end
section
def dOf:Value→D
 |.bool b=>.bool b
 |.int k n=>.int k n
 |.string s=>.str s.data.toList
 |.slice none 0 0=>.nsl
 |.pointer none=>.nilp
 |.nilFunc=>.nilf
 |.nilIface=>.nili
 |.map none=>.nilm
 |_=>.sl []
theorem yb {v:Value} (h:gv (dOf v)=true):dV (dOf v)=v:=by
 unfold dOf at h ⊢
 split at h <;> first|(cases h;done)|rfl
def lB:Value→Bool
 |.agg _=>false
 |_=>true
theorem dVs:∀{l:List Value},(l.map dOf).all gv=true→l=(l.map dOf).map dV
 |[],_=>rfl
 |v::l,h=>by
   simp only[j8,w8,l5] at h
   rw[j8,j8,yb h.1,←dVs h.2]
def EG (P:Program) (t:Nat):Option TI:=
 match P.underlying t,P.info? t with
 |some d,some i=>match i.zero with
   |some z=>
     let zs:=z.cells.toList.map dOf
     bif zs.all gv && zs.length == i.size && (db d || lB z) then some ⟨d,i.size,i.bytes,zs⟩ else none
   |none=>none
 |_,_=>none
variable {P:Program}
theorem Bm{t:Nat}{ti:TI} (h:EG P t=some ti):lm P t ti:=by
 unfold EG at h
 split at h
 ·next d i hd hi=>
  split at h
  ·next z hz=>
   simp only[cond_eq_ite] at h
   split at h
   ·next hc=>
    cases h
    simp only[l5,B1,D1] at hc
    obtain⟨⟨h1,h2⟩,h3⟩:=hc
    refine Bf (z:=z) hd (by rw[hi];simp[hz]) (dVs h1) h1 h2 (h3.imp id fun ho=>?_)
    have hz1:z.cells.toList=[z]:=by cases z <;> first|rfl|cases ho
    rw[hz1] at h1 ⊢
    simp only[j8,n0,w8,List.all_nil,Bool.and_true] at h1
    exact(yb h1).symm
   ·cases h
  ·cases h
 ·cases h
theorem wL{l:List (Nat×TI)} (h:(l.map fun p=>EG P p.1)=l.map fun p=>some p.2):aI P (vo l):=
 pM fun p hp=>Bm (by
  have:=List.map_inj_left.1 h p hp
  exact this)
end
section
abbrev Pan:=List PanicEntry→(Nat→Nat)→Obs→Prop
def Pan.on (Ψ:Pan):dL:=fun ch s=>Ψ ch s.gen s.obj
variable {R:AV→(Nat→Nat)→Obs→Prop}{K:St→Prop}
section
variable {P:Program}{T:Nat→TI}{b₀:Bs}{β:Loc}{w:World}{B:Nat}{Ψ:Pan}{rd:Option Nat}{Φ:St→Loc→List Deferred→World→Prop}
def EB (b₀:Bs) (β:Loc) (fa:Nat→AV) (g:Nat→Nat) (ob:Obs) (w:World) (R:AV→(Nat→Nat)→Obs→Prop) (Ψ:Pan) (e:Ending) (w':World):Prop:=
 (∃v r g' ob' β',e=.returned v∧R r g' ob'∧ab b₀ β' g' ob' w' r v∧
    (∀id cells,ob' id=some cells→cw b₀ β' g' ob' w' (g' id) cells (β' id))∧(∀id id' a a',(ob' id).isSome=true→(ob' id').isSome=true→β' id=some a→β' id'=some a'→a.block=a'.block→id=id')∧
    Tr b₀ β ⟨fa,g,ob⟩ w β' ⟨fa,g',ob'⟩ w')∨
 (∃ch g' ob' β',e=.panicked ch∧Ψ ch g' ob'∧
    (∀id cells,ob' id=some cells→cw b₀ β' g' ob' w' (g' id) cells (β' id))∧(∀id id' a a',(ob' id).isSome=true→(ob' id').isSome=true→β' id=some a→β' id'=some a'→a.block=a'.block→id=id')∧
    Tr b₀ β ⟨fa,g,ob⟩ w β' ⟨fa,g',ob'⟩ w')
def ck (P:Program) (f:FuncId) (xs:List AV) (g:Nat→Nat) (ob:Obs) (R:AV→(Nat→Nat)→Obs→Prop) (Ψ:Pan):Prop:=
 sk P f∧∀(b₀:Bs) (N:Nat) (β:Loc) (a:Act) (fa:Nat→AV) (w:World) (vs:List Value),Rel b₀ N ⟨fa,g,ob⟩ β a w→au b₀ β g ob w xs vs→
  Calls P f vs.toArray w (EB b₀ β fa g ob w R Ψ)
theorem ck.mono {f:FuncId}{xs:List AV}{g:Nat→Nat}{ob:Obs}{R R':AV→(Nat→Nat)→Obs→Prop}{Ψ':Pan} (h:ck P f xs g ob R Ψ) (hr:∀r g' ob',R r g' ob'→R' r g' ob') (hp:∀ch g' ob',Ψ ch g' ob'→Ψ' ch g' ob'):ck P f xs g ob R' Ψ':=
 ⟨h.1,fun b₀ N β a fa w vs h1 h2=>(h.2 b₀ N β a fa w vs h1 h2).mono fun _ _ q=>q.imp (fun⟨v,r,g',ob',β',q1,q2,q3⟩=>⟨v,r,g',ob',β',q1,hr _ _ _ q2,q3⟩) (fun⟨ch,g',ob',β',q1,q2,q3⟩=>⟨ch,g',ob',β',q1,hp _ _ _ q2,q3⟩)⟩
def ue (b₀:Bs) (β0:Loc) (s0:St) (w0:World):St→Loc→List Deferred→World→Prop:=fun s β ds w=>ds=[]∧Tr b₀ β0 s0 w0 β s w
theorem aa {β0:Loc}{s0:St}{w0:World}:aX b₀ (ue b₀ β0 s0 w0):=fun _ _ _ _ _ _ _ h ht=>⟨h.1,h.2.trans ht⟩
theorem uf (B:Nat) (hT:aI P T) (hm:P.follows .mixedOrders=true) {f:FuncId}{fn:Func}{c:Code} (hf:P.funcs[f]? = some fn) (hb:fn.body=some c) (hn:(fn.name == "runtime.NumGoroutine")=false)
  (rs:List ResultVar) (hres:fn.results=rs.toArray) (hcm:eD c=true) (hok:codeOk fn.ntmps c=true) {xs:List AV} (hargs:xs.length≤fn.ntmps) {g:Nat→Nat}{ob:Obs}
  (h:∀b₀ β0 s0 w0,wpC (spF P none b₀ (ue b₀ β0 s0 w0) B Ψ.on) T c (bx (rT T rs R)) ⟨cD xs,g,ob⟩):ck P f xs g ob R Ψ:=by
 refine⟨⟨fn,hf,by rw[hb];rfl,hn⟩,fun b₀ N β a fa w vs hr0 hv=>?_⟩
 refine fX (n:=0) (callsIn_of_wp hf hb trivial ?_)
 have hr:=ll (N:=fn.ntmps) hargs hr0 hv
 refine wpIn_mono (bI (rd:=none) (B:=B) (ds:=[]) hT hm aa c hcm hok hr ⟨rfl,Tr.refl⟩ (h b₀ β ⟨cD xs,g,ob⟩ w)) (fun e a' w' hp=>?_)
 obtain⟨s',β',a0,ds',rfl,hQ,hr',rfl,ht⟩:=hp
 rcases hQ with hQ|⟨ch,rfl,hQ⟩
 ·have hres':rT T rs R .ret s'→∃v,(results fn a0.tmps).run P w'=.ok v w'∧EB b₀ β fa g ob w R Ψ (.returned v) w':=by
   rintro⟨s2,hvs,hR⟩
   obtain⟨β2,hr2,ht2⟩:=hvs b₀ fn.ntmps β' a0 w' hr'
   have hta:=ht.trans ht2
   obtain⟨v,avs,h1,h2,h3,_⟩:=dm hT hr2 hres hR
   exact⟨v,h1,.inl ⟨v,_,_,_,β2,rfl,h2,h3,hr2.obj,hr2.inj,⟨hta.size,hta.old,hta.keep,hta.os⟩⟩⟩
  cases e with
  |normal=>exact⟨rfl,hres' hQ⟩
  |ret=>exact⟨rfl,hres' hQ⟩
  |exit id=>exact hQ.elim
  |goto l=>exact hQ.elim
  |panic ch=>exact hQ.elim
  |outgrown=>exact hQ.elim
 ·exact⟨rfl,.inr ⟨ch,_,_,β',rfl,hQ,hr'.obj,hr'.inj,⟨ht.size,ht.old,ht.keep,ht.os⟩⟩⟩
theorem bC (hΦ:aX b₀ Φ) {o:Oper}{s:St}{k:Box K}{f:FuncId}{args:Array Operand}{tys:Array TypeId} (ho:o.op=.call ⟨.value (.func f),args,tys⟩)
  (hp:ck P f (args.toList.map s.ev) s.gen s.obj R Ψ) (hk:∀r g' ob',R r g' ob'→K (St.put ⟨s.f,g',ob'⟩ o.dst r)):br (spF P rd b₀ Φ B Ψ.on) o s k:=by
 refine⟨fun s'=>∃r g' ob',R r g' ob'∧s'=St.put ⟨s.f,g',ob'⟩ o.dst r,fun N β a ds w hr hφ hdst next Q hn hx=>?_,fun _ ⟨r,g',ob',hr,e⟩=>e▸hk r g' ob' hr⟩
 have hnd:aF o=true:=by simp[aF,ho]
 refine eN hnd ?_
 unfold Oper.wp
 rw[eP ho hp.1 w]
 simp only[Oper.upon]
 have:=hp.2 b₀ N β a s.f w (args.toList.map a.eval) hr (ia hr _)
 rw[show (args.toList.map a.eval).toArray=args.map a.eval from E5 a7] at this
 refine this.mono fun e w' hE=>?_
 rcases hE with⟨v,r,g',ob',β',he,hR,hv,h1,h2,h3⟩|⟨ch,g',ob',β',he,hΨ,h1,h2,h3⟩
 ·exact M5
 ·subst he
  have hk:dO b₀ β s.gen s.obj w β' g' ob' w':=h3.keep
  have ht:Tr b₀ β s w β' ⟨s.f,g',ob'⟩ w':=⟨h3.size,h3.old,hk,h3.os⟩
  exact hx ch ⟨s.f,g',ob'⟩ β' a w' hΨ ⟨hr.defers,hr.size,fun i=>ab.keep hk _ (hr.f i),h1,h2,z6 hr.base h3.size⟩ (hΦ _ _ _ _ _ _ _ hφ ht)
theorem ug {Ψ:dL}{o:Oper}{s:St}{k:Box K}{x:Operand} (ho:o.op=.panic x) {v:Value} (hv:∀(N:Nat) (β:Loc) (a:Act) (w:World),Rel b₀ N s β a w→(Instr.panic (a.eval x)).run P w=.halt (.panic v) w)
  (hk:Ψ [{ v,recovered:=false }] s):br (spF P rd b₀ Φ B Ψ) o s k:=by
 refine⟨fun _=>False,fun N β a ds w hr hφ hdst next Q hn hx=>?_,fun _ h=>h.elim⟩
 have hnd:aF o=true:=by simp[aF,ho]
 refine eN hnd ?_
 unfold Oper.wp
 have:(execOp a.eval o).run P w=.halt (.panic v) w:=by
  simp[execOp,ho,hv N β a w hr,Result.andThen]
 rw[this]
 exact hx _ s β a w hk hr hφ
end
end
section
variable {K:St→Prop}{x:Operand}
section
variable {P:Program}{b₀:Bs}{rd:Option Nat}{Φ:St→Loc→List Deferred→World→Prop}{B:Nat}{Ψ:dL}
theorem oM (hΦ:aX b₀ Φ) {o:Oper}{s:St}{k:Box K}{t:TypeId} (ho:o.op=.makeInterface t x) {fs:Array Field} (hu:P.underlying t=some (.struct fs)) {kd:IntKind}{n:Int}
  (hx:s.ev x=.agg [.d (.int kd n)]) (hk:K (s.put o.dst (.exact (.iface t (.agg #[.int kd n]))))):br (spF P rd b₀ Φ B Ψ) o s k:=by
 refine⟨fun s'=>s'=s.put o.dst (.exact (.iface t (.agg #[.int kd n]))),fun N β a ds w hr hφ hd next Q hn _=>?_,fun _ e=>e▸hk⟩
 refine eN (by simp[aF,ho]) ?_
 have hv:=hr.ev x
 rw[hx] at hv
 simp only[ab] at hv
 obtain⟨vs,h1,h2,h3⟩:=hv
 obtain⟨u,hu1,hu2⟩:=h3 0 _ rfl
 simp only[aj] at hu2
 obtain rfl:=hu2.inv_int
 have hvs:vs = #[.int kd n]:=by
  apply Array.ext_getElem?
  intro j
  match j with
  |0=>rw[hu1];rfl
  |j+1=>rw[D9 (by rw[h2];simp),D9 a7]
 subst hvs
 have hex:(execOp a.eval o).run P w=.ok (.value (.iface t (.agg #[.int kd n]))) w:=by
  simp[execOp,ho,h1,Instr.makeInterface,run_underlying hu]
 have hr':=hr.put hd (x:=.exact (.iface t (.agg #[.int kd n]))) (v:=.iface t (.agg #[.int kd n])) (by simp only[ab])
 exact MF
theorem oN {o:Oper}{s:St}{k:Box K} (ho:o.op=.panic x) {t:TypeId}{u:Value} (hx:s.ev x=.exact (.iface t u)) (hk:Ψ [{ v:=.iface t u,recovered:=false }] s):br (spF P rd b₀ Φ B Ψ) o s k:=by
 refine ug ho (v:=.iface t u) (fun N β a w hr=>?_) hk
 have hv:=hr.ev x
 rw[hx] at hv
 simp only[ab] at hv
 rw[hv]
 simp[Instr.panic]
end
end
end
section
attribute [local congr] Go.Am.ite_cc
section
variable {s:St}{K:St→Prop}{w:World}{a:Act}{o:Oper}{f:FuncId}{β:Loc}{tys:Array TypeId}{ds:List Deferred}{Q:Exit→Act→World→Prop}{u:Value}{ms:Array (String×TypeId)}{args:Array Operand}{R:AV→(Nat→Nat)→Obs→Prop}{caps:List PC}{x:Operand}{k:Box K}
section
variable {P:Program}{T:Nat→TI}{b₀:Bs}{rd:Option Nat}{Φ:St→Loc→List Deferred→World→Prop}{B:Nat}{Ψ:dL}{Ψ0:Pan}
theorem EC (hΦ:aX b₀ Φ) (ho:o.op=.call ⟨.value (.func f),args,tys⟩)
  (hp:ck P f (args.toList.map s.ev) s.gen s.obj R Ψ0) (hx:∀ch g' ob',Ψ0 ch g' ob'→Ψ ch ⟨s.f,g',ob'⟩) (hk:∀r g' ob',R r g' ob'→K (St.put ⟨s.f,g',ob'⟩ o.dst r)):br (spF P rd b₀ Φ B Ψ) o s k:=by
 refine⟨fun s'=>∃r g' ob',R r g' ob'∧s'=St.put ⟨s.f,g',ob'⟩ o.dst r,fun N β a ds w hr hφ hdst next Q hn hx'=>?_,fun _ ⟨r,g',ob',hr,e⟩=>e▸hk r g' ob' hr⟩
 have hnd:aF o=true:=by simp[aF,ho]
 refine eN hnd ?_
 unfold Oper.wp
 rw[eP ho hp.1 w]
 simp only[Oper.upon]
 have:=hp.2 b₀ N β a s.f w (args.toList.map a.eval) hr (ia hr _)
 rw[show (args.toList.map a.eval).toArray=args.map a.eval from E5 a7] at this
 exact Mc
theorem uh (hΦ:aX b₀ Φ){t:Nat} (ho:o.op=.call ⟨.value (.tmp t),args,tys⟩) (hf:s.f t=.one (.clo f caps))
  (hp:ck P f (args.toList.map s.ev++caps.map tU) s.gen s.obj R Ψ0) (hx:∀ch g' ob',Ψ0 ch g' ob'→Ψ ch ⟨s.f,g',ob'⟩) (hk:∀r g' ob',R r g' ob'→K (St.put ⟨s.f,g',ob'⟩ o.dst r)) (hf1:f<1000000:=by decide):br (spF P rd b₀ Φ B Ψ) o s k:=by
 refine⟨fun s'=>∃r g' ob',R r g' ob'∧s'=St.put ⟨s.f,g',ob'⟩ o.dst r,fun N β a ds w hr hφ hdst next Q hn hx'=>?_,fun _ ⟨r,g',ob',hr,e⟩=>e▸hk r g' ob' hr⟩
 have hnd:aF o=true:=by simp[aF,ho]
 refine eN hnd ?_
 have hv:=hr.f t
 rw[hf] at hv
 simp only[ab,aj] at hv
 obtain⟨vs,hv1,hv2,hv3⟩:=hv
 rw[qM hf1] at hv1
 have hrun:(execOp a.eval o).run P w=.ok (.enter f (args.map a.eval++vs)) w:=by
  obtain⟨fn,h1,h2,h3⟩:=hp.1
  have h2:¬fn.body=none:=by intro h;rw[h] at h2;simp at h2
  have h3:¬fn.name = "runtime.NumGoroutine":=by simpa using h3
  simp[execOp,ho,resolve,Act.eval,hv1,Deferred.ofValue,invoke,callFunc,h1,h2,h3]
 unfold Oper.wp
 rw[hrun]
 simp only[Oper.upon]
 have hc:au b₀ β s.gen s.obj w (caps.map tU) vs.toList:=oo (by simpa using hv2) (fun i pc hi=>let ⟨u,h1,h2⟩:=hv3 i pc hi;⟨u,by simpa using h1,h2⟩)
 have:=hp.2 b₀ N β a s.f w (args.toList.map a.eval++vs.toList) hr ((ia hr _).append hc)
 rw[show (args.toList.map a.eval++vs.toList).toArray=args.map a.eval++vs from E5 a7] at this
 exact Mc
@[go_sem] theorem xU {S:Sp}{dst:Option Tmp}{ty:TypeId}{ps:String}{af:Array Edge}{gd:Option (Nat×Bool)}{t u:TypeId}{ok:Bool}:opA S T ⟨dst,.typeAssert x t u ok,ty,ps,af,gd⟩ s k=br S ⟨dst,.typeAssert x t u ok,ty,ps,af,gd⟩ s k:=b8 rfl rfl
theorem qX (hΦ:aX b₀ Φ){t t0:TypeId} (ho:o.op=.typeAssert x t0 t true) {fs:Array Field} (hu:P.underlying t=some (.struct fs)) {kd:IntKind}{n:Int}
  (hx:s.ev x=.exact (.iface t (.agg #[.int kd n]))) (hk:K (s.put o.dst (.tup [.agg [.d (.int kd n)],bv true]))):br (spF P rd b₀ Φ B Ψ) o s k:=by
 refine⟨fun s'=>s'=s.put o.dst (.tup [.agg [.d (.int kd n)],bv true]),fun N β a ds w hr hφ hd next Q hn _=>?_,fun _ e=>e▸hk⟩
 refine eN (by simp[aF,ho]) ?_
 have hv:=hr.ev x
 rw[hx] at hv
 simp only[ab] at hv
 have hex:(execOp a.eval o).run P w=.ok (.value (.tuple #[.agg #[.int kd n],.bool true])) w:=by
  simp[execOp,ho,hv,Instr.typeAssert,run_underlying hu]
 have hr':=hr.put hd (x:=.tup [.agg [.d (.int kd n)],bv true]) (v:=.tuple #[.agg #[.int kd n],.bool true]) (by
  simp only[ab,au]
  refine⟨[.agg #[.int kd n],.bool true],rfl,_,_,rfl,⟨#[.int kd n],rfl,rfl,fun i c hi=>?_⟩,_,_,rfl,?_,rfl⟩
  ·match i,hi with
   |0,hi=>cases hi;exact⟨_,rfl,by simp only[aj];exact .int _ _⟩
  ·simp only[aj];exact .bool _)
 exact MF
def Ky (d:List Deferred) (b₀:Bs) (β0:Loc) (s0:St) (w0:World):St→Loc→List Deferred→World→Prop:=fun s β ds w=>ds=d∧Tr b₀ β0 s0 w0 β s w
theorem qk {d:List Deferred}{β0:Loc}{s0:St}{w0:World}:aX b₀ (Ky d b₀ β0 s0 w0):=fun _ _ _ _ _ _ _ h ht=>⟨h.1,h.2.trans ht⟩
theorem mq (hT:aI P T) (hm:P.follows .mixedOrders=true) (hΦ:aX b₀ Φ) {N:Nat}{x y:Code} (hcm:eD x=true) (hc:codeOk N x=true) (hr:Rel b₀ N s β a w) (hφ:Φ s β ds w)
 (h:wpC (spF P rd b₀ Φ B qd) T x (bx fun e s'=>e=.normal∧K s') s) (hy:∀s' β' a' ds' w',K s'→Rel b₀ N s' β' a' w'→Φ s' β' ds' w'→y.wpIn (fen rd) 0 P Q { a' with defers:=ds' } w'):(Code.seq x y).wpIn (fen rd) 0 P Q { a with defers:=ds } w:=by
 refine wpIn_seq (wpIn_mono (bI hT hm hΦ x hcm hc hr hφ h) (fun e a' w' hp=>?_))
 obtain⟨s',β',a0,ds',rfl,h1,h2,h3⟩:=hp
 rcases h1 with⟨rfl,h1⟩|⟨_,_,h⟩
 ·exact hy _ _ _ _ _ h1 h2 h3
 ·exact M4
theorem wI (hT:aI P T) (hm:P.follows .mixedOrders=true) (hΦ:aX b₀ Φ) {N:Nat}{x:Code} (Ψ:dL) (K:Exit→St→Prop) (hcm:eD x=true) (hc:codeOk N x=true) (hr:Rel b₀ N s β a w) (hφ:Φ s β ds w)
  (h:wpC (spF P rd b₀ Φ B Ψ) T x (bx K) s) (hq:∀e s' β' a' ds' w',(K e s'∨∃ch,e=.panic ch∧Ψ ch s')→Rel b₀ N s' β' a' w'→Φ s' β' ds' w'→Q e { a' with defers:=ds' } w'):x.wpIn (fen rd) 0 P Q { a with defers:=ds } w:=by
 refine wpIn_mono (bI hT hm hΦ x hcm hc hr hφ h) (fun e a' w' hp=>?_)
 obtain⟨s',β',a0,ds',rfl,h1,h2,h3⟩:=hp
 exact hq _ _ _ _ _ _ h1 h2 h3
theorem wJ (hT:aI P T) (hΦ:aX b₀ Φ) {N id t:Nat}{o1 o2:Oper}{y:Code} (hn1:aF o1=true) (g1:o1.guard=none) (g2:o2.guard=none) (hd1:∀d,o1.dst=some d→d<N) (hd2:o2.dst=none)
  (ho2:o2.op=.defer ⟨.value (.tmp t),#[],tys⟩) (hr:Rel b₀ N s β a w) (hφ:Φ s β ds w) (h:opA (spF P none b₀ Φ B qd) T o1 s (bx fun s'=>s'.f t=.one (.clo f caps)∧K s'))
  (hy:∀s' β' a' w' vs,K s'→Rel b₀ N s' β' a' w'→Φ s' β' ds w'→au b₀ β' s'.gen s'.obj w' (caps.map tU) vs→y.wpIn (fen none) 0 P Q { a' with defers:=⟨.fn (.func f) vs.toArray,#[]⟩::ds } w') (hf1:f<1000000:=by decide):(Code.seq (.region id #[o1,o2] false) y).wpIn (fen none) 0 P Q { a with defers:=ds } w:=by
 refine wpIn_seq (wpIn_region ?_)
 show wpOpsIn (fen none) 0 P #[o1,o2] _ [0,1] _ _
 simp only[wpOpsIn,y2,v7,s8]
 rw[if_pos (by simp[Region.wanted,g1])]
 refine iN hT hΦ hr hφ hn1 hd1 h (fun s' β' a' w' h1 h2 h3=>?_) (fun ch s' β' a' w' h=>h.elim)
 obtain⟨hc,hK⟩:=h1
 rw[if_pos (by simp[Region.wanted,g2])]
 have hv:=h2.f t
 rw[hc] at hv
 simp only[ab,aj] at hv
 obtain⟨vs,hv1,hv2,hv3⟩:=hv
 rw[qM hf1] at hv1
 refine⟨fun _ _=>trivial,?_⟩
 have hrun:((o2.semAt (fen none).round ({ a' with defers:=ds }:Act).eval).run P w')=.ok (.defer ⟨.fn (.func f) vs,#[]⟩) w':=by
  rw[show (fen none).round=none from rfl,Oper.semAt_none]
  simp[execOp,ho2,resolve,Act.eval,hv1,Deferred.ofValue]
 rw[hrun,Oper.uponIn_defer]
 simp only[hd2,Act.put]
 exact hy s' β' a' w' vs.toList hK h2 h3 (oo (by simpa using hv2) (fun i pc hi=>let ⟨u,h1,h2⟩:=hv3 i pc hi;⟨u,by simpa using h1,h2⟩))
theorem nE {tI t:TypeId} (hu:P.underlying tI=some (.interface ms)):(Op.equal tI (.iface t u) .nilIface).run P w=.ok false w:=by
 obtain⟨n,hn⟩:∃n,Op.maxDepth=n+1:=⟨_,rfl⟩
 unfold Op.equal
 rw[hn,Op.equalIn]
 simp[run_underlying hu]
theorem pS{tI t tI2:TypeId}{d:Nat} (ho:o.op=.binOp .eql tI (.tmp d) (.const .nilIface) tI2) (hu:P.underlying tI=some (.interface ms)) (h:a.tmps.getD d undef=.iface t u) :
  (execOp a.eval o).run P w=.ok (.value (.bool false)) w:=by
 have e1:binOp .eql tI (.iface t u) .nilIface=(do pure (.bool (←Op.equal tI (.iface t u) .nilIface))):=rfl
 have e2:eqGuard .eql tI (.tmp d) (.const .nilIface) (.iface t u) .nilIface=pure ():=rfl
 have e3:a.eval (.tmp d)=.iface t u:=h
 have e4:a.eval (.const .nilIface)=.nilIface:=rfl
 unfold execOp
 simp only[ho,e3,e4,e1,e2,Sem.run_bind,Sem.run_pure,Result.andThen_ok,nE hu]
theorem ui (hT:aI P T) (hm:P.follows .mixedOrders=true) {fn fnD:Func}{N id id2 bl d e:Nat}{oR oE:Oper}{tI:TypeId}{x y:Code}
  (hf:P.funcs[f]? = some fnD) (hb:fnD.body=some (.seq (.region id #[oR] false) (.block bl (.seq (.region id2 #[oE] false) (.cond (.tmp e) x y))))) (hnn:(fnD.name == "runtime.NumGoroutine")=false)
  (hoR:oR.op=.call ⟨.builtin .recover,#[],#[]⟩) (hdR:oR.dst=some d) (gR:oR.guard=none) (hoE:oE.op=.binOp .eql tI (.tmp d) (.const .nilIface) tI) (hdE:oE.dst=some e) (gE:oE.guard=none) (hdn:d<fnD.ntmps) (hen:e<fnD.ntmps)
  (hres:fnD.results = #[]) (hcm:eD y=true) (hok:codeOk fnD.ntmps y=true) (huI:P.underlying tI=some (.interface ms)) {t:TypeId}{xs:List AV}{vs:List Value}{R:Ending→World→Prop} (hr:Rel b₀ N s β a w) (hv:au b₀ β s.gen s.obj w xs vs) (hl:xs.length≤fnD.ntmps)
  {K:(Nat→Nat)→Obs→Prop} (hy:∀β0 s0 w0,wpC (spF P none b₀ (ue b₀ β0 s0 w0) B qd) T y (bx fun ex s'=>ex=.normal∧K s'.gen s'.obj) ⟨upd (upd (cD xs) d (.exact (.iface t u))) e (bv false),s.gen,s.obj⟩)
  (hR:∀g' ob' β' w',K g' ob'→Rel b₀ N ⟨s.f,g',ob'⟩ β' a w'→Tr b₀ β s w β' ⟨s.f,g',ob'⟩ w'→∃v,(results fn a.tmps).run P w'=.ok v w'∧R (.returned v) w') :
  LeavesIn (fen none) 0 P fn a.tmps R [⟨.fn (.func f) vs.toArray,#[]⟩] (.panicking [{ v:=.iface t u,recovered:=false }]) w:=by
 refine leavesIn_cons (f:=f) (args:=vs.toArray) a7 (fun h=>by cases h) ?_ (fun _ _=>trivial) ?_
 ·have h3:¬fnD.name = "runtime.NumGoroutine":=by simpa using hnn
  simp[invoke,callFunc,hf,hb,h3]
 refine callsDIn_of_wpSIn hf hb trivial fun c₀ cs hu=>?_
 apply wpSIn_seq
 apply wpSIn_region
 show wpOpsSIn (fen none) 0 P #[oR] _ [0] _ _ _
 simp only[wpOpsSIn,y2,v7]
 refine⟨fun _ _=>trivial,?_⟩
 rw[if_pos (by simp[Region.wanted,gR])]
 have hrun:∀(a:Act) (w:World),(execOp a.eval oR).run P w=.ok .recover w:=fun a w=>by simp[execOp,hoR,resolve,invoke,builtin]
 rw[hrun]
 simp only[recoverD,hu,hdR,Exit.thenS]
 refine wpSIn_of_wpIn rfl ?_
 have hr0:=ll (N:=fnD.ntmps) (fa:=s.f) hl hr hv
 have hr1:=hr0.put (dst:=some d) (fun d' h=>by cases h;exact hdn) (x:=.exact (.iface t u)) (v:=.iface t u) (by simp only[ab])
 refine wpIn_block (wpIn_seq (wpIn_region ?_))
 show wpOpsIn (fen none) 0 P #[oE] _ [0] _ _
 simp only[wpOpsIn,y2,v7]
 rw[if_pos (by simp[Region.wanted,gE])]
 have hvd:=hr1.f d
 simp only[St.put,upd,if_pos,ab] at hvd
 refine⟨fun _ _=>trivial,?_⟩
 rw[show (fen none).round=none from rfl,Oper.semAt_none]
 rw[pS hoE huI hvd,Oper.uponIn_value]
 simp only[hdE]
 have hr2:Rel b₀ fnD.ntmps ⟨upd (upd (cD xs) d (.exact (.iface t u))) e (bv false),s.gen,s.obj⟩ β _ w:=hr1.put (dst:=some e) (fun d' h=>by cases h;exact hen) (x:=bv false) (v:=.bool false) (by simp only[ab,aj,bv];exact .bool _)
 have hve:=hr2.f e
 simp only[upd,if_pos,bv,ab,aj] at hve
 refine wpIn_cond (t:=false) hve.inv_bool ?_
 rw[if_neg a8]
 have hy2:=bI (rd:=none) (B:=B) (ds:=[]) hT hm aa y hcm hok hr2 ⟨rfl,Tr.refl⟩ (hy β ⟨upd (upd (cD xs) d (.exact (.iface t u))) e (bv false),s.gen,s.obj⟩ w)
 refine wpIn_mono hy2 (fun ex a' w' hp=>?_)
 obtain⟨s',β',a0,ds',rfl,h1,h2,rfl,h4⟩:=hp
 rcases h1 with⟨rfl,h1⟩|⟨_,_,h⟩
 case inr=>exact h.elim
 have hk:dO b₀ β s.gen s.obj w β' s'.gen s'.obj w':=h4.keep
 have ht:Tr b₀ β s w β' ⟨s.f,s'.gen,s'.obj⟩ w':=⟨h4.size,h4.old,hk,h4.os⟩
 have hrA:Rel b₀ N ⟨s.f,s'.gen,s'.obj⟩ β' a w':=⟨hr.defers,hr.size,fun i=>ab.keep hk _ (hr.f i),h2.obj,h2.inj,z6 hr.base h4.size⟩
 obtain⟨v,hv1,hv2⟩:=hR _ _ _ _ h1 hrA ht
 refine⟨rfl,.panicking [{ v:=.iface t u,recovered:=true }],rfl,.tuple #[],by simp[results,hres],?_⟩
 simp only[settle,List.dropWhile_nil,LeavesIn]
 exact⟨v,hv1,hv2⟩
end
end
end
section
open Go.ChangeShapes Go.WideShapes Go.ChangeAt Go.RowKit
section
variable {H:Type}{enc:TypeId×Value→H}
theorem jD {C:Checked}{os:Os}{f:FuncId}{fn:Func}{s:ChangeSpec}{conds:List PathCond}{laid:List (String×DataW Unit)} (own:ownKnob C.prog.godebug=none) (started:os.Started) (noInit:C.prog.inits.idxOf? f=none) (hfn:C.prog.funcs[f]? = some fn)
  (witness:∃(w:World) (tape:Tape) (i:Input),w.os=os∧(w.forCall tape i).Shaped C.prog∧i.vars=[]∧Input.okWide C.prog (w.forCall tape i) .any w.heap.size f i∧
    ((s.pre enc C.prog fn conds false (w.forCall tape i).memory i.args∧laidMetH C.prog laid (w.forCall tape i).memory)∧sizedMet enc C.prog fn (OpenSpec.ofChange s) false (w.forCall tape i).memory i.args)∧Assume.holds {} C.prog (lone (Frame.enter C.prog f i.args .normal) [] (w.forCall tape i)))
  (hvars:s.vars=[]) (hl:laidOutB C.prog=true) (hts:fn.params.toList.all (fun t=>C.prog.readableRec t&&decide (t<C.prog.types.size))=true) {tb:TypeId} (hres:fn.resultTypes = #[tb]) (htb:C.prog.underlying tb=some .bool)
  (hspec:∀ds:List (DataW H),ds.length=fn.params.toList.length→s.fn H ds = { results:=[.lit (.bool true)],args:=ds })
  (hcall:∀(W:World) (base:Nat) (args:Array Value) (ds:List (DataW H)) (ps:List MemPlace),laidMetH C.prog laid W→(∀(j:Nat) t v,fn.params[j]? = some t→args[j]? = some v→Value.okWide C.prog W .any base t v)→DataW.TrodAll enc C.prog W 0 (fun _=>true) true fn.params.toList args.toList ds ps→(DataW.weightsEach C.prog fn.params.toList ds).all (·≤reachBytes)=true→rO C.prog f args W) :
  ReturnsInHanded {} C os f .any (fun w args=>(s.pre enc C.prog fn conds false w args∧laidMetH C.prog laid w)∧sizedMet enc C.prog fn (OpenSpec.ofChange s) false w args) (s.post enc C.prog fn false true false false):=by
 refine returnsInHanded_of_change_and (X:=fun w _=>laidMetH C.prog laid w) (fun _ _ _ hh h=>h.of_heap hh) own started noInit hfn witness ?_
 intro W base args ds gs before hval hW hcnd hsz hX _
 have hW':=hW
 obtain⟨p,q,hA,hV,rfl,hfz,hnd⟩:=hW
 rw[hvars] at hV
 obtain⟨rfl,rfl⟩:=trodVars_none hV
 have hvt:s.plain.varTypes C.prog=[]:=by simp[ChangeSpec.plain,DataSpec.varTypes,hvars]
 rw[hvt,y1,y1] at hsz
 refine(hcall W base args ds p hX hval hA hsz).mono fun e W' ⟨he,hs,hb,ho⟩=>⟨_,he,?_⟩
 have hlt:∀x∈p,x.block<W.heap.size:=fun x hx=>hW'.lt x OJ
 have hsp:s.fn H (ds++[]) = { results:=[.lit (.bool true)],args:=ds }:=by rw[y1];exact hspec ds (nc _ _ _ _ hA)
 refine⟨ds,[],p++[],[],p,[],hW',?_,?_,?_,Bg hb ho _,fun h=>by cases h⟩
 ·rw[hsp,hres]
  exact trodAll_mk1 ⟨1,by simp[DataW.trod,htb,Value.cells]⟩
 ·rw[hsp]
  exact kw hl hb _ _ _ _ hts hlt hA
 ·rw[hsp,hvars]
  exact rfl
theorem pQ {P:Program}{w:World}{gb:Nat}{o:bU} (hG:lr gb o w) {f:FuncId}{args:List AV} (h:bu P gb o f args (· = bv true)) {vs:List Value} (hv:RVs (fun b=>b<w.heap.size) w args vs):rO P f vs.toArray w:=by
 refine(h.2 _ w vs hG (fun _ h=>h) hv).mono fun e w' ⟨v,r,h1,h2,h3,h4,h5,h6⟩=>⟨?_,h3,h4,h5⟩
 subst h2
 simp only[RV] at h6
 obtain⟨x,hx,hr⟩:=h6
 cases hx
 cases hr
 exact h1
end
end
section
section
def iO (S:Sp) (T:Nat→TI) (ops:Array Oper) (ids:List Nat) (l:List Ent) (s:St) {K:St→Prop} (_:Box K):Prop:=cg S T ops ids True l s (bx fun s'=>True→K s')
variable {ops:Array Oper}{Q:Exit→St→Prop}
section
variable {P:Program}{T:Nat→TI}{b₀:Bs}{w:World}{rd:Option Nat}{Φ:St→Loc→List Deferred→World→Prop}{Ψ:dL}
theorem qj {hT:aI P T} (hΦ:aX b₀ Φ) {B N:Nat}{ops:Array Oper}{ds:List Deferred}{Q:Exit→Act→World→Prop} (hnd:ops.toList.all aF=true) (hds:de N ops.toList=true) (I:(Nat→Bool)→St→Prop)
  (hstep:∀(L:Nat→Bool) (s:St) (i:Nat) (o:Oper),I L s→ops[i]? = some o→L i=false→(∀e∈o.after.toList,Region.binds .any e=true→L e.on=true)→
    (∀j o',L j=true→ops[j]? = some o'→∀e∈o'.after.toList,Region.binds .any e=true→L e.on=true)→jZ ops o s∧opA (spF P rd b₀ Φ B Ψ) T o s (bx fun s'=>I (upd L i true) s')) :
  ∀(fuel:Nat) (listed:Array Bool) {s:St}{β:Loc}{a:Act}{w:World},listed.size=ops.size→listed.toList.count false≤fuel→Rel b₀ N s β a w→Φ s β ds w→I (fun i=>listed.getD i false) s→
   (∀j o',listed.getD j false=true→ops[j]? = some o'→∀e∈o'.after.toList,Region.binds .any e=true→listed.getD e.on false=true)→
   (∀L s' β' a' w',I L s'→Rel b₀ N s' β' a' w'→Φ s' β' ds w'→(∃listed',L=(fun i=>listed'.getD i false)∧listed'.size=ops.size∧Region.ready .any ops listed'=[])→Q .normal { a' with defers:=ds } w')→
   (∀ch s' β' a' w',Ψ ch s'→Rel b₀ N s' β' a' w'→Φ s' β' ds w'→Q (.panic ch) { a' with defers:=ds } w')→
   wpAnyIn (fen rd) 0 P .any ops Q fuel listed { a with defers:=ds } w
 |0,listed,s,β,a,w,hsz,hc,hr,hφ,hI,hid,hQ,hX=>by
   exact Mg
 |fuel+1,listed,s,β,a,w,hsz,hc,hr,hφ,hI,hid,hQ,hX=>by
   refine⟨fun hrd=>hQ _ s β a w hI hr hφ ⟨listed,rfl,hsz,hrd⟩,fun i hi=>?_⟩
   unfold Region.ready at hi
   simp only[LV,A2,l5,C4] at hi
   obtain⟨hi1,hi2,hi3⟩:=hi
   have ho:ops[i]? = some ops[i]:=o9 hi1
   rw[ho] at hi3
   simp only[r0,s5,J2,B1,C4] at hi3
   have hli:listed[i]? = some false:=by
    exact NG
   have hL:listed.getD i false=false:=by rw[j7,hli];rfl
   have hedge:∀e∈ops[i].after.toList,Region.binds .any e=true→listed.getD e.on false=true:=fun e he hb=>by
    exact MZ
   obtain⟨hgd,hst⟩:=hstep _ s i ops[i] hI ho hL hedge hid
   have hgi:Region.wanted ops[i] (yielded ops a.tmps)=true:=by
    unfold jZ at hgd
    cases hg:(ops[i]).guard with
    |none=>simp[Region.wanted,hg]
    |some p=>
      obtain⟨j,want⟩:=p
      rw[hg] at hgd
      obtain⟨d,hj,hb⟩:=hgd
      have hy:=hr.yielded hj hb
      simp[Region.wanted,hg,hy]
   have hdi:∀d,(ops[i]).dst=some d→d<N:=fun d hd=>by
    exact Nb
   have hni:aF ops[i]=true:=l7.1 hnd ops[i] (B5 hi1)
   unfold wpOpIn
   rw[ho]
   simp only
   rw[if_pos hgi]
   have hset:(fun j=>(listed.setIfInBounds i true).getD j false)=upd (fun j=>listed.getD j false) i true:=by
    funext j
    exact MA
   refine iN hT hΦ hr hφ hni hdi hst (fun s' β' a' w' hI' hr' hφ'=>?_) hX
   refine qj (hT:=hT) hΦ hnd hds I hstep fuel (listed.setIfInBounds i true) (by simpa using hsz) O6 hr' hφ' (by rw[hset];exact hI') (fun j o' hj hoj e he hb=>?_) hQ hX
   exact Mb
theorem mo (hT:aI P T) (hm:P.follows .mixedOrders=true) (hΦ:aX b₀ Φ) {B id:Nat}{s:St}{q:Box Q} (hnd:ops.toList.all aF=true) (hbk:ou ops=true) (I:(Nat→Bool)→St→Prop) (h0:I (fun _=>false) s)
  (hstep:∀(L:Nat→Bool) (s:St) (i:Nat) (o:Oper),I L s→ops[i]? = some o→L i=false→(∀e∈o.after.toList,Region.binds .any e=true→L e.on=true)→
    (∀j o',L j=true→ops[j]? = some o'→∀e∈o'.after.toList,Region.binds .any e=true→L e.on=true)→jZ ops o s∧opA (spF P rd b₀ Φ B Ψ) T o s (bx fun s'=>I (upd L i true) s'))
  (hend:∀L s',I L s'→(∀i,i<ops.size→L i=true)→Q .normal s'):gY (spF P rd b₀ Φ B Ψ) T id ops s q:=by
 refine .inr ⟨fun e s'=>e=.normal∧Q .normal s',fun N β a ds w hc hr hφ=>?_,fun e s' ⟨h1,h2⟩=>h1▸h2⟩
 have hr1:Rel b₀ N s β a { w with drawn:=w.drawn+1 }:=hr.of_heap rfl
 have hφ1:Φ s β ds { w with drawn:=w.drawn+1 }:=hΦ _ _ _ _ _ _ _ hφ (Tr.same rfl rfl rfl)
 refine wpIn_region_any hm (qj (hT:=hT) hΦ hnd hc I hstep ops.size (Array.replicate ops.size false) a7 a7 hr1 hφ1 ?_ (fun j o' hj=>?_) (fun L s' β' a' w' h2 h4 h5 h6=>⟨s',β',a',ds,rfl,.inl ⟨rfl,hend L s' h2 OK⟩,h4,h5⟩) (fun ch s' β' a' w' h1 h2 h3=>⟨s',β',a',ds,rfl,.inr ⟨ch,rfl,h1⟩,h2,h3⟩))
 ·exact Mx
 ·rw[j7,w7] at hj
  split at hj <;> simp at hj
theorem cT (hT:aI P T) (hm:P.follows .mixedOrders=true) (hΦ:aX b₀ Φ) {B id:Nat}{s:St}{q:Box Q} (ids:List Nat) (tb:List (List Nat×List Nat×List Nat×Bool)) (nid:Nat) (hnd0:ops.toList.all aF=true) (hok:oz ops tb nid=true) (hnid:ids.length=nid) (hnd:ids.Nodup)
  (h:iO (spF P rd b₀ Φ B Ψ) T ops ids (ff ops.toList tb) s (bx fun s'=>Q .normal s')):gY (spF P rd b₀ Φ B Ψ) T id ops s q:=by
 obtain⟨h1,I,h2,h3,h4⟩:=oB (z:=True) (Q:=Q) ids tb nid hok hnid hnd h
 exact mo hT hm hΦ hnd0 h1 I h2 h3 fun L s' a b=>h4 L s' a b (.inr trivial)
end
section steps
variable {S:Sp}{T:Nat→TI}{ops:Array Oper}{ids:List Nat}{f:Nat→AV}{g:Nat→Nat}{ob:Nat→Option (List C)}{K:St→Prop}{k:Box K}{op:Op}{ty:TypeId}{ps:String}{af:Array Edge}{gd:Option (Nat×Bool)}{rd hd:List Nat}{r:List Ent}{d:Nat}
theorem aN {v:AV} (hg:GdE ops ⟨⟨some d,op,ty,ps,af,gd⟩,rd,hd,[],false⟩ ⟨f,g,ob⟩) (h1:∀(fa:Nat→AV) (ga:Nat→Nat) (oa:Nat→Option (List C)) (K':St→Prop),K' ⟨upd (maskf rd f fa) d v,maskm ids hd g ga,maskm ids hd ob oa⟩→opA S T ⟨some d,op,ty,ps,af,gd⟩ ⟨maskf rd f fa,maskm ids hd g ga,maskm ids hd ob oa⟩ (bx K'))
  (h2:iO S T ops ids r ⟨upd f d v,g,ob⟩ k):iO S T ops ids (⟨⟨some d,op,ty,ps,af,gd⟩,rd,hd,[],false⟩::r) ⟨f,g,ob⟩ k:=by
 unfold iO at h2 ⊢
 unfold cg
 exact⟨v,[],⟨rfl,fun fa ga oa K' hK=>h1 fa ga oa K' (hK fun _=>trivial),hg⟩,h2⟩
theorem di {v:AV}{a x:Nat}{y:Option (List C)} (hg:GdE ops ⟨⟨some d,op,ty,ps,af,gd⟩,rd,hd,[a],false⟩ ⟨f,g,ob⟩) (h1:∀(fa:Nat→AV) (ga:Nat→Nat) (oa:Nat→Option (List C)) (K':St→Prop),K' ⟨upd (maskf rd f fa) d v,upd (maskm ids hd g ga) (ids.getD a 0) x,upd (maskm ids hd ob oa) (ids.getD a 0) y⟩→opA S T ⟨some d,op,ty,ps,af,gd⟩ ⟨maskf rd f fa,maskm ids hd g ga,maskm ids hd ob oa⟩ (bx K'))
  (h2:iO S T ops ids r ⟨upd f d v,upd g (ids.getD a 0) x,upd ob (ids.getD a 0) y⟩ k):iO S T ops ids (⟨⟨some d,op,ty,ps,af,gd⟩,rd,hd,[a],false⟩::r) ⟨f,g,ob⟩ k:=by
 unfold iO at h2 ⊢
 unfold cg
 exact⟨v,[(x,y)],⟨rfl,fun fa ga oa K' hK=>h1 fa ga oa K' (hK fun _=>trivial),hg⟩,h2⟩
end steps
end
section
section
variable {P:Program}{T:Nat→TI}{b₀:Bs}{rd:Option Nat}{Φ:St→Loc→List Deferred→World→Prop}{B:Nat}{Ψ:dL}{Ψ0:Pan}
end
section
variable {S:Sp}{T:Nat→TI}{ops:Array Oper}{ids:List Nat}{f:Nat→AV}{g:Nat→Nat}{ob:Nat→Option (List C)}{rd hd:List Nat}{K:St→Prop}{k:Box K}
theorem cU {o:Oper}{ef:List Nat} (hg:GdE ops ⟨o,rd,hd,ef,true⟩ ⟨f,g,ob⟩) (h:∀K':St→Prop,(∀s'',K s''→K' s'')→opA S T o ⟨f,g,ob⟩ (bx K')):iO S T ops ids [⟨o,rd,hd,ef,true⟩] ⟨f,g,ob⟩ k:=by
 unfold iO cg;exact⟨⟨fun _=>trivial,fun K' hK=>h K' fun s'' q=>hK s'' fun _=>q⟩,hg⟩
end
end
section
def Kz (B:Nat):PC→Prop
 |.d _=>True
 |.ptr id _ _=>id<B
def ED (B:Nat):C→Prop
 |.d _=>True
 |.osl id _ _ _ _=>id<B
 |.ptr id _ _=>id<B
 |.mp id _ _=>id<B
 |.lsl _=>True
 |.raw _=>True
 |.clo _ caps=>∀p∈caps,Kz B p
def KA (B:Nat) (g:Nat→Nat):PC→Prop
 |.d _=>True
 |.ptr id g1 _=>id<B∨g1≤g id
def okC (B:Nat) (g:Nat→Nat):C→Prop
 |.d _=>True
 |.osl id g1 _ _ _=>id<B∨g1≤g id
 |.ptr id g1 _=>id<B∨g1≤g id
 |.mp id g1 _=>id<B∨g1≤g id
 |.lsl _=>True
 |.raw _=>True
 |.clo _ caps=>∀p∈caps,KA B g p
variable {g:Nat→Nat}{B:Nat}{w':World}{c:C}{β' β2:Loc}{g1 g2:Nat→Nat}{ob1 ob2:Obs}{ob:Obs}{cells:List C}{xs:List AV}{R:AV→(Nat→Nat)→Obs→Prop}
theorem ED.ok (h:ED B c):okC B g c:=by
 cases c with
 |osl=>exact .inl h
 |ptr=>exact .inl h
 |mp=>exact .inl h
 |clo f caps=>
   intro p hp
   have:=h p hp
   cases p with
   |d=>trivial
   |ptr=>exact .inl this
 |d=>trivial
 |lsl=>trivial
 |raw=>trivial
def gB (S:List Nat) (g g':Nat→Nat):Nat→Nat:=fun i=>if i∈S then g' i else g i
def fG (S:List Nat) (ob ob':Obs):Obs:=fun i=>if i∈S then ob' i else ob i
structure xV (B:Nat) (S:List Nat) (g:Nat→Nat) (ob:Obs) (g':Nat→Nat) (ob':Obs):Prop where
 same:∀i,i<B→i∉S→g' i=g i∧ob' i=ob i
 low:∀i∈S,∀cells,ob' i=some cells→∀c∈cells,ED B c
section
variable {P:Program}{T:Nat→TI}{b₀:Bs}{β:Loc}{w:World}
theorem aj.okC {B:Nat}{g:Nat→Nat}{ob:Obs}{c:C}{v:Value} (h:aj b₀ β g ob w c v):okC B g c:=by
 cases c with
 |d=>trivial
 |osl=>exact .inr h.2.1
 |ptr=>exact .inr h.2.1
 |mp=>exact .inr h.2.1
 |lsl=>trivial
 |raw=>trivial
 |clo f caps=>
   obtain⟨vs,_,h2,h3⟩:=h
   intro p hp
   obtain⟨i,hi⟩:=B4 hp
   obtain⟨u,_,hr⟩:=h3 i p hi
   cases p with
   |d=>trivial
   |ptr=>exact .inr hr.2.1
theorem cI.okC {B:Nat}{g:Nat→Nat}{R:C→Value→Prop} (hR:∀c v,R c v→Go.Am.okC B g c) {kd:TypeDesc}{cs:List C}{es:List MapEntry} (h:cI R kd cs es):∀c∈cs,Go.Am.okC B g c:=by
 induction h with
 |nil=>intro c hc;cases hc
 |cons hk h1 h2 _ ih=>
   intro c hc
   simp only[s7] at hc
   rcases hc with rfl|rfl|hc
   ·trivial
   ·exact hR _ _ h2
   ·exact ih c hc
theorem gP.okC {B:Nat}{g:Nat→Nat}{ob:Obs}{kd:Nat}{c:C}{v:Value} (h:gP b₀ β g ob w kd c v):Go.Am.okC B g c:=by
 unfold gP at h
 split at h
 ·exact aj.okC h
 ·obtain⟨ds,vs,rfl,_⟩:=h
  trivial
theorem cw.okC {B:Nat}{g:Nat→Nat}{ob:Obs}{e:Nat}{cells:List C}{x:Option Addr} (h:cw b₀ β g ob w e cells x):∀c∈cells,Go.Am.okC B g c:=by
 intro c hc
 cases x with
 |none=>have h:cells=[]:=h;subst h;cases hc
 |some a=>
   cases hs:a.spot with
   |none=>
     obtain⟨_,arr,el,lo,hi,_,_,_,h6⟩:=h.cells hs
     obtain⟨i,hi⟩:=B4 hc
     obtain⟨v,_,hr⟩:=h6 i c hi
     exact hr.okC
   |some kd=>
     obtain⟨_,⟨es,clock,_,h4⟩|⟨_,o,h3,_⟩⟩:=h.map hs
     ·exact cI.okC (fun _ _=>gP.okC) h4 c hc
     ·subst h3
      simp only[C8] at hc
      subst hc
      trivial
structure Conv (b₀:Bs) (B:Nat) (g:Nat→Nat) (β':Loc) (g1:Nat→Nat) (ob1:Obs) (w':World) (β2:Loc) (g2:Nat→Nat) (ob2:Obs):Prop where
 imm:∀b,Imm b₀ β' ob1 w' b→Imm b₀ β2 ob2 w' b
 live:∀id,id<B→g2 id=g1 id∧((ob2 id).isSome=true→(ob1 id).isSome=true∧β2 id=β' id)
 dead:∀id,¬id<B→ob2 id=none∧g2 id=g id
theorem Conv.rep (hc:Conv b₀ B g β' g1 ob1 w' β2 g2 ob2){v:Value} (hok:okC B g c) (h:aj b₀ β' g1 ob1 w' c v):aj b₀ β2 g2 ob2 w' c v:=by
 have hle:∀id x,id<B∨x≤g id→x≤g1 id→x≤g2 id:=fun id x hx h1=>by
  by_cases hb:id<B
  ·rw[(hc.live id hb).1];exact h1
  ·rw[(hc.dead id hb).2];exact hx.resolve_left hb
 have hlv:∀id x,g2 id=x→(ob2 id).isSome=true→g1 id=x∧(ob1 id).isSome=true∧β2 id=β' id:=fun id x hx ho=>by
  by_cases hb:id<B
  ·exact⟨by rw[←(hc.live id hb).1];exact hx,(hc.live id hb).2 ho⟩
  ·rw[(hc.dead id hb).1] at ho;cases ho
 cases c with
 |d x=>exact bm.mono h fun b hb=>⟨hc.imm b hb,rfl⟩
 | osl id x sz off len=>exact⟨h.1,hle id x hok h.2.1,fun hg ho=>by
    obtain⟨l1,l2,l3⟩:=hlv id x hg ho
    rw[l3];exact h.2.2 l1 l2⟩
 | ptr id x off=>exact⟨h.1,hle id x hok h.2.1,fun hg ho=>by
    obtain⟨l1,l2,l3⟩:=hlv id x hg ho
    rw[l3];exact h.2.2 l1 l2⟩
 | mp id x kd=>exact⟨h.1,hle id x hok h.2.1,fun hg ho=>by
    obtain⟨l1,l2,l3⟩:=hlv id x hg ho
    rw[l3];exact h.2.2 l1 l2⟩
 |lsl n=>exact h
 |raw o=>exact h.elim
 |clo f caps=>
   obtain⟨vs,h1,h2,h3⟩:=h
   refine⟨vs,h1,h2,fun i pc hp=>?_⟩
   obtain⟨u,hu,hr⟩:=h3 i pc hp
   refine⟨u,hu,?_⟩
   have hpok:=hok pc (l4 hp)
   cases pc with
   |d x=>exact bm.mono hr fun b hb=>⟨hc.imm b hb,rfl⟩
   | ptr id x off=>exact⟨hr.1,hle id x hpok hr.2.1,fun hg ho=>by
      obtain⟨l1,l2,l3⟩:=hlv id x hg ho
      rw[l3];exact hr.2.2 l1 l2⟩
theorem Conv.repM (hc:Conv b₀ B g β' g1 ob1 w' β2 g2 ob2) {kd:Nat}{v:Value} (hok:okC B g c) (h:gP b₀ β' g1 ob1 w' kd c v):gP b₀ β2 g2 ob2 w' kd c v:=by
 unfold gP at h ⊢
 split
 ·rename_i hk
  rw[if_pos hk] at h
  exact hc.rep hok h
 ·rename_i hk
  rw[if_neg hk] at h
  obtain⟨ds,vs,q1,q2,q3,q4⟩:=h
  exact⟨ds,vs,q1,q2,q3,fun i x hx=>let ⟨u,hu,hr⟩:=q4 i x hx;⟨u,hu,bm.mono hr fun b hb=>⟨hc.imm b hb,rfl⟩⟩⟩
theorem cI.okMono{R R':C→Value→Prop}{kd:TypeDesc}{cs:List C}{es:List MapEntry} (h:cI R kd cs es) (hok:∀c∈cs,Go.Am.okC B g c) (hr:∀c v,Go.Am.okC B g c→R c v→R' c v):cI R' kd cs es:=by
 induction h with
 |nil=>exact .nil
 |cons hk h1 h2 _ ih=>exact .cons hk h1 (hr _ _ (hok _ a7) h2) (ih fun c hc=>hok c (by simp[hc]))
theorem Conv.obj (hc:Conv b₀ B g β' g1 ob1 w' β2 g2 ob2) {e:Nat}{x:Option Addr} (hok:∀c∈cells,okC B g c) (h:cw b₀ β' g1 ob1 w' e cells x):cw b₀ β2 g2 ob2 w' e cells x:=by
 cases x with
 |none=>exact h
 |some a=>
   cases hs:a.spot with
   |none=>
     obtain⟨h1,arr,el,lo,hi,h2,h3,h4,h6⟩:=h.cells hs
     refine .ofCells hs ⟨h1,arr,el,lo,hi,h2,h3,h4,fun j c hj=>?_⟩
     obtain⟨v,hv,hr⟩:=h6 j c hj
     exact⟨v,hv,hc.rep (hok c (l4 hj)) hr⟩
   |some kd=>
     obtain⟨h1,⟨es,clock,h2,h4⟩|hraw⟩:=h.map hs
     ·exact .ofMap hs ⟨h1,.inl ⟨es,clock,h2,h4.okMono hok fun _ _ q1 q2=>hc.repM q1 q2⟩⟩
     ·exact .ofMap hs ⟨h1,.inr hraw⟩
theorem rY {N M:Nat}{S:List Nat}{fa:Nat→AV}{a0 a':Act}{s':St}{β':Loc} (hr0:Rel b₀ M ⟨fa,g,ob⟩ β a0 w) (hr:Rel b₀ N s' β' a' w')
  {s0:St} (h0g:s0.gen=g) (h0o:s0.obj=ob) (ht:Tr b₀ β s0 w β' s' w') (hS:∀i∈S,i<B) (hB:∀i,B≤i→ob i=none) (he:xV B S g ob s'.gen s'.obj) :
  ∃β2:Loc,Conv b₀ B g β' s'.gen s'.obj w' β2 (gB S g s'.gen) (fG S ob s'.obj)∧
   (∀id cells,fG S ob s'.obj id=some cells→cw b₀ β2 (gB S g s'.gen) (fG S ob s'.obj) w' (gB S g s'.gen id) cells (β2 id))∧
   (∀id id' a a',(fG S ob s'.obj id).isSome=true→(fG S ob s'.obj id').isSome=true→β2 id=some a→β2 id'=some a'→a.block=a'.block→id=id')∧
   (∀id,(fG S ob s'.obj id).isSome=true→(s'.obj id).isSome=true∧¬B≤id∧β2 id=β' id)∧
   Tr b₀ β ⟨fa,g,ob⟩ w β2 ⟨fa,gB S g s'.gen,fG S ob s'.obj⟩ w':=by
 subst h0g h0o
 have hlow:∀id,(s0.obj id).isSome=true→id<B:=fun id ho=>D0 fun hc=>by
  rw[hB id a6] at ho;cases ho
 have hmem:∀id,id∈S→gB S s0.gen s'.gen id=s'.gen id∧fG S s0.obj s'.obj id=s'.obj id:=fun id h=>⟨if_pos h,if_pos h⟩
 have hnot:∀id,id∉S→gB S s0.gen s'.gen id=s0.gen id∧fG S s0.obj s'.obj id=s0.obj id:=fun id h=>⟨if_neg h,if_neg h⟩
 have hkl:∀id,id∉S→(s0.obj id).isSome=true→s'.gen id=s0.gen id∧(s'.obj id).isSome=true∧β' id=β id:=fun id h ho=>by
  obtain⟨q1,q2⟩:=he.same id (hlow id ho) h
  have q3:(s'.obj id).isSome=true:=by rw[q2];exact ho
  exact⟨q1,q3,(ht.keep.live id q1 q3).2.1⟩
 let β2:Loc:=fun id=>if id∈S then β' id else β id
 have hβm:∀id,id∈S→β2 id=β' id:=fun id h=>if_pos h
 have hβn:∀id,id∉S→β2 id=β id:=fun id h=>if_neg h
 have hall:∀id,(fG S s0.obj s'.obj id).isSome=true→(s'.obj id).isSome=true∧¬B≤id∧β2 id=β' id:=fun id ho=>by
  by_cases h:id∈S
  ·rw[(hmem id h).2] at ho
   exact⟨ho,by have:=hS id h;omega,hβm id h⟩
  ·rw[(hnot id h).2] at ho
   obtain⟨_,q2,q3⟩:=hkl id h ho
   exact⟨q2,by have:=hlow id ho;omega,(hβn id h).trans q3.symm⟩
 have himm:∀b,Imm b₀ β' s'.obj w' b→Imm b₀ β2 (fG S s0.obj s'.obj) w' b:=fun b hb=>⟨hb.1,hb.2.1,fun id a ho hβ=>by
  obtain⟨q1,_,q3⟩:=hall id ho
  exact hb.2.2 id a q1 (by rw[←q3];exact hβ)⟩
 have hconv:Conv b₀ B s0.gen β' s'.gen s'.obj w' β2 (gB S s0.gen s'.gen) (fG S s0.obj s'.obj):=by
  refine⟨himm,fun id hb=>⟨?_,fun ho=>⟨(hall id ho).1,(hall id ho).2.2⟩⟩,fun id hb=>?_⟩
  ·by_cases h:id∈S
   ·exact(hmem id h).1
   ·rw[(hnot id h).1,(he.same id hb h).1]
  ·have h:id∉S:=fun h=>hb (hS id h)
   exact⟨by rw[(hnot id h).2];exact hB id a6,(hnot id h).1⟩
 refine⟨β2,hconv,fun id cells hc=>?_,fun i1 i2 a1 a2 h1 h2 e1 e2 hb=>?_,hall,ht.size,ht.old,⟨fun b hb=>⟨himm b (ht.imm b hb).1,(ht.imm b hb).2⟩,fun id=>?_,fun id hg ho=>?_⟩,ht.os⟩
 ·by_cases h:id∈S
  ·rw[(hmem id h).1,hβm id h]
   rw[(hmem id h).2] at hc
   exact hconv.obj (fun c hcc=>(he.low id h cells hc c hcc).ok) (hr.obj id cells hc)
  ·rw[(hnot id h).1,hβn id h]
   rw[(hnot id h).2] at hc
   have ho:(s0.obj id).isSome=true:=by rw[hc];rfl
   obtain⟨q1,q2,q3⟩:=hkl id h ho
   have h1:=hr.obj id cells (by rw[(he.same id (hlow id ho) h).2];exact hc)
   rw[q1,q3] at h1
   exact hconv.obj (fun c hcc=>(hr0.obj id cells hc).okC c hcc) h1
 ·obtain⟨p1,_,p3⟩:=hall i1 h1
  obtain⟨p4,_,p6⟩:=hall i2 h2
  exact hr.inj i1 i2 a1 a2 p1 p4 (by rw[←p3];exact e1) (by rw[←p6];exact e2) hb
 ·show s0.gen id≤gB S s0.gen s'.gen id
  by_cases h:id∈S
  ·rw[(hmem id h).1];exact ht.gen id
  ·rw[(hnot id h).1];exact b9 _
 ·change gB S s0.gen s'.gen id=s0.gen id at hg
  change (fG S s0.obj s'.obj id).isSome=true at ho
  by_cases h:id∈S
  ·rw[(hmem id h).1] at hg
   rw[(hmem id h).2] at ho
   obtain⟨q1,q2,q3⟩:=ht.keep.live id hg ho
   exact⟨q1,(hβm id h).trans q2,q3⟩
  ·rw[(hnot id h).2] at ho
   obtain⟨q1,q2,q3⟩:=hkl id h ho
   exact⟨ho,hβn id h,(ht.keep.live id q1 q2).2.2⟩
theorem fg.repL {B N:Nat}{s:St}{a:Act}{ob':Obs} (hob':∀id,(ob' id).isSome=true→(s.obj id).isSome=true∧¬B≤id) (hr:Rel b₀ N s β a w) {g':Nat→Nat}{β':Loc} (hβ:∀id,(ob' id).isSome=true→β' id=β id) :
  ∀{ts rs:List AV}{vs:List Value},fg B s ts rs→au b₀ β s.gen s.obj w ts vs→au b₀ β' g' ob' w rs vs
 |[],rs,vs,h,hv=>by simp only[fg] at h;subst h;simp only[au] at hv ⊢;exact hv
 |t::ts,rs,vs,h,hv=>by
   simp only[fg] at h
   obtain⟨r,rs',rfl,h1,h2⟩:=h
   simp only[au] at hv ⊢
   obtain⟨u,us,e,h3,h4⟩:=hv
   exact⟨u,us,e,h1.rep hob' hr h3 hβ,fg.repL hob' hr hβ h2 h4⟩
def qY (B:Nat) (S:List Nat) (g:Nat→Nat) (ob:Obs) (R:AV→(Nat→Nat)→Obs→Prop) (s:St) (avs:List AV):Prop:=xV B S g ob s.gen s.obj∧∃rs',fg B s avs rs'∧R (pack rs') (gB S g s.gen) (fG S ob s.obj)
def EE (T:Nat→TI) (rs:List ResultVar) (B:Nat) (S:List Nat) (g:Nat→Nat) (ob:Obs) (R:AV→(Nat→Nat)→Obs→Prop):Exit→St→Prop
 |.normal,s|.ret,s=>∃s',al s s'∧gu T s' rs (bx fun avs=>qY B S g ob R s' avs)
 |_,_=>False
def Ip (B:Nat) (S:List Nat) (g:Nat→Nat) (ob:Obs) (X:Pan):dL:=fun ch s=>xV B S g ob s.gen s.obj∧X ch (gB S g s.gen) (fG S ob s.obj)
theorem oI (B:Nat) (S:List Nat) (hT:aI P T) (hm:P.follows .mixedOrders=true) {f:FuncId}{fn:Func}{c:Code} (hf:P.funcs[f]? = some fn) (hb:fn.body=some c) (hn:(fn.name == "runtime.NumGoroutine")=false)
  (rs:List ResultVar) (hres:fn.results=rs.toArray) (hcm:eD c=true) (hok:codeOk fn.ntmps c=true) (hargs:xs.length≤fn.ntmps){X:Pan}
  (hS:∀i∈S,i<B) (hB:∀i,B≤i→ob i=none)
  (h:∀b₀ β0 s0 w0,wpC (spF P none b₀ (ue b₀ β0 s0 w0) B (Ip B S g ob X)) T c (bx (EE T rs B S g ob R)) ⟨cD xs,g,ob⟩):ck P f xs g ob R X:=by
 refine⟨⟨fn,hf,by rw[hb];rfl,hn⟩,fun b₀ N β a fa w vs hr0 hv=>?_⟩
 refine fX (n:=0) (callsIn_of_wp hf hb trivial ?_)
 have hr:=ll (N:=fn.ntmps) hargs hr0 hv
 refine wpIn_mono (bI (rd:=none) (B:=B) (ds:=[]) hT hm aa c hcm hok hr ⟨rfl,Tr.refl⟩ (h b₀ β ⟨cD xs,g,ob⟩ w)) (fun e a' w' hp=>?_)
 obtain⟨s',β',a0,ds',rfl,hQ,hr',rfl,ht⟩:=hp
 rcases hQ with hQ|⟨ch,rfl,hE,hX⟩
 ·have hres':EE T rs B S g ob R .ret s'→∃v,(results fn a0.tmps).run P w'=.ok v w'∧EB b₀ β fa g ob w R X (.returned v) w':=by
   rintro⟨s2,hvs,hR⟩
   obtain⟨β2,hr2,ht2⟩:=hvs b₀ fn.ntmps β' a0 w' hr'
   have hta:=ht.trans ht2
   obtain⟨v,avs,h1,⟨hE,rs',hfz,hR'⟩,h3,vs',rfl,h4⟩:=dm hT hr2 hres hR
   obtain⟨β3,hcv,k1,k2,k3,k4⟩:=rY (a0:=a) (fa:=fa) hr0 hr2 rfl rfl hta hS hB hE
   refine⟨ik vs',h1,.inl ⟨ik vs',_,_,_,β3,rfl,hR',rS (hfz.repL (fun id ho=>⟨(k3 id ho).1,(k3 id ho).2.1⟩) hr2 (fun id ho=>(k3 id ho).2.2) h4),k1,k2,k4⟩⟩
  cases e with
  |normal=>exact⟨rfl,hres' hQ⟩
  |ret=>exact⟨rfl,hres' hQ⟩
  |exit id=>exact hQ.elim
  |goto l=>exact hQ.elim
  |panic ch=>exact hQ.elim
  |outgrown=>exact hQ.elim
 ·obtain⟨β3,hcv,k1,k2,k3,k4⟩:=rY (a0:=a) (fa:=fa) hr0 hr' rfl rfl ht hS hB hE
  exact⟨rfl,.inr ⟨ch,_,_,β3,rfl,hX,k1,k2,k4⟩⟩
theorem ck.toR {f:FuncId} (h:ck P f xs g ob R (fun _ _ _=>False)):dK P f xs g ob R:=
 ⟨h.1,fun b₀ N β a fa w vs h1 h2=>(h.2 b₀ N β a fa w vs h1 h2).mono fun _ _ q=>q.elim id fun⟨_,_,_,_,_,h,_⟩=>h.elim⟩
theorem sc {t:Nat}{g g':Nat→Nat} (h:g' t=g t):gB [t] g g'=g:=by
 funext i
 simp only[gB,C8]
 split
 ·rename_i e;subst e;exact h
 ·rfl
theorem sd {t:Nat}{ob ob':Obs}:fG [t] ob ob'=upd ob t (ob' t):=by
 funext i
 simp only[fG,C8,upd]
 split
 ·rename_i e;subst e;rfl
 ·rfl
theorem xW {g g':Nat→Nat}:gB [] g g'=g:=by funext i;simp[gB]
theorem xX {ob ob':Obs}:fG [] ob ob'=ob:=by funext i;simp[fG]
theorem eq {α:Type}{P:Nat→Prop}{s:St}{id g sz n:Nat} (hp:P id) (hg:s.gen id=g) (l:List α) (enc:α→List D) (ho:s.obj id=some cells) (hc:cells=l.flatMap (fun a=>(enc a).map .d)) (hsz:∀a∈l,(enc a).length=sz) (hn:l.length=n) :
  gL P s (.osl id g sz 0 n) (.sl (l.map enc)):=by
 have hfl:(l.map enc).flatten.map C.d=cells:=by rw[hc,List.flatMap_def,List.map_flatten,LU];rfl
 have hlen:(l.map enc).flatten.length=n*sz:=by
  rw[←hn];clear ho hc hn hfl
  induction l with
  |nil=>simp
  |cons a l ih=>simp only[j8,A6,c9,e8,hsz a a7,ih (fun b hb=>hsz b (by simp[hb])),C0];omega
 refine .osl hp hg ho (by rw[←hfl,b7,hlen];omega) (by simpa using hn) (fun e he=>by obtain⟨a,ha,rfl⟩:=A8.1 he;exact hsz a ha) (fun j=>.d ((l.map enc).flatten.getD j default)) (fun j x hx=>?_) (fun j x hx=>?_)
 ·rw[A3,←hfl,l8,hx]
  simp[List.getD,hx]
 ·simp only[List.getD,hx,s5]
  exact .d x
end
end
section
section
variable {P:Program}{T:Nat→TI}{b₀:Bs}{β:Loc}{w:World}
end
section
variable {P:Program}{T:Nat→TI}{b₀:Bs}{w:World}{rd:Option Nat}{Φ:St→Loc→List Deferred→World→Prop}{Ψ:dL}
def Iq (ops:Array Oper):Bool:=ops.toList.any fal
theorem eE (z:Prop) (hT:aI P T) (hm:P.follows .mixedOrders=true) (hΦ:aX b₀ Φ) {B id:Nat}{ops:Array Oper}{s:St}{Q:Exit→St→Prop}{q:Box Q} (ids:List Nat) (tb:List (List Nat×List Nat×List Nat×Bool)) (nid:Nat) (hnd0:ops.toList.all aF=true) (hok:(oz ops tb nid&&Iq ops)=true) (hnid:ids.length=nid) (hnd:ids.Nodup)
  (h:cg (spF P rd b₀ Φ B Ψ) T ops ids z (ff ops.toList tb) s (bx fun s'=>z→Q .normal s')):gY (spF P rd b₀ Φ B Ψ) T id ops s q:=by
 rw[l5] at hok
 obtain⟨h1,I,h2,h3,h4⟩:=oB (Q:=Q) ids tb nid hok.1 hnid hnd h
 refine mo hT hm hΦ hnd0 h1 I h2 h3 (fun L s' h5 h6=>h4 L s' h5 h6 ?_)
 obtain⟨o,ho,hf⟩:=K0.1 hok.2
 obtain⟨i,hi⟩:=B4 ho
 exact .inl ⟨i,o,by simpa using hi,hf⟩
end
variable {v:AV}{y:Option (List C)}
section steps
variable {S:Sp}{T:Nat→TI}{ops:Array Oper}{ids:List Nat}{z:Prop}{f:Nat→AV}{g:Nat→Nat}{ob:Nat→Option (List C)}{K:St→Prop}{k:Box K}{op:Op}{ty:TypeId}{ps:String}{af:Array Edge}{gd:Option (Nat×Bool)}{rd hd:List Nat}{r:List Ent}{d:Nat}
theorem az (hf:fal ⟨some d,op,ty,ps,af,gd⟩=false) (hg:GdE ops ⟨⟨some d,op,ty,ps,af,gd⟩,rd,hd,[],false⟩ ⟨f,g,ob⟩) (h1:∀(fa:Nat→AV) (ga:Nat→Nat) (oa:Nat→Option (List C)) (K':St→Prop),K' ⟨upd (maskf rd f fa) d v,maskm ids hd g ga,maskm ids hd ob oa⟩→opA S T ⟨some d,op,ty,ps,af,gd⟩ ⟨maskf rd f fa,maskm ids hd g ga,maskm ids hd ob oa⟩ (bx K'))
  (h2:cg S T ops ids z r ⟨upd f d v,g,ob⟩ k):cg S T ops ids z (⟨⟨some d,op,ty,ps,af,gd⟩,rd,hd,[],false⟩::r) ⟨f,g,ob⟩ k:=by
 unfold cg
 exact⟨v,[],⟨rfl,fun fa ga oa K' hK=>h1 fa ga oa K' (hK fun h=>by rw[hf] at h;cases h),hg⟩,h2⟩
theorem dj{a x:Nat} (hf:fal ⟨some d,op,ty,ps,af,gd⟩=false) (hg:GdE ops ⟨⟨some d,op,ty,ps,af,gd⟩,rd,hd,[a],false⟩ ⟨f,g,ob⟩) (h1:∀(fa:Nat→AV) (ga:Nat→Nat) (oa:Nat→Option (List C)) (K':St→Prop),K' ⟨upd (maskf rd f fa) d v,upd (maskm ids hd g ga) (ids.getD a 0) x,upd (maskm ids hd ob oa) (ids.getD a 0) y⟩→opA S T ⟨some d,op,ty,ps,af,gd⟩ ⟨maskf rd f fa,maskm ids hd g ga,maskm ids hd ob oa⟩ (bx K'))
  (h2:cg S T ops ids z r ⟨upd f d v,upd g (ids.getD a 0) x,upd ob (ids.getD a 0) y⟩ k):cg S T ops ids z (⟨⟨some d,op,ty,ps,af,gd⟩,rd,hd,[a],false⟩::r) ⟨f,g,ob⟩ k:=by
 unfold cg
 exact⟨v,[(x,y)],⟨rfl,fun fa ga oa K' hK=>h1 fa ga oa K' (hK fun h=>by rw[hf] at h;cases h),hg⟩,h2⟩
theorem eF{a:Nat} (hg:GdE ops ⟨⟨some d,op,ty,ps,af,gd⟩,rd,hd,[a],false⟩ ⟨f,g,ob⟩) (hv:ids.getD a 0∉hd.map (fun b=>ids.getD b 0)) (h1:∀(fa:Nat→AV) (ga:Nat→Nat) (oa:Nat→Option (List C)) (K':St→Prop),(z→K' ⟨upd (maskf rd f fa) d v,maskm ids hd g ga,upd (maskm ids hd ob oa) (ids.getD a 0) y⟩)→opA S T ⟨some d,op,ty,ps,af,gd⟩ ⟨maskf rd f fa,maskm ids hd g ga,maskm ids hd ob oa⟩ (bx K'))
  (h2:cg S T ops ids z r ⟨upd f d v,g,upd ob (ids.getD a 0) y⟩ k):cg S T ops ids z (⟨⟨some d,op,ty,ps,af,gd⟩,rd,hd,[a],false⟩::r) ⟨f,g,ob⟩ k:=by
 have hself:∀(α:Type) (h:Nat→α) (i:Nat),upd h i (h i)=h:=fun α h i=>by funext j;simp only[upd];split <;> simp_all
 have hmask:∀ga:Nat→Nat,maskm ids hd g ga (ids.getD a 0)=g (ids.getD a 0):=fun ga=>by
  clear h1 h2 hg
  induction hd with
  |nil=>rfl
  |cons b bs ih=>
    simp only[j8,s7,not_or] at hv
    simp only[maskm,upd]
    rw[if_neg hv.1]
    exact ih hv.2
 unfold cg
 refine⟨v,[(g (ids.getD a 0),y)],⟨rfl,fun fa ga oa K' hK=>h1 fa ga oa K' (fun hz=>?_),hg⟩,?_⟩
 ·have e:kq ids ⟨⟨some d,op,ty,ps,af,gd⟩,rd,hd,[a],false⟩ v [(g (ids.getD a 0),y)] ⟨maskf rd f fa,maskm ids hd g ga,maskm ids hd ob oa⟩=⟨upd (maskf rd f fa) d v,maskm ids hd g ga,upd (maskm ids hd ob oa) (ids.getD a 0) y⟩:=by
   simp only[kq,tW,setm,j8,n0]
   rw[←hmask ga,hself]
  rw[←e];exact hK fun _=>hz
 ·have e:kq ids ⟨⟨some d,op,ty,ps,af,gd⟩,rd,hd,[a],false⟩ v [(g (ids.getD a 0),y)] ⟨f,g,ob⟩=⟨upd f d v,g,upd ob (ids.getD a 0) y⟩:=by
   simp only[kq,tW,setm,j8,n0]
   rw[hself]
  rw[e];exact h2
theorem eG {o:Oper}{ef:List Nat} (hf:fal o=false) (hg:GdE ops ⟨o,rd,hd,ef,true⟩ ⟨f,g,ob⟩) (h:∀K':St→Prop,(∀s'',K s''→K' s'')→opA S T o ⟨f,g,ob⟩ (bx K')):cg S T ops ids z [⟨o,rd,hd,ef,true⟩] ⟨f,g,ob⟩ k:=by
 unfold cg
 exact⟨⟨fun h'=>(by rw[hf] at h';cases h'),h⟩,hg⟩
end steps
end
end
section
attribute [local congr] Go.Am.ite_cc
section
section
variable {P:Program}{b₀:Bs}{rd:Option Nat}{B0:Nat}{Ψ:dL}{op:Oper}{s:St}{K:St→Prop}{k:Box K}{f:FuncId}{args:Array Operand}{tys:Array TypeId}{R:AV→Prop}{β0:Loc}{s0:St}{w0:World}
theorem aV (ho:op.op=.call ⟨.value (.func f),args,tys⟩) (hp:ap P f (args.toList.map s.ev) R) (hk:∀r,R r→K (s.put op.dst r)) (hd:(args.toList.map s.ev).all dr=true:=by simp only[go_sem];rfl):br (sp P) op s k:=
 hY ho hp hd hk
theorem er {gb:Nat}{o:bU} (ho:op.op=.call ⟨.value (.func f),args,tys⟩) (hp:bu P gb o f (args.toList.map s.ev) R) (hk:∀r,R r→K (s.put op.dst r)) (hd:(args.toList.map s.ev).all dr=true:=by simp only[go_sem];rfl):br (spF P rd b₀ (xT gb o b₀ β0 s0 w0) B0 Ψ) op s k:=
 oG aB (fun _ _ _ _ h=>h.1.2) ho hp hd hk
theorem cO {gb:Nat}{o:bU} (ho:op.op=.call ⟨.value (.func f),args,tys⟩) (hp:ap P f (args.toList.map s.ev) R) (hk:∀r,R r→K (s.put op.dst r)) (hd:(args.toList.map s.ev).all dr=true:=by simp only[go_sem];rfl):br (spF P rd b₀ (xT gb o b₀ β0 s0 w0) B0 Ψ) op s k:=
 kI aB ho hp hd hk
theorem xY (ho:op.op=.call ⟨.value (.func f),args,tys⟩) (hp:ap P f (args.toList.map s.ev) R) (hk:∀r,R r→K (s.put op.dst r)) (hd:(args.toList.map s.ev).all dr=true:=by simp only[go_sem];rfl):br (spF P rd b₀ (ue b₀ β0 s0 w0) B0 Ψ) op s k:=
 kI aa ho hp hd hk
end
end
end
end Go.Am
namespace Go.Proofs.YtphohejoiocikaaGreatDoor
section
attribute [local congr] Go.Am.ite_cc
open Go Go.Am
section
def ti2:TI:=⟨.int .i64,1,8,[.int .i64 0]⟩
def ti4:TI:=⟨.bool,1,1,[.bool false]⟩
def ti5:TI:=⟨.int .u8,1,1,[.int .u8 0]⟩
def ti7:TI:=⟨.struct #[⟨ "x",2,0,false,"","runtime",0⟩,⟨ "y",3,1,false,"","runtime",8⟩,⟨ "signed",4,2,false,"","runtime",16⟩,⟨ "code",6,3,false,"","runtime",17⟩],4,24,[.int .i64 0,.int .i64 0,.bool false,.int .u8 0]⟩
def ti9:TI:=⟨.string,1,16,[.str []]⟩
def yE:TI:=⟨.int .u64,1,8,[.int .u64 0]⟩
def Fg:TI:=⟨.struct #[⟨ "msg",9,0,false,"","runtime",0⟩,⟨ "addr",12,1,false,"","runtime",16⟩],2,24,[.str [],.int .u64 0]⟩
def IS:TI:=⟨.pointer 340,1,8,[.nilp]⟩
def IT:TI:=⟨.pointer 343,1,8,[.nilp]⟩
def IU:TI:=⟨.pointer 350,1,8,[.nilp]⟩
def Fh:TI:=⟨.struct #[⟨ "typ",17,0,false,"","internal/runtime/maps",0⟩],1,8,[.nilp]⟩
def IV:TI:=⟨.interface #[],1,16,[.nili]⟩
def Fi:TI:=⟨.slice 32,1,24,[.nsl]⟩
def BD:TI:=⟨.struct #[⟨ "Code",22,0,false,"","",0⟩,⟨ "Data",3,1,false,"","",24⟩],2,32,[.nsl,.int .i64 0]⟩
def IW:TI:=⟨.func #[24] #[9,29] false,1,8,[.nilf]⟩
def BE:TI:=⟨.int .u32,1,4,[.int .u32 0]⟩
def Fj:TI:=⟨.slice 9,1,24,[.nsl]⟩
def Fk:TI:=⟨.slice 83,1,24,[.nsl]⟩
def Fl:TI:=⟨.slice 110,1,24,[.nsl]⟩
def BF:TI:=⟨.struct #[⟨ "Vars",33,0,false,"","",0⟩,⟨ "Arrays",36,1,false,"","",24⟩,⟨ "Funcs",37,2,false,"","",48⟩],3,72,[.nsl,.nsl,.nsl]⟩
def BG:TI:=⟨.struct #[⟨ "End",3,0,false,"","",0⟩,⟨ "Out",9,1,false,"","",8⟩,⟨ "Steps",3,2,false,"","",24⟩],3,32,[.int .i64 0,.str [],.int .i64 0]⟩
def BH:TI:=⟨.pointer 49,1,8,[.nilp]⟩
def Fm:TI:=⟨.slice 5,1,24,[.nsl]⟩
def yF:TI:=⟨.struct #[⟨ "addr",46,0,false,"","strings",0⟩,⟨ "buf",47,1,false,"","strings",8⟩],2,32,[.nilp,.nsl]⟩
def BI:TI:=⟨.struct #[⟨ "Op",3,0,false,"","",0⟩,⟨ "A",3,1,false,"","",8⟩,⟨ "B",3,2,false,"","",16⟩,⟨ "C",3,3,false,"","",24⟩],4,32,[.int .i64 0,.int .i64 0,.int .i64 0,.int .i64 0]⟩
def IX:TI:=⟨.func #[] #[9,29] false,1,8,[.nilf]⟩
def IY:TI:=⟨.slice 63,1,24,[.nsl]⟩
def Fo:TI:=⟨.slice 101,1,24,[.nsl]⟩
def IZ:TI:=⟨.pointer 72,1,8,[.nilp]⟩
def BJ:TI:=⟨.struct #[⟨ "l",67,0,false,"","seedcorn/seedcornref15",0⟩,⟨ "at",3,1,false,"","seedcorn/seedcornref15",24⟩,⟨ "wrong",4,2,false,"","seedcorn/seedcornref15",32⟩],3,40,[.nsl,.int .i64 0,.bool false]⟩
def Ja:TI:=⟨.pointer 81,1,8,[.nilp]⟩
def Jb:TI:=⟨.slice 22,1,24,[.nsl]⟩
def BK:TI:=⟨.struct #[⟨ "P",39,0,false,"","",0⟩,⟨ "In",9,3,false,"","",72⟩,⟨ "Fuel",3,4,false,"","",88⟩,⟨ "Vars",22,5,false,"","",96⟩,⟨ "Arrays",79,6,false,"","",120⟩,⟨ "Out",47,7,false,"","",144⟩,⟨ "Read",3,8,false,"","",168⟩,⟨ "Ticks",3,9,false,"","",176⟩,⟨ "End",3,10,false,"","",184⟩],11,192,[.nsl,.nsl,.nsl,.str [],.int .i64 0,.nsl,.nsl,.nsl,.int .i64 0,.int .i64 0,.int .i64 0]⟩
def yG:TI:=⟨.struct #[⟨ "Name",9,0,false,"","",0⟩,⟨ "Size",3,1,false,"","",16⟩],2,24,[.str [],.int .i64 0]⟩
def Fp:TI:=⟨.slice 3,1,24,[.nsl]⟩
def Jc:TI:=⟨.pointer 5,1,8,[.nilp]⟩
def Jd:TI:=⟨.func #[39] #[24,29] false,1,8,[.nilf]⟩
def sM:TI:=⟨.struct #[⟨ "Kind",3,0,false,"","",0⟩,⟨ "Text",9,1,false,"","",8⟩,⟨ "Num",32,2,false,"","",24⟩,⟨ "At",3,3,false,"","",32⟩],4,40,[.int .i64 0,.str [],.int .u32 0,.int .i64 0]⟩
def yH:TI:=⟨.slice 167,1,24,[.nsl]⟩
def sP:TI:=⟨.struct #[⟨ "Name",9,0,false,"","",0⟩,⟨ "Params",33,1,false,"","",16⟩,⟨ "Locals",33,2,false,"","",40⟩,⟨ "Word",4,3,false,"","",64⟩,⟨ "Body",108,4,false,"","",72⟩],5,96,[.str [],.nsl,.nsl,.bool false,.nsl]⟩
def Di:TI:=⟨.pointer 118,1,8,[.nilp]⟩
def vE:TI:=⟨.struct #[⟨ "f",3,0,false,"","seedcorn/seedcornref18",0⟩,⟨ "words",22,1,false,"","seedcorn/seedcornref18",8⟩,⟨ "back",4,2,false,"","seedcorn/seedcornref18",32⟩,⟨ "value",32,3,false,"","seedcorn/seedcornref18",36⟩],4,40,[.int .i64 0,.nsl,.bool false,.int .u32 0]⟩
def Dj:TI:=⟨.unsafePointer,1,8,[.nilp]⟩
def Dk:TI:=⟨.func #[3] #[4] false,1,8,[.nilf]⟩
def vF:TI:=⟨.struct #[⟨ "name",9,0,false,"","seedcorn/inst",0⟩,⟨ "a",4,1,false,"","seedcorn/inst",16⟩,⟨ "b",4,2,false,"","seedcorn/inst",17⟩,⟨ "c",3,3,false,"","seedcorn/inst",24⟩],4,32,[.str [],.bool false,.bool false,.int .i64 0]⟩
def Dl:TI:=⟨.pointer 192,1,8,[.nilp]⟩
def Dm:TI:=⟨.func #[129] #[] false,1,8,[.nilf]⟩
def Dn:TI:=⟨.slice 204,1,24,[.nsl]⟩
def yI:TI:=⟨.struct #[⟨ "Words",3,0,false,"","",0⟩,⟨ "Funcs",131,1,false,"","",8⟩],2,32,[.int .i64 0,.nsl]⟩
def Do:TI:=⟨.slice 218,1,24,[.nsl]⟩
def yJ:TI:=⟨.struct #[⟨ "Words",3,0,false,"","",0⟩,⟨ "Funcs",138,1,false,"","",8⟩],2,32,[.int .i64 0,.nsl]⟩
def Dp:TI:=⟨.func #[133] #[24,29] false,1,8,[.nilf]⟩
def Dq:TI:=⟨.array 16 5,16,16,[.int .u8 0,.int .u8 0,.int .u8 0,.int .u8 0,.int .u8 0,.int .u8 0,.int .u8 0,.int .u8 0,.int .u8 0,.int .u8 0,.int .u8 0,.int .u8 0,.int .u8 0,.int .u8 0,.int .u8 0,.int .u8 0]⟩
def yK:TI:=⟨.func #[220] #[] false,1,8,[.nilf]⟩
def Dr:TI:=⟨.slice 152,1,24,[.nsl]⟩
def yL:TI:=⟨.struct #[⟨ "Ins",56,0,true,"","",0⟩,⟨ "note",9,4,false,"","seedcorn/seed",32⟩],5,48,[.int .i64 0,.int .i64 0,.int .i64 0,.int .i64 0,.str []]⟩
def Ds:TI:=⟨.array 16 32,16,64,[.int .u32 0,.int .u32 0,.int .u32 0,.int .u32 0,.int .u32 0,.int .u32 0,.int .u32 0,.int .u32 0,.int .u32 0,.int .u32 0,.int .u32 0,.int .u32 0,.int .u32 0,.int .u32 0,.int .u32 0,.int .u32 0]⟩
def yM:TI:=⟨.struct #[⟨ "PC",3,0,false,"","",0⟩,⟨ "Reg",155,1,false,"","",8⟩,⟨ "Mem",22,17,false,"","",72⟩,⟨ "Read",3,18,false,"","",96⟩,⟨ "Out",9,19,false,"","",104⟩,⟨ "Steps",3,20,false,"","",120⟩,⟨ "End",3,21,false,"","",128⟩],22,136,[.int .i64 0,.int .u32 0,.int .u32 0,.int .u32 0,.int .u32 0,.int .u32 0,.int .u32 0,.int .u32 0,.int .u32 0,.int .u32 0,.int .u32 0,.int .u32 0,.int .u32 0,.int .u32 0,.int .u32 0,.int .u32 0,.int .u32 0,.nsl,.int .i64 0,.str [],.int .i64 0,.int .i64 0]⟩
def Dt:TI:=⟨.func #[5] #[4] false,1,8,[.nilf]⟩
def yN:TI:=⟨.slice 229,1,24,[.nsl]⟩
def sQ:TI:=⟨.struct #[⟨ "Kind",3,0,false,"","",0⟩,⟨ "Name",9,1,false,"","",8⟩,⟨ "E",165,2,false,"","",24⟩,⟨ "Then",108,3,false,"","",48⟩,⟨ "Else",108,4,false,"","",72⟩],5,96,[.int .i64 0,.str [],.nsl,.nsl,.nsl]⟩
def yO:TI:=⟨.slice 177,1,24,[.nsl]⟩
def sR:TI:=⟨.struct #[⟨ "Name",9,0,false,"","",0⟩,⟨ "As",3,1,false,"","",16⟩,⟨ "Of",3,2,false,"","",24⟩],3,32,[.str [],.int .i64 0,.int .i64 0]⟩
def Du:TI:=⟨.array 24 5,24,24,[.int .u8 0,.int .u8 0,.int .u8 0,.int .u8 0,.int .u8 0,.int .u8 0,.int .u8 0,.int .u8 0,.int .u8 0,.int .u8 0,.int .u8 0,.int .u8 0,.int .u8 0,.int .u8 0,.int .u8 0,.int .u8 0,.int .u8 0,.int .u8 0,.int .u8 0,.int .u8 0,.int .u8 0,.int .u8 0,.int .u8 0,.int .u8 0]⟩
def vG:TI:=⟨.struct #[⟨ "at",3,0,false,"","seedcorn/parse",0⟩],1,8,[.int .i64 0]⟩
def vH:TI:=⟨.struct #[⟨ "tokens",67,0,false,"","seedcorn/parse",0⟩,⟨ "next",3,1,false,"","seedcorn/parse",24⟩,⟨ "end",3,2,false,"","seedcorn/parse",32⟩],3,40,[.nsl,.int .i64 0,.int .i64 0]⟩
def Dv:TI:=⟨.map 9 200,1,8,[.nilm]⟩
def yP:TI:=⟨.struct #[⟨ "outside",194,0,false,"","seedcorn/core",0⟩,⟨ "inside",194,1,false,"","seedcorn/core",8⟩],2,16,[.nilm,.nilm]⟩
def yQ:TI:=⟨.struct #[⟨ "slot",3,0,false,"","seedcorn/core",0⟩,⟨ "size",3,1,false,"","seedcorn/core",8⟩],2,16,[.int .i64 0,.int .i64 0]⟩
def Dw:TI:=⟨.slice 252,1,24,[.nsl]⟩
def yR:TI:=⟨.struct #[⟨ "Params",3,0,false,"","",0⟩,⟨ "Slots",3,1,false,"","",8⟩,⟨ "First",3,2,false,"","",16⟩,⟨ "Word",4,3,false,"","",24⟩,⟨ "Body",201,4,false,"","",32⟩],5,56,[.int .i64 0,.int .i64 0,.int .i64 0,.bool false,.nsl]⟩
def Dx:TI:=⟨.slice 85,1,24,[.nsl]⟩
def yS:TI:=⟨.struct #[⟨ "depths",205,0,false,"","seedcorn/emit",0⟩,⟨ "back",85,1,false,"","seedcorn/emit",24⟩,⟨ "base",85,2,false,"","seedcorn/emit",48⟩,⟨ "data",3,3,false,"","seedcorn/emit",72⟩],4,80,[.nsl,.nsl,.nsl,.int .i64 0]⟩
def Dy:TI:=⟨.pointer 213,1,8,[.nilp]⟩
def Dz:TI:=⟨.slice 56,1,24,[.nsl]⟩
def DA:TI:=⟨.slice 260,1,24,[.nsl]⟩
def yT:TI:=⟨.struct #[⟨ "s",140,0,false,"","seedcorn/emit",0⟩,⟨ "plan",207,2,false,"","seedcorn/emit",32⟩,⟨ "code",210,6,false,"","seedcorn/emit",112⟩,⟨ "entry",85,7,false,"","seedcorn/emit",136⟩,⟨ "places",205,8,false,"","seedcorn/emit",160⟩,⟨ "holes",211,9,false,"","seedcorn/emit",184⟩,⟨ "f",3,10,false,"","seedcorn/emit",208⟩,⟨ "depth",3,11,false,"","seedcorn/emit",216⟩],12,224,[.int .i64 0,.nsl,.nsl,.nsl,.nsl,.int .i64 0,.nsl,.nsl,.nsl,.nsl,.int .i64 0,.int .i64 0]⟩
def DB:TI:=⟨.slice 302,1,24,[.nsl]⟩
def yU:TI:=⟨.struct #[⟨ "Params",3,0,false,"","",0⟩,⟨ "Slots",3,1,false,"","",8⟩,⟨ "First",3,2,false,"","",16⟩,⟨ "Word",4,3,false,"","",24⟩,⟨ "Code",215,4,false,"","",32⟩],5,56,[.int .i64 0,.int .i64 0,.int .i64 0,.bool false,.nsl]⟩
def DC:TI:=⟨.func #[32] #[4] false,1,8,[.nilf]⟩
def DD:TI:=⟨.pointer 266,1,8,[.nilp]⟩
def sS:TI:=⟨.struct #[⟨ "Kind",3,0,false,"","",0⟩,⟨ "Op",3,1,false,"","",8⟩,⟨ "Num",32,2,false,"","",16⟩,⟨ "Name",9,3,false,"","",24⟩,⟨ "Kids",165,4,false,"","",40⟩],5,64,[.int .i64 0,.int .i64 0,.int .u32 0,.str [],.nsl]⟩
def DE:TI:=⟨.array 20 89,20,160,[.int .u64 0,.int .u64 0,.int .u64 0,.int .u64 0,.int .u64 0,.int .u64 0,.int .u64 0,.int .u64 0,.int .u64 0,.int .u64 0,.int .u64 0,.int .u64 0,.int .u64 0,.int .u64 0,.int .u64 0,.int .u64 0,.int .u64 0,.int .u64 0,.int .u64 0,.int .u64 0]⟩
def DF:TI:=⟨.slice 295,1,24,[.nsl]⟩
def yV:TI:=⟨.struct #[⟨ "Kind",3,0,false,"","",0⟩,⟨ "Slot",3,1,false,"","",8⟩,⟨ "Size",3,2,false,"","",16⟩,⟨ "E",249,3,false,"","",24⟩,⟨ "Then",201,4,false,"","",48⟩,⟨ "Else",201,5,false,"","",72⟩],6,96,[.int .i64 0,.int .i64 0,.int .i64 0,.nsl,.nsl,.nsl]⟩
def DG:TI:=⟨.map 3 306,1,8,[.nilm]⟩
def yW:TI:=⟨.struct #[⟨ "at",3,0,false,"","seedcorn/emit",0⟩,⟨ "f",3,1,false,"","seedcorn/emit",8⟩,⟨ "place",3,2,false,"","seedcorn/emit",16⟩],3,24,[.int .i64 0,.int .i64 0,.int .i64 0]⟩
def yX:TI:=⟨.struct #[⟨ "word",4,0,false,"","seedcorn/lower",0⟩,⟨ "code",215,1,false,"","seedcorn/lower",8⟩],2,32,[.bool false,.nsl]⟩
def yY:TI:=⟨.struct #[⟨ "code",22,0,false,"","seedcorn/machine",0⟩,⟨ "in",9,1,false,"","seedcorn/machine",24⟩,⟨ "s",157,2,false,"","seedcorn/machine",40⟩,⟨ "own",4,24,false,"","seedcorn/machine",176⟩,⟨ "more",47,25,false,"","seedcorn/machine",184⟩],26,208,[.nsl,.str [],.int .i64 0,.int .u32 0,.int .u32 0,.int .u32 0,.int .u32 0,.int .u32 0,.int .u32 0,.int .u32 0,.int .u32 0,.int .u32 0,.int .u32 0,.int .u32 0,.int .u32 0,.int .u32 0,.int .u32 0,.int .u32 0,.int .u32 0,.nsl,.int .i64 0,.str [],.int .i64 0,.int .i64 0,.bool false,.nsl]⟩
def DH:TI:=⟨.array 24 9,24,384,[.str [],.str [],.str [],.str [],.str [],.str [],.str [],.str [],.str [],.str [],.str [],.str [],.str [],.str [],.str [],.str [],.str [],.str [],.str [],.str [],.str [],.str [],.str [],.str []]⟩
def DI:TI:=⟨.map 9 286,1,8,[.nilm]⟩
def yZ:TI:=⟨.struct #[⟨ "outside",276,0,false,"","seedcorn/scope",0⟩,⟨ "inside",276,1,false,"","seedcorn/scope",8⟩],2,16,[.nilm,.nilm]⟩
def za:TI:=⟨.struct #[⟨ "kind",3,0,false,"","seedcorn/scope",0⟩,⟨ "name",9,1,false,"","seedcorn/scope",8⟩,⟨ "arguments",3,2,false,"","seedcorn/scope",24⟩],3,32,[.int .i64 0,.str [],.int .i64 0]⟩
def zb:TI:=⟨.struct #[⟨ "kind",3,0,false,"","seedcorn/scope",0⟩,⟨ "number",3,1,false,"","seedcorn/scope",8⟩],2,16,[.int .i64 0,.int .i64 0]⟩
def DJ:TI:=⟨.func #[284] #[] false,1,8,[.nilf]⟩
def DK:TI:=⟨.pointer 326,1,8,[.nilp]⟩
def zc:TI:=⟨.struct #[⟨ "Kind",3,0,false,"","",0⟩,⟨ "Op",3,1,false,"","",8⟩,⟨ "Num",32,2,false,"","",16⟩,⟨ "Slot",3,3,false,"","",24⟩,⟨ "Size",3,4,false,"","",32⟩,⟨ "Kids",249,5,false,"","",40⟩],6,64,[.int .i64 0,.int .i64 0,.int .u32 0,.int .i64 0,.int .i64 0,.nsl]⟩
def zd:TI:=⟨.struct #[⟨ "items",85,0,false,"","seedcorn/stack",0⟩],1,24,[.nsl]⟩
def ze:TI:=⟨.struct #[⟨ "Op",3,0,false,"","",0⟩,⟨ "A",3,1,false,"","",8⟩,⟨ "B",3,2,false,"","",16⟩,⟨ "N",32,3,false,"","",24⟩],4,32,[.int .i64 0,.int .i64 0,.int .i64 0,.int .u32 0]⟩
def DL:TI:=⟨.func #[209,302] #[] false,1,8,[.nilf]⟩
def DM:TI:=⟨.pointer 262,1,8,[.nilp]⟩
def DN:TI:=⟨.pointer 252,1,8,[.nilp]⟩
def DO:TI:=⟨.array 32 5,32,32,[.int .u8 0,.int .u8 0,.int .u8 0,.int .u8 0,.int .u8 0,.int .u8 0,.int .u8 0,.int .u8 0,.int .u8 0,.int .u8 0,.int .u8 0,.int .u8 0,.int .u8 0,.int .u8 0,.int .u8 0,.int .u8 0,.int .u8 0,.int .u8 0,.int .u8 0,.int .u8 0,.int .u8 0,.int .u8 0,.int .u8 0,.int .u8 0,.int .u8 0,.int .u8 0,.int .u8 0,.int .u8 0,.int .u8 0,.int .u8 0,.int .u8 0,.int .u8 0]⟩
def DP:TI:=⟨.array 10 9,10,160,[.str [],.str [],.str [],.str [],.str [],.str [],.str [],.str [],.str [],.str []]⟩
def DQ:TI:=⟨.func #[108] #[] false,1,8,[.nilf]⟩
def DR:TI:=⟨.func #[165] #[] false,1,8,[.nilf]⟩
def DS:TI:=⟨.map 9 110,1,8,[.nilm]⟩
def DT:TI:=⟨.func #[229] #[3] false,1,8,[.nilf]⟩
def DU:TI:=⟨.array 10 323,10,80,[.nilf,.nilf,.nilf,.nilf,.nilf,.nilf,.nilf,.nilf,.nilf,.nilf]⟩
def zf:TI:=⟨.struct #[⟨ "funcs",322,0,false,"","seedcorn/typing",0⟩,⟨ "ask",324,1,false,"","seedcorn/typing",8⟩],11,88,[.nilm,.nilf,.nilf,.nilf,.nilf,.nilf,.nilf,.nilf,.nilf,.nilf,.nilf]⟩
def DV:TI:=⟨.pointer 297,1,8,[.nilp]⟩
def DW:TI:=⟨.pointer 295,1,8,[.nilp]⟩
def Tt:Nat→TI:=vo [(2,ti2),(3,ti2),(4,ti4),(5,ti5),(6,ti5),(7,ti7),(8,ti7),(9,ti9),(10,ti9),(11,ti9),(12,yE),(13,Fg),(14,Fg),(15,IS),(16,IT),(17,IU),(18,Fh),(19,Fh),(20,IV),(22,Fi),(23,BD),(24,BD),(29,ti2),(31,IW),(32,BE),(33,Fj),(36,Fk),(37,Fl),(38,BF),(39,BF),(43,BG),(44,BG),(46,BH),(47,Fm),(48,yF),(49,yF),(55,BI),(56,BI),(63,IX),(64,IY),(67,Fo),(70,IZ),(71,BJ),(72,BJ),(78,Ja),(79,Jb),(80,BK),(81,BK),(82,yG),(83,yG),(85,Fp),(86,yE),(89,yE),(90,Jc),(93,Jd),(100,sM),(101,sM),(108,yH),(109,sP),(110,sP),(116,Di),(117,vE),(118,vE),(120,Dj),(122,Dk),(123,vF),(124,vF),(129,Dl),(130,Dm),(131,Dn),(132,yI),(133,yI),(138,Do),(139,yJ),(140,yJ),(142,Dp),(143,Dq),(146,yK),(147,yK),(149,Dr),(151,yL),(152,yL),(155,Ds),(156,yM),(157,yM),(161,Dt),(165,yN),(166,sQ),(167,sQ),(172,yO),(176,sR),(177,sR),(184,Du),(189,vG),(190,vG),(191,vH),(192,vH),(194,Dv),(197,yP),(198,yP),(199,yQ),(200,yQ),(201,Dw),(203,yR),(204,yR),(205,Dx),(206,yS),(207,yS),(209,Dy),(210,Dz),(211,DA),(212,yT),(213,yT),(215,DB),(217,yU),(218,yU),(220,DC),(221,DD),(228,sS),(229,sS),(240,DE),(249,DF),(251,yV),(252,yV),(255,DG),(259,yW),(260,yW),(261,yX),(262,yX),(265,yY),(266,yY),(273,DH),(276,DI),(280,yZ),(281,yZ),(283,za),(284,za),(285,zb),(286,zb),(288,DJ),(289,DK),(294,zc),(295,zc),(296,zd),(297,zd),(301,ze),(302,ze),(306,DL),(308,DM),(310,DN),(314,DO),(316,DP),(320,DQ),(321,DR),(322,DS),(323,DT),(324,DU),(325,zf),(326,zf),(328,DV),(330,DW),(345,ti5)]
theorem aQ:aI Tryz.prog Tt:=wL b6
theorem Je:lm Tryz.prog 46 BH:=aQ 46 rfl
theorem KE:lm Tryz.prog 49 yF:=aQ 49 rfl
attribute [go_sem] ti2 ti4 ti5 ti7 ti9 yE Fg IS IT IU Fh IV Fi BD IW BE Fj Fk Fl BF BG BH Fm yF BI IX IY Fo IZ BJ Ja Jb BK yG Fp Jc Jd sM yH sP Di vE Dj Dk vF Dl Dm Dn yI Do yJ Dp Dq yK Dr yL Ds yM Dt yN sQ yO sR Du vG vH Dv yP yQ Dw yR Dx yS Dy Dz DA yT DB yU DC DD sS DE DF yV DG yW yX yY DH DI yZ za zb DJ DK zc zd ze DL DM DN DO DP DQ DR DS DT DU zf DV DW
theorem mixed:Tryz.prog.follows .mixedOrders=true:=b6
@[go_sem] theorem Lu:Tt 3=ti2:=b8 rfl rfl
@[go_sem] theorem Lv:Tt 4=ti4:=b8 rfl rfl
@[go_sem] theorem Lw:Tt 5=ti5:=b8 rfl rfl
@[go_sem] theorem Lx:Tt 9=ti9:=b8 rfl rfl
@[go_sem] theorem KF:cS Tt 9=false:=b8 rfl rfl
@[go_sem] theorem KZ:Tt 22=Fi:=b8 rfl rfl
@[go_sem] theorem Ka:aS Tt 22=BE:=b8 rfl rfl
@[go_sem] theorem Kb:cS Tt 22=true:=b8 rfl rfl
@[go_sem] theorem La:Tt 24=BD:=b8 rfl rfl
@[go_sem] theorem Kc:iF Tt 24=true:=b8 rfl rfl
@[go_sem] theorem Lb:Tt 29=ti2:=b8 rfl rfl
@[go_sem] theorem Lc:Tt 32=BE:=b8 rfl rfl
@[go_sem] theorem Ld:Tt 33=Fj:=b8 rfl rfl
@[go_sem] theorem Kd:aS Tt 33=ti9:=b8 rfl rfl
@[go_sem] theorem Ke:cS Tt 33=true:=b8 rfl rfl
@[go_sem] theorem Le:Tt 36=Fk:=b8 rfl rfl
@[go_sem] theorem Kf:aS Tt 36=yG:=b8 rfl rfl
@[go_sem] theorem Kg:cS Tt 36=true:=b8 rfl rfl
@[go_sem] theorem Lf:Tt 37=Fl:=b8 rfl rfl
@[go_sem] theorem Kh:aS Tt 37=sP:=b8 rfl rfl
@[go_sem] theorem Ki:cS Tt 37=true:=b8 rfl rfl
@[go_sem] theorem Lg:Tt 39=BF:=b8 rfl rfl
@[go_sem] theorem Kj:iF Tt 39=true:=b8 rfl rfl
@[go_sem] theorem Lh:Tt 44=BG:=b8 rfl rfl
@[go_sem] theorem Kk:iF Tt 44=true:=b8 rfl rfl
@[go_sem] theorem Li:Tt 46=BH:=b8 rfl rfl
@[go_sem] theorem Lj:Tt 47=Fm:=b8 rfl rfl
@[go_sem] theorem Kl:aS Tt 47=ti5:=b8 rfl rfl
@[go_sem] theorem Km:cS Tt 47=true:=b8 rfl rfl
@[go_sem] theorem Lk:Tt 49=yF:=b8 rfl rfl
@[go_sem] theorem Ll:Tt 56=BI:=b8 rfl rfl
@[go_sem] theorem Kn:iF Tt 56=true:=b8 rfl rfl
@[go_sem] theorem Lm:Tt 67=Fo:=b8 rfl rfl
@[go_sem] theorem Ko:aS Tt 67=sM:=b8 rfl rfl
@[go_sem] theorem Kp:cS Tt 67=true:=b8 rfl rfl
@[go_sem] theorem Ln:Tt 72=BJ:=b8 rfl rfl
@[go_sem] theorem Kq:iF Tt 72=true:=b8 rfl rfl
@[go_sem] theorem Lo:Tt 81=BK:=b8 rfl rfl
@[go_sem] theorem Kr:iF Tt 81=true:=b8 rfl rfl
@[go_sem] theorem Lp:Tt 83=yG:=b8 rfl rfl
@[go_sem] theorem Ks:iF Tt 83=true:=b8 rfl rfl
@[go_sem] theorem Lq:Tt 85=Fp:=b8 rfl rfl
@[go_sem] theorem Kt:aS Tt 85=ti2:=b8 rfl rfl
@[go_sem] theorem Ku:cS Tt 85=true:=b8 rfl rfl
@[go_sem] theorem Lr:Tt 89=yE:=b8 rfl rfl
@[go_sem] theorem KG:Tt 101=sM:=b8 rfl rfl
@[go_sem] theorem Jf:iF Tt 101=true:=b8 rfl rfl
@[go_sem] theorem KH:Tt 108=yH:=b8 rfl rfl
@[go_sem] theorem Jh:aS Tt 108=sQ:=b8 rfl rfl
@[go_sem] theorem Ji:cS Tt 108=true:=b8 rfl rfl
@[go_sem] theorem KI:Tt 110=sP:=b8 rfl rfl
@[go_sem] theorem Jj:iF Tt 110=true:=b8 rfl rfl
@[go_sem] theorem KJ:Tt 118=vE:=b8 rfl rfl
@[go_sem] theorem Jk:iF Tt 118=true:=b8 rfl rfl
@[go_sem] theorem KK:Tt 124=vF:=b8 rfl rfl
@[go_sem] theorem Jl:iF Tt 124=true:=b8 rfl rfl
@[go_sem] theorem KL:Tt 165=yN:=b8 rfl rfl
@[go_sem] theorem Jm:aS Tt 165=sS:=b8 rfl rfl
@[go_sem] theorem Jn:cS Tt 165=true:=b8 rfl rfl
@[go_sem] theorem KM:Tt 167=sQ:=b8 rfl rfl
@[go_sem] theorem Jo:iF Tt 167=true:=b8 rfl rfl
@[go_sem] theorem KN:Tt 172=yO:=b8 rfl rfl
@[go_sem] theorem Jp:aS Tt 172=sR:=b8 rfl rfl
@[go_sem] theorem Jq:cS Tt 172=true:=b8 rfl rfl
@[go_sem] theorem KO:Tt 177=sR:=b8 rfl rfl
@[go_sem] theorem Jr:iF Tt 177=true:=b8 rfl rfl
@[go_sem] theorem KP:Tt 190=vG:=b8 rfl rfl
@[go_sem] theorem Js:iF Tt 190=true:=b8 rfl rfl
@[go_sem] theorem KQ:Tt 192=vH:=b8 rfl rfl
@[go_sem] theorem Jt:iF Tt 192=true:=b8 rfl rfl
@[go_sem] theorem KR:Tt 229=sS:=b8 rfl rfl
@[go_sem] theorem Ju:iF Tt 229=true:=b8 rfl rfl
variable {f:FuncId}{fn:Func}{c:Code}{xs:List AV}{R:AV→Prop}{g:Nat→Nat}{ob:Obs}
theorem hdG {gb:Nat}{o:bU} (hf:Tryz.prog.funcs[f]? = some fn) (hb:fn.body=some c) (rs:List ResultVar) (h:∀b₀ β0 s0 w0 g,wpC (spF Tryz.prog none b₀ (xT gb o b₀ β0 s0 w0) 0 qd) Tt c (bx (oC Tt rs R)) ⟨cD xs,g,fun _=>none⟩) (hn:(fn.name == "runtime.NumGoroutine")=false:=by rfl) (hres:fn.results=rs.toArray:=by rfl) (hcm:eD c=true:=by kernel_rfl) (hok:codeOk fn.ntmps c=true:=by kernel_rfl) (hargs:Nat.ble xs.length fn.ntmps=true:=by kernel_rfl):bu Tryz.prog gb o f xs R:=fY 0 gb o aQ mixed hf hb hn rs hres hcm hok (E4 hargs) h
theorem hdM (B:Nat) (S:List Nat) (hf:Tryz.prog.funcs[f]? = some fn) (hb:fn.body=some c) (rs:List ResultVar){R:AV→(Nat→Nat)→Obs→Prop}{X:Pan} (hS:∀i∈S,i<B) (hB:∀i,B≤i→ob i=none) (h:∀b₀ β0 s0 w0,wpC (spF Tryz.prog none b₀ (ue b₀ β0 s0 w0) B (Ip B S g ob X)) Tt c (bx (EE Tt rs B S g ob R)) ⟨cD xs,g,ob⟩) (hn:(fn.name == "runtime.NumGoroutine")=false:=by rfl) (hres:fn.results=rs.toArray:=by rfl) (hcm:eD c=true:=by kernel_rfl) (hok:codeOk fn.ntmps c=true:=by kernel_rfl) (hargs:Nat.ble xs.length fn.ntmps=true:=by kernel_rfl):ck Tryz.prog f xs g ob R X:=oI B S aQ mixed hf hb hn rs hres hcm hok (E4 hargs) hS hB h
theorem hdX (B:Nat) (hf:Tryz.prog.funcs[f]? = some fn) (hb:fn.body=some c) (rs:List ResultVar){R:AV→(Nat→Nat)→Obs→Prop}{X:Pan} (h:∀b₀ β0 s0 w0,wpC (spF Tryz.prog none b₀ (ue b₀ β0 s0 w0) B X.on) Tt c (bx (rT Tt rs R)) ⟨cD xs,g,ob⟩) (hn:(fn.name == "runtime.NumGoroutine")=false:=by rfl) (hres:fn.results=rs.toArray:=by rfl) (hcm:eD c=true:=by kernel_rfl) (hok:codeOk fn.ntmps c=true:=by kernel_rfl) (hargs:Nat.ble xs.length fn.ntmps=true:=by kernel_rfl):ck Tryz.prog f xs g ob R X:=uf B aQ mixed hf hb hn rs hres hcm hok (E4 hargs) h
theorem hdR (hf:Tryz.prog.funcs[f]? = some fn) (hb:fn.body=some c) (rs:List ResultVar) (h:∀g,wpC (sp Tryz.prog) Tt c (bx (oC Tt rs R)) ⟨cD xs,g,fun _=>none⟩) (hn:(fn.name == "runtime.NumGoroutine")=false:=by rfl) (hres:fn.results=rs.toArray:=by rfl) (hok:codeOk fn.ntmps c=true:=by kernel_rfl) (hargs:Nat.ble xs.length fn.ntmps=true:=by kernel_rfl):ap Tryz.prog f xs R:=rU aQ mixed hf hb hn rs hres hok (E4 hargs) h
theorem hdP (hf:Tryz.prog.funcs[f]? = some fn) (hb:fn.body=some c) (rs:List Nat) (h:∀g,wpC (sp Tryz.prog) Tt c (bx (ul rs R)) ⟨cD xs,g,fun _=>none⟩) (hn:(fn.name == "runtime.NumGoroutine")=false:=by rfl) (hres:fn.results=(rs.map ResultVar.tmp).toArray:=by rfl) (hok:codeOk fn.ntmps c=true:=by kernel_rfl) (hargs:Nat.ble xs.length fn.ntmps=true:=by kernel_rfl):ap Tryz.prog f xs R:=um aQ mixed hf hb hn rs hres hok (E4 hargs) h
theorem hdF (B:Nat) (hf:Tryz.prog.funcs[f]? = some fn) (hb:fn.body=some c) (rs:List Nat){R:AV→(Nat→Nat)→Obs→Prop} (h:wpC (spB Tryz.prog B) Tt c (bx (xA rs R)) ⟨cD xs,g,ob⟩) (hn:(fn.name == "runtime.NumGoroutine")=false:=by rfl) (hres:fn.results=(rs.map ResultVar.tmp).toArray:=by rfl) (hok:codeOk fn.ntmps c=true:=by kernel_rfl) (hargs:Nat.ble xs.length fn.ntmps=true:=by kernel_rfl):dK Tryz.prog f xs g ob R:=wr B aQ mixed hf hb hn rs hres hok (E4 hargs) h
end
end
end Go.Proofs.YtphohejoiocikaaGreatDoor
namespace Go.Asm
section
abbrev Str:=List UInt8
def small (c:UInt8):Bool:=decide (97≤c.toNat)&&decide (c.toNat≤122)
def letter (c:UInt8):Bool:=small c||(decide (65≤c.toNat)&&decide (c.toNat≤90))
def digit (c:UInt8):Bool:=decide (48≤c.toNat)&&decide (c.toNat≤57)
def bQ (c:UInt8):Bool:=letter c||digit c||c==95
def xp (n:Nat) (c:UInt8):Nat:=10*n+(c.toNat-48)
def dy (s:Str):Nat:=s.foldl xp 0
def names:List Str:=[[108,105],[108,117,105],[109,111,118],[97,100,100],[115,117,98],[109,117,108],[100,105,118],[109,111,100],[97,110,100],[111,114],[120,111,114],[115,104,108],[115,104,114],[108,116],[101,113],[108,100],[115,116],
 [106,109,112],[106,122],[106,110,122],[99,97,108,108],[114,101,116],[103,101,116],[112,117,116],[99,104,107],[104,97,108,116],[108,100,99]]
def shape (op:Nat):Bool×Bool×Nat:=
 if op=1∨op=2∨op=19∨op=20∨op=21∨op=25 then(true,false,1)
 else if op=3 then(true,true,0)
 else if 4≤op∧op≤15 then(true,true,2)
 else if op=16∨op=17∨op=27 then(true,true,1)
 else if op=18 then(false,false,1)
 else if op=22∨op=23∨op=24 then(true,false,0)
 else(false,false,0)
end
end Go.Asm
namespace Go.Proofs.YtphohejoiocikaaGreatDoor
section
open Go Go.Am Go.Asm
section
theorem getq {α:Type}{l:List α}{k:Nat} (h:k<l.length):∃x,l[k]? = some x:=⟨_,p7 h⟩
variable {c d:UInt8}
theorem IQ (h:(c.toNat:Int)=(d.toNat:Int)):c=d:=J0.1 a6
theorem fW (h:c≠d):¬(c.toNat:Int)=(d.toNat:Int):=fun e=>h (IQ e)
theorem drop_cons {α:Type}{l:List α}{k:Nat}{x:α} (h:l[k]? = some x):l.drop k=x::l.drop (k+1):=by
 obtain⟨hk,rfl⟩:=j0.1 h
 exact z7 hk
theorem oX {c:UInt8}:letter c=true↔(97≤c.toNat∧c.toNat≤122)∨(65≤c.toNat∧c.toNat≤90):=by simp[letter,small]
theorem kg {c:UInt8}:digit c=true↔48≤c.toNat∧c.toNat≤57:=by simp[digit]
end
end
section
attribute [local congr] Go.Am.ite_cc
open Go Go.Am Go.Asm
def preB (p s:Str):Bool:=decide (s.take p.length=p)
theorem sH (s p:Str):ap Tryz.prog 195 [sv s,sv p] (· = bv (preB p s)):=by
 refine hdP Tryz.func195 rfl [4] fun g=>?_
 simp only[go_sem]
 refine⟨fun h=>?_,fun h=>?_⟩
 ·exact⟨LZ _,a6,rfl⟩
 ·have:¬s.take p.length=p:=fun e=>by
   have:=congrArg List.length e
   simp only[y8] at this;omega
  simp[preB,this]
def strs (l:List Str):D:=.sl (l.map fun w=>[.str w])
end
section
open Go Go.Am Go.Asm
theorem jN {s:St}{id g n:Nat}{L:List Str} (hg:s.gen id=g) (ho:s.obj id=some (L.map fun w=>.d (.str w))) (hn:n=L.length):Frz s (.osl id g 1 0 n) (strs L):=by
 subst hn
 exact vf hg ho L (fun w=>.str w) (fun _=>rfl) rfl (fun j a h=>by simp[h]) a7
end
end Go.Proofs.YtphohejoiocikaaGreatDoor
namespace Go.Proofs
section
open Go.Shelf Go.RowKit Go.Lib
section
variable {P:Program}{ρ:Ren}
end
section
variable {P:Program}{ρ:Ren}
end
end
section
open Go.Shelf
end
end Go.Proofs
namespace Go.Proofs.YtphohejoiocikaaGreatDoor
section
open Go Go.Am Go.Asm
end
section
attribute [local congr] Go.Am.ite_cc
open Go Go.Am Go.Asm
def nameOf (op:Nat):Str:=match op with|0=>[]|k+1=>names.getD k []
def oZ (op:Nat):AV:=.agg [.d (.str (nameOf op)),.d (.bool (Asm.shape op).1),.d (.bool (Asm.shape op).2.1),.d (.int .i64 ((Asm.shape op).2.2:Nat))]
theorem sK {op:Nat} (h:op=0∨28≤op):oZ op=.agg [.d (.str []),.d (.bool false),.d (.bool false),.d (.int .i64 0)]:=by
 rcases h with rfl|h
 ·rfl
 ·have h1:nameOf op=[]:=by
   exact Ns
  have h2:Asm.shape op=(false,false,0):=by
   unfold Asm.shape
   repeat rw[if_neg (by omega)]
  unfold oZ;rw[h1,h2];rfl
theorem pb {s:St}{n:Str}{a b:Bool}{c:Int}:iR s (.agg [.d (.str n),.d (.bool a),.d (.bool b),.d (.int .i64 c)]) (.agg [.d (.str n),.d (.bool a),.d (.bool b),.d (.int .i64 c)]):=by
 refine⟨[.str n,.bool a,.bool b,.int .i64 c],rfl,fun i c hc=>?_,rfl⟩
 match i,hc with
 |0,hc=>cases hc;exact⟨_,rfl,.d _⟩
 |1,hc=>cases hc;exact⟨_,rfl,.d _⟩
 |2,hc=>cases hc;exact⟨_,rfl,.d _⟩
 |3,hc=>cases hc;exact⟨_,rfl,.d _⟩
theorem qu (op:Int):ap Tryz.prog 72 [iv .i64 op] (· = oZ op.toNat):=by
 refine hdR Tryz.func72 rfl [.cell 2 124] fun g=>?_
 simp only[go_sem]
 repeat' (first|refine And.intro (fun h=>?_) (fun h=>?_)|fail)
 all_goals first
  | (subst h
     exact⟨_,pb,rfl⟩)
  | (have e:op.toNat=0∨28≤op.toNat:=a6
     refine⟨_,pb,?_⟩
     rw[sK e])
def gy (op:Nat):Bool:=decide (1≤op)&&decide (op≤27)
theorem wR (op:Nat):(decide (¬nameOf op=[]))=gy op:=by
 unfold gy
 by_cases h:op≤27
 ·have:∀k,k≤27→decide (¬nameOf k=[])=(decide (1≤k)&&decide (k≤27)):=a8
  exact this op h
 ·have h1:nameOf op=[]:=by
   exact Ns
  simp[h1,h]
theorem BB (op:Int):ap Tryz.prog 71 [iv .i64 op] (· = bv (gy op.toNat)):=by
 refine hdP Tryz.func71 rfl [2] fun g=>?_
 simp only[go_sem]
 refine aV rfl (by simp only[go_sem];exact qu op) ?_
 rintro _ rfl
 unfold oZ
 simp only[go_sem]
 rw[←wR]
def inW (v most:Int) (b:Bool):Bool:=if b=true then decide (0≤v) && decide (v≤most) else decide (v=0)
theorem pd (v most:Int) (b:Bool):ap Tryz.prog 73 [iv .i64 v,iv .i64 most,bv b] (· = bv (inW v most b)):=by
 refine hdP Tryz.func73 rfl [6] fun g=>?_
 exact NH
def sL (op:Nat):Int:=if (Asm.shape op).2.2=2 then 15 else 65535
def cQ (op a b c:Int):Bool:=gy op.toNat&&(inW a 15 (Asm.shape op.toNat).1&&(inW b 15 (Asm.shape op.toNat).2.1&&inW c (sL op.toNat) (decide ((Asm.shape op.toNat).2.2≠0))))
def jO (op a b c:Int):AV:=.agg [.d (.int .i64 op),.d (.int .i64 a),.d (.int .i64 b),.d (.int .i64 c)]
theorem BC (op a b c:Int):ap Tryz.prog 42 [jO op a b c] (· = bv (cQ op a b c)):=by
 refine hdP Tryz.func42 rfl [2] fun g=>?_
 unfold jO
 simp only[go_sem]
 refine aV rfl (by simp only[go_sem];exact BB op) ?_
 rintro _ rfl
 cases hk:gy op.toNat
 ·simp only[go_sem]
  simp[cQ,hk]
 simp only[go_sem]
 refine aV rfl (by simp only[go_sem];exact qu op) ?_
 rintro _ rfl
 have hrr:cQ op a b c=(inW a 15 (Asm.shape op.toNat).1&&(inW b 15 (Asm.shape op.toNat).2.1&&inW c (sL op.toNat) (decide ((Asm.shape op.toNat).2.2≠0)))):=by unfold cQ;rw[hk,A0]
 rw[hrr]
 unfold oZ sL
 generalize (Asm.shape op.toNat).1=p
 generalize (Asm.shape op.toNat).2.1=q
 generalize (Asm.shape op.toNat).2.2=r
 have hr0:decide (¬((r:Nat):Int)=0)=decide (r≠0):=by
  have:(((r:Nat):Int)=0)=(r=0):=by apply propext;omega
  simp only[this,ne_eq]
 by_cases hr:r=2
 case' pos=>
  have hri:((r:Nat):Int)=2:=a6
  rw[if_pos hr]
  simp only[go_sem,hri]
 case' neg=>
  have hri:¬((r:Nat):Int)=2:=a6
  rw[if_neg hr]
  simp only[go_sem,hri]
 all_goals
  refine aV rfl (by simp only[go_sem];exact pd a 15 p) ?_
  rintro _ rfl
  cases h1:inW a 15 p
  ·simp only[go_sem]
   try simp
  simp only[go_sem]
  refine aV rfl (by simp only[go_sem];exact pd b 15 q) ?_
  rintro _ rfl
  cases h2:inW b 15 q
  ·simp only[go_sem]
   try simp
  simp only[go_sem,hr0]
  refine aV rfl (by simp only[go_sem,hr0];exact pd c _ _) ?_
  rintro _ rfl
  simp only[go_sem]
  first|done|(subst hr;simp;done)|simp
end
section
open Go Go.Am Go.Asm
theorem wS (s:Str) (c:UInt8):dy (s++[c])=10*dy s+(c.toNat-48):=by simp[dy,xp]
theorem qv {s:Str}{k:Nat}{c:UInt8} (h:s[k]? = some c):dy (s.take (k+1))=10*dy (s.take k)+(c.toNat-48):=by
 rw[B9,h];exact wS _ _
end
section
open Go Go.RowKit Go.Shelf
end
end Go.Proofs.YtphohejoiocikaaGreatDoor
namespace Go.Am
section
theorem jP {P:Program}{gb:Nat}{o:bU}{f:FuncId}{args:List AV} (hf:sk P f) (hs:(args.all fun x=>match x with|.one c=>eM c|_=>false)=true) {r:AV} (hr:bX r=true)
  (h:∀w:World,lr gb o w→Calls P f (args.map jf).toArray w fun e w'=>e=.returned (jf r)∧w.heap.size≤w'.heap.size∧(∀b,b<w.heap.size→w'.heap[b]? = w.heap[b]?)∧(w'.os=w.os∧w'.output=w.output)):bu P gb o f args (· = r):=by
 refine⟨hf,fun J w vs hG hJ hv=>?_⟩
 have hvs:vs=args.map jf:=by
  clear h hf
  induction args generalizing vs with
  |nil=>simp only[RVs] at hv;exact hv
  |cons x xs ih=>
    simp only[RVs] at hv
    obtain⟨u,us,rfl,h1,h2⟩:=hv
    simp only[w8,l5] at hs
    rw[j8,←ih hs.2 us h2]
    congr 1
    cases x with
    |one c=>
      simp only[RV,RVc] at h1
      obtain⟨x,rfl,h1⟩:=h1
      simp only[jf,scC]
      exact bm.scalar hs.1 h1
    |_=>simp at hs
 rw[hvs]
 refine(h w hG).mono fun e w' ⟨he,h1,h2,h3⟩=>⟨_,r,he,rfl,h1,h2,h3,?_⟩
 exact qa hr
end
end Go.Am
namespace Go.Proofs.YtphohejoiocikaaGreatDoor
section
open Go Go.Am Go.Asm
theorem mE:∀l:List UInt8,u8s (l.map fun b=>.d (.int .u8 (b.toNat:Nat)))=some (l.map fun b=>((b.toNat:Nat):Int))
 |[]=>rfl
 |b::l=>by
   have ih:=mE l
   simp only[j8,u8s] at ih ⊢
   rw[ih];rfl
theorem cc {s:St} (x:D):iR s (.one (.d x)) (.one (.d (fV x))):=⟨_,.d x,rfl⟩
end
end Go.Proofs.YtphohejoiocikaaGreatDoor
namespace Go.Src
section
open Go.Asm (Str digit letter bQ dy)
structure Tok where
 kind:Nat
 text:Str
 num:Nat
 place:Nat
 deriving DecidableEq
def cE:List Str:=[[118,97,114],[97,114,114,97,121],[102,117,110,99],[119,111,114,100],[105,102],[101,108,115,101],[119,104,105,108,101],[114,101,116,117,114,110],[112,117,116],[103,101,116]]
def eV:List Str:=[[60,60],[62,62],[61,61],[38,38],[124,124],[40],[41],[123],[125],[91],[93],[59],[44],[61],[43],[45],[42],[47],[37],[38],[124],[94],[60],[33]]
inductive R (α:Type) where
 |ok (a:α)
 |err (e:Nat)
def firstT (s:Str):R (Nat×Str×Nat):=
 match s with
 |[]=>.err 3
 |c::_=>
   if digit c=true then(if 4294967295<dy (s.takeWhile digit) then .err 2 else .ok (2,s.takeWhile digit,dy (s.takeWhile digit)))
   else if c=39 then
    (match s with
     |_::x::y::_=>if y=39∧32≤x.toNat∧x.toNat≤126∧x≠39∧x≠92 then .ok (2,[c,x,y],x.toNat) else .err 3
     | _=>.err 3)
   else if letter c=true then
    (if 20<(s.takeWhile bQ).length then .err 2 else if (s.takeWhile bQ)∈cE then .ok (3,s.takeWhile bQ,0) else .ok (1,s.takeWhile bQ,0))
   else match eV.find? (fun t=>t.isPrefixOf s) with
    |some t=>.ok (4,t,0)
    |none=>.err 3
def dU:Nat→Nat→Str→R (List Tok)×Nat
 |0,_,_=>(.ok [],0)
 |_+1,_,[]=>(.ok [],0)
 |n+1,k,c::r=>
   if c=32∨c=9∨c=10 then dU n (k+1) r
   else if c=47∧r.head? = some 47 then dU n (k+((c::r).takeWhile (· != 10)).length) ((c::r).dropWhile (· != 10))
   else match firstT (c::r) with
    |.err e=>(.err e,k)
    |.ok (kd,t,v)=>match dU n (k+t.length) ((c::r).drop t.length) with
      |(.ok l,p)=>(.ok (⟨kd,t,v,k⟩::l),p)
      |(.err e,p)=>(.err e,p)
def mO (s:Str):List Tok×Nat×Nat:=
 if 20000<s.length then([],0,2)
 else match dU (s.length+1) 0 s with
  |(.ok l,_)=>(l,0,0)
  |(.err e,p)=>([],p,e)
inductive Ex where
 |mk (kind op num:Int) (name:Str) (kids:List Ex)
inductive Stm where
 |mk (kind:Int) (name:Str) (e:List Ex) (th el:List Stm)
structure Fn where
 name:Str
 params:List Str
 locals:List Str
 word:Bool
 body:List Stm
structure Prog where
 vars:List Str
 arrays:List (Str×Int)
 funcs:List Fn
def cG (s:Str):Int×Int×Nat:=
 if s=[124,124] then(9,0,1) else if s=[38,38] then(8,0,2) else if s=[61,61] then(6,15,3) else if s=[60] then(6,14,4)
 else if s=[124] then(6,10,5) else if s=[94] then(6,11,5) else if s=[38] then(6,9,6) else if s=[60,60] then(6,12,7) else if s=[62,62] then(6,13,7)
 else if s=[43] then(6,4,8) else if s=[45] then(6,5,8) else if s=[42] then(6,6,9) else if s=[47] then(6,7,9) else if s=[37] then(6,8,9) else(0,0,0)
def aW:Str:=[40]
def aT:Str:=[41]
def eW:Str:=[44]
def bz:Str:=[59]
end
end Go.Src
namespace Go.Proofs.YtphohejoiocikaaGreatDoor
section
attribute [local congr] Go.Am.ite_cc
open Go Go.Am Go.Asm
theorem iz (c:UInt8):ap Tryz.prog 196 [iv .u8 c.toNat] (· = bv (digit c)):=by
 refine hdP Tryz.func196 rfl [2] fun g=>?_
 simp only[go_sem]
 have e:=@kg c
 cases hs:digit c <;> rw[hs] at e <;> simp at e <;> ((repeat' (first|refine⟨?_,?_⟩|intro _)) <;> (first|rfl|(exfalso;omega)|(simp;omega)))
theorem mI (c:UInt8):ap Tryz.prog 199 [iv .u8 c.toNat] (· = bv (letter c)):=by
 refine hdP Tryz.func199 rfl [2] fun g=>?_
 simp only[go_sem]
 have e:=@oX c
 cases hs:letter c <;> rw[hs] at e <;> simp at e <;> ((repeat' (first|refine⟨?_,?_⟩|intro _)) <;> (first|rfl|(exfalso;omega)|(simp;omega)))
theorem Ce (c:UInt8):ap Tryz.prog 164 [iv .u8 c.toNat] (· = bv (c != 10)):=by
 refine hdP Tryz.func164 rfl [2] fun g=>?_
 by_cases h:c=10
 ·subst h
  have hi:(((10:UInt8).toNat:Nat):Int)=10:=rfl
  simp only[go_sem,hi]
  rfl
 ·have hi:¬((c.toNat:Nat):Int)=10:=fW (d:=10) h
  have hb:(c != 10)=true:=by simpa using h
  simp only[go_sem,hi,hb]
theorem wV (c:UInt8):ap Tryz.prog 201 [iv .u8 c.toNat] (· = bv (bQ c)):=by
 refine hdP Tryz.func201 rfl [2] fun g=>?_
 simp only[go_sem]
 refine aV rfl (by simp only[go_sem];exact mI c) ?_
 rintro _ rfl
 unfold bQ
 cases hl:letter c
 ·simp only[go_sem]
  refine aV rfl (by simp only[go_sem];exact iz c) ?_
  rintro _ rfl
  cases hd:digit c
  ·by_cases h:c=95
   ·subst h
    have hi:(((95:UInt8).toNat:Nat):Int)=95:=rfl
    simp only[go_sem,hi]
    rfl
   ·have hi:¬((c.toNat:Nat):Int)=95:=fW (d:=95) h
    have hb:(c==95)=false:=by simpa using h
    simp only[go_sem,hi,hb,Bool.or_false]
  ·simp only[go_sem,Bool.or_true,Bool.true_or]
 ·simp only[go_sem,Bool.true_or]
theorem iY {p:UInt8→Bool}:∀{s:Str}{k:Nat},(s.take k).all p=true→(s[k]?).all (fun c=>!p c)=true→s.takeWhile p=s.take k
 |[],k,_,_=>by simp
 |a::s,0,_,h=>by
   simp only[v7,Option.all_some,C4] at h
   simp[h]
 |a::s,k+1,h1,h2=>by
   simp only[Ly,w8,l5] at h1
   rw[s8] at h2
   rw[B6,if_pos h1.1,Ly,iY h1.2 h2]
theorem rC {f:FuncId}{p:UInt8→Bool} (hp:∀c,ap Tryz.prog f [iv .u8 c.toNat] (· = bv (p c))) (s:Str) (hs:s.length≤1000000000):ap Tryz.prog 163 [sv s,.one (.d (.fn f))] (· = sv (s.takeWhile p)):=by
 refine hdP Tryz.func163 rfl [4] fun g=>?_
 simp only[go_sem]
 refine cN (fun n st=>∃k:Nat,n+k=s.length∧st.f 0=sv s∧st.f 1=.one (.d (.fn f))∧st.f 5=iv .i64 k∧(s.take k).all p=true) s.length ?_ ?_
 ·refine⟨0,a6,?_⟩
  simp only[go_sem]
  rfl
 rintro n fs g ob ⟨k,hk,q0,q1,q5,hall⟩
 simp only at q0 q1 q5
 have hw:=ag (k:=k) a6
 have hk0:(0:Int)≤(k:Int):=a6
 by_cases hlt:k<s.length
 ·obtain⟨c,hc⟩:=getq hlt
  have hlti:(k:Int)<(s.length:Int):=a6
  simp only[go_sem,q0,q1,q5,hlti,hc,hk0]
  refine xR (f:=f) rfl (by simp only[go_sem,q1]) (by simp only[go_sem];exact hp c) OD ?_
  rintro _ rfl
  cases hpc:p c
  ·have ht:=iY (p:=p) hall (by rw[hc];simp[hpc])
   simp only[go_sem,q0,q5]
   refine⟨a6,a6,?_⟩
   rw[ht]
   try rfl
  ·simp only[go_sem,q5,hw]
   refine bH (n-1) a6 ⟨k+1,a6,?_⟩
   simp only[go_sem,q0,q1]
   rw[B9,hc]
   simp[hall,hpc]
 ·obtain rfl:k=s.length:=a6
  have hlti:¬(s.length:Int)<(s.length:Int):=a6
  have ht:=iY (p:=p) hall (by rw[v8 (b9 _)];rfl)
  rw[ht,G8]
  simp only[go_sem,q0,q1,q5,hlti]
  exact⟨a6,a6⟩
theorem tl {s t:Str}:t.isPrefixOf s=decide (t.length≤s.length∧s.take t.length=t):=by
 rw[G1,E1,z8]
 constructor
 ·rintro⟨r,rfl⟩;exact⟨a7,a7⟩
 ·rintro⟨h1,h2⟩;exact⟨s.drop t.length,(congrArg (· ++ s.drop t.length) h2.symm).trans (E3 _ _)⟩
theorem zB (s p:Str):preB p s=p.isPrefixOf s:=by
 rw[tl]
 unfold preB
 rw[decide_eq_decide]
 constructor
 ·intro h
  have:=congrArg List.length h
  rw[y8] at this
  exact⟨a6,h⟩
 ·exact fun h=>h.2
theorem nw (s t:Str):ap Tryz.prog 162 [sv s,sv t] (· = bv (t.isPrefixOf s)):=by
 refine hdP Tryz.func162 rfl [4] fun g=>?_
 simp only[go_sem]
 refine aV rfl (by simp only[go_sem];exact sH s t) ?_
 rintro _ rfl
 simp only[go_sem,zB]
theorem vX {s:St}{c:C}{x:D} (h:Frz s c x):iR s (.one c) (.one (.d x)):=⟨_,h,rfl⟩
def fB (t:Src.Tok):List D:=[.int .i64 (t.kind:Nat),.str t.text,.int .u32 (t.num:Nat),.int .i64 (t.place:Nat)]
def fM (t:Src.Tok):AV:=.agg ((fB t).map .d)
def lB:Src.R (Nat×Str×Nat)→AV
 |.ok (k,t,v)=>.tup [fM ⟨k,t,v,0⟩,iv .i64 0]
 |.err e=>.tup [fM ⟨0,[],0,0⟩,iv .i64 (e:Nat)]
theorem cm {s:St}{k v e:Nat}{t:Str}:qP s [.agg [.d (.int .i64 (k:Nat)),.d (.str t),.d (.int .u32 (v:Nat)),.d (.int .i64 0)],iv .i64 (e:Nat)] (.tup [fM ⟨k,t,v,0⟩,iv .i64 (e:Nat)]):=by
 refine⟨_,⟨_,_,rfl,⟨[.int .i64 (k:Nat),.str t,.int .u32 (v:Nat),.int .i64 0],rfl,fun i c hc'=>?_,rfl⟩,_,_,rfl,cc _,rfl⟩,rfl⟩
 match i,hc' with
 |0,hc'=>cases hc';exact⟨_,rfl,.d _⟩
 |1,hc'=>cases hc';exact⟨_,rfl,.d _⟩
 |2,hc'=>cases hc';exact⟨_,rfl,.d _⟩
 |3,hc'=>cases hc';exact⟨_,rfl,.d _⟩
theorem Cf (c:UInt8) (n:Nat):n≤xp n c:=by unfold xp;omega
theorem wW (s:Str) (k:Nat):dy (s.take k)≤dy s:=by
 have h:∀(l:Str) (n:Nat),n≤l.foldl xp n:=fun l=>by
  induction l with
  |nil=>intro n;exact b9 _
  |cons c l ih=>intro n;exact z6 (Cf c n) (ih _)
 conv=>rhs;rw[←E3 k s]
 unfold dy
 rw[List.foldl_append]
 exact h _ _
theorem uL (s:Str) (hs:s.length≤1000000000) (hd:s.all digit=true):ap Tryz.prog 197 [sv s] (· = lB (if 4294967295<dy s then .err 2 else .ok (2,s,dy s))):=by
 refine hdR Tryz.func197 rfl [.cell 2 101,.tmp 3] fun g=>?_
 simp only[go_sem]
 refine cN (fun n st=>∃k:Nat,n+k=s.length∧st.f 0=sv s∧st.f 2=.one (.ptr 2 (nxC 102 (g 2)) 0)∧st.gen 2=nxC 102 (g 2)∧st.obj 2=some [.d (.int .i64 0),.d (.str []),.d (.int .u32 0),.d (.int .i64 0)]∧st.f 4=iv .u64 (dy (s.take k):Nat)∧st.f 5=iv .i64 k∧dy (s.take k)≤4294967295) s.length ?_ ?_
 ·refine⟨0,a6,?_⟩
  simp only[go_sem]
  exact⟨rfl,a8⟩
 rintro n f g' ob ⟨k,hk,q0,q2,g2,o2,q4,q5,hle⟩
 simp only at q0 q2 g2 o2 q4 q5
 have hw:=ag (k:=k) a6
 have hk0:(0:Int)≤(k:Int):=a6
 by_cases hlt:k<s.length
 ·obtain⟨c,hc⟩:=getq hlt
  have hlti:(k:Int)<(s.length:Int):=a6
  have hnx:=qv hc
  have hmono:=wW s (k+1)
  have hdc:=kg.1 (l7.1 hd c (l4 hc))
  have w1:IntKind.u64.wrap ((dy (s.take k):Int)*10)=((dy (s.take k)*10:Nat):Int):=by rw[IntKind.wrap_u64];omega
  have w2:IntKind.u8.wrap ((c.toNat:Int)-48)=((c.toNat-48:Nat):Int):=by rw[IntKind.wrap_u8];omega
  have w3:IntKind.u64.wrap ((c.toNat-48:Nat):Int)=((c.toNat-48:Nat):Int):=by rw[IntKind.wrap_u64];omega
  have w4:IntKind.u64.wrap (((dy (s.take k)*10:Nat):Int)+((c.toNat-48:Nat):Int))=(dy (s.take (k+1)):Int):=by rw[IntKind.wrap_u64,hnx];omega
  by_cases hbig:4294967295<dy (s.take (k+1))
  ·have hbi:(4294967295:Int)<(dy (s.take (k+1)):Int):=a6
   rw[if_pos a6]
   simp only[go_sem,q0,q2,g2,o2,q4,q5,hlti,hk0,hc,w1,w2,w3,w4,hbi]
   exact⟨_,cm (k:=0) (v:=0) (e:=2),rfl⟩
  ·have hbi:¬(4294967295:Int)<(dy (s.take (k+1)):Int):=a6
   simp only[go_sem,q0,q2,g2,o2,q4,q5,hlti,hk0,hc,w1,w2,w3,w4,hbi,hw]
   refine bH (n-1) a6 ⟨k+1,a6,?_⟩
   simp only[go_sem,q0,q2,g2,o2]
   omega
 ·obtain rfl:k=s.length:=a6
  have hlti:¬(s.length:Int)<(s.length:Int):=a6
  rw[j4 (b9 _)] at q4 hle
  have w5:IntKind.u32.wrap (dy s:Int)=(dy s:Int):=by rw[IntKind.wrap_u32];omega
  rw[if_neg a6]
  simp only[go_sem,q0,q2,g2,o2,q4,q5,hlti,w5]
  exact⟨_,cm (k:=2) (e:=0),rfl⟩
def ma:Str→Src.R (Nat×Str×Nat)
 |c::x::y::_=>if y=39∧32≤x.toNat∧x.toNat≤126∧x≠39∧x≠92 then .ok (2,[c,x,y],x.toNat) else .err 3
 |_=>.err 3
theorem zO (s:Str):ap Tryz.prog 198 [sv s] (· = lB (ma s)):=by
 refine hdR Tryz.func198 rfl [.cell 2 101,.tmp 3] fun g=>?_
 by_cases hlen:s.length<3
 ·have hi:(s.length:Int)<3:=a6
  have hb:ma s=.err 3:=by
   match s,hlen with
   |[],_=>rfl
   |[_],_=>rfl
   |[_,_],_=>rfl
   |_::_::_::_,h=>simp at h;omega
  rw[hb]
  simp only[go_sem,hi]
  exact MS
 obtain⟨c,x,y,r,rfl⟩:∃c x y r,s=c::x::y::r:=by
  match s,hlen with
  |c::x::y::r,_=>exact⟨c,x,y,r,rfl⟩
  |[],h=>simp at h
  |[_],h=>simp at h
  |[_,_],h=>simp at h
 have hi:¬((c::x::y::r).length:Int)<3:=a6
 have h2:(c::x::y::r)[2]? = some y:=rfl
 have h1:(c::x::y::r)[1]? = some x:=rfl
 have ht:(c::x::y::r).take 3=[c,x,y]:=rfl
 have hl3:3≤(c::x::y::r).length:=a7
 rw[show ma (c::x::y::r)=(if y=39∧32≤x.toNat∧x.toNat≤126∧x≠39∧x≠92 then .ok (2,[c,x,y],x.toNat) else .err 3) from rfl]
 generalize (c::x::y::r)=s at hi h2 h1 ht hl3
 by_cases e1:y=39
 case neg=>
  have e1i:¬((y.toNat:Nat):Int)=39:=fW (d:=39) e1
  rw[if_neg (fun h=>e1 h.1)]
  simp only[go_sem,hi,h2,e1i]
  exact MS
 have e1i:((y.toNat:Nat):Int)=39:=by rw[e1];rfl
 by_cases e2:32≤x.toNat
 case neg=>
  have e2i:((x.toNat:Nat):Int)<32:=a6
  rw[if_neg (fun h=>e2 h.2.1)]
  simp only[go_sem,hi,h2,h1,e1i,e2i]
  exact MS
 have e2i:¬((x.toNat:Nat):Int)<32:=a6
 by_cases e3:x.toNat≤126
 case neg=>
  have e3i:(126:Int)<((x.toNat:Nat):Int):=a6
  rw[if_neg (fun h=>e3 h.2.2.1)]
  simp only[go_sem,hi,h2,h1,e1i,e2i,e3i]
  exact MS
 have e3i:¬(126:Int)<((x.toNat:Nat):Int):=a6
 by_cases e4:x=39
 ·have e4i:((x.toNat:Nat):Int)=39:=by rw[e4];rfl
  rw[if_neg (fun h=>h.2.2.2.1 e4)]
  simp only[go_sem,hi,h2,h1,e1i,e2i,e3i,e4i]
  exact MS
 have e4i:¬((x.toNat:Nat):Int)=39:=fW (d:=39) e4
 by_cases e5:x=92
 ·have e5i:((x.toNat:Nat):Int)=92:=by rw[e5];rfl
  rw[if_neg (fun h=>h.2.2.2.2 e5)]
  simp only[go_sem,hi,h2,h1,e1i,e2i,e3i,e4i,e5i]
  exact MS
 have e5i:¬((x.toNat:Nat):Int)=92:=fW (d:=92) e5
 rw[if_pos ⟨e1,e2,e3,e4,e5⟩]
 have w5:IntKind.u32.wrap ((x.toNat:Nat):Int)=((x.toNat:Nat):Int):=by have:=x.toNat_lt;rw[IntKind.wrap_u32];omega
 simp only[go_sem,hi,h2,h1,e1i,e2i,e3i,e4i,e5i]
 refine bS b0 ?_
 simp only[go_sem,h1,w5,E7,ht]
 exact⟨hl3,_,cm (k:=2) (e:=0),rfl⟩
end
end Go.Proofs.YtphohejoiocikaaGreatDoor
namespace Go.Am
section
section
section
variable {P:Program}{T:Nat→TI}{b₀:Bs}{β:Loc}{g:Nat→Nat}{ob:Obs}{n₀:Nat}{w w':World}
end
end
end
end Go.Am
namespace Go.Proofs.YtphohejoiocikaaGreatDoor
section
attribute [local congr] Go.Am.ite_cc
open Go Go.Am Go.Asm
def mM (o:bU):Prop:=∀w:World,lr 5 o w→(∀(i:Nat) t,Src.cE[i]? = some t→w.cell? ⟨5,i,none⟩=some (.string ⟨t.toArray⟩))∧(∀(i:Nat) t,Src.eV[i]? = some t→w.cell? ⟨2,i,none⟩=some (.string ⟨t.toArray⟩))
theorem zP {o:bU} (ho:mM o) (s:Str):bu Tryz.prog 5 o 203 [sv s] (· = bv (decide (s∈Src.cE))):=by
 refine hdG Tryz.func203 rfl [.tmp 2] fun b₀ β0 s0 w0 g=>?_
 have hwl:Src.cE.length=10:=rfl
 simp only[go_sem]
 refine aM (fun n st=>∃k:Nat,n+k=10∧st.f 0=sv s∧st.f 4=iv .i64 k∧s∉Src.cE.take k) 10 ?_ ?_
 ·refine⟨0,rfl,?_⟩
  simp only[go_sem]
  simp
 rintro n f g' ob ⟨k,hk,q0,q4,hno⟩
 simp only at q0 q4
 have hw:=ag (k:=k) a6
 by_cases hlt:k<10
 ·have hlti:(k:Int)<10:=a6
  obtain⟨t,ht⟩:=getq (l:=Src.cE) (k:=k) a6
  simp only[go_sem,q0,q4,hlti]
  refine mn aB (fun s β ds w h=>h.1.2) aQ (n:=10) (e:=9) rfl rfl a8 (kd:=.i64) (i:=k) (by simp only[go_sem,q4]) hlt (cs:=[.str t]) (fun j x hx=>by match j,hx with|0,hx=>cases hx;rfl) (fun w hw j x hx=>by
   match j,hx with
   | 0,hx=>cases hx;rw[show k*(Tt 9).size+0=k from by show k*1+0=k;omega];exact(ho w hw).1 k t ht) ?_
  by_cases he:t=s
  ·have hin:s∈Src.cE:=he▸l4 ht
   simp only[go_sem,q0,he]
   exact(w9 hin).symm
  ·simp only[go_sem,q0,q4,he,hw]
   refine ar (n-1) a6 ⟨k+1,a6,?_⟩
   simp only[go_sem,q0]
   rw[B9,ht]
   simp[hno,C5 he]
 ·obtain rfl:k=10:=a6
  rw[j4 (by rw[hwl];decide)] at hno
  simp only[go_sem,q0,q4,show ¬((10:Nat):Int)<10 by decide]
  exact(s6 hno).symm
def mb (s:Str):Src.R (Nat×Str×Nat):=if 20<s.length then .err 2 else if s∈Src.cE then .ok (3,s,0) else .ok (1,s,0)
theorem zQ {o:bU} (ho:mM o) (s:Str):bu Tryz.prog 5 o 200 [sv s] (· = lB (mb s)):=by
 refine hdG Tryz.func200 rfl [.cell 2 101,.tmp 3] fun b₀ β0 s0 w0 g=>?_
 unfold mb
 by_cases h20:20<s.length
 ·have h20i:(20:Int)<(s.length:Int):=a6
  rw[if_pos h20]
  simp only[go_sem,h20i,fP]
  exact⟨_,cm (k:=0) (v:=0) (e:=2),rfl⟩
 have h20i:¬(20:Int)<(s.length:Int):=a6
 rw[if_neg h20]
 simp only[go_sem,h20i]
 refine er rfl (by simp only[go_sem];exact zP ho s) ?_
 rintro _ rfl
 by_cases hin:s∈Src.cE
 ·rw[if_pos hin,w9 hin]
  simp only[go_sem,fP]
  exact⟨_,cm (k:=3) (v:=0) (e:=0),rfl⟩
 ·rw[if_neg hin,s6 hin]
  simp only[go_sem,fP]
  exact⟨_,cm (k:=1) (v:=0) (e:=0),rfl⟩
end
end Go.Proofs.YtphohejoiocikaaGreatDoor
