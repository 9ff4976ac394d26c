/- A part of the proof; no conditions. -/
import Derived.Test.YtphohejoiocikaaGreatDoorPart1
import Derived.Deep.MidRow
import Derived.Deep.AppendSrc
import Derived.Laws.MakeOwn
import Derived.MapKept
set_option linter.unusedSimpArgs false
set_option linter.unusedVariables false
set_option maxHeartbeats 64000000
set_option maxRecDepth 100000
namespace Go.Am
section
section
structure Bs where
 B:Nat
 I:Nat→Prop
abbrev Loc:=Nat→Option Addr
abbrev Obs:=Nat→Option (List C)
def Imm (b₀:Bs) (β:Loc) (ob:Obs) (w:World) (b:Nat):Prop:=
 b<w.heap.size∧(b<b₀.B→b₀.I b)∧∀id a,(ob id).isSome=true→β id=some a→a.block≠b
inductive bm (J:Nat→Prop) (w:World):D→Value→Prop where
 |bool (b:Bool):bm J w (.bool b) (.bool b)
 |int (k:IntKind) (n:Int):bm J w (.int k n) (.int k n)
 |str (s:List UInt8):bm J w (.str s) (.string ⟨s.toArray⟩)
 |nsl:bm J w .nsl (.slice none 0 0)
 |nilp:bm J w .nilp (.pointer none)
 |nilf:bm J w .nilf .nilFunc
 |nili:bm J w .nili .nilIface
 |nilm:bm J w .nilm (.map none)
 |fn (f:FuncId):bm J w (.fn f) (.func (.func f) #[] #[])
 |yld (l:Nat):bm J w (.yld l) (.func (.yield l) #[] #[])
 |sl0 {a:Option Addr}{cap:Nat}:bm J w (.sl []) (.slice a 0 cap)
 |sl {es:List (List D)}{b off cap sz:Nat} (vals:Nat→Nat→Value) (hcap:es.length≤cap) (hJ:es≠[]→J b) (hsz:∀e∈es,e.length=sz)
    (hc:∀i e,es[i]? = some e→∀j x,e[j]? = some x→w.cell? ⟨b,off+i*sz+j,none⟩=some (vals i j))
    (hr:∀i e,es[i]? = some e→∀j x,e[j]? = some x→bm J w x (vals i j)):bm J w (.sl es) (.slice (some ⟨b,off,none⟩) es.length cap)
 |iptr {cs:List D}{b off:Nat} (vals:Nat→Value) (hJ:cs≠[]→J b)
    (hc:∀j x,cs[j]? = some x→w.cell? ⟨b,off+j,none⟩=some (vals j))
    (hr:∀j x,cs[j]? = some x→bm J w x (vals j)):bm J w (.iptr cs) (.pointer (some ⟨b,off,none⟩))
variable {w:World}{b₀:Bs}{β:Loc}{a:Addr}{v:Value}{g:Nat→Nat}{ob:Obs}{e:Nat}{kd:Nat}
theorem gM {w w':World} (h:w'.heap[a.block]? = w.heap[a.block]?):w'.cell? a=w.cell? a:=by simp[World.cell?,h]
theorem bm.mono {J J':Nat→Prop}{w w':World}{x:D} (h:bm J w x v) (hJ:∀b,J b→J' b∧w'.heap[b]? = w.heap[b]?):bm J' w' x v:=by
 induction h with
 |bool b=>exact .bool b
 |int k n=>exact .int k n
 |str s=>exact .str s
 |nsl=>exact .nsl
 |nilp=>exact .nilp
 |nilf=>exact .nilf
 |nili=>exact .nili
 |nilm=>exact .nilm
 |fn f=>exact .fn f
 |yld l=>exact .yld l
 |sl0=>exact .sl0
 |sl vals hcap hj hsz hc hr ih=>
   refine .sl vals hcap (fun h=>(hJ _ (hj h)).1) hsz (fun i e he j x hx=>?_) ih
   rw[gM (hJ _ (hj (by rintro rfl;cases he))).2]
   exact hc i e he j x hx
 |iptr vals hj hc hr ih=>
   refine .iptr vals (fun h=>(hJ _ (hj h)).1) (fun j x hx=>?_) ih
   rw[gM (hJ _ (hj (by rintro rfl;cases hx))).2]
   exact hc j x hx
theorem bm.one {J:Nat→Prop}{x:D} (h:bm J w x v):v.oneCell'=true:=by cases h <;> rfl
def ju (w:World) (sz off len:Nat) (v:Value):Option Addr→Prop
 |none=>len=0∧v=.slice none 0 0
 | some a=>a.spot=none∧((∃cap,v=.slice (some ⟨a.block,a.off+off,none⟩) len cap∧len≤cap∧∀arr el fr,w.heap[a.block]? = some (.cells arr el fr)→a.off+off+cap*sz≤arr.size)∨
    (len=0∧∃o,v=.slice (some ⟨a.block,o,none⟩) 0 0))
def dV:D→Value
 |.bool b=>.bool b
 |.int k n=>.int k n
 |.str s=>.string ⟨s.toArray⟩
 |.nsl=>.slice none 0 0
 |.nilp=>.pointer none
 |.nilf=>.nilFunc
 |.nili=>.nilIface
 |.nilm=>.map none
 |_=>undef
inductive cI (R:C→Value→Prop) (kd:TypeDesc):List C→List MapEntry→Prop
 |nil:cI R kd [] []
 |cons {k:D}{c:C}{e:MapEntry}{cs:List C}{es:List MapEntry} (hk:gl kd k=true) (h1:e.key=dV k) (h2:R c e.val) (h:cI R kd cs es):cI R kd (.d k::c::cs) (e::es)
theorem cI.mono {R R':C→Value→Prop}{kd:TypeDesc}{cs:List C}{es:List MapEntry} (h:cI R kd cs es) (hr:∀c v,R c v→R' c v):cI R' kd cs es:=by
 induction h with
 |nil=>exact .nil
 |cons hk h1 h2 _ ih=>exact .cons hk h1 (hr _ _ h2) ih
def wu (f:Nat) (vs:Array Value):Value:=if f<1000000 then .func (.func f) #[] vs else .func (.func (f-1000000)) vs #[]
theorem qM {f:Nat} (h:f<1000000) (vs:Array Value):wu f vs=.func (.func f) #[] vs:=if_pos h
theorem xE (f:Nat) (vs:Array Value):wu (f+1000000) vs=.func (.func f) vs #[]:=by unfold wu;rw[if_neg a6,Nat.add_sub_cancel]
theorem xF (f:Nat) (vs:Array Value):(wu f vs).oneCell'=true:=by unfold wu;split <;> rfl
def ie (kd:Nat):TypeDesc:=if kd<200 then dt kd else dt (kd-200)
section
variable (b₀:Bs) (β:Loc) (g:Nat→Nat) (ob:Obs) (w:World)
def fU:PC→Value→Prop
 |.d x,v=>bm (Imm b₀ β ob w) w x v
 |.ptr id g' off,v=>v.oneCell'=true∧g'≤g id∧(g id=g'→(ob id).isSome=true→∃a,β id=some a∧a.spot=none∧v=.pointer (some ⟨a.block,a.off+off,none⟩))
def aj:C→Value→Prop
 |.d x,v=>bm (Imm b₀ β ob w) w x v
 |.osl id g' sz off len,v=>v.oneCell'=true∧g'≤g id∧(g id=g'→(ob id).isSome=true→ju w sz off len v (β id))
 |.ptr id g' off,v=>v.oneCell'=true∧g'≤g id∧(g id=g'→(ob id).isSome=true→∃a,β id=some a∧a.spot=none∧v=.pointer (some ⟨a.block,a.off+off,none⟩))
 |.clo f caps,v=>∃vs:Array Value,v=wu f vs∧vs.size=caps.length∧∀(i:Nat) (pc:PC),caps[i]? = some pc→∃u,vs[i]? = some u∧fU b₀ β g ob w pc u
 |.mp id g' kd,v=>v.oneCell'=true∧g'≤g id∧(g id=g'→(ob id).isSome=true→∃a,β id=some a∧(a.spot=some kd∧kd≠100)∧v=.map (some a.block))
 |.lsl n,v=>∃a cap,v=.slice a n cap
 |.raw _,_=>False
def gP (kd:Nat) (c:C) (v:Value):Prop:=
 if kd<200 then aj b₀ β g ob w c v else ∃ds vs,c=.d (.iptr ds)∧v=.agg vs∧vs.size=ds.length∧∀(i:Nat) (x:D),ds[i]? = some x→∃u,vs[i]? = some u∧bm (Imm b₀ β ob w) w x u
def ig (cs:List C) (vs:Array Value):Prop:=vs.size=cs.length∧∀(i:Nat) (c:C),cs[i]? = some c→∃u,vs[i]? = some u∧aj b₀ β g ob w c u
mutual
def ab:AV→Value→Prop
 |.one c,v=>aj b₀ β g ob w c v
 |.agg cs,v=>∃vs,v=.agg vs∧ig b₀ β g ob w cs vs
 |.tup ts,v=>∃vs:List Value,v=.tuple vs.toArray∧au ts vs
 |.junk,_=>True
 |.exact u,v=>v=u
def au:List AV→List Value→Prop
 |[],vs=>vs=[]
 |t::ts,vs=>∃u us,vs=u::us∧ab t u∧au ts us
end
def qN (e:Nat) (cells:List C) (a:Addr):Prop:=
 b₀.B≤a.block∧∃arr el lo hi,w.heap[a.block]? = some (.cells arr el (lo,hi))∧((hi≤lo∨arr.size≤lo)∧(code e≠0→el+1=code e∧a.off=0))∧a.off+cells.length≤arr.size∧
   ∀(j:Nat) (c:C),cells[j]? = some c→∃v,arr[a.off+j]? = some v∧aj b₀ β g ob w c v
def xG (cells:List C) (a:Addr) (kd:Nat):Prop:=
 b₀.B≤a.block∧((∃es clock,w.heap[a.block]? = some (.map es clock)∧cI (gP b₀ β g ob w kd) (ie kd) cells es.toList)∨(kd=100∧∃o,cells=[.raw o]∧w.heap[a.block]? = some o))
def cw (e:Nat) (cells:List C):Option Addr→Prop
 |none=>cells=[]
 |some a=>match a.spot with
   |none=>qN b₀ β g ob w e cells a
   |some kd=>xG b₀ β g ob w cells a kd
end
theorem cw.cells {b₀:Bs}{β:Loc}{g:Nat→Nat}{ob:Obs}{w:World}{e:Nat}{cells:List C}{a:Addr} (h:cw b₀ β g ob w e cells (some a)) (hs:a.spot=none):qN b₀ β g ob w e cells a:=by
 simp only[cw,hs] at h;exact h
theorem cw.ofCells{cells:List C} (hs:a.spot=none) (h:qN b₀ β g ob w e cells a):cw b₀ β g ob w e cells (some a):=by
 simp only[cw,hs];exact h
theorem cw.map{cells:List C} (h:cw b₀ β g ob w e cells (some a)) (hs:a.spot=some kd):xG b₀ β g ob w cells a kd:=by
 simp only[cw,hs] at h;exact h
theorem cw.ofMap{cells:List C} (hs:a.spot=some kd) (h:xG b₀ β g ob w cells a kd):cw b₀ β g ob w e cells (some a):=by
 simp only[cw,hs];exact h
theorem cw.block {b₀:Bs}{β:Loc}{g:Nat→Nat}{ob:Obs}{w:World}{e:Nat}{cells:List C}{a:Addr} (h:cw b₀ β g ob w e cells (some a)):b₀.B≤a.block∧a.block<w.heap.size:=by
 cases hs:a.spot with
 |none=>
   obtain⟨h1,arr,el,lo,hi,h2,_⟩:=h.cells hs
   exact⟨h1,(s9.1 h2).1⟩
 |some kd=>
   obtain⟨h1,⟨es,clock,h2,_⟩|⟨_,o,_,h2⟩⟩:=h.map hs
   ·exact⟨h1,(s9.1 h2).1⟩
   ·exact⟨h1,(s9.1 h2).1⟩
structure Rel (b₀:Bs) (N:Nat) (s:St) (β:Loc) (a:Act) (w:World):Prop where
 defers:a.defers=[]
 size:a.tmps.size=N
 f:∀i,ab b₀ β s.gen s.obj w (s.f i) (a.tmps.getD i undef)
 obj:∀id cells,s.obj id=some cells→cw b₀ β s.gen s.obj w (s.gen id) cells (β id)
 inj:∀id id' a a',(s.obj id).isSome=true→(s.obj id').isSome=true→β id=some a→β id'=some a'→a.block=a'.block→id=id'
 base:b₀.B≤w.heap.size
structure dO (b₀:Bs) (β:Loc) (g:Nat→Nat) (ob:Obs) (w:World) (β':Loc) (g':Nat→Nat) (ob':Obs) (w':World):Prop where
 imm:∀b,Imm b₀ β ob w b→Imm b₀ β' ob' w' b∧w'.heap[b]? = w.heap[b]?
 gen:∀id,g id≤g' id
 live:∀id,g' id=g id→(ob' id).isSome=true→(ob id).isSome=true∧β' id=β id∧
  (∀a,β id=some a→∀arr el fr,w'.heap[a.block]? = some (.cells arr el fr)→∃arr0 el0 fr0,w.heap[a.block]? = some (.cells arr0 el0 fr0)∧arr0.size≤arr.size)
def Ext (w w':World):Prop:=w.heap.size≤w'.heap.size∧∀b,b<w.heap.size→w'.heap[b]? = w.heap[b]?
theorem Ext.refl:Ext w w:=⟨b9 _,fun _ _=>rfl⟩
theorem Ext.trans {w w' w'':World} (h:Ext w w') (h':Ext w' w''):Ext w w'':=⟨z6 h.1 h'.1,fun b hb=>(h'.2 b (F8 hb h.1)).trans (h.2 b hb)⟩
theorem Ext.cells {w w':World} (h:Ext w w') {b:Nat}{o:Obj} (hb:w.heap[b]? = some o):w'.heap[b]? = some o:=(h.2 b (s9.1 hb).1).trans hb
theorem Ext.cell {w w':World} (h:Ext w w') {a:Addr}{v:Value} (hb:w.cell? a=some v):w'.cell? a=some v:=by
 have hlt:a.block<w.heap.size:=World.block_lt_of_cell? w a hb
 simpa[World.cell?,h.2 a.block hlt] using hb
structure Tr (b₀:Bs) (β:Loc) (s:St) (w:World) (β':Loc) (s':St) (w':World):Prop where
 size:w.heap.size≤w'.heap.size
 old:∀b,b<b₀.B→w'.heap[b]? = w.heap[b]?
 keep:dO b₀ β s.gen s.obj w β' s'.gen s'.obj w'
 os:w'.os=w.os∧w'.output=w.output
theorem Tr.imm {b₀:Bs}{β β':Loc}{s s':St}{w w':World} (h:Tr b₀ β s w β' s' w'):∀b,Imm b₀ β s.obj w b→Imm b₀ β' s'.obj w' b∧w'.heap[b]? = w.heap[b]?:=h.keep.imm
theorem Tr.gen {b₀:Bs}{β β':Loc}{s s':St}{w w':World} (h:Tr b₀ β s w β' s' w'):∀id,s.gen id≤s'.gen id:=h.keep.gen
theorem dO.trans {b₀:Bs}{β β' β'':Loc}{g g' g'':Nat→Nat}{ob ob' ob'':Obs}{w w' w'':World} (h:dO b₀ β g ob w β' g' ob' w') (h':dO b₀ β' g' ob' w' β'' g'' ob'' w''):dO b₀ β g ob w β'' g'' ob'' w'':=by
 refine⟨fun b hb=>⟨(h'.imm b (h.imm b hb).1).1,((h'.imm b (h.imm b hb).1).2).trans (h.imm b hb).2⟩,fun id=>z6 (h.gen id) (h'.gen id),fun id hg ho=>?_⟩
 have h1:=h.gen id
 have h2:=h'.gen id
 obtain⟨k1,k2,k3⟩:=h'.live id a6 ho
 obtain⟨l1,l2,l3⟩:=h.live id a6 k1
 refine⟨l1,k2.trans l2,fun a ha arr el fr hh=>?_⟩
 obtain⟨arr0,el0,fr0,e1,e2⟩:=k3 a (l2.trans ha) arr el fr hh
 obtain⟨arr1,el1,fr1,e3,e4⟩:=l3 a ha arr0 el0 fr0 e1
 exact⟨arr1,el1,fr1,e3,z6 e4 e2⟩
theorem dO.refl':dO b₀ β g ob w β g ob w:=⟨fun _ h=>⟨h,rfl⟩,fun _=>b9 _,fun _ _ h=>⟨h,rfl,fun _ _ arr el fr hh=>⟨arr,el,fr,hh,b9 _⟩⟩⟩
theorem Tr.refl{s:St}:Tr b₀ β s w β s w:=⟨b9 _,fun _ _=>rfl,dO.refl',rfl,rfl⟩
theorem Tr.trans {b₀:Bs}{β β' β'':Loc}{s s' s'':St}{w w' w'':World} (h:Tr b₀ β s w β' s' w') (h':Tr b₀ β' s' w' β'' s'' w''):Tr b₀ β s w β'' s'' w'':=
 ⟨z6 h.size h'.size,fun b hb=>(h'.old b hb).trans (h.old b hb),h.keep.trans h'.keep,h'.os.1.trans h.os.1,h'.os.2.trans h.os.2⟩
section
variable {b₀:Bs}{β β':Loc}{g g':Nat→Nat}{ob ob':Obs}{w w':World}
theorem ju.keep {sz off len:Nat}{x:Option Addr} (h:ju w sz off len v x)
  (hk:∀a,x=some a→∀arr el fr,w'.heap[a.block]? = some (.cells arr el fr)→∃arr0 el0 fr0,w.heap[a.block]? = some (.cells arr0 el0 fr0)∧arr0.size≤arr.size):ju w' sz off len v x:=by
 cases x with
 |none=>exact h
 |some a=>
   obtain⟨hsp,h⟩:=h
   refine⟨hsp,?_⟩
   rcases h with⟨cap,hv,hl,hs⟩|h
   ·refine .inl ⟨cap,hv,hl,fun arr el fr hh=>?_⟩
    obtain⟨arr0,el0,fr0,h0,hle⟩:=hk a rfl arr el fr hh
    exact z6 (hs _ _ _ h0) hle
   ·exact .inr h
theorem fU.keep (hk:dO b₀ β g ob w β' g' ob' w') {c:PC} (h:fU b₀ β g ob w c v):fU b₀ β' g' ob' w' c v:=by
 cases c with
 |d x=>exact bm.mono h hk.imm
 |ptr id g1 off=>
   exact Mp
theorem aj.keep (hk:dO b₀ β g ob w β' g' ob' w') {c:C}{v:Value} (h:aj b₀ β g ob w c v):aj b₀ β' g' ob' w' c v:=by
 cases c with
 |d x=>exact bm.mono h hk.imm
 |osl id g1 sz off len=>
   obtain⟨h1,h2,h3⟩:=h
   refine⟨h1,z6 h2 (hk.gen id),fun hg ho=>?_⟩
   have e:g' id=g id:=K8 a6 (hk.gen id)
   obtain⟨l1,l2,l3⟩:=hk.live id e ho
   rw[l2];exact(h3 a6 l1).keep l3
 |ptr id g1 off=>
   exact Mp
 |clo f caps=>
   obtain⟨vs,h1,h2,h3⟩:=h
   exact⟨vs,h1,h2,fun i pc hp=>let ⟨u,hu,hr⟩:=h3 i pc hp;⟨u,hu,hr.keep hk⟩⟩
 |mp id g1 kd=>
   exact Mp
 |lsl n=>exact h
 |raw o=>exact h.elim
theorem gP.keep (hk:dO b₀ β g ob w β' g' ob' w') {kd:Nat}{c:C}{v:Value} (h:gP b₀ β g ob w kd c v):gP b₀ β' g' ob' w' kd c v:=by
 unfold gP at h ⊢
 split
 ·rename_i hk'
  rw[if_pos hk'] at h
  exact aj.keep hk h
 ·rename_i hk'
  rw[if_neg hk'] at h
  obtain⟨ds,vs,h1,h2,h3,h4⟩:=h
  exact⟨ds,vs,h1,h2,h3,fun i x hx=>let ⟨u,hu,hr⟩:=h4 i x hx;⟨u,hu,bm.mono hr hk.imm⟩⟩
theorem vh (h:kd<200):gP b₀ β g ob w kd=aj b₀ β g ob w:=by funext c v;unfold gP;rw[if_pos h]
theorem ig.keep (hk:dO b₀ β g ob w β' g' ob' w') {cs:List C}{vs:Array Value} (h:ig b₀ β g ob w cs vs):ig b₀ β' g' ob' w' cs vs:=
 ⟨h.1,fun i c hc=>let ⟨u,hu,hr⟩:=h.2 i c hc;⟨u,hu,hr.keep hk⟩⟩
mutual
theorem ab.keep (hk:dO b₀ β g ob w β' g' ob' w'):(x:AV)→{v:Value}→ab b₀ β g ob w x v→ab b₀ β' g' ob' w' x v
 |.one _,_,h=>by simp only[ab] at h ⊢;exact aj.keep hk h
 |.agg _,_,h=>by simp only[ab] at h ⊢;obtain⟨vs,h1,h2⟩:=h;exact⟨vs,h1,h2.keep hk⟩
 |.tup ts,_,h=>by simp only[ab] at h ⊢;obtain⟨vs,h1,h2⟩:=h;exact⟨vs,h1,au.keep hk ts h2⟩
 |.junk,_,_=>by simp only[ab]
 |.exact _,_,h=>by simp only[ab] at h ⊢;exact h
theorem au.keep (hk:dO b₀ β g ob w β' g' ob' w'):(x:List AV)→{v:List Value}→au b₀ β g ob w x v→au b₀ β' g' ob' w' x v
 |[],_,h=>by simp only[au] at h ⊢;exact h
 |t::ts,_,h=>by simp only[au] at h ⊢;obtain⟨u,us,h1,h2,h3⟩:=h;exact⟨u,us,h1,ab.keep hk t h2,au.keep hk ts h3⟩
end
theorem aj.one {c:C}{v:Value} (h:aj b₀ β g ob w c v):v.oneCell'=true:=by
 cases c with
 |d x=>exact bm.one h
 |osl=>exact h.1
 |ptr=>exact h.1
 |clo f caps=>obtain⟨vs,rfl,_⟩:=h;exact xF _ _
 |mp=>exact h.1
 |lsl n=>obtain⟨a,cap,rfl⟩:=h;rfl
 |raw o=>exact h.elim
theorem dO.of_heap (h:w'.heap=w.heap):dO b₀ β g ob w β g ob w':=
 ⟨fun b hb=>⟨by unfold Imm at *;rw[h];exact hb,by rw[h]⟩,fun _=>b9 _,fun _ _ ho=>⟨ho,rfl,fun _ _ arr el fr hh=>⟨arr,el,fr,by rw[←h];exact hh,b9 _⟩⟩⟩
theorem cw.keep (hk:dO b₀ β g ob w β' g' ob' w') {e:Nat}{cells:List C}{x:Option Addr} (h:cw b₀ β g ob w e cells x)
  (hb:∀a,x=some a→w'.heap[a.block]? = w.heap[a.block]?):cw b₀ β' g' ob' w' e cells x:=by
 cases x with
 |none=>exact h
 |some a=>
   cases hs:a.spot with
   |none=>
     obtain⟨h2,arr,el,lo,hi,h3,h4,h5,h6⟩:=h.cells hs
     exact .ofCells hs ⟨h2,arr,el,lo,hi,by rw[hb a rfl];exact h3,h4,h5,fun j c hc=>let ⟨v,hv,hr⟩:=h6 j c hc;⟨v,hv,hr.keep hk⟩⟩
   |some kd=>
     obtain⟨h2,⟨es,clock,h3,h4⟩|⟨hk100,o,h3,h4⟩⟩:=h.map hs
     ·exact .ofMap hs ⟨h2,.inl ⟨es,clock,by rw[hb a rfl];exact h3,h4.mono fun _ _=>gP.keep hk⟩⟩
     ·exact .ofMap hs ⟨h2,.inr ⟨hk100,o,h3,by rw[hb a rfl];exact h4⟩⟩
end
theorem Rel.of_heap {b₀:Bs}{N:Nat}{s:St}{β:Loc}{a:Act}{w w':World} (h:Rel b₀ N s β a w) (hw:w'.heap=w.heap):Rel b₀ N s β a w':=
 ⟨h.defers,h.size,fun i=>ab.keep (.of_heap hw) _ (h.f i),fun id cells ho=>(h.obj id cells ho).keep (.of_heap hw) (fun _ _=>by rw[hw]),h.inj,by rw[hw];exact h.base⟩
theorem Rel.put {b₀:Bs}{N:Nat}{s:St}{β:Loc}{a:Act}{w:World} (h:Rel b₀ N s β a w) {dst:Option Nat} (hd:∀d,dst=some d→d<N) {x:AV}{v:Value}
  (hv:ab b₀ β s.gen s.obj w x v):Rel b₀ N (s.put dst x) β (a.put dst v) w:=by
 cases dst with
 |none=>exact h
 |some d=>
   refine⟨h.defers,by simpa[Act.put] using h.size,fun i=>?_,h.obj,h.inj,h.base⟩
   simp only[St.put,Act.put,upd]
   by_cases hi:i=d
   ·subst hi
    have:i<a.tmps.size:=by rw[h.size];exact hd i rfl
    simpa[Array.getD,this] using hv
   ·have hf:=h.f i
    simp only[hi,A1]
    simpa[j7,G5 (C5 hi)] using hf
theorem Tr.same{s s':St}{w w':World} (hg:s'.gen=s.gen) (ho:s'.obj=s.obj) (hw:w'.heap=w.heap) (hos:w'.os=w.os∧w'.output=w.output:=by exact⟨rfl,rfl⟩):Tr b₀ β s w β s' w':=
 ⟨by rw[hw];exact b9 _,fun _ _=>by rw[hw],by rw[hg,ho];exact .of_heap hw,hos⟩
theorem St.put_gen (s:St) (d:Option Nat) (x:AV):(s.put d x).gen=s.gen:=by cases d <;> rfl
theorem St.put_obj (s:St) (d:Option Nat) (x:AV):(s.put d x).obj=s.obj:=by cases d <;> rfl
theorem Rel.ev {b₀:Bs}{N:Nat}{s:St}{β:Loc}{a:Act}{w:World} (h:Rel b₀ N s β a w) (x:Operand):ab b₀ β s.gen s.obj w (s.ev x) (a.eval x):=by
 cases x with
 |tmp t=>exact h.f t
 |const v=>
   simp only[St.ev,Act.eval]
   unfold rL
   split <;> simp only[ab,aj] <;> first|exact .bool _|exact .int _ _|exact .nsl|exact .nilp|exact .nilf|exact .nili|exact .nilm|trivial|skip
   rename_i s'
   have:(Value.string s')=.string ⟨s'.data.toList.toArray⟩:=a7
   rw[this];exact .str _
 |global g=>simp only[St.ev,ab]
 |func f=>simp only[St.ev,Act.eval,ab,aj];exact .fn f
end
end
end Go.Am
