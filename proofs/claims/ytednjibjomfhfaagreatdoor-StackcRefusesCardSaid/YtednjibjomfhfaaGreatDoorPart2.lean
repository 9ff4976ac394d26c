/- A part of the proof; no conditions. -/
import Derived.Test.YtednjibjomfhfaaGreatDoorPart1
import Derived.Deep.MidRow
import Derived.Deep.AppendSrc
import Derived.Laws.MakeOwn
import Derived.MapKept
set_option linter.all false
open List renaming length -> z
open Option renaming some -> S, none -> N
open Bool renaming true -> T, false -> F
set_option maxHeartbeats 64000000
set_option maxRecDepth 100000
namespace Go.Am
section
section
structure Bs where
 B:Nat
 I:Nat->Prop
abbrev Loc:=Nat->Option Addr
abbrev Obs:=Nat->Option (List C)
def Imm(O:Bs)(β:Loc)(ob:Obs)(w:World)(b:Nat):Prop:=
 b<w.heap.size/\(b<O.B->O.I b)/\∀id a,(ob id).isSome=T->β id=S a->a.block≠b
inductive cr (J:Nat->Prop) (w:World):D->Value->Prop where
 |bool (b:Bool):cr J w (.bool b) (.bool b)
 |int (k:IntKind) (n:Int):cr J w (.int k n) (.int k n)
 |str (s:List UInt8):cr J w (.str s) (.string ⟨s.toArray⟩)
 |nsl:cr J w .nsl (.slice none 0 0)
 |nilp:cr J w .nilp (.pointer none)
 |nilf:cr J w .nilf .nilFunc
 |nili:cr J w .nili .nilIface
 |nilm:cr J w .nilm (.map none)
 |fn (f:FuncId):cr J w (.fn f) (.func (.func f) #[] #[])
 |yld (l:Nat):cr J w (.yld l) (.func (.yield l) #[] #[])
 |sl0 {a:Option Addr}{cap:Nat}:cr J w (.sl []) (.slice a 0 cap)
 |sl {es:List (List D)}{b off cap sz:Nat} (p:Nat->Nat->Value) (cc:es.length<=cap) (hJ:es≠[]->J b) (bc:∀e∈es,e.length=sz)
    (hc:∀i e,es[i]?=some e->∀j x,e[j]?=some x->w.cell? ⟨b,off+i*sz+j,none⟩=some (p i j))
    (V:∀i e,es[i]?=some e->∀j x,e[j]?=some x->cr J w x (p i j)):cr J w (.sl es) (.slice (some ⟨b,off,none⟩) es.length cap)
 |iptr {cs:List D}{b off:Nat} (p:Nat->Value) (hJ:cs≠[]->J b)
    (hc:∀j x,cs[j]?=some x->w.cell? ⟨b,off+j,none⟩=some (p j))
    (V:∀j x,cs[j]?=some x->cr J w x (p j)):cr J w (.iptr cs) (.pointer (some ⟨b,off,none⟩))
variable{w:World}{O:Bs}{β:Loc}{a:Addr}{v:Value}{g:Nat->Nat}{ob:Obs}{e:Nat}{kd:Nat}
def me{w w':World}(h:w'.heap[a.block]?=w.heap[a.block]?):w'.cell? a=w.cell? a:=by simp[World.cell?,h]
def cr.mono{J m:Nat->Prop}{w w':World}{x:D}(h:cr J w x v)(d:∀b,J b->m b/\w'.heap[b]?=w.heap[b]?):cr m w' x v:=by
 induction h with
 |bool b=>exact .bool b
 |int k n=>exact .int k n
 |str s=>exact .str s
 |nsl=>exact .nsl
 |nilp=>exact .nilp
 |nilf=>exact .nilf
 |nili=>exact .nili
 |nilm=>exact .nilm
 |fn f=>exact .fn f
 |yld l=>exact .yld l
 |sl0=>exact .sl0
 |sl p t c bc o V q=>
   refine .sl p t (λh=>(d _ (c h)).1) bc (λi e r j x I=>?_) q;rw[me (d _ (c (by rintro rfl;cases r))).2];exact o i e r j x I
 |iptr p c o V q=>
   refine .iptr p (λh=>(d _ (c h)).1) (λj x I=>?_) q;rw[me (d _ (c (by rintro rfl;cases I))).2];exact o j x I
def cr.one{J:Nat->Prop}{x:D}(h:cr J w x v):v.oneCell'=T:=by cases h<;>rfl
def oB(w:World)(sz off len:Nat)(v:Value):Option Addr->Prop
 |none=>len=0/\v=.slice N 0 0
 | some a=>a.spot=N/\((∃b,v=.slice (S ⟨a.block,a.off+off,N⟩) len b/\len<=b/\∀arr el fr,w.heap[a.block]?=S (.cells arr el fr)->a.off+off+b*sz<=arr.size)\/
    (len=0/\∃o,v=.slice (S ⟨a.block,o,N⟩) 0 0))
def dV:D->Value
 |.bool b=>.bool b
 |.int k n=>.int k n
 |.str s=>.string ⟨s.toArray⟩
 |.nsl=>.slice N 0 0
 |.nilp=>.pointer N
 |.nilf=>.nilFunc
 |.nili=>.nilIface
 |.nilm=>.map N
 |_=>undef
inductive eI (R:C->Value->Prop) (kd:TypeDesc):List C->List MapEntry->Prop
 |nil:eI R kd [] []
 |cons {k:D}{c:C}{e:MapEntry}{cs:List C}{es:List MapEntry} (hk:iF kd k=true) (U:e.key=dV k) (Y:R c e.val) (h:eI R kd cs es):eI R kd (.d k::c::cs) (e::es)
def eI.mono{R n:C->Value->Prop}{kd:TypeDesc}{cs:List C}{es:List MapEntry}(h:eI R kd cs es)(V:∀c v,R c v->n c v):eI n kd cs es:=by
 induction h with
 |nil=>exact .nil
 |cons b U Y _ d=>exact .cons b U (V _ _ Y) d
def FJ(f:Nat)(vs:Array Value):Value:=if f<1000000 then .func (.func f) #[] vs else .func (.func (f-1000000)) vs #[]
def uL{f:Nat}(h:f<1000000)(vs:Array Value):FJ f vs=.func (.func f) #[] vs:=l7 h
def Ab(f:Nat)(vs:Array Value):FJ (f+1000000) vs=.func (.func f) vs #[]:=by unfold FJ;rw[j8 a6,Nat.add_sub_cancel]
def Hv(f:Nat)(vs:Array Value):(FJ f vs).oneCell'=T:=by unfold FJ;split<;>rfl
def my(kd:Nat):TypeDesc:=if kd<200 then er kd else er (kd-200)
section
variable(O:Bs)(β:Loc)(g:Nat->Nat)(ob:Obs)(w:World)
def kF:PC->Value->Prop
 |.d x,v=>cr (Imm O β ob w) w x v
 |.ptr id g' off,v=>v.oneCell'=T/\g'<=g id/\(g id=g'->(ob id).isSome=T->∃a,β id=S a/\a.spot=N/\v=.pointer (S ⟨a.block,a.off+off,N⟩))
def aD:C->Value->Prop
 |.d x,v=>cr (Imm O β ob w) w x v
 |.osl id g' sz off len,v=>v.oneCell'=T/\g'<=g id/\(g id=g'->(ob id).isSome=T->oB w sz off len v (β id))
 |.ptr id g' off,v=>v.oneCell'=T/\g'<=g id/\(g id=g'->(ob id).isSome=T->∃a,β id=S a/\a.spot=N/\v=.pointer (S ⟨a.block,a.off+off,N⟩))
 |.clo f c,v=>∃vs:Array Value,v=FJ f vs/\vs.size=z c/\∀(i:Nat)(pc:PC),c[i]?=S pc->∃u,vs[i]?=S u/\kF O β g ob w pc u
 |.mp id g' kd,v=>v.oneCell'=T/\g'<=g id/\(g id=g'->(ob id).isSome=T->∃a,β id=S a/\(a.spot=S kd/\kd≠100)/\v=.map (S a.block))
 |.lsl n,v=>∃a b,v=.slice a n b
 |.raw _,_=>False
def jB(kd:Nat)(c:C)(v:Value):Prop:=
 if kd<200 then aD O β g ob w c v else ∃ds vs,c=.d (.iptr ds)/\v=.agg vs/\vs.size=z ds/\∀(i:Nat)(x:D),ds[i]?=S x->∃u,vs[i]?=S u/\cr (Imm O β ob w) w x u
def mz(cs:List C)(vs:Array Value):Prop:=vs.size=z cs/\∀(i:Nat)(c:C),cs[i]?=S c->∃u,vs[i]?=S u/\aD O β g ob w c u
mutual
def ag:AV->Value->Prop
 |.one c,v=>aD O β g ob w c v
 |.agg cs,v=>∃vs,v=.agg vs/\mz O β g ob w cs vs
 |.tup A,v=>∃vs:List Value,v=.tuple vs.toArray/\aO A vs
 |.junk,_=>True
 |.exact u,v=>v=u
def aO:List AV->List Value->Prop
 |[],vs=>vs=[]
 |t::A,vs=>∃u b,vs=u::b/\ag t u/\aO A b
end
def yx(e:Nat)(cells:List C)(a:Addr):Prop:=
 O.B<=a.block/\∃arr el b d,w.heap[a.block]?=S (.cells arr el (b,d))/\((d<=b\/arr.size<=b)/\(code e≠0->el+1=code e/\a.off=0))/\a.off+z cells<=arr.size/\
   ∀(j:Nat)(c:C),cells[j]?=S c->∃v,arr[a.off+j]?=S v/\aD O β g ob w c v
def Hw(cells:List C)(a:Addr)(kd:Nat):Prop:=
 O.B<=a.block/\((∃b Q,w.heap[a.block]?=S (.map b Q)/\eI (jB O β g ob w kd) (my kd) cells b.toList)\/(kd=100/\∃o,cells=[.raw o]/\w.heap[a.block]?=S o))
def dX(e:Nat)(cells:List C):Option Addr->Prop
 |none=>cells=[]
 |some a=>match a.spot with
   |none=>yx O β g ob w e cells a
   |some kd=>Hw O β g ob w cells a kd
end
def dX.cells{O:Bs}{β:Loc}{g:Nat->Nat}{ob:Obs}{w:World}{e:Nat}{cells:List C}{a:Addr}(h:dX O β g ob w e cells (S a))(b:a.spot=N):yx O β g ob w e cells a:=by
 simp only[dX,b]at h;exact h
def dX.ofCells{cells:List C}(b:a.spot=N)(h:yx O β g ob w e cells a):dX O β g ob w e cells (S a):=by
 simp only[dX,b];exact h
def dX.map{cells:List C}(h:dX O β g ob w e cells (S a))(b:a.spot=S kd):Hw O β g ob w cells a kd:=by
 simp only[dX,b]at h;exact h
def dX.ofMap{cells:List C}(b:a.spot=S kd)(h:Hw O β g ob w cells a kd):dX O β g ob w e cells (S a):=by
 simp only[dX,b];exact h
def dX.block{O:Bs}{β:Loc}{g:Nat->Nat}{ob:Obs}{w:World}{e:Nat}{cells:List C}{a:Addr}(h:dX O β g ob w e cells (S a)):O.B<=a.block/\a.block<w.heap.size:=by
 cases b:a.spot with
 |none=>
   obtain⟨U,arr,el,c,d,Y,_⟩:=h.cells b;exact⟨U,(C8.1 Y).1⟩
 |some kd=>
   obtain⟨U,⟨f,Q,Y,_⟩|⟨_,o,_,Y⟩⟩:=h.map b
   .exact⟨U,(C8.1 Y).1⟩
   .exact⟨U,(C8.1 Y).1⟩
structure Rel (O:Bs) (av:Nat) (s:St) (β:Loc) (a:Act) (w:World):Prop where
 defers:a.defers=[]
 size:a.tmps.size=av
 f:∀i,ag O β s.gen s.obj w (s.f i) (a.tmps.getD i undef)
 obj:∀id cells,s.obj id=some cells->dX O β s.gen s.obj w (s.gen id) cells (β id)
 inj:∀id K a W,(s.obj id).isSome=true->(s.obj K).isSome=true->β id=some a->β K=some W->a.block=W.block->id=K
 base:O.B<=w.heap.size
structure ft (O:Bs) (β:Loc) (g:Nat->Nat) (ob:Obs) (w:World) (E:Loc) (g':Nat->Nat) (Z:Obs) (w':World):Prop where
 imm:∀b,Imm O β ob w b->Imm O E Z w' b/\w'.heap[b]?=w.heap[b]?
 gen:∀id,g id<=g' id
 live:∀id,g' id=g id->(Z id).isSome=true->(ob id).isSome=true/\E id=β id/\
  (∀a,β id=some a->∀arr el fr,w'.heap[a.block]?=some (.cells arr el fr)->∃s bl d,w.heap[a.block]?=some (.cells s bl d)/\s.size<=arr.size)
def Ext(w w':World):Prop:=w.heap.size<=w'.heap.size/\∀b,b<w.heap.size->w'.heap[b]?=w.heap[b]?
def Ext.refl:Ext w w:=⟨l0 _,λ_ _=>rfl⟩
def Ext.trans{w w' i:World}(h:Ext w w')(c:Ext w' i):Ext w i:=⟨C1 h.1 c.1,λb d=>(c.2 b (F7 d h.1)).trans (h.2 b d)⟩
def Ext.cells{w w':World}(h:Ext w w'){b:Nat}{o:Obj}(c:w.heap[b]?=S o):w'.heap[b]?=S o:=(h.2 b (C8.1 c).1).trans c
def Ext.cell{w w':World}(h:Ext w w'){a:Addr}{v:Value}(b:w.cell? a=S v):w'.cell? a=S v:=by
 have c:a.block<w.heap.size:=World.block_lt_of_cell? w a b;simpa[World.cell?,h.2 a.block c]using b
structure Tr (O:Bs) (β:Loc) (s:St) (w:World) (E:Loc) (s':St) (w':World):Prop where
 size:w.heap.size<=w'.heap.size
 old:∀b,b<O.B->w'.heap[b]?=w.heap[b]?
 keep:ft O β s.gen s.obj w E s'.gen s'.obj w'
 os:w'.os=w.os/\w'.output=w.output
def Tr.imm{O:Bs}{β E:Loc}{s c:St}{w w':World}(h:Tr O β s w E c w'):∀b,Imm O β s.obj w b->Imm O E c.obj w' b/\w'.heap[b]?=w.heap[b]?:=h.keep.imm
def Tr.gen{O:Bs}{β E:Loc}{s b:St}{w w':World}(h:Tr O β s w E b w'):∀id,s.gen id<=b.gen id:=h.keep.gen
def ft.trans{O:Bs}{β E c:Loc}{g g' f:Nat->Nat}{ob Z e:Obs}{w w' i:World}(h:ft O β g ob w E g' Z w')(j:ft O E g' Z w' c f e i):ft O β g ob w c f e i:=by
 refine⟨λb k=>⟨(j.imm b (h.imm b k).1).1,((j.imm b (h.imm b k).1).2).trans (h.imm b k).2⟩,λid=>C1 (h.gen id) (j.gen id),λid G ho=>?_⟩;have U:=h.gen id;have Y:=j.gen id;obtain⟨n,o,p⟩:=j.live id a6 ho;obtain⟨q,J,m⟩:=h.live id a6 n;refine⟨q,o.trans J,λa l arr el fr r=>?_⟩;obtain⟨s,bl,d,t,u⟩:=p a (J.trans l) arr el fr r;obtain⟨x,c0,y,A,B⟩:=m a l s bl d t;exact⟨x,c0,y,A,C1 B u⟩
def ft.refl':ft O β g ob w β g ob w:=⟨λ_ h=>⟨h,rfl⟩,λ_=>l0 _,λ_ _ h=>⟨h,rfl,λ_ _ arr el fr b=>⟨arr,el,fr,b,l0 _⟩⟩⟩
def Tr.refl{s:St}:Tr O β s w β s w:=⟨l0 _,λ_ _=>rfl,ft.refl',rfl,rfl⟩
def Tr.trans{O:Bs}{β E c:Loc}{s f P:St}{w w' i:World}(h:Tr O β s w E f w')(d:Tr O E f w' c P i):Tr O β s w c P i:=
 ⟨C1 h.size d.size,λb j=>(d.old b j).trans (h.old b j),h.keep.trans d.keep,d.os.1.trans h.os.1,d.os.2.trans h.os.2⟩
section
variable{O:Bs}{β E:Loc}{g g':Nat->Nat}{ob Z:Obs}{w w':World}
def ft.refl:ft O β g ob w β g ob w:=⟨λ_ h=>⟨h,rfl⟩,λ_=>l0 _,λ_ _ h=>⟨h,rfl,λ_ _ arr el fr b=>⟨arr,el,fr,b,l0 _⟩⟩⟩
def oB.keep{sz off len:Nat}{x:Option Addr}(h:oB w sz off len v x)
 (c:∀a,x=S a->∀arr el fr,w'.heap[a.block]?=S (.cells arr el fr)->∃s bl d,w.heap[a.block]?=S (.cells s bl d)/\s.size<=arr.size):oB w' sz off len v x:=by
 cases x with
 |none=>exact h
 |some a=>
   obtain⟨f,h⟩:=h;refine⟨f,?_⟩;rcases h with⟨b,i,hl,j⟩|h
   .refine .inl ⟨b,i,hl,λarr el fr k=>?_⟩
    obtain⟨s,bl,d,l,m⟩:=c a rfl arr el fr k;exact C1 (j _ _ _ l) m
   .exact .inr h
def kF.keep(hk:ft O β g ob w E g' Z w'){c:PC}(h:kF O β g ob w c v):kF O E g' Z w' c v:=by
 cases c with
 |d x=>exact cr.mono h hk.imm
 |ptr id g1 off=>
   exact o8
def aD.keep(hk:ft O β g ob w E g' Z w'){c:C}{v:Value}(h:aD O β g ob w c v):aD O E g' Z w' c v:=by
 cases c with
 |d x=>exact cr.mono h hk.imm
 |osl id g1 sz off len=>
   obtain⟨U,Y,h3⟩:=h;refine⟨U,C1 Y (hk.gen id),λhg ho=>?_⟩;have e:g' id=g id:=PH a6 (hk.gen id);obtain⟨q,J,m⟩:=hk.live id e ho;rw[J];exact(h3 a6 q).keep m
 |ptr id g1 off=>
   exact o8
 |clo f j=>
   obtain⟨vs,U,Y,h3⟩:=h;exact⟨vs,U,Y,λi pc b=>let ⟨u,hu,V⟩:=h3 i pc b;⟨u,hu,V.keep hk⟩⟩
 |mp id g1 kd=>
   exact o8
 |lsl n=>exact h
 |raw o=>exact h.elim
def jB.keep(b:ft O β g ob w E g' Z w'){kd:Nat}{c:C}{v:Value}(h:jB O β g ob w kd c v):jB O E g' Z w' kd c v:=by
 unfold jB at h|-;split
 .rename_i f
  rw[l7 f]at h;exact aD.keep b h
 .rename_i f
  rw[j8 f]at h;obtain⟨ds,vs,U,Y,d,j⟩:=h;exact⟨ds,vs,U,Y,d,λi x I=>let ⟨u,hu,V⟩:=j i x I;⟨u,hu,cr.mono V b.imm⟩⟩
def yy(h:kd<200):jB O β g ob w kd=aD O β g ob w:=by funext c v;unfold jB;rw[l7 h]
def mz.keep(b:ft O β g ob w E g' Z w'){cs:List C}{vs:Array Value}(h:mz O β g ob w cs vs):mz O E g' Z w' cs vs:=
 ⟨h.1,λi c d=>let ⟨u,hu,V⟩:=h.2 i c d;⟨u,hu,V.keep b⟩⟩
mutual
theorem ag.keep(b:ft O β g ob w E g' Z w'):(x:AV)->{v:Value}->ag O β g ob w x v->ag O E g' Z w' x v
 |.one _,_,h=>by simp only[ag]at h|-;exact aD.keep b h
 |.agg _,_,h=>by simp only[ag]at h|-;obtain⟨vs,U,Y⟩:=h;exact⟨vs,U,Y.keep b⟩
 |.tup A,_,h=>by simp only[ag]at h|-;obtain⟨vs,U,Y⟩:=h;exact⟨vs,U,aO.keep b A Y⟩
 |.junk,_,_=>by simp only[ag]
 |.exact _,_,h=>by simp only[ag]at h|-;exact h
theorem aO.keep(b:ft O β g ob w E g' Z w'):(x:List AV)->{v:List Value}->aO O β g ob w x v->aO O E g' Z w' x v
 |[],_,h=>by simp only[aO]at h|-;exact h
 |t::A,_,h=>by simp only[aO]at h|-;obtain⟨u,c,U,Y,d⟩:=h;exact⟨u,c,U,ag.keep b t Y,aO.keep b A d⟩
end
def aD.one{c:C}{v:Value}(h:aD O β g ob w c v):v.oneCell'=T:=by
 cases c with
 |d x=>exact cr.one h
 |osl=>exact h.1
 |ptr=>exact h.1
 |clo f i=>obtain⟨vs,rfl,_⟩:=h;exact Hv _ _
 |mp=>exact h.1
 |lsl n=>obtain⟨a,b,rfl⟩:=h;rfl
 |raw o=>exact h.elim
def ft.of_heap(h:w'.heap=w.heap):ft O β g ob w β g ob w':=
 ⟨λb c=>⟨by unfold Imm at *;rw[h];exact c,by rw[h]⟩,λ_=>l0 _,λ_ _ ho=>⟨ho,rfl,λ_ _ arr el fr d=>⟨arr,el,fr,by rw[<-h];exact d,l0 _⟩⟩⟩
def dX.keep(k:ft O β g ob w E g' Z w'){e:Nat}{cells:List C}{x:Option Addr}(h:dX O β g ob w e cells x)
 (i:∀a,x=S a->w'.heap[a.block]?=w.heap[a.block]?):dX O E g' Z w' e cells x:=by
 cases x with
 |none=>exact h
 |some a=>
   cases b:a.spot with
   |none=>
     obtain⟨Y,arr,el,l,m,d,f,n,q⟩:=h.cells b;exact .ofCells b ⟨Y,arr,el,l,m,by rw[i a rfl];exact d,f,n,λj c r=>let ⟨v,s,V⟩:=q j c r;⟨v,s,V.keep k⟩⟩
   |some kd=>
     obtain⟨Y,⟨t,Q,d,f⟩|⟨p,o,d,f⟩⟩:=h.map b
     .exact .ofMap b ⟨Y,.inl ⟨t,Q,by rw[i a rfl];exact d,f.mono λ_ _=>jB.keep k⟩⟩
     .exact .ofMap b ⟨Y,.inr ⟨p,o,d,by rw[i a rfl];exact f⟩⟩
end
def Rel.of_heap{O:Bs}{av:Nat}{s:St}{β:Loc}{a:Act}{w w':World}(h:Rel O av s β a w)(c:w'.heap=w.heap):Rel O av s β a w':=
 ⟨h.defers,h.size,λi=>ag.keep (.of_heap c) _ (h.f i),λid b ho=>(h.obj id b ho).keep (.of_heap c) (λ_ _=>by rw[c]),h.inj,by rw[c];exact h.base⟩
def Rel.put{O:Bs}{av:Nat}{s:St}{β:Loc}{a:Act}{w:World}(h:Rel O av s β a w){dst:Option Nat}(hd:∀d,dst=S d->d<av){x:AV}{v:Value}
 (c:ag O β s.gen s.obj w x v):Rel O av (s.put dst x) β (a.put dst v) w:=by
 cases dst with
 |none=>exact h
 |some d=>
   refine⟨h.defers,by simpa[Act.put]using h.size,λi=>?_,h.obj,h.inj,h.base⟩;simp only[St.put,Act.put,upd];by_cases b:i=d
   .subst b
    have:i<a.tmps.size:=by rw[h.size];exact hd i rfl
    simpa[Array.getD,this]using c
   .have j:=h.f i
    simp only[b,B8];simpa[x8,L0 (A9 b)]using j
def Tr.same{s s':St}{w w':World}(hg:s'.gen=s.gen)(ho:s'.obj=s.obj)(hw:w'.heap=w.heap)(q:w'.os=w.os/\w'.output=w.output:=by exact⟨rfl,rfl⟩):Tr O β s w β s' w':=
 ⟨by rw[hw];exact l0 _,λ_ _=>by rw[hw],by rw[hg,ho];exact .of_heap hw,q⟩
def St.put_gen(s:St)(d:Option Nat)(x:AV):(s.put d x).gen=s.gen:=by cases d<;>rfl
def St.put_obj(s:St)(d:Option Nat)(x:AV):(s.put d x).obj=s.obj:=by cases d<;>rfl
def Rel.ev{O:Bs}{av:Nat}{s:St}{β:Loc}{a:Act}{w:World}(h:Rel O av s β a w)(x:Operand):ag O β s.gen s.obj w (s.ev x) (a.eval x):=by
 cases x with
 |tmp t=>exact h.f t
 |const v=>
   simp only[St.ev,Act.eval];unfold yp;split<;>simp only[ag,aD]<;>first|exact .bool _|exact .int _ _|exact .nsl|exact .nilp|exact .nilf|exact .nili|exact .nilm|trivial|skip
   rename_i b;have:(Value.string b)=.string ⟨b.data.toList.toArray⟩:=a8;rw[this];exact .str _
 |global g=>simp only[St.ev,ag]
 |func f=>simp only[St.ev,Act.eval,ag,aD];exact .fn f
end
end
end Go.Am
