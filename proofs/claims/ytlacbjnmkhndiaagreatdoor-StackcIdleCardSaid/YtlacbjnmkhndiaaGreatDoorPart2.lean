/- A part of the proof; no conditions. -/
import Derived.Test.YtlacbjnmkhndiaaGreatDoorPart1
import Derived.Deep.MidRow
import Derived.Deep.AppendSrc
import Derived.Laws.MakeOwn
import Derived.MapKept
set_option linter.unusedSimpArgs false
set_option linter.unusedVariables false
set_option linter.defProp false
open List renaming length -> z
open Option renaming some -> S, none -> N
open Bool renaming true -> T, false -> F
set_option maxHeartbeats 64000000
set_option maxRecDepth 100000
namespace Go.Am
section
section
structure Bs where
 B:Nat
 I:Nat->Prop
abbrev Loc:=Nat->Option Addr
abbrev Obs:=Nat->Option (List C)
def Imm(O:Bs)(β:Loc)(ob:Obs)(w:World)(b:Nat):Prop:=
 b<w.heap.size/\(b<O.B->O.I b)/\∀id a,(ob id).isSome=T->β id=S a->a.block≠b
inductive cD (J:Nat->Prop) (w:World):D->Value->Prop where
 |bool (b:Bool):cD J w (.bool b) (.bool b)
 |int (k:IntKind) (n:Int):cD J w (.int k n) (.int k n)
 |str (s:List UInt8):cD J w (.str s) (.string ⟨s.toArray⟩)
 |nsl:cD J w .nsl (.slice none 0 0)
 |nilp:cD J w .nilp (.pointer none)
 |nilf:cD J w .nilf .nilFunc
 |nili:cD J w .nili .nilIface
 |nilm:cD J w .nilm (.map none)
 |fn (f:FuncId):cD J w (.fn f) (.func (.func f) #[] #[])
 |yld (l:Nat):cD J w (.yld l) (.func (.yield l) #[] #[])
 |sl0 {a:Option Addr}{cap:Nat}:cD J w (.sl []) (.slice a 0 cap)
 |sl {es:List (List D)}{b off cap sz:Nat} (A:Nat->Nat->Value) (cy:es.length<=cap) (hJ:es≠[]->J b) (az:∀e∈es,e.length=sz)
    (Z:∀i e,es[i]?=some e->∀j x,e[j]?=some x->w.cell? ⟨b,off+i*sz+j,none⟩=some (A i j))
    (V:∀i e,es[i]?=some e->∀j x,e[j]?=some x->cD J w x (A i j)):cD J w (.sl es) (.slice (some ⟨b,off,none⟩) es.length cap)
 |iptr {cs:List D}{b off:Nat} (A:Nat->Value) (hJ:cs≠[]->J b)
    (Z:∀j x,cs[j]?=some x->w.cell? ⟨b,off+j,none⟩=some (A j))
    (V:∀j x,cs[j]?=some x->cD J w x (A j)):cD J w (.iptr cs) (.pointer (some ⟨b,off,none⟩))
variable{w:World}{O:Bs}{β:Loc}{g:Nat->Nat}{ob:Obs}{a:Addr}{v:Value}{e:Nat}{kd:Nat}{x:Option Addr}
def mn{w G:World}(h:G.heap[a.block]?=w.heap[a.block]?):G.cell? a=w.cell? a:=by simp[World.cell?,h]
def cD.mono{J K:Nat->Prop}{w G:World}{x:D}(h:cD J w x v)(d:∀b,J b->K b/\G.heap[b]?=w.heap[b]?):cD K G x v:=by
 induction h with
 |bool b=>exact .bool b
 |int k n=>exact .int k n
 |str s=>exact .str s
 |nsl=>exact .nsl
 |nilp=>exact .nilp
 |nilf=>exact .nilf
 |nili=>exact .nili
 |nilm=>exact .nilm
 |fn f=>exact .fn f
 |yld l=>exact .yld l
 |sl0=>exact .sl0
 |sl A p c az Z V m=>
   refine .sl A p (λh=>(d _ (c h)).1) az (λi e o j x I=>?_) m;rw[mn (d _ (c (by rintro rfl;cases o))).2];exact Z i e o j x I
 |iptr A c Z V m=>
   refine .iptr A (λh=>(d _ (c h)).1) (λj x I=>?_) m;rw[mn (d _ (c (by rintro rfl;cases I))).2];exact Z j x I
def cD.one{J:Nat->Prop}{x:D}(h:cD J w x v):v.oneCell'=T:=by cases h<;>rfl
def oK(w:World)(sz off len:Nat)(v:Value):Option Addr->Prop
 |none=>len=0/\v=.slice N 0 0
 | some a=>a.spot=N/\((∃b,v=.slice (S ⟨a.block,a.off+off,N⟩) len b/\len<=b/\∀arr el fr,w.heap[a.block]?=S (.cells arr el fr)->a.off+off+b*sz<=arr.size)\/
    (len=0/\∃o,v=.slice (S ⟨a.block,o,N⟩) 0 0))
def dV:D->Value
 |.bool b=>.bool b
 |.int k n=>.int k n
 |.str s=>.string ⟨s.toArray⟩
 |.nsl=>.slice N 0 0
 |.nilp=>.pointer N
 |.nilf=>.nilFunc
 |.nili=>.nilIface
 |.nilm=>.map N
 |_=>undef
inductive eA (R:C->Value->Prop) (kd:TypeDesc):List C->List MapEntry->Prop
 |nil:eA R kd [] []
 |cons {k:D}{c:C}{e:MapEntry}{cs:List C}{es:List MapEntry} (hk:iK kd k=true) (U:e.key=dV k) (h2:R c e.val) (h:eA R kd cs es):eA R kd (.d k::c::cs) (e::es)
def eA.mono{R t:C->Value->Prop}{kd:TypeDesc}{cs:List C}{es:List MapEntry}(h:eA R kd cs es)(V:∀c v,R c v->t c v):eA t kd cs es:=by
 induction h with
 |nil=>exact .nil
 |cons b U d _ f=>exact .cons b U (V _ _ d) f
def FD(f:Nat)(vs:Array Value):Value:=if f<1000000 then .func (.func f) #[] vs else .func (.func (f-1000000)) vs #[]
def uI{f:Nat}(h:f<1000000)(vs:Array Value):FD f vs=.func (.func f) #[] vs:=l9 h
def zN(f:Nat)(vs:Array Value):FD (f+1000000) vs=.func (.func f) vs #[]:=by unfold FD;rw[j9 a7,Nat.add_sub_cancel]
def Hu(f:Nat)(vs:Array Value):(FD f vs).oneCell'=T:=by unfold FD;split<;>rfl
def mC(kd:Nat):TypeDesc:=if kd<200 then dZ kd else dZ (kd-200)
section
variable(O:Bs)(β:Loc)(g:Nat->Nat)(ob:Obs)(w:World)
def kP:PC->Value->Prop
 |.d x,v=>cD (Imm O β ob w) w x v
 |.ptr id g' off,v=>v.oneCell'=T/\g'<=g id/\(g id=g'->(ob id).isSome=T->∃a,β id=S a/\a.spot=N/\v=.pointer (S ⟨a.block,a.off+off,N⟩))
def aK:C->Value->Prop
 |.d x,v=>cD (Imm O β ob w) w x v
 |.osl id g' sz off len,v=>v.oneCell'=T/\g'<=g id/\(g id=g'->(ob id).isSome=T->oK w sz off len v (β id))
 |.ptr id g' off,v=>v.oneCell'=T/\g'<=g id/\(g id=g'->(ob id).isSome=T->∃a,β id=S a/\a.spot=N/\v=.pointer (S ⟨a.block,a.off+off,N⟩))
 |.clo f q,v=>∃vs:Array Value,v=FD f vs/\vs.size=z q/\∀(i:Nat)(pc:PC),q[i]?=S pc->∃u,vs[i]?=S u/\kP O β g ob w pc u
 |.mp id g' kd,v=>v.oneCell'=T/\g'<=g id/\(g id=g'->(ob id).isSome=T->∃a,β id=S a/\(a.spot=S kd/\kd≠100)/\v=.map (S a.block))
 |.lsl n,v=>∃a b,v=.slice a n b
 |.raw _,_=>False
def jN(kd:Nat)(c:C)(v:Value):Prop:=
 if kd<200 then aK O β g ob w c v else ∃ds vs,c=.d (.iptr ds)/\v=.agg vs/\vs.size=z ds/\∀(i:Nat)(x:D),ds[i]?=S x->∃u,vs[i]?=S u/\cD (Imm O β ob w) w x u
def mD(cs:List C)(vs:Array Value):Prop:=vs.size=z cs/\∀(i:Nat)(c:C),cs[i]?=S c->∃u,vs[i]?=S u/\aK O β g ob w c u
mutual
def ak:AV->Value->Prop
 |.one c,v=>aK O β g ob w c v
 |.agg cs,v=>∃vs,v=.agg vs/\mD O β g ob w cs vs
 |.tup b,v=>∃vs:List Value,v=.tuple vs.toArray/\aS b vs
 |.junk,_=>True
 |.exact u,v=>v=u
def aS:List AV->List Value->Prop
 |[],vs=>vs=[]
 |t::c,vs=>∃u b,vs=u::b/\ak t u/\aS c b
end
def yA(e:Nat)(cells:List C)(a:Addr):Prop:=
 O.B<=a.block/\∃arr el H b,w.heap[a.block]?=S (.cells arr el (H,b))/\((b<=H\/arr.size<=H)/\(code e≠0->el+1=code e/\a.off=0))/\a.off+z cells<=arr.size/\
   ∀(j:Nat)(c:C),cells[j]?=S c->∃v,arr[a.off+j]?=S v/\aK O β g ob w c v
def Hv(cells:List C)(a:Addr)(kd:Nat):Prop:=
 O.B<=a.block/\((∃b p,w.heap[a.block]?=S (.map b p)/\eA (jN O β g ob w kd) (mC kd) cells b.toList)\/(kd=100/\∃o,cells=[.raw o]/\w.heap[a.block]?=S o))
def dt(e:Nat)(cells:List C):Option Addr->Prop
 |none=>cells=[]
 |some a=>match a.spot with
   |none=>yA O β g ob w e cells a
   |some kd=>Hv O β g ob w cells a kd
end
def dt.cells{O:Bs}{β:Loc}{g:Nat->Nat}{ob:Obs}{w:World}{e:Nat}{cells:List C}{a:Addr}(h:dt O β g ob w e cells (S a))(b:a.spot=N):yA O β g ob w e cells a:=by
 simp only[dt,b]at h;exact h
def dt.ofCells{cells:List C}(b:a.spot=N)(h:yA O β g ob w e cells a):dt O β g ob w e cells (S a):=by
 simp only[dt,b];exact h
def dt.map{cells:List C}(h:dt O β g ob w e cells (S a))(b:a.spot=S kd):Hv O β g ob w cells a kd:=by
 simp only[dt,b]at h;exact h
def dt.ofMap{cells:List C}(b:a.spot=S kd)(h:Hv O β g ob w cells a kd):dt O β g ob w e cells (S a):=by
 simp only[dt,b];exact h
def LX(e:Nat):code e<1000000:=N3 _ a7
def dt.recode{e e':Nat}{cells:List C}(c:code e'=code e)(h:dt O β g ob w e cells x):dt O β g ob w e' cells x:=by
 cases x with
 |none=>exact h
 |some a=>
   cases b:a.spot with
   |none=>
     obtain⟨U,arr,el,H,d,f,i,j⟩:=h.cells b;exact .ofCells b ⟨U,arr,el,H,d,f,by rw[c];exact i,j⟩
   |some kd=>exact .ofMap b (h.map b)
def dt.block{O:Bs}{β:Loc}{g:Nat->Nat}{ob:Obs}{w:World}{e:Nat}{cells:List C}{a:Addr}(h:dt O β g ob w e cells (S a)):O.B<=a.block/\a.block<w.heap.size:=by
 cases c:a.spot with
 |none=>
   obtain⟨U,arr,el,H,d,b,_⟩:=h.cells c;exact⟨U,(E5.1 b).1⟩
 |some kd=>
   obtain⟨U,⟨f,p,b,_⟩|⟨_,o,_,b⟩⟩:=h.map c
   .exact⟨U,(E5.1 b).1⟩
   .exact⟨U,(E5.1 b).1⟩
structure Rel (O:Bs) (al:Nat) (s:St) (β:Loc) (a:Act) (w:World):Prop where
 defers:a.defers=[]
 size:a.tmps.size=al
 f:∀i,ak O β s.gen s.obj w (s.f i) (a.tmps.getD i undef)
 obj:∀id cells,s.obj id=some cells->dt O β s.gen s.obj w (s.gen id) cells (β id)
 inj:∀id L a a',(s.obj id).isSome=true->(s.obj L).isSome=true->β id=some a->β L=some a'->a.block=a'.block->id=L
 base:O.B<=w.heap.size
structure fE (O:Bs) (β:Loc) (g:Nat->Nat) (ob:Obs) (w:World) (A:Loc) (g':Nat->Nat) (Y:Obs) (G:World):Prop where
 imm:∀b,Imm O β ob w b->Imm O A Y G b/\G.heap[b]?=w.heap[b]?
 gen:∀id,g id<=g' id
 live:∀id,g' id=g id->(Y id).isSome=true->(ob id).isSome=true/\A id=β id/\
  (∀a,β id=some a->∀arr el fr,G.heap[a.block]?=some (.cells arr el fr)->∃s K d,w.heap[a.block]?=some (.cells s K d)/\s.size<=arr.size)
def Ext(w G:World):Prop:=w.heap.size<=G.heap.size/\∀b,b<w.heap.size->G.heap[b]?=w.heap[b]?
def Ext.refl:Ext w w:=⟨l8 _,λ_ _=>rfl⟩
def Ext.trans{w G H:World}(h:Ext w G)(q:Ext G H):Ext w H:=⟨D0 h.1 q.1,λb c=>(q.2 b (H4 c h.1)).trans (h.2 b c)⟩
def Ext.cells{w G:World}(h:Ext w G){b:Nat}{o:Obj}(c:w.heap[b]?=S o):G.heap[b]?=S o:=(h.2 b (E5.1 c).1).trans c
def Ext.cell{w G:World}(h:Ext w G){a:Addr}{v:Value}(b:w.cell? a=S v):G.cell? a=S v:=by
 have c:a.block<w.heap.size:=World.block_lt_of_cell? w a b;simpa[World.cell?,h.2 a.block c]using b
structure Tr (O:Bs) (β:Loc) (s:St) (w:World) (A:Loc) (W:St) (G:World):Prop where
 size:w.heap.size<=G.heap.size
 old:∀b,b<O.B->G.heap[b]?=w.heap[b]?
 keep:fE O β s.gen s.obj w A W.gen W.obj G
 os:G.os=w.os/\G.output=w.output
def Tr.imm{O:Bs}{β A:Loc}{s W:St}{w G:World}(h:Tr O β s w A W G):∀b,Imm O β s.obj w b->Imm O A W.obj G b/\G.heap[b]?=w.heap[b]?:=h.keep.imm
def Tr.gen{O:Bs}{β A:Loc}{s W:St}{w G:World}(h:Tr O β s w A W G):∀id,s.gen id<=W.gen id:=h.keep.gen
def fE.trans{O:Bs}{β A c:Loc}{g g' f:Nat->Nat}{ob Y e:Obs}{w G H:World}(h:fE O β g ob w A g' Y G)(q:fE O A g' Y G c f e H):fE O β g ob w c f e H:=by
 refine⟨λb i=>⟨(q.imm b (h.imm b i).1).1,((q.imm b (h.imm b i).1).2).trans (h.imm b i).2⟩,λid=>D0 (h.gen id) (q.gen id),λid I ho=>?_⟩;have U:=h.gen id;have J:=q.gen id;obtain⟨k,l,m⟩:=q.live id a7 ho;obtain⟨l1,l2,y⟩:=h.live id a7 k;refine⟨l1,l.trans l2,λa j arr el fr n=>?_⟩;obtain⟨s,K,d,o,p⟩:=m a (l2.trans j) arr el fr n;obtain⟨r,t,u,B,E⟩:=y a j s K d o;exact⟨r,t,u,B,D0 E p⟩
def fE.refl':fE O β g ob w β g ob w:=⟨λ_ h=>⟨h,rfl⟩,λ_=>l8 _,λ_ _ h=>⟨h,rfl,λ_ _ arr el fr b=>⟨arr,el,fr,b,l8 _⟩⟩⟩
def Tr.refl{s:St}:Tr O β s w β s w:=⟨l8 _,λ_ _=>rfl,fE.refl',rfl,rfl⟩
def Tr.trans{O:Bs}{β A c:Loc}{s W B:St}{w G H:World}(h:Tr O β s w A W G)(q:Tr O A W G c B H):Tr O β s w c B H:=
 ⟨D0 h.size q.size,λb d=>(q.old b d).trans (h.old b d),h.keep.trans q.keep,q.os.1.trans h.os.1,q.os.2.trans h.os.2⟩
section
variable{O:Bs}{β A:Loc}{g g':Nat->Nat}{ob Y:Obs}{w G:World}
def fE.refl:fE O β g ob w β g ob w:=⟨λ_ h=>⟨h,rfl⟩,λ_=>l8 _,λ_ _ h=>⟨h,rfl,λ_ _ arr el fr b=>⟨arr,el,fr,b,l8 _⟩⟩⟩
def oK.keep{sz off len:Nat}(h:oK w sz off len v x)
 (c:∀a,x=S a->∀arr el fr,G.heap[a.block]?=S (.cells arr el fr)->∃s K d,w.heap[a.block]?=S (.cells s K d)/\s.size<=arr.size):oK G sz off len v x:=by
 cases x with
 |none=>exact h
 |some a=>
   obtain⟨f,h⟩:=h;refine⟨f,?_⟩;rcases h with⟨b,i,hl,j⟩|h
   .refine .inl ⟨b,i,hl,λarr el fr k=>?_⟩
    obtain⟨s,K,d,l,m⟩:=c a rfl arr el fr k;exact D0 (j _ _ _ l) m
   .exact .inr h
def kP.keep(hk:fE O β g ob w A g' Y G){c:PC}(h:kP O β g ob w c v):kP O A g' Y G c v:=by
 cases c with
 |d x=>exact cD.mono h hk.imm
 |ptr id g1 off=>
   exact oc
def aK.keep(hk:fE O β g ob w A g' Y G){c:C}{v:Value}(h:aK O β g ob w c v):aK O A g' Y G c v:=by
 cases c with
 |d x=>exact cD.mono h hk.imm
 |osl id g1 sz off len=>
   obtain⟨U,h2,h3⟩:=h;refine⟨U,D0 h2 (hk.gen id),λhg ho=>?_⟩;have e:g' id=g id:=Q8 a7 (hk.gen id);obtain⟨l1,l2,y⟩:=hk.live id e ho;rw[l2];exact(h3 a7 l1).keep y
 |ptr id g1 off=>
   exact oc
 |clo f q=>
   obtain⟨vs,U,h2,h3⟩:=h;exact⟨vs,U,h2,λi pc b=>let ⟨u,hu,V⟩:=h3 i pc b;⟨u,hu,V.keep hk⟩⟩
 |mp id g1 kd=>
   exact oc
 |lsl n=>exact h
 |raw o=>exact h.elim
def jN.keep(b:fE O β g ob w A g' Y G){kd:Nat}{c:C}{v:Value}(h:jN O β g ob w kd c v):jN O A g' Y G kd c v:=by
 unfold jN at h|-;split
 .rename_i f
  rw[l9 f]at h;exact aK.keep b h
 .rename_i f
  rw[j9 f]at h;obtain⟨ds,vs,U,d,j,k⟩:=h;exact⟨ds,vs,U,d,j,λi x I=>let ⟨u,hu,V⟩:=k i x I;⟨u,hu,cD.mono V b.imm⟩⟩
def yB(h:kd<200):jN O β g ob w kd=aK O β g ob w:=by funext c v;unfold jN;rw[l9 h]
def mD.keep(b:fE O β g ob w A g' Y G){cs:List C}{vs:Array Value}(h:mD O β g ob w cs vs):mD O A g' Y G cs vs:=
 ⟨h.1,λi c Z=>let ⟨u,hu,V⟩:=h.2 i c Z;⟨u,hu,V.keep b⟩⟩
mutual
theorem ak.keep(b:fE O β g ob w A g' Y G):(x:AV)->{v:Value}->ak O β g ob w x v->ak O A g' Y G x v
 |.one _,_,h=>by simp only[ak]at h|-;exact aK.keep b h
 |.agg _,_,h=>by simp only[ak]at h|-;obtain⟨vs,U,c⟩:=h;exact⟨vs,U,c.keep b⟩
 |.tup d,_,h=>by simp only[ak]at h|-;obtain⟨vs,U,c⟩:=h;exact⟨vs,U,aS.keep b d c⟩
 |.junk,_,_=>by simp only[ak]
 |.exact _,_,h=>by simp only[ak]at h|-;exact h
theorem aS.keep(b:fE O β g ob w A g' Y G):(x:List AV)->{v:List Value}->aS O β g ob w x v->aS O A g' Y G x v
 |[],_,h=>by simp only[aS]at h|-;exact h
 |t::c,_,h=>by simp only[aS]at h|-;obtain⟨u,d,U,f,i⟩:=h;exact⟨u,d,U,ak.keep b t f,aS.keep b c i⟩
end
def aK.one{c:C}{v:Value}(h:aK O β g ob w c v):v.oneCell'=T:=by
 cases c with
 |d x=>exact cD.one h
 |osl=>exact h.1
 |ptr=>exact h.1
 |clo f q=>obtain⟨vs,rfl,_⟩:=h;exact Hu _ _
 |mp=>exact h.1
 |lsl n=>obtain⟨a,b,rfl⟩:=h;rfl
 |raw o=>exact h.elim
def fE.of_heap(h:G.heap=w.heap):fE O β g ob w β g ob G:=
 ⟨λb c=>⟨by unfold Imm at *;rw[h];exact c,by rw[h]⟩,λ_=>l8 _,λ_ _ ho=>⟨ho,rfl,λ_ _ arr el fr d=>⟨arr,el,fr,by rw[<-h];exact d,l8 _⟩⟩⟩
def dt.keep(l:fE O β g ob w A g' Y G){e:Nat}{cells:List C}{x:Option Addr}(h:dt O β g ob w e cells x)
 (k:∀a,x=S a->G.heap[a.block]?=w.heap[a.block]?):dt O A g' Y G e cells x:=by
 cases x with
 |none=>exact h
 |some a=>
   cases b:a.spot with
   |none=>
     obtain⟨i,arr,el,H,m,d,f,n,q⟩:=h.cells b;exact .ofCells b ⟨i,arr,el,H,m,by rw[k a rfl];exact d,f,n,λj c Z=>let ⟨v,s,V⟩:=q j c Z;⟨v,s,V.keep l⟩⟩
   |some kd=>
     obtain⟨i,⟨t,p,d,f⟩|⟨r,o,d,f⟩⟩:=h.map b
     .exact .ofMap b ⟨i,.inl ⟨t,p,by rw[k a rfl];exact d,f.mono λ_ _=>jN.keep l⟩⟩
     .exact .ofMap b ⟨i,.inr ⟨r,o,d,by rw[k a rfl];exact f⟩⟩
end
def Rel.of_heap{O:Bs}{al:Nat}{s:St}{β:Loc}{a:Act}{w G:World}(h:Rel O al s β a w)(c:G.heap=w.heap):Rel O al s β a G:=
 ⟨h.defers,h.size,λi=>ak.keep (.of_heap c) _ (h.f i),λid b ho=>(h.obj id b ho).keep (.of_heap c) (λ_ _=>by rw[c]),h.inj,by rw[c];exact h.base⟩
def Rel.put{O:Bs}{al:Nat}{s:St}{β:Loc}{a:Act}{w:World}(h:Rel O al s β a w){dst:Option Nat}(hd:∀d,dst=S d->d<al){x:AV}{v:Value}
 (c:ak O β s.gen s.obj w x v):Rel O al (s.put dst x) β (a.put dst v) w:=by
 cases dst with
 |none=>exact h
 |some d=>
   refine⟨h.defers,by simpa[Act.put]using h.size,λi=>?_,h.obj,h.inj,h.base⟩;simp only[St.put,Act.put,upd];by_cases b:i=d
   .subst b
    have:i<a.tmps.size:=by rw[h.size];exact hd i rfl
    simpa[Array.getD,this]using c
   .have j:=h.f i
    simp only[b,B1];simpa[z7,N0 (B7 b)]using j
def Tr.same{s W:St}{w G:World}(hg:W.gen=s.gen)(ho:W.obj=s.obj)(hw:G.heap=w.heap)(n:G.os=w.os/\G.output=w.output:=by exact⟨rfl,rfl⟩):Tr O β s w β W G:=
 ⟨by rw[hw];exact l8 _,λ_ _=>by rw[hw],by rw[hg,ho];exact .of_heap hw,n⟩
def St.put_gen(s:St)(d:Option Nat)(x:AV):(s.put d x).gen=s.gen:=by cases d<;>rfl
def St.put_obj(s:St)(d:Option Nat)(x:AV):(s.put d x).obj=s.obj:=by cases d<;>rfl
def Rel.ev{O:Bs}{al:Nat}{s:St}{β:Loc}{a:Act}{w:World}(h:Rel O al s β a w)(x:Operand):ak O β s.gen s.obj w (s.ev x) (a.eval x):=by
 cases x with
 |tmp t=>exact h.f t
 |const v=>
   simp only[St.ev,Act.eval];unfold zB;split<;>simp only[ak,aK]<;>first|exact .bool _|exact .int _ _|exact .nsl|exact .nilp|exact .nilf|exact .nili|exact .nilm|trivial|skip
   rename_i W;have:(Value.string W)=.string ⟨W.data.toList.toArray⟩:=a8;rw[this];exact .str _
 |global g=>simp only[St.ev,ak]
 |func f=>simp only[St.ev,Act.eval,ak,aK];exact .fn f
end
end
end Go.Am
