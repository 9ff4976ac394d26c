/- A part; no conditions. -/
import Derived.Test.YtfdbpgoicedpcaaGreatDoorPart1
import Derived.Deep.MidRow
import Derived.Deep.AppendSrc
import Derived.Laws.MakeOwn
import Derived.MapKept
set_option linter.all false
open List renaming length -> z
open Option renaming some -> S, none -> N
open Bool renaming true -> T, false -> F
set_option maxHeartbeats 64000000
set_option maxRecDepth 100000
namespace Go.Am
structure Bs where
 B:Nat
 I:Nat->Prop
abbrev Loc:=Nat->Option Addr
abbrev Obs:=Nat->Option (List C)
def Imm(O:Bs)(β:Loc)(ob:Obs)(w:World)(b:Nat):Prop:=b<w.heap.size/\(b<O.B->O.I b)/\∀id a,(ob id).isSome=T->β id=S a->a.block≠b
inductive cX (J:Nat->Prop) (w:World):D->Value->Prop where|bool (b:Bool):cX J w (.bool b) (.bool b)|int (k:IntKind) (n:Int):cX J w (.int k n) (.int k n)|str (s:List UInt8):cX J w (.str s) (.string ⟨s.toArray⟩)|nsl:cX J w .nsl (.slice none 0 0)|nilp:cX J w .nilp (.pointer none)|nilf:cX J w .nilf .nilFunc|nili:cX J w .nili .nilIface|nilm:cX J w .nilm (.map none)|fn (f:FuncId):cX J w (.fn f) (.func (.func f) #[] #[])|yld (l:Nat):cX J w (.yld l) (.func (.yield l) #[] #[])|sl0 {a:Option Addr}{cap:Nat}:cX J w (.sl []) (.slice a 0 cap)|sl {es:List (List D)}{b off cap sz:Nat} (p:Nat->Nat->Value) (cm:es.length<=cap) (hJ:es≠[]->J b) (az:∀e∈es,e.length=sz)(hc:∀i e,es[i]?=some e->∀j x,e[j]?=some x->w.cell? ⟨b,off+i*sz+j,none⟩=some (p i j))(V:∀i e,es[i]?=some e->∀j x,e[j]?=some x->cX J w x (p i j)):cX J w (.sl es) (.slice (some ⟨b,off,none⟩) es.length cap)|iptr {cs:List D}{b off:Nat} (p:Nat->Value) (hJ:cs≠[]->J b)(hc:∀j x,cs[j]?=some x->w.cell? ⟨b,off+j,none⟩=some (p j))(V:∀j x,cs[j]?=some x->cX J w x (p j)):cX J w (.iptr cs) (.pointer (some ⟨b,off,none⟩))
variable{w:World}{O:Bs}{β:Loc}{g:Nat->Nat}{ob:Obs}{a:Addr}{v:Value}{e:Nat}{kd:Nat}{x:Option Addr}
def oS{w w':World}(h:w'.heap[a.block]?=w.heap[a.block]?):w'.cell? a=w.cell? a:=by simp[World.cell?,h]
def cX.mono{J q}{w w'}{x}(h:cX J w x v)(d:∀b,J b->q b/\w'.heap[b]?=w.heap[b]?):cX q w' x v:=by induction h with|bool b=>exact .bool b;|int k n=>exact .int k n;|str s=>exact .str s;|nsl=>exact .nsl;|nilp=>exact .nilp;|nilf=>exact .nilf;|nili=>exact .nili;|nilm=>exact .nilm;|fn f=>exact .fn f;|yld l=>exact .yld l;|sl0=>exact .sl0;|sl p o c az r V m=>refine .sl p o (λh=>(d _ (c h)).1) az (λi e t j x I=>?_) m;rw[oS (d _ (c ZN)).2];grind;|iptr p c r V m=>refine .iptr p (λh=>(d _ (c h)).1) (λj x I=>?_) m;rw[oS (d _ (c ZN)).2];grind
def cX.one{J}{x}(h:cX J w x v):v.oneCell'=T:=by cases h<;>rfl
def rf(w:World)(sz off len:Nat)(v:Value):Option Addr->Prop|none=>len=0/\v=.slice N 0 0|some a=>a.spot=N/\((∃b,v=.slice (S ⟨a.block,a.off+off,N⟩) len b/\len<=b/\∀arr el fr,w.heap[a.block]?=S (.cells arr el fr)->a.off+off+b*sz<=arr.size)\/(len=0/\∃o,v=.slice (S ⟨a.block,o,N⟩) 0 0))
def dV:D->Value|.bool b=>.bool b|.int k n=>.int k n|.str s=>.string ⟨s.toArray⟩|.nsl=>.slice N 0 0|.nilp=>.pointer N|.nilf=>.nilFunc|.nili=>.nilIface|.nilm=>.map N|_=>undef
inductive fL (R:C->Value->Prop) (kd:TypeDesc):List C->List MapEntry->Prop|nil:fL R kd [] []|cons {k:D}{c:C}{e:MapEntry}{cs:List C}{es:List MapEntry} (hk:jV kd k=true) (U:e.key=dV k) (Z:R c e.val) (h:fL R kd cs es):fL R kd (.d k::c::cs) (e::es)
def fL.mono{R n}{kd}{cs}{es}(h:fL R kd cs es)(V:∀c v,R c v->n c v):fL n kd cs es:=by induction h with|nil=>exact .nil;|cons b U Z _ d=>exact .cons b U (V _ _ Z) d
def Ka(f:Nat)(vs:Array Value):Value:=if f<1000000 then .func (.func f) #[] vs else .func (.func (f-1000000)) vs #[]
def xL{f}(h:f<1000000) vs:Ka f vs=.func (.func f) #[] vs:=s5 h
def Du f vs:Ka (f+1000000) vs=.func (.func f) vs #[]:=by unfold Ka;simp
def LX f vs:(Ka f vs).oneCell'=T:=by unfold Ka;split<;>rfl
def ph(kd:Nat):TypeDesc:=if kd<200 then fq kd else fq (kd-200)
section
variable(O:Bs)(β:Loc)(g:Nat->Nat)(ob:Obs)(w:World)
def mO:PC->Value->Prop|.d x,v=>cX (Imm O β ob w) w x v|.ptr id g' off,v=>v.oneCell'=T/\g'<=g id/\(g id=g'->(ob id).isSome=T->∃a,β id=S a/\a.spot=N/\v=.pointer (S ⟨a.block,a.off+off,N⟩))
def aQ:C->Value->Prop|.d x,v=>cX (Imm O β ob w) w x v|.osl id g' sz off len,v=>v.oneCell'=T/\g'<=g id/\(g id=g'->(ob id).isSome=T->rf w sz off len v (β id))|.ptr id g' off,v=>v.oneCell'=T/\g'<=g id/\(g id=g'->(ob id).isSome=T->∃a,β id=S a/\a.spot=N/\v=.pointer (S ⟨a.block,a.off+off,N⟩))|.clo f c,v=>∃vs:Array Value,v=Ka f vs/\vs.size=z c/\∀(i:Nat)(pc:PC),c[i]?=S pc->∃u,vs[i]?=S u/\mO O β g ob w pc u|.mp id g' kd,v=>v.oneCell'=T/\g'<=g id/\(g id=g'->(ob id).isSome=T->∃a,β id=S a/\(a.spot=S kd/\kd≠100)/\v=.map (S a.block))|.lsl n,v=>∃a b,v=.slice a n b|.raw _,_=>False
def lu(kd:Nat)(c:C)(v:Value):Prop:=if kd<200 then aQ O β g ob w c v else∃ds vs,c=.d (.iptr ds)/\v=.agg vs/\vs.size=z ds/\∀(i:Nat)(x:D),ds[i]?=S x->∃u,vs[i]?=S u/\cX (Imm O β ob w) w x u
def pj(cs:List C)(vs:Array Value):Prop:=vs.size=z cs/\∀(i:Nat)(c:C),cs[i]?=S c->∃u,vs[i]?=S u/\aQ O β g ob w c u
mutual
def ao:AV->Value->Prop
 |.one c,v=>aQ O β g ob w c v
 |.agg cs,v=>∃vs,v=.agg vs/\pj O β g ob w cs vs
 |.tup A,v=>∃vs:List Value,v=.tuple vs.toArray/\bg A vs
 |.junk,_=>True
 |.exact u,v=>v=u
def bg:List AV->List Value->Prop
 |[],vs=>vs=[]
 |t::A,vs=>∃u W,vs=u::W/\ao t u/\bg A W
end
def BQ(e:Nat)(cells:List C)(a:Addr):Prop:=O.B<=a.block/\∃arr el b d,w.heap[a.block]?=S (.cells arr el (b,d))/\((d<=b\/arr.size<=b)/\(code e≠0->el+1=code e/\a.off=0))/\a.off+z cells<=arr.size/\∀(j:Nat)(c:C),cells[j]?=S c->∃v,arr[a.off+j]?=S v/\aQ O β g ob w c v
def LY(cells:List C)(a:Addr)(kd:Nat):Prop:=O.B<=a.block/\((∃b p,w.heap[a.block]?=S (.map b p)/\fL (lu O β g ob w kd) (ph kd) cells b.toList)\/(kd=100/\∃o,cells=[.raw o]/\w.heap[a.block]?=S o))
def ew(e:Nat)(cells:List C):Option Addr->Prop|none=>cells=[]|some a=>match a.spot with|none=>BQ O β g ob w e cells a|some kd=>LY O β g ob w cells a kd
end
def ew.cells{O}{β}{g}{ob}{w}{e}{cells}{a}(h:ew O β g ob w e cells (S a))(b:a.spot=N):BQ O β g ob w e cells a:=by grind[ew]
def ew.ofCells{cells}(b:a.spot=N)(h:BQ O β g ob w e cells a):ew O β g ob w e cells (S a):=by grind[ew]
def ew.map{cells}(h:ew O β g ob w e cells (S a))(b:a.spot=S kd):LY O β g ob w cells a kd:=by grind[ew]
def ew.ofMap{cells}(b:a.spot=S kd)(h:LY O β g ob w cells a kd):ew O β g ob w e cells (S a):=by grind[ew]
def Rk e:code e<1000000:=N1 _ a7
def ew.recode{e e'}{cells}(i:code e'=code e)(h:ew O β g ob w e cells x):ew O β g ob w e' cells x:=by cases x with|none=>exact h;|some a=>cases b:a.spot with|none=>obtain⟨U,arr,el,c,d,Z,j,f⟩:=h.cells b;exact .ofCells b ⟨U,arr,el,c,d,Z,by grind,f⟩;|some kd=>exact .ofMap b (h.map b)
def ew.block{O}{β}{g}{ob}{w}{e}{cells}{a}(h:ew O β g ob w e cells (S a)):O.B<=a.block/\a.block<w.heap.size:=by cases b:a.spot with|none=>obtain⟨U,arr,el,c,d,Z,_⟩:=h.cells b;grind;|some kd=>
 obtain⟨U,⟨f,p,Z,_⟩|⟨_,o,_,Z⟩⟩:=h.map b;.grind
 grind
structure Rel (O:Bs) (al:Nat) (s:St) (β:Loc) (a:Act) (w:World):Prop where
 defers:a.defers=[]size:a.tmps.size=al
 f:∀i,ao O β s.gen s.obj w (s.f i) (a.tmps.getD i undef)obj:∀id cells,s.obj id=some cells->ew O β s.gen s.obj w (s.gen id) cells (β id)inj:∀id L a W,(s.obj id).isSome=true->(s.obj L).isSome=true->β id=some a->β L=some W->a.block=W.block->id=L
 base:O.B<=w.heap.size
structure ik (O:Bs) (β:Loc) (g:Nat->Nat) (ob:Obs) (w:World) (E:Loc) (g':Nat->Nat) (Y:Obs) (w':World):Prop where
 imm:∀b,Imm O β ob w b->Imm O E Y w' b/\w'.heap[b]?=w.heap[b]?gen:∀id,g id<=g' id
 live:∀id,g' id=g id->(Y id).isSome=true->(ob id).isSome=true/\E id=β id/\(∀a,β id=some a->∀arr el fr,w'.heap[a.block]?=some (.cells arr el fr)->∃s az c,w.heap[a.block]?=some (.cells s az c)/\s.size<=arr.size)
def Ext(w w':World):Prop:=w.heap.size<=w'.heap.size/\∀b,b<w.heap.size->w'.heap[b]?=w.heap[b]?
def Ext.refl:Ext w w:=⟨l7 _,λ_ _=>rfl⟩
def Ext.trans{w w' i}(h:Ext w w')(c:Ext w' i):Ext w i:=⟨C4 h.1 c.1,λb d=>(c.2 b (F3 d h.1)).trans (h.2 b d)⟩
def Ext.cells{w w'}(h:Ext w w'){b:Nat}{o}(c:w.heap[b]?=S o):w'.heap[b]?=S o:=(h.2 b (F1.1 c).1).trans c
def Ext.cell{w w'}(h:Ext w w'){a}{v}(b:w.cell? a=S v):w'.cell? a=S v:=by simpa[World.cell?,h.2 a.block (World.block_lt_of_cell? w a b)]using b
structure Tr (O:Bs) (β:Loc) (s:St) (w:World) (E:Loc) (s':St) (w':World):Prop where
 size:w.heap.size<=w'.heap.size
 old:∀b,b<O.B->w'.heap[b]?=w.heap[b]?keep:ik O β s.gen s.obj w E s'.gen s'.obj w'
 os:w'.os=w.os/\w'.output=w.output
def Tr.imm{O}{β E}{s c}{w w'}(h:Tr O β s w E c w'):∀b,Imm O β s.obj w b->Imm O E c.obj w' b/\w'.heap[b]?=w.heap[b]?:=h.keep.imm
def Tr.gen{O}{β E}{s b}{w w'}(h:Tr O β s w E b w'):∀id,s.gen id<=b.gen id:=h.keep.gen
def ik.trans{O}{β E a}{g g' d}{ob Y c}{w w' i}(h:ik O β g ob w E g' Y w')(f:ik O E g' Y w' a d c i):ik O β g ob w a d c i:=by refine⟨λb j=>⟨(f.imm b (h.imm b j).1).1,((f.imm b (h.imm b j).1).2).trans (h.imm b j).2⟩,λid=>C4 (h.gen id) (f.gen id),λid l ho=>?_⟩;have U:=h.gen id;have Z:=f.gen id;obtain⟨k,n,o⟩:=f.live id a7 ho;obtain⟨l1,l2,m⟩:=h.live id a7 k;grind
def ik.refl':ik O β g ob w β g ob w:=⟨λ_ h=>⟨h,rfl⟩,λ_=>l7 _,λ_ _ h=>⟨h,rfl,λ_ _ arr el fr b=>⟨arr,el,fr,b,l7 _⟩⟩⟩
def Tr.refl{s}:Tr O β s w β s w:=⟨l7 _,λ_ _=>rfl,ik.refl',rfl,rfl⟩
def Tr.trans{O}{β E a}{s d A}{w w' i}(h:Tr O β s w E d w')(c:Tr O E d w' a A i):Tr O β s w a A i:=⟨C4 h.size c.size,λb f=>(c.old b f).trans (h.old b f),h.keep.trans c.keep,c.os.1.trans h.os.1,c.os.2.trans h.os.2⟩
section
variable{O:Bs}{β E:Loc}{g g':Nat->Nat}{ob Y:Obs}{w w':World}
def ik.refl:ik O β g ob w β g ob w:=⟨λ_ h=>⟨h,rfl⟩,λ_=>l7 _,λ_ _ h=>⟨h,rfl,λ_ _ arr el fr b=>⟨arr,el,fr,b,l7 _⟩⟩⟩
def rf.keep{sz off len}(h:rf w sz off len v x)(d:∀a,x=S a->∀arr el fr,w'.heap[a.block]?=S (.cells arr el fr)->∃s az c,w.heap[a.block]?=S (.cells s az c)/\s.size<=arr.size):rf w' sz off len v x:=by cases x with|none=>exact h;|some a=>obtain⟨b,h⟩:=h;refine⟨b,?_⟩;grind
def mO.keep(b:ik O β g ob w E g' Y w'){c}(h:mO O β g ob w c v):mO O E g' Y w' c v:=by cases c with|d x=>exact cX.mono h b.imm;|ptr id g1 off=>obtain⟨U,Z,f⟩:=h;refine⟨U,C4 Z (b.gen id),λi ho=>?_⟩;have e:=Q8 a7 (b.gen id);obtain⟨l1,l2,_⟩:=b.live id e ho;grind
def aQ.keep(b:ik O β g ob w E g' Y w'){c}{v}(h:aQ O β g ob w c v):aQ O E g' Y w' c v:=by cases c with|d x=>exact cX.mono h b.imm;|osl id g1 sz off len=>obtain⟨U,Z,j⟩:=h;refine⟨U,C4 Z (b.gen id),λk ho=>?_⟩;have e:=Q8 a7 (b.gen id);obtain⟨l1,l2,m⟩:=b.live id e ho;rw[l2];exact(j a7 l1).keep m;|ptr id g1 off=>obtain⟨U,Z,j⟩:=h;refine⟨U,C4 Z (b.gen id),λk ho=>?_⟩;have e:=Q8 a7 (b.gen id);obtain⟨l1,l2,_⟩:=b.live id e ho;grind;|clo f p=>obtain⟨vs,U,Z,j⟩:=h;exact⟨vs,U,Z,λi pc l=>let⟨u,hu,V⟩:=j i pc l;⟨u,hu,V.keep b⟩⟩;|mp id g1 kd=>obtain⟨U,Z,j⟩:=h;refine⟨U,C4 Z (b.gen id),λk ho=>?_⟩;have e:=Q8 a7 (b.gen id);obtain⟨l1,l2,_⟩:=b.live id e ho;grind;|lsl n=>exact h;|raw o=>exact h.elim
def lu.keep(b:ik O β g ob w E g' Y w'){kd}{c}{v}(h:lu O β g ob w kd c v):lu O E g' Y w' kd c v:=by
 unfold lu at h|-;split;.rename_i f;rw[s5 f]at h;exact aQ.keep b h
 .rename_i f;rw[l4 f]at h;obtain⟨ds,vs,U,Z,d,j⟩:=h;exact⟨ds,vs,U,Z,d,λi x I=>let⟨u,hu,V⟩:=j i x I;⟨u,hu,cX.mono V b.imm⟩⟩
def BS(h:kd<200):lu O β g ob w kd=aQ O β g ob w:=by funext c v;grind[lu]
def pj.keep(b:ik O β g ob w E g' Y w'){cs}{vs}(h:pj O β g ob w cs vs):pj O E g' Y w' cs vs:=⟨h.1,λi c d=>let⟨u,hu,V⟩:=h.2 i c d;⟨u,hu,V.keep b⟩⟩
mutual
theorem ao.keep(b:ik O β g ob w E g' Y w'):(x:AV)->{v:Value}->ao O β g ob w x v->ao O E g' Y w' x v
 |.one _,_,h=>by simp only[ao]at h|-;exact aQ.keep b h
 |.agg _,_,h=>by simp only[ao]at h|-;obtain⟨vs,U,Z⟩:=h;exact⟨vs,U,Z.keep b⟩
 |.tup A,_,h=>by simp only[ao]at h|-;obtain⟨vs,U,Z⟩:=h;exact⟨vs,U,bg.keep b A Z⟩
 |.junk,_,_=>by simp only[ao]
 |.exact _,_,h=>by simp only[ao]at h|-;exact h
theorem bg.keep(b:ik O β g ob w E g' Y w'):(x:List AV)->{v:List Value}->bg O β g ob w x v->bg O E g' Y w' x v
 |[],_,h=>by simp only[bg]at h|-;exact h
 |t::A,_,h=>by simp only[bg]at h|-;obtain⟨u,W,U,Z,c⟩:=h;exact⟨u,W,U,ao.keep b t Z,bg.keep b A c⟩
end
def aQ.one{c}{v}(h:aQ O β g ob w c v):v.oneCell'=T:=by cases c with|d x=>exact cX.one h;|osl=>exact h.1;|ptr=>exact h.1;|clo f i=>obtain⟨vs,rfl,_⟩:=h;exact LX _ _;|mp=>exact h.1;|lsl n=>obtain⟨a,b,rfl⟩:=h;rfl;|raw o=>exact h.elim
def ik.of_heap(h:w'.heap=w.heap):ik O β g ob w β g ob w':=⟨λb c=>⟨by unfold Imm at*;grind,by rw[h]⟩,λ_=>l7 _,λ_ _ ho=>⟨ho,rfl,λ_ _ arr el fr d=>⟨arr,el,fr,by grind,l7 _⟩⟩⟩
def ew.keep(i:ik O β g ob w E g' Y w'){e}{cells}{x}(h:ew O β g ob w e cells x)(u:∀a,x=S a->w'.heap[a.block]?=w.heap[a.block]?):ew O E g' Y w' e cells x:=by cases x with|none=>exact h;|some a=>cases b:a.spot with|none=>obtain⟨Z,arr,el,k,l,f,d,m,n⟩:=h.cells b;exact .ofCells b ⟨Z,arr,el,k,l,by grind,d,m,λj c q=>let⟨v,s,V⟩:=n j c q;⟨v,s,V.keep i⟩⟩;|some kd=>
 obtain⟨Z,⟨t,p,f,d⟩|⟨r,o,f,d⟩⟩:=h.map b;.exact .ofMap b ⟨Z,.inl ⟨t,p,by grind,d.mono λ_ _=>lu.keep i⟩⟩
 .exact .ofMap b ⟨Z,.inr ⟨r,o,f,by grind⟩⟩
end
def Rel.of_heap{O}{al}{s}{β}{a}{w w'}(h:Rel O al s β a w)(c:w'.heap=w.heap):Rel O al s β a w':=⟨h.defers,h.size,λi=>ao.keep (.of_heap c) _ (h.f i),λid b ho=>(h.obj id b ho).keep (.of_heap c) (λ_ _=>by rw[c]),h.inj,by grind[h.base]⟩
def Rel.put{O}{al}{s}{β}{a}{w}(h:Rel O al s β a w){dst}(hd:∀d,dst=S d->d<al){x}{v}(j:ao O β s.gen s.obj w x v):Rel O al (s.put dst x) β (a.put dst v) w:=by cases dst with|none=>exact h;|some d=>
 refine⟨h.defers,by grind[Act.put,h.size],λi=>?_,h.obj,h.inj,h.base⟩;simp only[St.put,Act.put,upd];by_cases b:i=d;.simp_all[h.size]
 .have c:=h.f i;simp_all[C5]
def Tr.same{s s'}{w w'}(hg:s'.gen=s.gen)(ho:s'.obj=s.obj)(hw:w'.heap=w.heap)(E:w'.os=w.os/\w'.output=w.output:=by exact⟨rfl,rfl⟩):Tr O β s w β s' w':=⟨by grind,λ_ _=>by rw[hw],by rw[hg,ho];exact .of_heap hw,E⟩
def St.put_gen(s:St) d x:(s.put d x).gen=s.gen:=by cases d<;>rfl
def St.put_obj(s:St) d x:(s.put d x).obj=s.obj:=by cases d<;>rfl
def Rel.ev{O}{al}{s}{β}{a}{w}(h:Rel O al s β a w) x:ao O β s.gen s.obj w (s.ev x) (a.eval x):=by
 cases x with|tmp t=>exact h.f t;|const v=>
 simp[St.ev,Act.eval];unfold BL;split<;>simp[ao,aQ]<;>first|exact .bool _|exact .int _ _|exact .nsl|exact .nilp|exact .nilf|exact .nili|exact .nilm|trivial|skip
 rename_i b;have:(Value.string b)=.string ⟨b.data.toList.toArray⟩:=b9;rw[this];exact .str _;|global g=>grind[St.ev,ao];|func f=>simp[St.ev,Act.eval,ao,aQ];exact .fn f
end Go.Am

