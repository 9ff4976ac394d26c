/- A part; no conditions. -/
import Derived.Test.YtfdbpgoicedpcaaGreatDoorPart2
import Derived.Laws.Strings
import Derived.Laws.StructEq
import Derived.ChangeKeysEq
import Derived.Lib.ConvBytes
import Derived.Laws.BytesString
import Derived.Deep.LoopGhost
import Derived.Deep.Upon
import Derived.Scope
set_option linter.all false
open List renaming length -> z
open Option renaming some -> S, none -> N
open Bool renaming true -> T, false -> F
set_option maxHeartbeats 64000000
set_option maxRecDepth 100000
namespace Go.Am
section
section
def nJ:D->Bool|.sl _|.fn _|.iptr _|.yld _=>F|_=>T
variable{K:AV->Prop}{v:Value}{t:Nat}{s:St}{J:Nat->Prop}{d:TypeDesc}{x:AV}{kd:TypeDesc}{b:Bool}{al:Nat}{a:Act}{op:BinOp}{ok:Bool}{c:Option C}{k:Box K}
def cX.of_plain{w}{x}(h:nJ x=T):cX J w x (dV x):=by cases x<;>first|(simp[nJ]at h;done)|constructor
structure uE (P:Program) (t:Nat) (p:TI):Prop where
 desc:P.underlying t=some p.desc
 info:∃i,P.info? t=some i/\i.size=p.size/\i.bytes=p.bytes/\∃X,i.zero=some X/\X.cells.toList=p.zero.map dV
 plain:p.zero.all nJ=true
 zlen:p.zero.length=p.size
 zone:fC p.desc=false->∀i a,P.info? t=some i->i.zero=some a->a=dV (p.zero.headD .nsl)
def bK(P:Program)(G:Nat->TI):Prop:=∀t,okD (G t).desc=T->uE P t (G t)
def It(l:List (Nat×TI))(t:Nat):TI:=((l.find? λp=>p.1==t).map (·.2)).getD ⟨.invalid,0,0,[]⟩
def Ai{P}{l}(h:∀p∈l,uE P p.1 p.2):bK P (It l):=by intro t e;unfold It at*;cases f:l.find? λp=>p.1==t with|none=>grind[okD];|some p=>grind
def BU(h:isSlice d=T):okD d=T:=by cases d<;>simp_all[isSlice,okD]
def Md(h:isSlice d=T):∃e,d=.slice e:=by cases d<;>simp_all[isSlice]
variable{P:Program}{G:Nat->TI}{O:Bs}{β:Loc}{g:Nat->Nat}{ob:Obs}{w:World}
def cl{p}(h:uE P t p):(sizeOf t).run P w=.ok p.size w:=by obtain⟨i,e,f,_⟩:=h.info;simp[sizeOf,typeInfo,e,f]
def DA(h:fC d=T):d.isRow=T:=by cases d<;>simp_all[fC]
def sj{p}(h:uE P t p):(isAgg t).run P w=.ok (fC p.desc) w:=by unfold isAgg;rw[Sem.run_bind,run_underlying h.desc w];simp only[Result.andThen_ok];cases p.desc<;>rfl
def ni{H:Type}(R:H->Value->Prop)(a:Nat->Option Value):∀cs(_:∀j c,cs[j]?=S c->∃v,a j=S v/\R c v),∃vs,z vs=z cs/\(∀j v,vs[j]?=S v->a j=S v)/\∀(j:Nat) c,cs[j]?=S c->∃v,vs[j]?=S v/\R c v
 |[],_=>⟨[],rfl,⟨λ_ _ h=>by simp at h,λ_ _ h=>by simp at h⟩⟩|c::cs,h=>by
  obtain⟨v,i,V⟩:=h 0 c rfl;obtain⟨vs,U,Z,l⟩:=ni R (λj=>a (j+1)) cs (λj e f=>h (j+1) e ZN);refine⟨v::vs,by simp[U],λj u L=>?_,λj e f=>?_⟩;.grind
  grind
def fM{b}{arr}{el}{fr}(h:w.heap[b]?=S (.cells arr el fr)) j:w.cell? ⟨b,j,N⟩=arr[j]?:=by simp[World.cell?,h]
def fb b o j:(⟨b,o,N⟩:Addr).add j=⟨b,o+j,N⟩:=Addr.add_mid b o j
def bh{H}{x}{K:H->Prop}{k:Box K}(h:cA x k):∃a,x=S a/\K a:=by cases x with|none=>exact h.elim;|some a=>exact⟨a,rfl,h⟩
def lL{K}{k:Box K}(h:mH b k):K b:=by
 cases b;.exact h.2 rfl
 .exact h.1 rfl
def cX.inv_bool(h:cX J w (.bool b) v):v=.bool b:=by cases h;rfl
def cX.inv_int{k}{n}(h:cX J w (.int k n) v):v=.int k n:=by cases h;rfl
def cX.inv_str{s}(h:cX J w (.str s) v):v=.string ⟨s.toArray⟩:=by cases h;rfl
def cX.inv_nsl(h:cX J w .nsl v):v=.slice N 0 0:=by cases h;rfl
def tD{K}{k:Box K}(h:tA x k)(e:ao O β g ob w x v):∃b,v=.bool b/\K b:=by
 unfold tA at h;split at h;.rename_i b;exact⟨b,e.inv_bool,lL h⟩
 grind
def xf(hT:bK P G)(V:Rel O al s β a w)(h:yg (G t) s x k)(q:ao O β s.gen s.obj w x v):∃y Y,K y/\(∀w',Ext w w'->(Instr.loadAt t v).run P w'=.ok Y w')/\ao O β s.gen s.obj w y Y:=by
 unfold yg at h;split at h
 .rename_i id g l;obtain⟨E,W,h⟩:=h;obtain⟨n,ho,h⟩:=bh h;have o:=hT t E;obtain⟨_,_,q⟩:=q;obtain⟨r,H,X,rfl⟩:=q W abh;have bk:=V.obj id n ho;rw[H]at bk;obtain⟨_,arr,el,lo,I,A,_,bd,bs⟩:=bk.cells X;unfold Dj at h;split at h
  .rename_i e;obtain⟨az,J⟩:=h;obtain⟨vs,B,Q,Z⟩:=ni (aQ O β s.gen s.obj w) (λj=>arr[r.off+(l+j)]?) ((n.drop l).take (G t).size) (λj c m=>by grind);have hl:z vs=(G t).size:=by rw[B];simp;omega
   refine⟨_,.agg vs.toArray,J,λw' bc=>?_,?_⟩
   .refine run_loadAt_mid w' r.block (r.off+l) t vs (G t).desc (λj u L=>?_) o.desc (DA e) ?_;.rw[fM (bc.cells A)];grind
    grind[o.info]
   .simp only[ao];exact⟨_,rfl,by simp[B],λi c m=>by grind⟩
  .rename_i e;obtain⟨c,m,J⟩:=bh h;obtain⟨u,L,f⟩:=bs l c m;refine⟨_,u,J,λw' bc=>?_,by grind[ao]⟩;have:w'.cell? ⟨r.block,r.off+l,N⟩=S u:=by rw[fM (bc.cells A)];exact L
   simp[Instr.loadAt,Instr.sureAddr,loadVar,sj o,e,this]
 .rename_i cs;obtain⟨E,h⟩:=h;have o:=hT t E;cases q with|iptr p hJ U b7=>
  rename_i b l;unfold LI at h;split at h
  .rename_i e;obtain⟨az,J⟩:=h;obtain⟨vs,B,Q,Z⟩:=ni (λ(c:D)v=>aQ O β s.gen s.obj w (.d c) v) (λj=>w.cell? ⟨b,l+j,N⟩) (cs.take (G t).size) (λj c m=>by
   rw[L3]at m;split at m;.exact⟨_,U j c m,b7 j c m⟩
   .cases m);have hl:z vs=(G t).size:=by rw[B];simp;omega
   refine⟨_,.agg vs.toArray,J,λw' bc=>?_,?_⟩;.refine run_loadAt_mid w' b l t vs (G t).desc (λj u L=>bc.cell (Q j u L)) o.desc (DA e) ?_;grind[o.info]
   .simp only[ao];refine⟨_,rfl,by simp[B],λi c m=>?_⟩;grind
  .rename_i e;obtain⟨c,m,J⟩:=bh h;refine⟨_,p 0,J,λw' bc=>?_,by grind[ao,aQ]⟩;have:w'.cell? ⟨b,l,N⟩=S (p 0):=bc.cell (U 0 c m);simp[Instr.loadAt,Instr.sureAddr,loadVar,sj o,e,this]
 grind
def gf(hT:bK P G)(h:eL G t=T):∃e,(G t).desc=.slice e/\bI G t=G e/\P.underlying t=S (.slice e)/\uE P e (G e):=by
 simp only[eL,l6]at h;obtain⟨e,f⟩:=Md h.1;have Z:bI G t=G e:=by simp[bI,f]
 exact⟨e,f,Z,by rw[(hT t (BU h.1)).desc,f],hT e ZN⟩
def iV{id g' sz off len}(h:aQ O β s.gen s.obj w (.osl id g' sz off len) v)(hg:s.gen id=g')(ho:(s.obj id).isSome=T):rf w sz off len v (β id):=h.2.2 hg ho
def rf.slice{sz off len}{v}{x}(h:rf w sz off len v x):∃a cap,v=.slice a len cap/\len<=cap:=by cases x with|none=>exact⟨N,0,by rw[h.2,h.1],by rw[h.1];simp⟩;|some a=>
 rcases h.2 with⟨cap,e,hl,_⟩|⟨rfl,o,e⟩;.grind
 grind
def vH(hT:bK P G)(Q:eL G t=T){x o}{v q}(h:ko s (bI G t).size x o k)(hv:ao O β s.gen s.obj w x v)(u:ao O β s.gen s.obj w o q):∃y Y,K y/\(∀w',Ext w w'->(Instr.indexAt t v q).run P w'=.ok Y w')/\ao O β s.gen s.obj w y Y:=by
 obtain⟨e,cx,U,L,r⟩:=gf hT Q;rw[U]at h;unfold ko at h;split at h
 .rename_i kd i;obtain rfl:=u.inv_int;split at h;.rename_i B;obtain⟨m,h⟩:=h;obtain⟨c,l,az,J⟩:=bh h;have E:=(l9.1 l).1;cases hv with|sl0=>simp at l;|sl p V W X bo Z=>
   rename_i b f n sz;have a:sz=(G e).size:=by rw[<-az];exact(X c (l8 l)).symm
   refine⟨_,.pointer (S ⟨b,f+i.toNat*(G e).size,N⟩),J,λw' _=>?_,?_⟩;.have:i<z B:=a7;simp[Instr.indexAt,asIntOf,run_underlying L,m,this,cl r,fb]
   .simp only[ao,aQ];refine .iptr (p i.toNat) (λ_=>W ZN) (λj x I=>?_) (λj x I=>Z _ _ l j x I);grind
  .rename_i id g an f len;obtain⟨hg,ho,m,E,rfl,J⟩:=h;simp only[ao]at hv;have A:=iV hv hg ho;cases H:β id with|none=>rw[H]at A;obtain⟨rfl,_⟩:=A;omega;|some ad=>
   rw[H]at A;obtain⟨bn,A⟩:=A;rcases A with⟨n,rfl,V,_⟩|⟨rfl,_⟩
   .refine⟨_,.pointer (S ⟨ad.block,ad.off+f+i.toNat*(G e).size,N⟩),J,λw' _=>?_,?_⟩;.simp[Instr.indexAt,asIntOf,run_underlying L,m,E,cl r,fb]
    .exact zs
   .omega
  grind
 grind
def yy(hT:bK P G){x j}{v l}(h:pd G (G t).desc s x j k)(hv:ao O β s.gen s.obj w x v)(m:ao O β s.gen s.obj w j l):∃y Y,K y/\(∀w',Ext w w'->(Instr.indexAt t v l).run P w'=.ok Y w')/\ao O β s.gen s.obj w y Y:=by
 unfold pd at h;split at h
 .rename_i n e hd;have L:=(hT t abk).desc;rw[hd]at L;split at h
  .rename_i kd i;obtain rfl:=m.inv_int;split at h
   .rename_i id g f;obtain⟨o,ho,p,q,u,J⟩:=h;obtain⟨ad,H,bn,rfl⟩:=hv.2.2 o ho;refine⟨_,.pointer (S ⟨ad.block,ad.off+f+i.toNat*(G e).size,N⟩),J,λw' _=>?_,?_⟩;.simp[Instr.indexAt,asIntOf,run_underlying L,q,u,cl (hT e p),fb,Instr.sureAddr]
    .exact zs
   grind
  grind
 grind
def size_mk s:(⟨s.toArray⟩:ByteArray).size=z s:=c8
def getElem?_mk(s:List UInt8)(i:Nat):(⟨s.toArray⟩:ByteArray)[i]?=s[i]?:=by
 by_cases h:i<z s;.rw[getElem?_pos (⟨s.toArray⟩:ByteArray) i (by simpa[ByteArray.size]using h),x9 h];rfl
 .have this:¬i<(⟨s.toArray⟩:ByteArray).size:=by simpa[ByteArray.size]using h
  grind
def BV(L:P.underlying t=S .string){x e}{v f}(h:yh x e k)(j:ao O β s.gen s.obj w x v)(l:ao O β s.gen s.obj w e f):∃y Y,K y/\(∀w',Ext w w'->(Instr.index t v f).run P w'=.ok Y w')/\ao O β s.gen s.obj w y Y:=by
 unfold yh at h;split at h
 .rename_i kd i;obtain rfl:=l.inv_int;split at h;.rename_i bs;obtain⟨m,h⟩:=h;obtain⟨c,n,J⟩:=bh h;obtain rfl:=j.inv_str;refine⟨_,.int .u8 c.toNat,J,λw' _=>?_,by simp only[ao,aQ];exact .int _ _⟩;simp_all[getElem?_mk,Instr.index,asIntOf,run_underlying]
  grind
 grind
def jf{kd}{n}{x:Sem Value}(h:K (iv kd n))(V:∀w,x.run P w=.ok (.int kd n) w):∃X Y,K X/\(∀w',Ext w w'->x.run P w'=.ok Y w')/\ao O β g ob w X Y:=⟨_,_,h,λw' _=>V w',by simp only[ao,aQ];exact .int _ _⟩
def ji{x:Sem Value}(h:K (bv b))(V:∀w,x.run P w=.ok (.bool b) w):∃X Y,K X/\(∀w',Ext w w'->x.run P w'=.ok Y w')/\ao O β g ob w X Y:=⟨_,_,h,λw' _=>V w',by simp only[ao,aQ];exact .bool _⟩
def Gu{s}{x:Sem Value}(h:K (sv s))(V:∀w,x.run P w=.ok (.string ⟨s.toArray⟩) w):∃X Y,K X/\(∀w',Ext w w'->x.run P w'=.ok Y w')/\ao O β g ob w X Y:=⟨_,_,h,λw' _=>V w',by simp only[ao,aQ];exact .str _⟩
def Me{kd e}{x y}{t}(f:sameKind op kd e)(h:qQ op kd x y k):∃X Y,K X/\(∀w',Ext w w'->(binOp op t (.int kd x) (.int e y)).run P w'=.ok Y w')/\ao O β g ob w X Y:=by
 cases op<;>simp only[qQ,sameKind]at h f<;>(try subst f);case quo=>exact jf h.2 (λw=>by simp[binOp,Op.intDiv,h.1])
 case rem=>exact jf h.2 (λw=>by simp[binOp,Op.intDiv,h.1])
 case shl=>have:=Int.not_lt.2 h.1;exact jf h.2 (λw=>by simp[binOp,Op.shift,this])
 case shr=>have:=Int.not_lt.2 h.1;exact jf h.2 (λw=>by simp[binOp,Op.shift,this])
 case add=>exact jf h ac5
 case sub=>exact jf h ac5
 case mul=>exact jf h ac5
 case and=>exact jf h abS
 case or=>exact jf h abS
 case xor=>exact jf h abS
 case andNot=>exact jf h abS
 case eql=>exact ji h (λw=>by simp[binOp,Op.intCmp];rfl)
 case neq=>exact ji h (λw=>by simp[binOp,Op.intCmp];rfl)
 all_goals exact ji h (λw=>by simp[binOp,Op.intCmp])
def xN(x y:List UInt8):(x==y)=decide (x=y):=by grind
def Ke(x y:List UInt8):(⟨x.toArray⟩)++(⟨y.toArray⟩:ByteArray)=⟨(x++y).toArray⟩:=by rfl
def Mf{x y}{t}(h:JU op x y k):∃X Y,K X/\(∀w',Ext w w'->(binOp op t (.string ⟨x.toArray⟩) (.string ⟨y.toArray⟩)).run P w'=.ok Y w')/\ao O β g ob w X Y:=by
 cases op<;>simp only[JU]at h;case add=>
  refine Gu h.2 λw=>?_;have U:=h.1;have Z:¬(((⟨x.toArray⟩:ByteArray).size+(⟨y.toArray⟩:ByteArray).size:Nat):Int)>IntKind.i64.max:=by have e:=size_mk x;have f:=size_mk y;have i:IntKind.i64.max=9223372036854775807:=a8;omega
  simp only[binOp,Op.stringOp,l4 Z,Ke];rfl
 case eql=>exact ji h abJ
 case neq=>exact ji h abJ
 case lss=>exact ji h (λw=>by simp[binOp,Op.stringOp])
 case leq=>exact ji h abJ
 case gtr=>exact ji h abJ
 case geq=>exact ji h (λw=>by simp[binOp,Op.stringOp])
def kh op t x y a b(h:∀cs,a≠.agg cs)(Z:a≠.nilIface):(eqGuard op t x y a b).run P w=.ok () w:=by unfold eqGuard;simp_all
def run_equal_bool{t}(L:P.underlying t=S .bool) a b:(Op.equal t (.bool a) (.bool b)).run P w=.ok (a==b) w:=by obtain⟨d,hd⟩:∃d,Op.maxDepth=d+1:=⟨9999,rfl⟩;unfold Op.equal;rw[hd];simp[Op.equalIn,run_underlying L]
def tE{g}{ob}{k}:∀{cs}{m}{vs},AF k cs=S m->z vs=z cs->(∀(i:Nat) c,cs[i]?=S c->∃u,vs[i]?=S u/\aQ O β g ob w c u)->vs=m.map (Value.int k)|[],m,vs,h,hl,_=>by cases h;grind;|c::cs,m,vs,h,hl,V=>by obtain⟨u,L,e⟩:=V 0 c rfl;match vs,hl with
 |v::vs,hl=>
 obtain rfl:=F8 L;unfold AF at h;split at h;.grind
 .rename_i E n r j;cases j;split at h;.rename_i l;subst l;cases f:AF E cs with|none=>grind;|some ms=>rw[f]at h;cases h;rw[e.inv_int,tE f ZN (λi c h=>V (i+1) c h)];rfl
  .cases h
 .cases h
def uF{e}{k}(f:P.underlying e=S (.int k)){cs:List Value}{i}(h:cs[i]?=S v):(part e cs.toArray i).run P w=.ok v w:=by simp[part,isAgg,run_underlying f,h]
def qI{e}{k}(f:P.underlying e=S (.int k)) d{xs Q}:∀m j w,z xs=j+m->z Q=j+m->(Op.eqItems (d+1) e 1 (xs.map (Value.int k)).toArray (Q.map (Value.int k)).toArray (List.range' j m)).run P w=.ok (decide (xs.drop j=Q.drop j)) w
 |0,j,w,I,i=>by rw[y8 a7,y8 a7];rfl;|m+1,j,w,I,i=>by
  have U:j<z xs:=a7;have Z:j<z Q:=a7;rw[List.range'_succ];simp only[Op.eqItems,Sem.run_bind,LK];rw[uF f (v:=.int k xs[j]) (by simp[U])];simp only[Result.andThen_ok];rw[uF f (v:=.int k Q[j]) (by simp[Z])];simp only[Result.andThen_ok];rw[run_equalIn_int w d e k k _ _ f];simp only[Result.andThen_ok];have l:decide (xs.drop j=Q.drop j)=(decide (xs[j]=Q[j])&&decide (xs.drop (j+1)=Q.drop (j+1))):=by rw[B8 U,B8 Z];simp only[UN,Bool.decide_and]
  rw[l];by_cases h:xs[j]=Q[j];.simp only[h,beq_self_eq_true,T4,B4,B1,T0,A7];exact qI f d m (j+1) w a7 a7
  simp_all
def yz(hT:bK P G){g}{ob}{t n e:Nat}{xs Q}{vs W}(l:P.underlying t=S (.array n e)){K}{k:Box K}(h:QJ (G e) n xs Q k)(o:pj O β g ob w xs vs)(L:pj O β g ob w Q W):∃b,K b/\∀w',(Op.equalIn 10000 t (.agg vs) (.agg W)).run P w'=.ok b w'/\P.eqGuardType P.depth t=F:=by
 unfold QJ at h;split at h
 .rename_i kd hd;obtain⟨q,h⟩:=h;have r:=hT e abk;have f:=r.desc;rw[hd]at f;obtain⟨i,p,az,_⟩:=r.info;unfold cA at h;split at h
  .rename_i a u;split at h
   .rename_i b y;obtain⟨⟨A,m⟩,J⟩:=h;have B:=tE (vs:=vs.toList) u (by simpa using o.1) (λi c j=>by simpa using o.2 i c j);have E:=tE (vs:=W.toList) y (by simpa using L.1) (λi c j=>by simpa using L.2 i c j);refine⟨_,J,λw'=>⟨?_,?_⟩⟩;.rw[show vs=(a.map (Value.int kd)).toArray from by grind,show W=(b.map (Value.int kd)).toArray from by grind];rw[run_equalIn_array w' 9999 _ _ l p,show P.cellsOf e=1 by grind[Program.cellsOf],Q6,qI f 9998 n 0 w' a7 a7];rfl
    grind[Program.depth,Made.depth,Program.eqGuardType]
   grind
  grind
 grind
def Gv(hT:bK P G){x y}{v u}(h:Gj G (G t).desc op x y k)(f:ao O β s.gen s.obj w x v)(L:ao O β s.gen s.obj w y u) ox c:∃X Y,K X/\(∀w',Ext w w'->(do eqGuard op t ox c v u;binOp op t v u:Sem Value).run P w'=.ok Y w')/\ao O β s.gen s.obj w X Y:=by
 unfold Gj at h;split at h;.obtain rfl:=f.inv_int;obtain rfl:=L.inv_int;obtain⟨X,Y,U,Z,j⟩:=Me (O:=O) (β:=β) (g:=s.gen) (ob:=s.obj) (w:=w) (P:=P) (t:=t) h.1 h.2;exact⟨X,Y,U,λw' bc=>by simp_all[Sem.run_bind,kh,b9],j⟩
 .obtain rfl:=f.inv_str;obtain rfl:=L.inv_str;obtain⟨X,Y,U,Z,j⟩:=Mf (O:=O) (β:=β) (g:=s.gen) (ob:=s.obj) (w:=w) (P:=P) (t:=t) h;exact⟨X,Y,U,λw' bc=>by simp_all[Sem.run_bind,kh,b9],j⟩
 .rename_i a b;obtain rfl:=f.inv_bool;obtain rfl:=L.inv_bool;unfold Wa at h;split at h;.rename_i hd;have i:=(hT t abk).desc;rw[hd]at i;refine ji h λw=>?_;rw[Sem.run_bind,kh _ _ _ _ _ _ b9 b9];simp only[binOp,Sem.run_bind,Result.andThen_ok,run_equal_bool i,Sem.run_pure];rfl
  .rename_i hd;have i:=(hT t abk).desc;rw[hd]at i;refine ji h λw=>?_;rw[Sem.run_bind,kh _ _ _ _ _ _ b9 b9];simp only[binOp,Sem.run_bind,Result.andThen_ok,run_equal_bool i,Sem.run_pure];grind
  grind
 .rename_i l Q;obtain⟨vs,rfl,f⟩:=f;obtain⟨W,rfl,L⟩:=L;unfold ZL at h;split at h;.rename_i n e hd;have i:=(hT t abk).desc;rw[hd]at i;obtain⟨b,J,V⟩:=yz hT i h f L;refine ji J λw=>?_;rw[Sem.run_bind,run_eqGuard_agg w _ _ _ _ _ _ (V w).2];grind[Result.andThen_ok,run_eql_struct]
  .rename_i n e hd;have i:=(hT t abk).desc;rw[hd]at i;obtain⟨b,J,V⟩:=yz hT i h f L;refine ji J λw=>?_;rw[Sem.run_bind,run_eqGuard_agg w _ _ _ _ _ _ (V w).2];grind[Result.andThen_ok,run_neq_struct]
  grind
 grind
def Kf{op}(h:unA op x k)(e:ao O β s.gen s.obj w x v):∃X Y,K X/\(∀w',Ext w w'->(Op.unary op v).run P w'=.ok Y w')/\ao O β s.gen s.obj w X Y:=by
 unfold unA at h;split at h;.obtain rfl:=e.inv_bool;exact ji h (λw=>by rfl)
 .obtain rfl:=e.inv_int;exact jf h (λw=>by rfl)
 grind
def AL{a b}(e:jV kd a=T)(f:jV kd b=T):nD a b=T↔dV a=dV b:=by cases kd<;>cases a<;>cases b<;>simp_all[jV,nD,dV]
def rj{a}(h:jV kd a=T):MapKept.IsKey kd (dV a):=by cases kd<;>cases a<;>simp_all[jV,MapKept.IsKey,dV]
def cX.key{a}(e:jV kd a=T)(h:cX J w a v):v=dV a:=by cases h<;>first|rfl|(cases kd<;>simp[jV]at e;done)
def fL.find{R}{cs}{es}(h:fL R kd cs es){k}(m:jV kd k=T) i:(Instr.findNow kd (dV k) es i=S N/\mget cs k=N/\∀c v,R c v->∀b,fL R kd (mset cs k c) (es++[{key:=dV k,val:=v,born:=b}]))\/∃j e c,Instr.findNow kd (dV k) es i=S (S (i+j,e.val))/\es[j]?=S e/\e.key=dV k/\mget cs k=S c/\R c e.val/\∀c' v,R c' v->fL R kd (mset cs k c') (es.modify j λe=>{e with key:=dV k,val:=v}):=by induction h generalizing i with|nil=>exact .inl ⟨rfl,rfl,λc v V b=>.cons m rfl V .nil⟩;|cons f U Z V q=>rename_i E c e cs es;obtain⟨r,n,a⟩:=MapKept.sameNow_of_keys (rj m) (rj f);cases r with|true=>have u:=a.1 rfl;have d:=(AL f m).2 u.symm;refine .inr ⟨0,e,c,by simp[Instr.findNow,U,n],rfl,by grind,by simp[mget,d],Z,λc' v l=>?_⟩;simp only[mset,d,B3,List.modify_cons];exact .cons f a7 l V;|false=>
 have bz:nD E k=F:=by cases y:nD E k with|false=>rfl;|true=>have:=a.2 ((AL f m).1 y).symm;cases this
 rcases q (i+1)with⟨o,p,g3⟩|⟨j,A,c',o,p,g3,g4,g5,B⟩;.exact .inl ⟨by grind[Instr.findNow],by grind[mget],λc v l b=>by simp only[mset,bz,z6];exact .cons f U Z (g3 c v l b)⟩
 .refine .inr ⟨j+1,A,c',by grind[Instr.findNow],by grind,g3,by grind[mget],g5,λc2 v l=>?_⟩;simp only[mset,bz,List.modify_succ_cons];exact .cons f U Z (B c2 v l)
def Kg(hT:bK P G){K}{k:Box K}(h:Dm (G t) k):∃X,K X/\nJ X=T/\(∀w,(zeroValue t).run P w=.ok (dV X) w)/\okD (G t).desc=T:=by
 unfold Dm at h;split at h;.rename_i X e;have f:=hT t h.1.1;obtain⟨i,j,n,o,a,b,l⟩:=f.info;refine⟨X,h.2,by have:=f.plain;rw[e]at this;simpa using this,λw=>?_,h.1.1⟩;rw[e]at l;simp[zeroValue,typeInfo,j,b,by have:=f.zone h.1.2 i a j b;rwa [e]at this]
 grind
def vI{g}{ob}{X}(J:K (xd ok X c))(e:aQ O β g ob w (c.getD (.d X)) v):∃y Y,K y/\(∀w',Ext w w'->(pure (if ok then .tuple #[v,.bool c.isSome]else v):Sem Value).run P w'=.ok Y w')/\ao O β g ob w y Y:=by
 refine⟨_,_,J,λw' _=>by rw[Sem.run_pure],?_⟩;cases ok;.grind[xd,ao]
 .simp only[xd,B3,ao,bg];exact⟨[v,.bool c.isSome],rfl,_,_,rfl,e,_,_,rfl,by simp only[aQ];exact .bool _,rfl⟩
def Vd{kd}(h:fq kd=d){k}(e:jV d k=T):kd<200:=by
 refine Nat.lt_of_not_le λf=>?_;have:fq kd=.invalid:=by unfold fq;split<;>first|omega|rfl
 rw[this]at h;grind[jV]
def Kh(hT:bK P G){K}{k:Box K}(h:Dp (G t) k):∃m vs,K m/\(∀w,(zeroValue t).run P w=.ok (.agg vs) w)/\vs.size=z m/\∀(i:Nat) x,m[i]?=S x->vs[i]?=S (dV x)/\nJ x=T:=by
 obtain⟨⟨l,Z⟩,J⟩:=h;have e:=hT t l;obtain⟨i,n,o,p,a,b,f⟩:=e.info;have c:∃vs,a=.agg vs:=by cases a with|agg vs=>simp;|_=>exfalso;have:=congrArg z f;grind[Value.cells]
 obtain⟨vs,rfl⟩:=c;have b2:vs.toList=(G t).zero.map dV:=by simpa[Value.cells]using f
 refine⟨_,vs,J,λw=>by simp[zeroValue,typeInfo,n,b],by rw[<-O2,b2,j6],λj x I=>⟨?_,?_⟩⟩;.rw[<-G4,b2,A4,I];rfl
 .exact z7.1 e.plain x (l8 I)
def tF{g}{ob}{X}{vs}(J:K (pQ ok X c))(j:vs.size=z (Dn X c))(h:∀(i:Nat) x,(Dn X c)[i]?=S x->∃u,vs[i]?=S u/\cX (Imm O β ob w) w x u):∃y Y,K y/\(∀w',Ext w w'->(pure (if ok then .tuple #[.agg vs,.bool c.isSome]else .agg vs):Sem Value).run P w'=.ok Y w')/\ao O β g ob w y Y:=by
 have b:pj O β g ob w ((Dn X c).map .d) vs:=by refine⟨by grind,λi l e=>?_⟩;rw[A4]at e;cases f:(Dn X c)[i]?with|none=>grind;|some x=>rw[f]at e;cases e;exact h i x f
 refine⟨_,_,J,λw' _=>by rw[Sem.run_pure],?_⟩;cases ok;.grind[pQ,ao]
 .simp only[pQ,B3,ao,bg];exact⟨[.agg vs,.bool c.isSome],rfl,_,_,rfl,⟨vs,rfl,b⟩,_,_,rfl,by simp only[aQ];exact .bool _,rfl⟩
def Aj(hT:bK P G)(V:Rel O al s β a w){x ix}{v vi}(h:pR G t s x ix ok k)(Z:ao O β s.gen s.obj w x v)(hi:ao O β s.gen s.obj w ix vi):∃y Y,K y/\(∀w',Ext w w'->(Instr.lookup t v vi ok).run P w'=.ok Y w')/\ao O β s.gen s.obj w y Y:=by
 unfold pR at h;split at h
 .rename_i n B Q hd;obtain⟨⟨an,o⟩,h⟩:=h;have L:=(hT t abk).desc;rw[hd]at L;have hk:=(hT n an).desc;obtain rfl:=hi.key o;have E:∀e w,(Instr.checkKey e 10000 n (dV Q)).run P w=.ok () w:=λe w=>MapKept.run_checkKey hk (rj o) e 9999;split at h
  .obtain⟨X,h,d,b,_⟩:=Kg hT h;split at h
   .rename_i id g kd _;obtain⟨hg,r,h⟩:=h;have af:=Vd r o;obtain⟨cells,ho,J⟩:=bh h;obtain⟨ad,H,bn,rfl⟩:=Z.2.2 hg abh;have bk:=V.obj id cells ho;rw[H]at bk;obtain⟨es,p,A,hm⟩:=(bk.map bn.1).2.resolve_right (λh=>bn.2 h.1);rw[BS af,show ph kd=fq kd from s5 af,r]at hm;rcases hm.find o 0 with⟨g1,g2,_⟩|⟨j,e,c,g1,_,_,g4,g5,_⟩;.obtain⟨y,Y,q1,q2,q3⟩:=vI (P:=P) (w:=w) (O:=O) (β:=β) (g:=s.gen) (ob:=s.obj) J (by rw[g2];simp only[T5,aQ];exact .of_plain d);exact n8
    .obtain⟨y,Y,q1,q2,q3⟩:=vI (P:=P) (w:=w) (O:=O) (β:=β) (g:=s.gen) (ob:=s.obj) J (v:=e.val) ZN;refine⟨y,Y,q1,λw' bc=>?_,q3⟩;have q2:=q2 w' bc;rw[g4]at q2;simp only[Sem.run_pure,Result.ok.injEq,P6]at q2;subst q2;simp[Instr.lookup,run_underlying L,MapKept.run_getObj_map (bc.cells A),E,MapKept.run_findKey hk g1]
   .cases Z;obtain⟨y,Y,q1,q2,q3⟩:=vI (P:=P) (w:=w) (O:=O) (β:=β) (g:=s.gen) (ob:=s.obj) h (by simp only[T5,aQ];exact .of_plain d);exact ns
   grind
  .obtain⟨X,m,h,b,f,q⟩:=Kh hT h;have U:∀(i:Nat)(x:D),X[i]?=S x->∃u,m[i]?=S u/\cX (Imm O β s.obj w) w x u:=λi x I=>⟨_,(q i x I).1,.of_plain (q i x I).2⟩;split at h
   .rename_i id g kd _;obtain⟨hg,⟨b5,r⟩,h⟩:=h;obtain⟨cells,ho,J⟩:=bh h;obtain⟨ad,H,bn,rfl⟩:=Z.2.2 hg abh;have bk:=V.obj id cells ho;rw[H]at bk;obtain⟨es,p,A,hm⟩:=(bk.map bn.1).2.resolve_right (λh=>bn.2 h.1);rw[show ph kd=fq (kd-200)from l4 a7,r]at hm;rcases hm.find o 0 with⟨g1,g2,_⟩|⟨j,e,c,g1,_,_,g4,g5,_⟩;.obtain⟨y,Y,q1,q2,q3⟩:=tF (P:=P) (g:=s.gen) J (by rw[g2];exact f) (by rw[g2];exact U);exact n8
    .unfold lu at g5;rw[l4 a7]at g5;obtain⟨ds,vs,rfl,l,hs,W⟩:=g5;obtain⟨y,Y,q1,q2,q3⟩:=tF (P:=P) (g:=s.gen) J (by rw[g4];exact hs) (by rw[g4];exact W);refine⟨y,Y,q1,λw' bc=>?_,q3⟩;have q2:=q2 w' bc;rw[g4]at q2;simp only[Sem.run_pure,Result.ok.injEq,P6]at q2;subst q2;simp[Instr.lookup,run_underlying L,MapKept.run_getObj_map (bc.cells A),E,MapKept.run_findKey hk g1,l]
   .cases Z;obtain⟨y,Y,q1,q2,q3⟩:=tF (P:=P) (g:=s.gen) h f U;exact ns
   grind
 grind
def Mg{g}{ob}{p}(e:LJ x=S p)(f:ao O β g ob w x v):mO O β g ob w p v:=by
 unfold LJ at e;split at e;.cases e;simpa only[ao,aQ,mO]using f
 .cases e;grind[ao,aQ,mO]
 .cases e
def AM{al}{s}{a}(V:Rel O al s β a w):∀xs{ps},qW (xs.map s.ev)=S ps->z ps=z xs/\∀(i:Nat) pc,ps[i]?=S pc->∃x,xs[i]?=S x/\mO O β s.gen s.obj w pc (a.eval x)|[],ps,h=>by grind[qW];|x::xs,ps,h=>by simp only[s7,qW]at h;cases U:LJ (s.ev x)with|none=>grind;|some p=>rw[U]at h;cases Z:qW (xs.map s.ev)with|none=>grind;|some b=>rw[Z]at h;simp only[I9,w7]at h;subst h;obtain⟨f,j⟩:=AM V xs Z;refine⟨by simp[f],λi pc e=>?_⟩;cases i with|zero=>simp at e;subst e;exact⟨x,rfl,Mg U (V.ev x)⟩;|succ i=>grind
def xE(V:Rel O al s β a w){f}{first bd:Array Operand}(h:lH f (first.toList.map s.ev) (bd.toList.map s.ev) k):∃y Y,K y/\(∀w',Ext w w'->(Instr.makeFunc (.func f) (first.map a.eval) (bd.map a.eval)).run P w'=.ok Y w')/\ao O β s.gen s.obj w y Y:=by
 have b2:∀(e:Array Operand){l:List PC},qW (e.toList.map s.ev)=S l->(e.map a.eval).size=z l/\∀(i:Nat)(pc:PC),l[i]?=S pc->∃u,(e.map a.eval)[i]?=S u/\mO O β s.gen s.obj w pc u:=λe l hl=>by obtain⟨o,p⟩:=AM V e.toList hl;grind
 unfold lH at h;split at h
 .rename_i j;obtain⟨m,h⟩:=h;obtain⟨l,hl,J⟩:=bh h;have j:first=#[]:=by have:=congrArg z j;exact Q3 ZN
  subst j;refine⟨_,.func (.func f) #[] (bd.map a.eval),J,λw' _=>by simp[Instr.makeFunc],?_⟩;simp_all[ao,aQ,xL]
 .rename_i x r j;obtain⟨m,h⟩:=h;obtain⟨l,hl,J⟩:=bh h;rw[<-j]at hl;have n:bd=#[]:=by have:=congrArg z m;exact Q3 ZN
  subst n;refine⟨_,.func (.func f) (first.map a.eval) #[],J,λw' _=>by simp[Instr.makeFunc],?_⟩;simp_all[ao,aQ,Du]
def jX(h:isStr d=T):d=.string:=by cases d<;>simp_all[isStr]
def Gw(hT:bK P G){ty}(h:Dk s (isStr (G t).desc) (eL G t) x k)(f:ao O β s.gen s.obj w x v):∃X Y,K X/\(∀w',Ext w w'->(Builtin.len_ #[t] ty #[v]).run P w'=.ok Y w')/\ao O β s.gen s.obj w X Y:=by
 unfold Dk at h;split at h;.obtain⟨i,h⟩:=h;obtain⟨e,_,_,L,_⟩:=gf hT i;obtain rfl:=f.inv_nsl;exact V1
 .obtain⟨i,h⟩:=h;obtain⟨e,_,_,L,_⟩:=gf hT i;refine jf h λw=>?_;cases f<;>simp[Builtin.len_,run_underlying L,goInt]
 .obtain⟨i,h⟩:=h;have L:=(hT t (by rw[jX i];rfl)).desc;rw[jX i]at L;obtain rfl:=f.inv_str;exact jf h (λw=>by simp[Builtin.len_,run_underlying L,goInt,size_mk])
 .obtain⟨i,l,ho,h⟩:=h;obtain⟨e,_,_,L,_⟩:=gf hT i;simp only[ao]at f;obtain⟨a,j,rfl,_⟩:=(iV f l ho).slice;exact V1
 .obtain⟨i,h⟩:=h;obtain⟨e,_,_,L,_⟩:=gf hT i;obtain⟨a,j,rfl⟩:=f;exact V1
 grind
end
section
variable{lo I:Option AV}{q f:Option Value}{K:AV->Prop}{k:Box K}{P:Program}{G:Nat->TI}{O:Bs}{β:Loc}{g:Nat->Nat}{ob:Obs}{w:World}
inductive BZ (O:Bs) (β:Loc) (g:Nat->Nat) (ob:Obs) (w:World):Option AV->Option Value->Prop where|none:BZ O β g ob w none none|some {x:AV}{v:Value} (h:ao O β g ob w x v):BZ O β g ob w (some x) (some v)
def run_sliceBound{kd}{i}{y}{c}(a:0<=i)(U:i.toNat<=y):(Instr.sliceBound (.int kd i) y c).run P w=.ok i.toNat w:=by simp_all[a7,Instr.sliceBound,asIntOf]
def iL{o}{a}{G}{K}{k:Box K}(h:lE o G k)(ho:BZ O β g ob w o a):∃n,K n/\((a=N/\n=G)\/∃kd i,a=S (.int kd i)/\0<=i/\n=i.toNat):=by
 unfold lE at h;split at h;.cases ho;grind
 .cases ho with|some b=>grind[ao,aQ,b.inv_int]
 grind
def eH{b}{len cap h l}{ho lo}(c:(ho=N/\h=len)\/∃kd i,ho=S (.int kd i)/\0<=i/\h=i.toNat)(hl:(lo=N/\l=0)\/∃kd i,lo=S (.int kd i)/\0<=i/\l=i.toNat)(U:l<=h)(Z:h<=cap):(Instr.sliceBounds b len cap lo ho N).run P w=.ok (l,h,cap) w:=by rcases c with⟨rfl,rfl⟩|⟨kd,i,rfl,I,rfl⟩<;>rcases hl with⟨rfl,rfl⟩|⟨a,d,rfl,e,rfl⟩<;>simp[Instr.sliceBounds,run_sliceBound, *]
def extract_mk(s:List UInt8) l h:(⟨s.toArray⟩:ByteArray).extract l h=⟨((s.take h).drop l).toArray⟩:=by apply ByteArray.ext;apply H8;rw[ByteArray.data_extract];simp[List.drop_take]
def Ca(hT:bK P G){s}{t}{x}{v}(h:qU s (isStr (G t).desc) (eL G t) (bI G t).size x lo I k)(Q:ao O β s.gen s.obj w x v)(m:BZ O β s.gen s.obj w lo q)(c:BZ O β s.gen s.obj w I f):∃y Y,K y/\(∀w',Ext w w'->(Instr.sliceAt t v q f N).run P w'=.ok Y w')/\ao O β s.gen s.obj w y Y:=by
 unfold qU at h;split at h;.rename_i bs;obtain⟨W,h⟩:=h;obtain⟨n,h,V⟩:=iL h c;obtain⟨ln,⟨U,Z,J⟩,hl⟩:=iL h m;have L:=(hT t (by rw[jX W];rfl)).desc;rw[jX W]at L;obtain rfl:=Q.inv_str;refine Gu J λw=>?_;simp[Instr.sliceAt,run_underlying L,Instr.slice,size_mk,λw=>eH (P:=P) (w:=w) (b:=F) V hl U Z,extract_mk]
 .rename_i es;obtain⟨W,h⟩:=h;obtain⟨n,h,V⟩:=iL h c;obtain⟨ln,⟨U,Z,az,J⟩,hl⟩:=iL h m;obtain⟨e,cx,b6,L,r⟩:=gf hT W;rw[b6]at az;have bd:z ((es.take n).drop ln)=n-ln:=by simp;omega
  cases Q with|@sl0 a cap=>
  have h0:n=0:=by simpa using Z
  subst h0;have A:ln=0:=a7;subst A;refine⟨_,.slice a 0 cap,J,λw' _=>?_,?_⟩
  .have ha:a.map (λx=>x.add 0)=a:=by cases a<;>simp[Addr.add]
   simp[Instr.sliceAt,run_underlying L,Instr.slice,λw=>eH (P:=P) (w:=w) (b:=T) (len:=0) (cap:=cap) V hl U (LL _),cl r,ha]
  .simp only[ao,aQ];exact .sl0;|sl p cm hJ d bo b7=>
  rename_i b E cap sz;have hb:=λw=>eH (P:=P) (w:=w) (b:=T) (cap:=cap) V hl U a7;by_cases hc:cap=ln;.subst hc;refine⟨_,.slice (S ⟨b,E,N⟩) (n-cap) (cap-cap),J,λw' _=>by simp[Instr.sliceAt,run_underlying L,Instr.slice,hb,cl r],?_⟩;simp only[ao,aQ];have l:(es.take n).drop cap=[]:=v7 a7;rw[l,<-bd,l];exact oo
  .refine⟨_,.slice (S ⟨b,E+ln*(G e).size,N⟩) (n-ln) (cap-ln),J,λw' _=>by simp[Instr.sliceAt,run_underlying L,Instr.slice,hb,cl r,hc,fb],?_⟩;simp only[ao,aQ];rw[<-bd];have u:∀(i:Nat)(y:List D),((es.take n).drop ln)[i]?=S y->es[ln+i]?=S y:=λi y hy=>by grind
   by_cases bz:es=[];.subst bz;simp only[List.take_nil,List.drop_nil];exact oo
   .have b3:(G e).size=sz:=by obtain⟨y,hy⟩:=List.exists_mem_of_ne_nil es bz;rw[<-az y hy,d y hy]
    rw[b3];refine .sl (λi j=>p (ln+i) j) a7 (λ_=>hJ bz) (λy hy=>d y (N4 (N5 hy))) (λi y hy j X hz=>?_) (λi y hy j X hz=>b7 _ _ (u i y hy) j X hz);grind
 .obtain⟨W,h⟩:=h;obtain⟨n,h,V⟩:=iL h c;obtain⟨ln,⟨rfl,rfl,J⟩,hl⟩:=iL h m;obtain⟨e,cx,b6,L,r⟩:=gf hT W;obtain rfl:=Q.inv_nsl;refine⟨_,.slice N 0 0,J,λw' _=>by simp[Instr.sliceAt,run_underlying L,Instr.slice,λw=>eH (P:=P) (w:=w) (b:=T) V hl (l7 _) (l7 _),cl r],?_⟩;grind[ao,aQ]
 .rename_i id g' an E len;obtain⟨W,hg,ho,h⟩:=h;obtain⟨n,h,V⟩:=iL h c;obtain⟨ln,⟨U,Z,b8,J⟩,hl⟩:=iL h m;obtain⟨e,cx,b6,L,r⟩:=gf hT W;rw[b6]at b8 J;subst b8;clear h;simp only[ao]at Q;have b4:=iV Q hg ho;cases H:β id with|none=>rw[H]at b4;obtain⟨rfl,rfl⟩:=b4;have e1:n=0:=a7;have e2:ln=0:=a7;subst e1;subst e2;have this:=λw=>eH (P:=P) (w:=w) (b:=T) V hl (l7 _) (l7 _);refine⟨_,.slice N 0 0,J,λw' _=>by simp[Instr.sliceAt,run_underlying L,Instr.slice,this,cl r],?_⟩;simp_all[ao,aQ,b9];|some ad=>
  rw[H]at b4;obtain⟨bn,b4⟩:=b4;rcases b4 with⟨cap,rfl,cm,b1⟩|⟨rfl,o,rfl⟩
  .have hb:=λw=>eH (P:=P) (w:=w) (b:=T) (cap:=cap) V hl U a7;by_cases hc:cap=ln;.subst hc;refine⟨_,.slice (S ⟨ad.block,ad.off+E,N⟩) (n-cap) (cap-cap),J,λw' _=>by simp[Instr.sliceAt,run_underlying L,Instr.slice,hb,cl r],?_⟩;simp only[ao,aQ];have e1:n-cap=0:=a7;refine⟨rfl,Q.2.1,λ_ _=>?_⟩;rw[H,e1,K8];exact⟨bn,.inr ⟨rfl,ad.off+E,rfl⟩⟩
   .refine⟨_,.slice (S ⟨ad.block,ad.off+E+ln*(G e).size,N⟩) (n-ln) (cap-ln),J,λw' _=>by simp[Instr.sliceAt,run_underlying L,Instr.slice,hb,cl r,hc,fb],?_⟩;simp only[ao,aQ];refine⟨rfl,Q.2.1,λ_ _=>?_⟩;rw[H];refine⟨bn,.inl ⟨cap-ln,by grind,a7,λarr el fr B=>?_⟩⟩;have:=b1 arr el fr B;have e3:cap=ln+(cap-ln):=a7;rw[e3,J6]at this;omega
  .have e1:n=0:=a7;have e2:ln=0:=a7;subst e1;subst e2;have this:=λw=>eH (P:=P) (w:=w) (b:=T) V hl (l7 _) (l7 _);refine⟨_,.slice (S ⟨ad.block,o,N⟩) 0 0,J,λw' _=>by simp[Instr.sliceAt,run_underlying L,Instr.slice,this,cl r],?_⟩;simp_all[ao,aQ,b9]
 grind
def xF(hT:bK P G){s}(E:∀id cs ad,s.obj id=S cs->β id=S ad->ad.spot=N->∀arr el fr,w.heap[ad.block]?=S (.cells arr el fr)->ad.off+z cs<=arr.size){t}{x}{v}(h:pe G (G t).desc s x lo I k)(a:ao O β s.gen s.obj w x v)(m:BZ O β s.gen s.obj w lo q)(c:BZ O β s.gen s.obj w I f):∃y Y,K y/\(∀w',Ext w w'->(Instr.sliceAt t v q f N).run P w'=.ok Y w')/\ao O β s.gen s.obj w y Y:=by
 unfold pe at h;split at h
 .rename_i n e hd;have L:=(hT t abk).desc;rw[hd]at L;split at h
  .rename_i id g off;split at h
   .obtain⟨l,o,⟨cs,b2,bl⟩,h⟩:=h;obtain⟨d,⟨Z,J⟩,p⟩:=iL h c;cases m;have r:=hT e o;obtain⟨ad,H,u,rfl⟩:=a.2.2 l ZN;have i:=λw=>eH (P:=P) (w:=w) (b:=F) p (.inl ⟨rfl,rfl⟩) (LL _) Z;refine⟨_,.slice (S ⟨ad.block,ad.off+off,N⟩) d n,J,λw' _=>?_,?_⟩
    .by_cases j:n=0;.subst j;obtain rfl:d=0:=a7;simp[Instr.sliceAt,run_underlying L,Instr.slice,i,cl r,Instr.sureAddr]
     .simp[Instr.sliceAt,run_underlying L,Instr.slice,i,cl r,Instr.sureAddr,j,fb]
    .simp only[ao,aQ];refine⟨rfl,a.2.1,λ_ _=>?_⟩;rw[H];exact⟨u,.inl ⟨n,rfl,Z,λarr el fr B=>by grind⟩⟩
   grind
  grind
 grind
end
section
def setCells_size b:∀vs o(w:World),(w.setCells b o vs).heap.size=w.heap.size|[],_,_=>rfl|v::r,o,w=>by rw[World.setCells,setCells_size b r];simp
def ou b:∀vs o(w:World),(w.setCells b o vs).os=w.os/\(w.setCells b o vs).output=w.output|[],_,_=>⟨rfl,rfl⟩|v::r,o,w=>by rw[World.setCells];exact ou b r _ _
def heap_setCell(w:World) b o v c:(w.setCell ⟨b,o,N⟩ v).heap[c]?=if c=b then(match w.heap[c]?with|some (.cells arr el fr)=>S (.cells (arr.setIfInBounds o v) el fr)|x=>x)else w.heap[c]?:=by grind[World.setCell]
def heap_setCells_other b:∀vs o(w:World) c,c≠b->(w.setCells b o vs).heap[c]?=w.heap[c]?|[],_,_,_,_=>rfl|v::r,o,w,c,h=>by rw[World.setCells,heap_setCells_other b r _ _ c h,heap_setCell];simp[h]
def iN b:∀vs o(w:World) arr el fr,w.heap[b]?=S (.cells arr el fr)->∃bl,(w.setCells b o vs).heap[b]?=S (.cells bl el fr)/\bl.size=arr.size/\∀j,bl[j]?=if o<=j/\j<o+z vs/\j<arr.size then vs[j-o]?else arr[j]?
 |[],o,w,arr,el,fr,h=>⟨arr,h,rfl,λj=>by grind⟩|v::r,o,w,arr,el,fr,h=>by
  have U:(w.setCell ⟨b,o,N⟩ v).heap[b]?=S (.cells (arr.setIfInBounds o v) el fr):=by rw[heap_setCell];simp[h]
  obtain⟨bl,c,d,e⟩:=iN b r (o+1) _ _ el fr U;refine⟨bl,c,by grind,λj=>?_⟩;grind
def qe:∀cs off cells,z (setAt cells off cs)=z cells|[],_,_=>rfl|c::cs,off,cells=>by rw[setAt,qe cs];simp
def vN:∀cs off cells j,(setAt cells off cs)[j]?=if off<=j/\j<off+z cs/\j<z cells then cs[j-off]?else cells[j]?|[],off,cells,j=>by rw[setAt,l4 ZN];|c::cs,off,cells,j=>by rw[setAt,vN cs];grind
variable{s:St}{a:Act}{al:Nat}{arr:Array Value}{el:TypeId}{t:Nat}{K:St->Prop}{cs:List C}{v vi u:Value}{k:Box K}{P:Program}{G:Nat->TI}{O:Bs}{β:Loc}{w:World}
def ao.cells{g}{ob}{x}{v}{cs}(I:cellsOf x=S cs)(b:ao O β g ob w x v):∃vs,v.cells=vs.toArray/\z vs=z cs/\(∀(j:Nat) c,cs[j]?=S c->∃u,vs[j]?=S u/\aQ O β g ob w c u)/\∀u∈vs,u.oneCell'=T:=by
 cases x with|one c=>simp[cellsOf]at I;subst I;simp only[ao]at b;have U:=b.one;refine⟨[v],by cases v<;>first|rfl|(simp[Value.oneCell']at U),rfl,λj o e=>?_,λu L=>by grind⟩;grind;|agg f=>
 simp[cellsOf]at I;subst I;obtain⟨vs,rfl,U,Z⟩:=b;refine⟨vs.toList,c8,a7,λj c e=>by grind,λu L=>?_⟩;obtain⟨i,d⟩:=C9 L;have l:i<z f:=by have:=(l9.1 d).1;simp at this;omega
 obtain⟨m,n,V⟩:=Z i _ (x9 l);grind[V.one];|tup=>simp[cellsOf]at I;|junk=>simp[cellsOf]at I;|exact=>simp[cellsOf]at I
def ss{lo c b j}(h:w.heap[b]?=S (.cells arr el (lo,c)))(d:c<=lo\/arr.size<=lo)(e:j<arr.size):w.frozen? ⟨b,j,N⟩=F:=by grind[World.frozen?]
def qK{p}(e:uE P t p){b o}{v}{vs}(f:v.cells=vs.toArray)(hl:z vs=p.size)(U:∀u∈vs,u.oneCell'=T){lo c}(d:w.heap[b]?=S (.cells arr el (lo,c)))(g:c<=lo\/arr.size<=lo)(l:o+z vs<=arr.size):(Instr.storeAt t (.pointer (S ⟨b,o,N⟩)) v).run P w=.ok () (w.setCells b o vs):=by have:=run_storeCells_cells (P:=P) b o vs 0 w (λj i=>by rw[fM d,B9 a7];rfl) (λj i=>ss d g a7) U;simp[Instr.storeAt,Instr.sureAddr,storeVar,cl e,f,hl,this]
def uH(hT:bK P G)(V:Rel O al s β a w){x y}{v u}(h:tB (G t) s x y k)(Q:ao O β s.gen s.obj w x v)(L:ao O β s.gen s.obj w y u):∃p w',K p/\(Instr.storeAt t v u).run P w=.ok () w'/\Rel O al p β a w'/\Tr O β s w β p w':=by
 unfold tB at h;split at h
 .rename_i id g e;obtain⟨an,hg,h⟩:=h;obtain⟨cs,b2,az,h⟩:=bh h;obtain⟨d,ho,b1,J⟩:=bh h;obtain⟨ad,H,bn,rfl⟩:=Q.2.2 hg abh;have bk:=V.obj id d ho;rw[H]at bk;obtain⟨hB,arr,el,lo,hi,A,ar,bd,bs⟩:=bk.cells bn;obtain⟨vs,e1,e2,e3,e4⟩:=ao.cells b2 L;obtain⟨bl,f1,f2,f3⟩:=iN ad.block vs (ad.off+e) w arr el (lo,hi) A;have Y:∀i,(upd s.obj id (S (setAt d e cs)) i).isSome=(s.obj i).isSome:=λi=>by grind[upd]
  have q:ik O β s.gen s.obj w β s.gen (upd s.obj id (S (setAt d e cs))) (w.setCells ad.block (ad.off+e) vs):=by
   refine⟨λb hb=>?_,λ_=>l7 _,λi _ bo=>?_⟩;.have bz:b≠ad.block:=λhe=>hb.2.2 id ad abh H he.symm;exact S6
   .exact sr
  refine⟨_,_,J,qK (hT t an) (o:=ad.off+e) e1 a7 e4 A ar.1 a7,⟨V.defers,V.size,λi=>ao.keep q _ (V.f i),λi m l=>?_,λi i' a1 a2 U Z=>V.inj i i' a1 a2 ZN ZN,by grind⟩,by rw[setCells_size];simp,λb hb=>heap_setCells_other _ _ _ _ _ a7,q,ou _ _ _ _⟩;by_cases r:i=id
  .subst r;simp[upd]at l;subst l;rw[H];refine .ofCells bn ⟨hB,bl,el,lo,hi,f1,by grind,by simp_all[qe],λj c n=>?_⟩;rw[vN]at n;rw[f3];split at n;.rename_i E;obtain⟨B,a6,I⟩:=e3 _ c n;refine⟨B,?_,I.keep q⟩;grind
   .rename_i E;obtain⟨B,a6,I⟩:=bs j c n;have dh:=(l9.1 n).1;refine⟨B,?_,I.keep q⟩;grind
  .refine(V.obj i m (by simpa[upd,r]using l)).keep q (λW b4=>heap_setCells_other _ _ _ _ _ (λhb=>r (V.inj i id W ad ZN abh b4 H hb)))
 grind
def Rel.newAny{al c}(V:Rel O al s β a w) d{w'}{o}{ad}(e:ad.block=w.heap.size)(x:w'.heap=w.heap.push o)(E:w'.os=w.os/\w'.output=w.output)(y:ik O β s.gen s.obj w (upd β d (S ad)) (s.newC c d cs).gen (s.newC c d cs).obj w'->ew O (upd β d (S ad)) (s.newC c d cs).gen (s.newC c d cs).obj w' (nxC c (s.gen d)) cs (S ad)):Rel O al (s.newC c d cs) (upd β d (S ad)) a w'/\Tr O β s w (upd β d (S ad)) (s.newC c d cs) w':=by
 have j:∀b,b<w.heap.size->w'.heap[b]?=w.heap[b]?:=λb g=>by grind
 have q:ik O β s.gen s.obj w (upd β d (S ad)) (s.newC c d cs).gen (s.newC c d cs).obj w':=by
  refine⟨λb g=>⟨⟨by rw[x];simp;have:=g.1;omega,g.2.1,λi W hi B=>?_⟩,j b g.1⟩,λi=>?_,λi n hi=>?_⟩
  .simp only[St.newC,upd]at hi B;split at B;.cases B;have:=g.1;omega
   .rename_i bz;simp[bz]at hi;exact g.2.2 i W hi B
  .exact x3
  .simp only[St.newC,upd]at n hi|-;by_cases bz:i=d;.simp_all[yf]
   .simp only[bz,B1]at hi|-;refine⟨hi,trivial,λW b4 c1 c4 X U=>?_⟩;have I:W.block<w.heap.size:=by exact W2
    grind
 refine⟨⟨V.defers,V.size,λi=>ao.keep q _ (V.f i),λi m l=>?_,λi A J L U Z p r g=>?_,?_⟩,?_,?_,q,E⟩
 .simp[St.newC,upd]at l|-;by_cases H:i=d;.subst H;simp at l|-;subst l;exact y q
  .simp[H]at l|-;refine(V.obj i m l).keep q (λW b4=>j _ ?_);have:=V.obj i m l;rw[b4]at this;exact this.block.2
 .have I:∀(i:Nat)(W:Addr),(s.obj i).isSome=T->β i=S W->W.block<w.heap.size:=λi W hi b4=>by exact W2
  simp only[St.newC,upd]at U Z p r;by_cases hi:i=d<;>by_cases Q:A=d;.omega
  .grind
  .grind
  .simp[hi,Q]at U Z p r;exact V.inj i A J L U Z p r g
 .grind[V.base]
 .grind
 grind[V.base]
def Rel.new(c:Nat)(V:Rel O al s β a w) d{w'}(b:w'.heap=w.heap.push (.cells arr el (0,0)))(E:w'.os=w.os/\w'.output=w.output)(bd:z cs<=arr.size)(f:c≠0->c<1000000->el+1=c)(bs:∀(j:Nat)c,cs[j]?=S c->∃v,arr[j]?=S v/\aQ O β s.gen s.obj w c v):Rel O al (s.newC c d cs) (upd β d (S ⟨w.heap.size,0,N⟩)) a w'/\Tr O β s w (upd β d (S ⟨w.heap.size,0,N⟩)) (s.newC c d cs) w':=V.newAny d rfl b E λq=>.ofCells rfl ⟨V.base,arr,el,0,0,by grind,⟨.inl (l7 _),λh=>⟨by simp_all[nC],rfl⟩⟩,by grind,λj c e=>let⟨v,g,i⟩:=bs j c e
 ⟨v,by grind,i.keep q⟩⟩
def GH d:pP d<=9:=by unfold pP;grind
def yD(V:Rel O al s β a w){t i d}(hd:d<al)(h:pg G t i d s k):∃s' E w' Y,K s'/\(Instr.makeMap t N).run P w=.ok Y w'/\Rel O al s' E (a.put (S d) Y) w'/\Tr O β s w E s' w':=by
 unfold pg at h;split at h
 .rename_i n B b;obtain⟨r,J⟩:=h;obtain⟨e,f⟩:=V.newAny (c:=0) i (w':=w.alloc (.map #[] 0)) (ad:=⟨w.heap.size,0,S (Dl (fC (G B).desc) (pP (G n).desc))⟩) rfl rfl ⟨rfl,rfl⟩
   (λq=>.ofMap rfl ⟨V.base,.inl ⟨#[],0,(MapKept.heap_alloc w _).1,.nil⟩⟩);refine⟨_,_,_,.map (S w.heap.size),J,c8,e.put abT ?_,f.trans (Tr.same (St.put_gen _ _ _) (St.put_obj _ _ _) rfl)⟩;simp only[ao,aQ];exact⟨rfl,by simp[St.newC,upd],λ_ _=>⟨_,by simp[upd];rfl,⟨rfl,by have:=GH (G n).desc;unfold Dl;grind⟩,rfl⟩⟩
 grind
def uI(hT:bK P G)(V:Rel O al s β a w){t n B id g kd:Nat}{Q}{c}{cells}(hd:(G t).desc=.map n B)(an:okD (G n).desc=T)(o:jV (G n).desc Q=T)(hg:s.gen id=g)(r:ph kd=(G n).desc)(ho:s.obj id=S cells)(hv:ao O β s.gen s.obj w (.one (.mp id g kd)) v)(hi:ao O β s.gen s.obj w (.one (.d Q)) vi)(L:lu O β s.gen s.obj w kd c u):∃w',(Instr.mapUpdate t v vi u).run P w=.ok () w'/\Rel O al {s with obj:=upd s.obj id (S (mset cells Q c))} β a w'/\Tr O β s w β {s with obj:=upd s.obj id (S (mset cells Q c))} w':=by
 have bf:=(hT t abk).desc;rw[hd]at bf;have hk:=(hT n an).desc;obtain rfl:=hi.key o;have E:∀e,(Instr.checkKey e 10000 n (dV Q)).run P w=.ok () w:=λe=>MapKept.run_checkKey hk (rj o) e 9999;obtain⟨I,H,bn,rfl⟩:=hv.2.2 hg abh;have bk:=V.obj id cells ho;rw[H]at bk;have hB:=(bk.map bn.1).1;obtain⟨es,p,A,hm⟩:=(bk.map bn.1).2.resolve_right (λh=>bn.2 h.1);rw[r]at hm;obtain⟨x,k,b0,az⟩:∃x k,(Instr.mapUpdate t (.map (S I.block)) (dV Q) u).run P w=.ok () {w with heap:=w.heap.setIfInBounds I.block (.map x k)}/\∀R:C->Value->Prop,(∀c v,lu O β s.gen s.obj w kd c v->R c v)->fL R (G n).desc (mset cells Q c) x.toList:=by
  rcases hm.find o 0 with⟨g1,g2,g3⟩|⟨j,e,c',g1,g2,g3,_,_,g6⟩
  .refine⟨es.push {key:=dV Q,val:=u,born:=p},p+1,?_,λR hR=>?_⟩;.simp[Instr.mapUpdate,run_underlying bf,MapKept.run_getObj_map A,E,MapKept.run_findKey hk g1,MapKept.run_setObj_map _ A]
   .have:=(g3 c u L p).mono hR;grind
  .refine⟨es.modify j λe=>{e with key:=dV Q,val:=u},p,?_,λR hR=>?_⟩;.simp[Instr.mapUpdate,run_underlying bf,MapKept.run_getObj_map A,E,MapKept.run_findKey hk g1,by simpa using g2,g3,MapKept.run_keyThatStays (rj o),MapKept.run_setObj_map _ A]
   .have:=(g6 c u L).mono hR;grind
 have y:∀b,b≠I.block->(w.heap.setIfInBounds I.block (.map x k))[b]?=w.heap[b]?:=λb J=>by grind
 have Y:∀i,(upd s.obj id (S (mset cells Q c)) i).isSome=(s.obj i).isSome:=λi=>by grind[upd]
 have q:ik O β s.gen s.obj w β s.gen (upd s.obj id (S (mset cells Q c))) {w with heap:=w.heap.setIfInBounds I.block (.map x k)}:=by
  refine⟨λb J=>?_,λ_=>l7 _,λi _ bo=>?_⟩;.exact⟨⟨by simpa using J.1,J.2.1,λi W bo=>J.2.2 i W ZN⟩,y b (λhe=>J.2.2 id I abh H he.symm)⟩
  .grind
 refine⟨_,b0,⟨V.defers,V.size,λi=>ao.keep q _ (V.f i),λi m l=>?_,λi i' a1 a2 U Z=>V.inj i i' a1 a2 ZN ZN,by grind⟩,by simp,λb J=>y b a7,q,rfl,rfl⟩;by_cases b7:i=id;.subst b7;simp[upd]at l;subst l;rw[H];refine .ofMap bn.1 ⟨hB,.inl ⟨x,k,by simp[(F1.1 A).1],?_⟩⟩;rw[r];exact az _ (λ_ _=>lu.keep q)
 .exact(V.obj i m (by simpa[upd,b7]using l)).keep q (λW b4=>y _ (λJ=>b7 (V.inj i id W I ZN abh b4 H J)))
def AP:∀{cs}{ds},datas cs=S ds->cs=ds.map .d|[],ds,h=>by simp only[datas,w7]at h;grind;|.d x::r,ds,h=>by simp only[datas]at h;cases b:datas r with|none=>grind;|some l=>rw[b]at h;simp at h;subst h;rw[AP b];rfl
def pw(hT:bK P G)(V:Rel O al s β a w){m p x}(h:fX G t s m p x k)(q:ao O β s.gen s.obj w m v)(y:ao O β s.gen s.obj w p vi)(L:ao O β s.gen s.obj w x u):∃f w',K f/\(Instr.mapUpdate t v vi u).run P w=.ok () w'/\Rel O al f β a w'/\Tr O β s w β f w':=by
 unfold fX at h;split at h;.rename_i n B Q id g e c hd;obtain⟨⟨j,o⟩,l,r,h⟩:=h;obtain⟨b,ho,J⟩:=bh h;have A:=Vd r o;obtain⟨w',U,Z,E⟩:=uI hT V hd j o l (by simp_all[ph,fq]) ho q y (by rw[BS A];exact L);grind
 .rename_i n B Q id g e cs hd;obtain⟨⟨j,o⟩,l,⟨H,r⟩,h⟩:=h;obtain⟨ds,ar,h⟩:=bh h;obtain⟨b,ho,J⟩:=bh h;have b2:=AP ar;subst b2;obtain⟨vs,rfl,W,L⟩:=L;obtain⟨w',U,Z,E⟩:=uI hT V hd j o l (by rw[show ph e=fq (e-200)from l4 a7];exact r) ho q y (by unfold lu;rw[l4 a7];refine⟨ds,vs,rfl,rfl,by grind,λi x I=>?_⟩;exact L i (.d x) ZN);grind
 grind
end
section
def AR n:∀k c,Builtin.growBy n k c<=max c (n+(n+768)/4)
 |0,c=>by grind[Builtin.growBy];|k+1,c=>by
  simp only[Builtin.growBy];split;.omega
  .have:=AR n k (c+(c+768)/4);omega
def nextslicecap_le n c(h:c<n):Builtin.nextslicecap n c<=2*n+1024:=by
 unfold Builtin.nextslicecap;split;.omega
 .split;.omega
  .have:=AR n 4 c;omega
def ow{H:Type}{sz}:∀(es:List (List H))(_:∀e∈es,z e=sz) m c,es.flatten[m]?=S c->∃i e j,es[i]?=S e/\e[j]?=S c/\m=i*sz+j
 |[],_,m,c,h=>by simp at h;|e::es,d,m,c,h=>by
  rw[J8,L5]at h;have g:=d e b9;split at h;.exact⟨0,e,m,rfl,h,b9⟩
  .rename_i l;obtain⟨i,b,j,U,Z,n⟩:=ow es (λb f=>d b (by simp[f])) _ c h;exact⟨i+1,b,j,by grind,Z,by grind⟩
def rq{H:Type}{sz}:∀(es:List (List H))(_:∀e∈es,z e=sz),z es.flatten=z es*sz|[],_=>by simp;|e::es,b=>by rw[J8,j7,rq es (λc d=>b c (by simp[d])),b e b9,j8,J6];omega
variable{s:St}{al:Nat}{a:Act}{v:Value}{p:TI}{cs cd:List C}{K:Nat->List C->Prop}{t tx e:Nat}{k:Box K}{P:Program}{G:Nat->TI}{O:Bs}{β:Loc}{w:World}
def cg(O:Bs)(β:Loc)(s:St)(w:World)(cs:List C)(vs:List Value):Prop:=(z vs)=z cs/\∀(j:Nat)(c:C),cs[j]?=S c->∃u,vs[j]?=S u/\aQ O β s.gen s.obj w c u
def cg.one{s}{cs}{vs}(h:cg O β s w cs vs):∀u∈vs,u.oneCell'=T:=λu L=>by obtain⟨i,b⟩:=C9 L;obtain⟨d,f,V⟩:=h.2 i _ (x9 (by rw[<-h.1];exact(l9.1 b).1));grind[V.one]
def cg.append{vs k}(h:cg O β s w cs vs)(f:cg O β s w cd k):cg O β s w (cs++cd) (vs++k):=by
 refine⟨by simp[h.1,f.1],λj c b=>?_⟩;rw[L5]at b|-;rw[h.1];split at b;.rename_i d;rw[s5 d];exact h.2 j c b
 .rename_i d;rw[l4 d];exact f.2 _ c b
def rf.spot{sz off len}{v}{x}(h:rf w sz off len v x):∀ad,x=S ad->ad.spot=N:=λad I=>by subst I;exact h.1
def su(V:Rel O al s β a w){id off n}{cells}(g:∀ad,β id=S ad->ad.spot=N)(ho:s.obj id=S cells)(f:off+n<=z cells):(∃ad,β id=S ad/\∃vs,cg O β s w ((cells.drop off).take n) vs/\z vs=n/\∀j u,vs[j]?=S u->w.cell? ⟨ad.block,ad.off+off+j,N⟩=S u)\/(β id=N/\cells=[]):=by have bk:=V.obj id cells ho;cases H:β id with|none=>rw[H]at bk;exact .inr ⟨rfl,bk⟩;|some ad=>rw[H]at bk;obtain⟨_,arr,el,h,i,A,_,l,bs⟩:=bk.cells (g ad H);obtain⟨vs,b,m,d⟩:=ni (aQ O β s.gen s.obj w) (λj=>arr[ad.off+(off+j)]?) ((cells.drop off).take n) (λj c o=>by grind);refine .inl ⟨ad,rfl,vs,⟨b,d⟩,by grind,λj u L=>?_⟩;rw[fM A,D4];grind
def rr(hT:bK P G)(V:Rel O al s β a w){tx sz}{y}{u}(h:contents s (isStr (G tx).desc) (eL G tx) sz y k)(L:ao O β s.gen s.obj w y u):∃n cs news,K n cs/\Src P sz tx u n news w/\cg O β s w cs news:=by
 unfold contents at h;split at h;.obtain⟨B,h⟩:=h;obtain⟨e,_,_,l,_⟩:=gf hT B;obtain rfl:=L.inv_nsl;exact⟨0,[],[],h,Src.ofNil w l 0,rfl,λ_ _ f=>by simp at f⟩
 .rename_i q;obtain⟨B,az,h⟩:=h;obtain⟨e,_,_,l,_⟩:=gf hT B;cases L with
 |sl0=>rename_i a g;refine⟨0,[],[],by grind,?_,rfl,λ_ _ f=>by simp at f⟩;cases a with|none=>grind[Src.ofNil];|some a=>simp_all[Src.ofSlice,b9]
 |sl p cm hJ Y bo b7=>
  rename_i b r g an;obtain⟨vs,e1,e2,e3⟩:=ni (λ(c:D)v=>aQ O β s.gen s.obj w (.d c) v) (λj=>w.cell? ⟨b,r+j,N⟩) q.flatten (λm c f=>by obtain⟨i,e',j,U,Z,rfl⟩:=ow q Y m c f;refine⟨p i j,?_,b7 i e' U j c Z⟩;grind);have A:cg O β s w (q.flatten.map .d) vs:=by refine⟨by grind,λj c f=>?_⟩;rw[A4]at f;cases I:q.flatten[j]?with|none=>grind;|some x=>grind
  exact⟨_,_,vs,h,Src.ofSlice w l ⟨b,r,N⟩ (z q) g vs (by rw[e1,rq q az]) (λj v Q=>by rw[fb];grind) A.one,A⟩
 .rename_i bs;obtain⟨X,rfl,h⟩:=h;have l:=(hT tx (by rw[jX X];rfl)).desc;rw[jX X]at l;obtain rfl:=L.inv_str;have:=Src.ofString w l ⟨bs.toArray⟩;rw[size_mk]at this;refine⟨_,_,_,h,this,by simp[byteCells],λj c f=>?_⟩;rw[A4]at f;cases I:bs[j]?with|none=>grind;|some x=>rw[I]at f;simp only[A5,w7]at f;subst f;refine⟨.int .u8 x.toNat,by simp[byteCells,I],?_⟩;simp only[aQ,xa];exact .int _ _
 .rename_i id g' an r len;obtain⟨B,hg,rfl,h⟩:=h;obtain⟨e,_,_,l,_⟩:=gf hT B;obtain⟨W,ho,b1,J⟩:=bh h;simp only[ao]at L;have E:=iV L hg abh;rcases su V (E.spot) ho b1 with⟨ad,H,vs,A,hl,av⟩|⟨H,rfl⟩
  .rw[H]at E;rcases E.2 with⟨g,rfl,_,_⟩|⟨rfl,o,rfl⟩;.exact⟨_,_,vs,J,Src.ofSlice w l _ len g vs hl (λj v Q=>by rw[fb];grind) A.one,A⟩
   .refine⟨_,_,vs,J,?_,A⟩;have:vs=[]:=v7 a7;simp_all[Src.ofSlice,b9]
  .rw[H]at E;obtain⟨rfl,rfl⟩:=E;exact⟨_,_,[],J,Src.ofNil w l 0,b9,λj c f=>by simp at f⟩
 grind
def DJ(hT:bK P G)(V:Rel O al s β a w){y}{u}(h:contents s F T 1 y k)(L:ao O β s.gen s.obj w y u):∃n cs news,K n cs/\cg O β s w cs news/\z news=n/\((∃l c,u=.slice N l c/\n=0)\/∃ad cap,u=.slice (S ad) n cap/\∀j v,news[j]?=S v->w.cell? (ad.add j)=S v):=by
 unfold contents at h;split at h;.obtain⟨_,h⟩:=h;obtain rfl:=L.inv_nsl;exact⟨0,[],[],h,⟨rfl,λ_ _ f=>by simp at f⟩,rfl,.inl ⟨_,_,rfl,rfl⟩⟩
 .rename_i q;obtain⟨_,az,h⟩:=h;cases L with
 |sl0=>rename_i a cap;refine⟨0,[],[],by grind,⟨rfl,λ_ _ f=>by simp at f⟩,rfl,?_⟩;cases a with|none=>simp;|some a=>simp
 |sl p cm hJ E bo I=>
  rename_i b g cap Q;obtain⟨vs,W,e2,e3⟩:=ni (λ(c:D)v=>aQ O β s.gen s.obj w (.d c) v) (λj=>w.cell? ⟨b,g+j,N⟩) q.flatten (λm c f=>by obtain⟨i,X,j,U,Z,rfl⟩:=ow q E m c f;refine⟨p i j,?_,I i X U j c Z⟩;grind);have A:cg O β s w (q.flatten.map .d) vs:=by refine⟨by grind,λj c f=>?_⟩;rw[A4]at f;cases hq:q.flatten[j]?with|none=>grind;|some x=>grind
  exact⟨_,_,vs,h,A,by rw[W,rq q az,LK],.inr ⟨⟨b,g,N⟩,cap,rfl,λj v Y=>by rw[fb];grind⟩⟩
 .grind
 .rename_i id g' Q g len;obtain⟨_,hg,rfl,h⟩:=h;obtain⟨B,ho,b1,J⟩:=bh h;simp only[ao]at L;have r:=iV L hg abh;rcases su V (r.spot) ho b1 with⟨ad,H,vs,A,hl,av⟩|⟨H,rfl⟩
  .rw[H]at r;rw[LK]at hl;rcases r.2 with⟨cap,rfl,_,_⟩|⟨rfl,o,rfl⟩;.exact⟨_,_,vs,J,A,hl,.inr ⟨_,cap,rfl,λj v Y=>by rw[fb];grind⟩⟩
   grind
  .rw[H]at r;obtain⟨rfl,rfl⟩:=r;exact⟨_,_,[],J,⟨b9,λj c f=>by simp at f⟩,rfl,.inl ⟨_,_,rfl,rfl⟩⟩
 grind
def DK{s}:∀{cs}{m}{vs},u8s cs=S m->cg O β s w cs vs->vs=m.map (.int .u8)|[],m,vs,h,b=>by cases h;exact v7 b.1;|c::cs,m,vs,h,b=>by match vs,b with|[],b=>exact absurd b.1 b9;|v::vs,b=>cases c with
 |d x=>cases x with
  |int k n=>cases k with|u8=>obtain⟨a,U,rfl⟩:=F0.1 h;obtain⟨u,L,f⟩:∃u,(v::vs)[0]?=S u/\_:=(b.2 0 _ rfl);cases L;obtain rfl:=f.inv_int;have i:cg O β s w cs vs:=⟨by simpa using b.1,λj o l=>by simpa using b.2 (j+1) o ZN⟩;rw[s7,DK U i];|_=>simp[u8s]at h
  |_=>simp[u8s]at h
 |_=>simp[u8s]at h
def DL(hT:bK P G)(V:Rel O al s β a w){src dst}{x}{K}{k:Box K}(h:xb s (bI G src).desc (G src).desc (G dst).desc x k)(i:ao O β s.gen s.obj w x v):∃X Y,K X/\(∀w',Ext w w'->(convert src dst v).run P w'=.ok Y w')/\ao O β s.gen s.obj w X Y:=by
 unfold xb at h;split at h;.rename_i hd;obtain rfl:=i.inv_int;have Z:=(hT dst abk).desc;rw[hd]at Z;refine jf h.2 λw=>?_;simp[convert,run_underlying ((hT src h.1).desc),run_underlying Z,Conv.intToInt]
 .rename_i d hd;obtain rfl:=i.inv_str;have U:=(hT src (by rw[d];rfl)).desc;rw[d]at U;have Z:=(hT dst abk).desc;rw[hd]at Z;refine Gu h λw=>?_;simp[convert,run_underlying U,run_underlying Z]
 .rename_i y e d hd;obtain⟨f,h⟩:=h;have U:=(hT src (by rw[d];rfl)).desc;rw[d]at U;have Z:=(hT dst abk).desc;rw[hd]at Z;have E:bI G src=G e:=by simp[bI,d]
  rw[E]at f;have g:(G e).desc=.int .u8:=by cases I:(G e).desc<;>rw[I]at f<;>simp[Gk]at f;rename_i kk;cases kk<;>simp at f;rfl
  have q:=(hT e (by rw[g];rfl)).desc;rw[g]at q;obtain⟨n,cs,A,J,L,hl,b⟩:=DJ hT V h i;obtain⟨m,H,J⟩:=bh J;obtain rfl:=DK H L;refine⟨_,.string ⟨(m.map λn=>UInt8.ofNat n.toNat).toArray⟩,J,λw' bc=>?_,by simp only[ao,aQ];exact .str _⟩;rcases b with⟨l,c,rfl,hn⟩|⟨u,o,rfl,Q⟩;.have:m=[]:=v7 ZN;subst this;simp[convert,run_underlying U,run_underlying Z,run_underlying q,Conv.bytesToString];rfl
  .rw[run_convert_bytes_string w' src dst e (S u) n o U q Z];have B:=run_loadCells_list (P:=P) w' u (m.map (Value.int .u8)) (λj v W=>bc.cell (Q j v W));rw[j6]at hl;simp only[j6,hl]at B;rw[run_bytesToString w' u n o _ B];have hf:∀(l:List Int)(r:ByteArray),l.foldl (λr n=>r.push (UInt8.ofNat n.toNat)) r=⟨r.data++(l.map λn=>UInt8.ofNat n.toNat).toArray⟩:=by intro l;induction l with|nil=>simp;|cons n l ih=>simp_all
   simp_all
 grind
def yE(c:Nat)(V:Rel O al s β a w) i d(hd:d<al){w'}{arr}{el}(hw:w'.heap=w.heap.push (.cells arr el (0,0)))(E:w'.os=w.os/\w'.output=w.output){cs}{vs}(b:cg O β s w cs vs)(g:∀(j:Nat)v,vs[j]?=S v->arr[j]?=S v)(bd:z cs<=arr.size)(a6:c≠0->c<1000000->el+1=c) sz len cap(f:len<=cap)(o:cap*sz<=arr.size):Rel O al ((s.newC c i cs).put (S d) (.one (.osl i (nxC c (s.gen i)) sz 0 len))) (upd β i (S ⟨w.heap.size,0,N⟩)) (a.put (S d) (.slice (S ⟨w.heap.size,0,N⟩) len cap)) w'/\Tr O β s w (upd β i (S ⟨w.heap.size,0,N⟩)) ((s.newC c i cs).put (S d) (.one (.osl i (nxC c (s.gen i)) sz 0 len))) w':=by obtain⟨U,Z⟩:=Rel.new c V i hw E bd a6 (λj c l=>let⟨u,hu,n⟩:=b.2 j c l;⟨u,g j u hu,n⟩);refine⟨U.put abT ?_,Z.trans (Tr.same (St.put_gen _ _ _) (St.put_obj _ _ _) rfl)⟩;simp only[ao,aQ];refine⟨rfl,by simp[St.newC,upd],λ_ _=>?_⟩;simp only[upd,B3];refine⟨rfl,.inl ⟨cap,b9,f,λbl Q m h=>?_⟩⟩;grind
def grownCap_ge w need old e:need<=grownCap w need old e:=by simp[grownCap,Question.cut]
def Ar(hT:bK P G)(V:Rel O al s β a w){src d base}{dst}(hd:∀j,dst=S j->j<al){x}{K}{k:Box K}(h:pU G src d base dst s x k)(y:ao O β s.gen s.obj w x v):∃s' E w' Y,K s'/\(convert src d v).run P w=.ok Y w'/\Rel O al s' E (a.put dst Y) w'/\Tr O β s w E s' w':=by
 unfold pU at h;split at h
 .rename_i i bs;obtain⟨A,f,h⟩:=h;have H:=(hT src (by rw[jX A];rfl)).desc;rw[jX A]at H;obtain⟨e,u,J⟩:∃e,(G d).desc=.slice e/\bI G d=G e:=by unfold bI at f|-;cases n:(G d).desc with|slice e=>simp;|_=>rw[n]at f;exact absurd (show F=T from f) a8
  have B:=(hT d (by rw[u];rfl)).desc;rw[u]at B;rw[J]at f;have g:(G e).desc=.int .u8:=by cases n:(G e).desc<;>rw[n]at f<;>simp[Gk]at f;rename_i kk;cases kk<;>simp at f;rfl
  have I:=(hT e (by rw[g];rfl)).desc;rw[g]at I;have L:bm G d=e:=by simp[bm,u]
  obtain rfl:=y.inv_str;have X:(⟨bs.toArray⟩:ByteArray).size=z bs:=by simp[ByteArray.size]
  have l:(Lib.bytesWorld w e ⟨bs.toArray⟩).heap=w.heap.push (.cells (Lib.bytesCells w e ⟨bs.toArray⟩) e ((Lib.bytesCells w e ⟨bs.toArray⟩).size,(Lib.bytesCells w e ⟨bs.toArray⟩).size+1)):=by
   apply Array.ext_getElem?;intro j;rcases Nat.lt_trichotomy j w.heap.size with o|o|o;.rw[Lib.bytesWorld_at_old w e _ j o,Array.getElem?_push,l4 a7]
   .simp_all[Lib.bytesWorld_at_new]
   .rw[P9 (by rw[Lib.bytesWorld_size];omega),P9 ZN]
  have b5:=grownCap_ge w (z bs) 0 e;have az:(Lib.bytesCells w e ⟨bs.toArray⟩).size=grownCap w (z bs) 0 e:=by simp[Lib.bytesCells,X];omega
  rw[L]at h;refine⟨_,upd β (base+i) (S ⟨w.heap.size,0,N⟩),_,_,h,Lib.run_convert_string_bytes w src d e ⟨bs.toArray⟩ H B I,?_⟩;obtain⟨U,Z⟩:=V.newAny (c:=e+1) (base+i) (ad:=⟨w.heap.size,0,N⟩) (cs:=bs.map λb=>.d (xa b)) rfl l ⟨rfl,rfl⟩ λq=>.ofCells rfl ⟨V.base,Lib.bytesCells w e ⟨bs.toArray⟩,e,(Lib.bytesCells w e ⟨bs.toArray⟩).size,(Lib.bytesCells w e ⟨bs.toArray⟩).size+1,by grind,⟨.inr (l7 _),λh=>⟨by simp_all[nC],rfl⟩⟩,by grind,λj c r=>by rw[A4]at r;cases n:bs[j]?with|none=>grind;|some b=>rw[n]at r;simp only[A5,w7]at r;subst r;have o:=(l9.1 n).1;refine⟨.int .u8 b.toNat,?_,by simp only[aQ,xa];exact .int _ _⟩;rw[D2,Lib.bytesCells,F2 ZN];simp[n]⟩;refine⟨U.put hd ?_,Z.trans (Tr.same (St.put_gen _ _ _) (St.put_obj _ _ _) rfl)⟩;simp only[ao,aQ];refine⟨rfl,by simp[St.newC,upd],λ_ _=>?_⟩;simp only[upd,B3];refine⟨rfl,.inl ⟨grownCap w (z bs) 0 e,rfl,b5,λbl Q m h=>?_⟩⟩;grind
 grind
def uE.zsize{t}(h:uE P t p){i}{X}(c:P.info? t=S i)(d:i.zero=S X):X.cells.size=p.size:=by obtain⟨g,b,_,_,a,W,f⟩:=h.info;rw[c]at b;cases b;rw[d]at W;cases W;rw[<-O2,f,j6,h.zlen]
def Rr{e g g' off}(h:code (nxC (apC e g off) g')≠0):code g=e+1/\off=0/\code (nxC (apC e g off) g')=e+1:=by
 unfold apC at h|-;by_cases b:code g=e+1/\off=0;.simp_all[nC]
 simp_all[nC]
def Wy e g off:apC e g off=e+1\/apC e g off=0:=by unfold apC;grind
def Mt{e g off}(h:apC e g off≠0):code g=apC e g off/\off=0:=by unfold apC at h|-;grind
def xh c(V:Rel O al s β a w)(L:P.underlying t=S (.slice e))(r:uE P e p) i d(hd:d<al){base}{g Q n}{x}{olds news}(a6:(Builtin.firstCells p.size g (.slice base g Q)).run P w.drew=.ok olds.toArray w.drew)(m:z olds=g*p.size)(f:Src P p.size tx x n news w)(h:cg O β s w cs olds)(l:cg O β s w cd news)(hg:Q<g+n)(q:Gl (g+n) p.bytes)(k:c=e+1\/c=0) ty:∃E w' Y,(Builtin.append_ #[t,tx] ty #[.slice base g Q,x]).run P w=.ok Y w'/\Rel O al ((s.newC c i (cs++cd)).put (S d) (.one (.osl i (nxC c (s.gen i)) p.size 0 (g+n)))) E (a.put (S d) Y) w'/\Tr O β s w E ((s.newC c i (cs++cd)).put (S d) (.one (.osl i (nxC c (s.gen i)) p.size 0 (g+n)))) w':=by
 obtain⟨c0,u,az,c2,X,y,Z⟩:=r.info;obtain⟨A,q⟩:=q;have G:((g+n:Nat):Int)<=9223372036854775807:=by have:(2*(g+n)+1024)*1<=(2*(g+n)+1024)*p.bytes:=Nat.mul_le_mul_left _ A;omega
 have B:Builtin.nextslicecap (g+n) Q*c0.bytes<=281474976710656:=by rw[c2];exact C4 (J5 _ (nextslicecap_le (g+n) Q hg)) q
 rw[<-az]at a6 f;have I:=grownCap_ge w (g+n) Q e;have J:z news=n*p.size:=by rw[<-az];exact f.newsLen
 have W:z (olds++news)=(g+n)*p.size:=by rw[j7,m,J,J6]
 refine⟨upd β i (S ⟨w.heap.size,0,N⟩),_,_,run_append_grow_src w t tx ty e c0 X L u y base g Q olds a6 x n news f hg G B,?_⟩;refine yE c V i d hd rfl (by exact⟨rfl,rfl⟩) (h.append l) (λj v hv=>?_) ?_ (λU _=>(k.resolve_right U).symm) _ _ _ I ?_;.grind
 .have:=(h.append l).1;grind
 .have bc:(Builtin.zeroCells X.cells (grownCap w (g+n) Q e-(g+n))).size=(grownCap w (g+n) Q e-(g+n))*p.size:=by simp[Builtin.zeroCells,r.zsize u y]
  rw[Array.size_append,bc];have U:(olds++news).toArray.size=(g+n)*p.size:=by simpa using W
  rw[U,<-J6];grind
def nK c(V:Rel O al s β a w) i d(hd:d<al) sz{x}(I:rf w sz 0 0 v x)(U:v.oneCell'=T)(bk:ew O β s.gen s.obj w (nxC c (s.gen i)) [] x)(Y:∀g W X,g≠i->(s.obj g).isSome=T->β g=S W->x=S X->W.block≠X.block)(K:∀b X,x=S X->Imm O β s.obj w b->X.block≠b):Rel O al ((s.newC c i []).put (S d) (.one (.osl i (nxC c (s.gen i)) sz 0 0))) (upd β i x) (a.put (S d) v) w/\Tr O β s w (upd β i x) ((s.newC c i []).put (S d) (.one (.osl i (nxC c (s.gen i)) sz 0 0))) w:=by
 have q:ik O β s.gen s.obj w (upd β i x) (s.newC c i []).gen (s.newC c i []).obj w:=by
  refine⟨λb j=>⟨⟨j.1,j.2.1,λg W n B=>?_⟩,rfl⟩,λg=>?_,λg o n=>?_⟩
  .simp only[St.newC,upd]at n B;split at B;.grind
   .rename_i bz;simp only[bz,B1]at n;exact j.2.2 g W n B
  .exact x3
  .simp_all[St.newC,upd,yf]
 have E:Rel O al (s.newC c i []) (upd β i x) a w:=by
  refine⟨V.defers,V.size,λi=>ao.keep q _ (V.f i),λg m l=>?_,λy G H L U Z r u j=>?_,V.base⟩
  .simp only[St.newC,upd]at l|-;by_cases A:g=i;.subst A;simp only[B3,w7]at l|-;subst l;exact bk.keep q (λ_ _=>rfl)
   .simp only[A,B1]at l|-;exact(V.obj g m l).keep q (λ_ _=>rfl)
  .simp only[St.newC,upd]at U Z r u;by_cases Q:y=i<;>by_cases J:G=i;.omega
   .grind
   .grind
   .simp only[Q,J,B1]at U Z r u;exact V.inj y G H L U Z r u j
 refine⟨E.put abT ?_,⟨l7 _,λ_ _=>rfl,?_,rfl,rfl⟩⟩;.simp_all[ao,aQ,St.newC,upd]
 .rw[St.put_obj,St.put_gen];omega
def DM c(V:Rel O al s β a w)(L:P.underlying t=S (.slice e))(r:uE P e p) i d(hd:d<al){ad}{off g Q n}{x}{cells cd}{news}(H:β i=S ad)(bn:ad.spot=N)(ho:s.obj i=S cells)(b1:off+g*p.size<=z cells)(cm:∀arr el fr,w.heap[ad.block]?=S (.cells arr el fr)->ad.off+off+Q*p.size<=arr.size)(hs:Src P p.size tx x n news w)(l:cg O β s w cd news)(hg:g+n<=Q)(k:c≠0->code (s.gen i)=c/\off=0) ty:∃E w' Y,(Builtin.append_ #[t,tx] ty #[.slice (S ⟨ad.block,ad.off+off,N⟩) g Q,x]).run P w=.ok Y w'/\Rel O al ((s.newC c i ((cells.drop off).take (g*p.size)++cd)).put (S d) (.one (.osl i (nxC c (s.gen i)) p.size 0 (g+n)))) E (a.put (S d) Y) w'/\Tr O β s w E ((s.newC c i ((cells.drop off).take (g*p.size)++cd)).put (S d) (.one (.osl i (nxC c (s.gen i)) p.size 0 (g+n)))) w':=by
 obtain⟨c0,hi,az,c2,X,hz,cf⟩:=r.info;have bk:=V.obj i cells ho;rw[H]at bk;obtain⟨hB,arr,el,lo,bo,A,ar,bd,bs⟩:=bk.cells bn;have K:=cm _ _ _ A;have cy:=hs.newsLen;have I:g*p.size+n*p.size<=Q*p.size:=by rw[<-J6];exact J5 _ hg
 rw[<-az]at hs;have b0:=run_append_room_src w t tx ty e c0 L hi ad.block (ad.off+off) g Q x n news hs hg (λj hj=>by rw[az,fM A,B9 a7];rfl) (λj hj=>by rw[az];exact ss A ar.1 a7);rw[az]at b0;obtain⟨bl,f1,f2,f3⟩:=iN ad.block news (ad.off+off+g*p.size) w arr el (lo,bo) A;have y:∀b,b≠ad.block->(w.setCells ad.block (ad.off+off+g*p.size) news).heap[b]?=w.heap[b]?:=λb hb=>heap_setCells_other _ _ _ _ _ hb;generalize bc:w.setCells ad.block (ad.off+off+g*p.size) news=w' at*;have h:w'.heap.size=w.heap.size:=by rw[<-bc];exact setCells_size _ _ _ _
 generalize b2:(cells.drop off).take (g*p.size)=front at*;have b3:z front=g*p.size:=by rw[<-b2];simp;omega
 have q:ik O β s.gen s.obj w (upd β i (S ⟨ad.block,ad.off+off,N⟩)) (s.newC c i (front++cd)).gen (s.newC c i (front++cd)).obj w':=by
  refine⟨λb hb=>?_,λi'=>?_,λi' hg bo=>?_⟩
  .have bz:b≠ad.block:=λhe=>hb.2.2 i ad abh H he.symm;refine⟨⟨by rw[h];exact hb.1,hb.2.1,λi' W bo B=>?_⟩,y b bz⟩;simp only[St.newC,upd]at bo B;split at B;.grind
   .rename_i o;simp only[o,B1]at bo;exact hb.2.2 i' W bo B
  .exact x3
  .simp only[St.newC,upd]at hg bo|-;by_cases bz:i'=i;.subst bz;simp at hg;exact absurd hg (yf _ _)
   grind
 have b':Rel O al (s.newC c i (front++cd)) (upd β i (S ⟨ad.block,ad.off+off,N⟩)) a w':=by
  refine⟨V.defers,V.size,λi=>ao.keep q _ (V.f i),λi' m l=>?_,λi1 G a1 a2 U Z cc b8 hb=>?_,by grind⟩
  .simp only[St.newC,upd]at l|-;by_cases b7:i'=i
   .subst b7;simp only[B3,w7]at l|-;subst l;have bf:=l.1.symm;have u:code (nxC c (s.gen i'))≠0->el+1=code (nxC c (s.gen i'))/\(⟨ad.block,ad.off+off,N⟩:Addr).off=0:=λcb=>by
     have U:code (nxC c (s.gen i'))=c:=by
      rw[nC]at cb|-;split;.rfl
      .grind
     grind
    refine .ofCells rfl ⟨hB,bl,el,lo,bo,f1,⟨a7,u⟩,by grind,λj c hc=>?_⟩;rw[f3];simp only at*;rw[L5]at hc;split at hc;.rename_i hj;rw[b3]at hj;rw[<-b2,L3,s5 hj,P1]at hc;obtain⟨u',a6,av⟩:=bs _ c hc;refine⟨u',?_,av.keep q⟩;grind
    .rename_i hj;rw[b3]at hj hc;obtain⟨u',a6,av⟩:=l.2 _ c hc;have af:j-g*p.size<z news:=by rw[<-bf];exact(l9.1 hc).1
     refine⟨u',?_,av.keep q⟩;grind
   .simp only[b7,B1]at l|-;exact(V.obj i' m l).keep q (λW b4=>y _ (λhb=>b7 (V.inj i' i W ad (by simp[l]) abh b4 H hb)))
  .simp only[St.newC,upd]at U Z cc b8;by_cases b5:i1=i<;>by_cases J:G=i;.omega
   .simp only[b5,J,B3,B1]at U Z cc b8;cases cc;exact absurd (V.inj G i a2 ad Z abh b8 H hb.symm) J
   .simp only[b5,J,B3,B1]at U Z cc b8;cases b8;exact absurd (V.inj i1 i a1 ad U abh cc H hb) b5
   .simp only[b5,J,B1]at U Z cc b8;exact V.inj i1 G a1 a2 U Z cc b8 hb
 refine⟨_,_,_,b0,b'.put abT ?_,⟨a7,λb hb=>y b a7,?_,by rw[<-bc];exact ou _ _ _ _⟩⟩;.simp only[ao,aQ];refine⟨rfl,by simp[St.newC,upd],λ_ _=>?_⟩;simp only[upd,B3];refine⟨rfl,.inl ⟨Q,b9,hg,λc1 c4 cz U=>?_⟩⟩;grind
 .rw[St.put_obj,St.put_gen];omega
end
variable{s:St}{al:Nat}{a:Act}{K:St->Prop}{cs:List C}{v u:Value}{k:Box K}{P:Program}{G:Nat->TI}{O:Bs}{β:Loc}{w:World}
def Src.eq_nil{size}{tx}{x}{news}(b:Src P size tx x 0 news w):news=[]:=v7 (by rw[b.newsLen];simp)
def cg.nil_of(h:cg O β s w cs []):cs=[]:=v7 (by rw[<-h.1];rfl)
def GI(V:Rel O al s β a w){i}{ad}(ho:(s.obj i).isSome=T)(H:β i=S ad):ad.block<w.heap.size:=by obtain⟨b,c⟩:=J4.1 ho;have:=V.obj i b c;rw[H]at this;exact this.block.2
def Au(hT:bK P G)(V:Rel O al s β a w){t tx f d}(ca:eL G t=T)(hd:d<al){x y}
 (h:pO (bm G t) (bI G t) (isStr (G tx).desc) (eL G tx) f d s x y k)(hv:ao O β s.gen s.obj w x v)(L:ao O β s.gen s.obj w y u) ty:
  ∃s' E w' Y,K s'/\(Builtin.append_ #[t,tx] ty #[v,u]).run P w=.ok Y w'/\Rel O al s' E (a.put (S d) Y) w'/\Tr O β s w E s' w':=by
 obtain⟨e,cx,b6,bf,r⟩:=gf hT ca;rw[b6,show bm G t=e from by simp[bm,cx]]at h;unfold pO at h;split at h
 .obtain rfl:=hv.inv_nsl;obtain⟨n,cs,news,⟨q,J⟩,hs,cf⟩:=rr hT V h L;obtain⟨c0,hi,az,_⟩:=r.info;by_cases hn:n=0
  .subst hn
   obtain rfl:=Src.eq_nil hs;obtain rfl:=cf.nil_of;have b0:=run_append_nothing w t tx ty e c0 bf hi N 0 0 (l7 _) u ZN;obtain⟨r1,r2⟩:=nK (e+1) V f d hd (G e).size (x:=N) ⟨rfl,rfl⟩ rfl rfl (λ_ _ _ _ _ _ I=>by cases I) (λ_ _ I=>by cases I)
   grind
  .obtain⟨E,w',Y,g1,g2,g3⟩:=xh (e+1) V bf r f d hd (g:=0) (Q:=0) (cs:=[])
    (run_firstCells_none w.drew _ _ _ _) b9 hs ⟨rfl,λ_ _ hc=>by simp at hc⟩ cf a7 ZN (.inl rfl) ty
   grind
 .rename_i id g' sz a' len
  obtain⟨hg,rfl,h⟩:=h;obtain⟨b3,ho,b1,h⟩:=bh h;simp only[ao]at hv;have b4:=iV hv hg abh;obtain⟨n,cs,news,⟨q,J⟩,hs,cf⟩:=rr hT V h L;obtain⟨c0,hi,az,_⟩:=r.info;have bk:=V.obj id b3 ho
  -- an empty handle,to Z nothing is i
  have c:len=0->n=0->v.oneCell'=T->∀(bl:∃b,v=.slice b 0 0),∃s' E w' Y,K s'/\(Builtin.append_ #[t,tx] ty #[v,u]).run P w=.ok Y w'/\Rel O al s' E (a.put (S d) Y) w'/\Tr O β s w E s' w':=by
   rintro rfl rfl p ⟨b,rfl⟩;obtain rfl:=Src.eq_nil hs;obtain rfl:=cf.nil_of;have b0:=run_append_nothing w t tx ty e c0 bf hi b 0 0 (l7 _) u ZN;simp at J;cases H:β id with
   |none=>
     rw[H]at b4 bk;obtain⟨r1,r2⟩:=nK (apC e (s.gen id) a') V id d hd (G e).size (x:=N) ⟨rfl,b4.2⟩ p rfl (λ_ _ _ _ _ _ I=>by cases I) (λ_ _ I=>by cases I)
     grind
   |some ad=>
     rw[H]at b4 bk;obtain⟨bn,b4⟩:=b4;obtain⟨hB,arr,el,lo,bo,A,ar,bd,bs⟩:=bk.cells bn
     have I:rf w (G e).size 0 0 (.slice b 0 0) (S ⟨ad.block,ad.off+a',N⟩):=by
      rcases b4 with⟨cap,b7,_,hc⟩|⟨_,o,a1⟩
      .cases b7
       exact⟨rfl,.inl ⟨0,b9,l7 _,λc1 c4 cz U=>by grind⟩⟩
      .exact⟨rfl,.inr ⟨rfl,o,a1⟩⟩
     obtain⟨r1,r2⟩:=nK (apC e (s.gen id) a') V id d hd (G e).size I p
      (.ofCells rfl ⟨hB,arr,el,lo,bo,A,⟨ar.1,λcb=>by obtain⟨q1,q2,q3⟩:=Rr cb;grind⟩,by grind,λ_ _ hc=>by simp at hc⟩)
      (λi' W X bz b5 cc b8 hb=>by cases b8;exact bz (V.inj i' id W ad b5 abh cc H hb)) (λb' X b8 hb=>by cases b8;exact hb.2.2 id ad abh H)
     grind
  -- cu b3 c2 ec there l
  have bc:∀base Q,v=.slice base len Q->len*(G e).size=0\/(∃ad,β id=S ad/\base=S ⟨ad.block,ad.off+a',N⟩)->Q<len+n->
    ∃s' E w' Y,K s'/\(Builtin.append_ #[t,tx] ty #[v,u]).run P w=.ok Y w'/\Rel O al s' E (a.put (S d) Y) w'/\Tr O β s w E s' w':=by
   rintro base Q rfl m af
   have a6:∃olds,(Builtin.firstCells (G e).size len (.slice base len Q)).run P w.drew=.ok olds.toArray w.drew/\z olds=len*(G e).size/\cg O β s w ((b3.drop a').take (len*(G e).size)) olds:=by
    rcases m with h0|⟨ad,H,rfl⟩
    .refine⟨[],?_,by simp[h0],by simp[h0],λ_ _ hc=>by grind⟩
     cases base with
     |none=>rfl
     |some b=>exact run_firstCells_some w.drew _ _ b _ _ [] (by simp[h0]) (λ_ _ hc=>by simp at hc)
    .rcases su V (b4.spot) ho b1 with⟨cy,B,vs,b2,hl,av⟩|⟨B,rfl⟩
     .rw[H]at B;cases B
      exact⟨vs,run_firstCells_some w.drew _ _ _ _ _ vs hl (λj u L=>by rw[fb];simp_all),hl,b2⟩
     grind
   obtain⟨olds,o1,o2,o3⟩:=a6;obtain⟨E,w',Y,g1,g2,g3⟩:=xh (apC e (s.gen id) a') V bf r id d hd o1 o2 hs o3 cf af q (Wy _ _ _) ty;exact⟨_,_,_,_,J,g1,g2,g3⟩
  cases H:β id with
  |none=>
    rw[H]at b4;obtain⟨ch,rfl⟩:=b4;by_cases hn:n=0
    .exact c ch hn rfl ⟨N,rfl⟩
    grind
  |some ad=>
    rw[H]at b4;obtain⟨bn,b4⟩:=b4;rcases b4 with⟨cap,rfl,cm,hc⟩|⟨ch,o,rfl⟩
    .by_cases af:cap<len+n
     .grind
     .obtain⟨E,w',Y,g1,g2,g3⟩:=DM (apC e (s.gen id) a') V bf r id d hd H bn ho b1 hc hs cf a7 Mt ty
      grind
    .by_cases hn:n=0
     .exact c ch hn rfl ⟨_,rfl⟩
     grind
 grind
def vO(hT:bK P G)(V:Rel O al s β a w){t f d}(ca:eL G t=T)(hd:d<al){x y}(h:lG (bm G t) (bI G t) f d s x y k)(q:ao O β s.gen s.obj w x v)(L:ao O β s.gen s.obj w y u):∃A E w' Y,K A/\(Instr.makeSlice t v u).run P w=.ok Y w'/\Rel O al A E (a.put (S d) Y) w'/\Tr O β s w E A w':=by
 obtain⟨e,cx,b6,bf,r⟩:=gf hT ca;rw[b6,show bm G t=e from by simp[bm,cx]]at h;unfold lG at h;split at h
 .rename_i k1 n k2 m;obtain⟨h0,U,Z,h3,J⟩:=h;obtain rfl:=q.inv_int;obtain rfl:=L.inv_int;obtain⟨c0,Q,az,c2,X,W,cf⟩:=r.info;have B:z ((List.replicate m.toNat ((G e).zero.map C.d)).flatten)=m.toNat*(G e).size:=by simp[r.zlen]
  refine⟨_,upd β f (S ⟨w.heap.size,0,N⟩),_,_,J,run_make w t e c0 X bf Q W k1 k2 n m h0 U ZN a7,?_⟩;refine yE (e+1) V f d hd rfl (by exact⟨rfl,rfl⟩) (vs:=(madeCells X.cells (m.toNat*c0.size)).toList) ⟨?_,λj c hc=>?_⟩ (λj v q=>by grind) ?_ (λ_ _=>rfl) _ _ _ a7 ?_;.rw[B,O2,size_madeCells,az]
  .obtain⟨i,e',b,q1,p,q3⟩:=ow _ (λe' H=>by rw[I5 H,j6,r.zlen]) j c hc;have H:=I5 (l8 q1);subst H;rw[A4]at p;cases I:(G e).zero[b]?with|none=>grind;|some x=>
   rw[I]at p;simp at p;subst p;have l:j%X.cells.size=b:=by rw[r.zsize Q W,q3,U5,Nat.mul_add_mod,L8 (by rw[<-r.zlen];exact(l9.1 I).1)]
   have g:X.cells[b]?=S (dV x):=by rw[<-G4,cf,A4,I];rfl
   refine⟨dV x,?_,?_⟩
   .rw[G4];have:j<m.toNat*c0.size:=by rw[az];exact (by rw[<-B];exact(l9.1 hc).1)
    simp only[madeCells,Array.getElem?_map,Array.getElem?_range,this,B3,A5,l];grind
   .simp[aQ];exact cX.of_plain (by grind[r.plain])
  .grind[size_madeCells]
  grind[size_madeCells]
 grind
def AS off:∀l k(c:Array Value),((l.zipIdx k).foldl (λcs(p:Value×Nat)=>cs.setIfInBounds (off+p.2) p.1) c).size=c.size/\∀j,((l.zipIdx k).foldl (λcs(p:Value×Nat)=>cs.setIfInBounds (off+p.2) p.1) c)[j]?=if off+k<=j/\j<off+k+z l/\j<c.size then l[j-(off+k)]?else c[j]?|[],k,c=>⟨rfl,λj=>by rw[l4 ZN];rfl⟩|v::l,k,c=>by simp only[List.zipIdx_cons,G5];obtain⟨U,Z⟩:=AS off l (k+1) (c.setIfInBounds (off+k) v);grind
def AT{pl}{i off sz}{v}{vs}{cells}{rest}(b:pl i=S (off,sz))(c:v.cells=vs.toArray)(hl:z vs=sz)(d:off+sz<=cells.size):∃m,Instr.fill pl cells ((i,v)::rest)=Instr.fill pl m rest/\m.size=cells.size/\∀j,m[j]?=if off<=j/\j<off+sz/\j<cells.size then vs[j-off]?else cells[j]?:=by
 obtain⟨U,Z⟩:=AS off vs 0 cells;have az:v.cells.size=sz:=by rw[c];simpa using hl
 refine⟨_,?_,U,λj=>?_⟩;.simp_all[Instr.fill,l4]
 grind
def xi{al}{s}{a}(V:Rel O al s β a w){pl}:∀(ps:List (Nat×Operand)){cells}{g}{K}{k:Box K},cg O β s w cells g.toList->yi pl cells (ps.map λp=>(p.1,s.ev p.2)) k->∃m b,K m/\Instr.fill pl g (ps.map λp=>(p.1,a.eval p.2))=S b/\cg O β s w m b.toList
 |[],cells,g,K,k,f,h=>⟨cells,g,h,rfl,f⟩|p::ps,cells,g,K,k,f,h=>by
  simp[yi]at h;obtain⟨q,n,h⟩:=bh h;obtain⟨cs,b2,hl,t,h⟩:=bh h;obtain⟨vs,e1,e2,x,y⟩:=ao.cells b2 (V.ev p.2);have o:g.size=z cells:=by simpa using f.1
  obtain⟨b,A,r,g3⟩:=AT (rest:=ps.map λp=>(p.1,a.eval p.2)) (cells:=g) n e1 (by rw[e2,hl]) a7;have l:cg O β s w (setAt cells q.1 cs) b.toList:=by
   refine⟨by simp[qe,r,o],λj c i=>?_⟩;rw[vN]at i;rw[G4,g3];split at i;.grind
   .rename_i E;rw[l4 a7];simpa using f.2 j c i
  obtain⟨d,e,f1,B,f3⟩:=xi V ps l h;grind
def yF{al}{s}{a}(V:Rel O al s β a w){sz}:∀(ps:List (Nat×Operand)){k}{arr}{K}{b:Box K},arr.size=(k+z ps)*sz->Gm sz k (ps.map λp=>(p.1,s.ev p.2)) b->∃cs vs bl,K cs/\Instr.fill (λi=>S (i*sz,sz)) arr (ps.map λp=>(p.1,a.eval p.2))=S bl/\bl.size=arr.size/\cg O β s w cs vs/\z vs=z ps*sz/\(∀j,j<k*sz->bl[j]?=arr[j]?)/\∀j v,vs[j]?=S v->bl[k*sz+j]?=S v
 |[],k,arr,K,b,az,h=>⟨[],[],arr,h,rfl,rfl,⟨rfl,λ_ _ h=>by simp at h⟩,b9,λ_ _=>rfl,λ_ _ h=>by simp at h⟩|p::ps,k,arr,K,b,az,h=>by
  simp[Gm]at h;obtain⟨g,h⟩:=h;obtain⟨cs,b2,hl,h⟩:=bh h;obtain⟨vs,e1,e2,l,n⟩:=ao.cells b2 (V.ev p.2);have I:(k+(z ps+1))*sz=k*sz+sz+z ps*sz:=by rw[J6,J6];omega
  simp only[j8]at az;rw[I]at az;obtain⟨c1,o,m,g3⟩:=AT (pl:=λi=>S (i*sz,sz)) (i:=p.1) (rest:=ps.map λp=>(p.1,a.eval p.2)) (cells:=arr) (by rw[g]) e1 (by rw[e2,hl]) a7;obtain⟨rest,e,c,f1,q,f3,f4,f5,f6,r⟩:=yF V ps (arr:=c1) ZN h;refine⟨cs++rest,vs++e,c,f1,by grind,by rw[f3,m],cg.append ⟨e2,l⟩ f4,by grind,λj f=>?_,λj v f=>?_⟩;.grind
  .rw[L5]at f;grind
def uJ(hT:bK P G)(V:Rel O al s β a w){t f d n}(I:eL G t=T)(hd:d<al){ps:List (Nat×Operand)}(h:me (bm G t) (bI G t).size f d n s (ps.map λp=>(p.1,s.ev p.2)) k):∃m E w' Y,K m/\(Instr.buildSlice t n (ps.map λp=>(p.1,a.eval p.2)).toArray).run P w=.ok Y w'/\Rel O al m E (a.put (S d) Y) w'/\Tr O β s w E m w':=by
 obtain⟨e,J,L,Q,r⟩:=gf hT I;rw[L,show bm G t=e from by simp[bm,J]]at h;obtain⟨c0,A,az,c2,X,B,cf⟩:=r.info;have o:=r.zsize A B;obtain⟨U,c,h⟩:=h;rw[j6]at U;have q:¬n*(G e).size>2^24:=a7;have H:∀arr:Array Value,arr.size=n*(G e).size->∃cs bl,K ((s.newC (e+1) f cs).put (S d) (.one (.osl f (nxC (e+1) (s.gen f)) (G e).size 0 n)))/\Instr.fill (λi=>S (i*(G e).size,(G e).size)) arr (ps.map λp=>(p.1,a.eval p.2))=S bl/\cg O β s w cs bl.toList/\bl.size=n*(G e).size:=λarr g=>by
  obtain⟨cs,vs,bl,f1,l,f3,f4,f5,f6,f7⟩:=yF V ps (arr:=arr) ZN h;have W:vs=bl.toList:=by
   apply N0;intro j;rw[G4];by_cases hj:j<z vs;.grind
   .grind
  grind
 have b:∃cs bl,K ((s.newC (e+1) f cs).put (S d) (.one (.osl f (nxC (e+1) (s.gen f)) (G e).size 0 n)))/\(Instr.buildSlice t n (ps.map λp=>(p.1,a.eval p.2)).toArray).run P w=.ok (.slice (S ⟨w.heap.size,0,N⟩) n n) (w.alloc (.cells bl e))/\cg O β s w cs bl.toList/\bl.size=n*(G e).size:=by
  unfold Instr.buildSlice;simp only[Sem.run_bind,run_underlying Q,cl r,Result.andThen_ok,q,B1];by_cases y:n*(G e).size=0;.obtain⟨cs,bl,f1,l,f3,f4⟩:=H ((Array.range (n*(G e).size)).map (λx=>(#[]:Array Value)[x%(#[]:Array Value).size]!)) b9;refine⟨cs,bl,f1,?_,f3,f4⟩;simp only[y,B3,Sem.run_bind,Sem.run_pure,Result.andThen_ok];rw[y]at l;simp only[l];rfl
  .obtain⟨cs,bl,f1,l,f3,f4⟩:=H ((Array.range (n*(G e).size)).map (λx=>X.cells[x%X.cells.size]!)) b9;refine⟨cs,bl,f1,?_,f3,f4⟩;simp only[y,B1,Sem.run_bind,zeroValue,typeInfo,Sem.run_pure,run_program,Result.andThen_ok,A,B];simp only[l];rfl
 obtain⟨cs,bl,f1,l,f3,f4⟩:=b;have bo:z cs=bl.size:=by have:=f3.1;simpa using this.symm
 refine⟨_,upd β f (S ⟨w.heap.size,0,N⟩),_,_,f1,l,?_⟩;exact yE (e+1) V f d hd rfl (by exact⟨rfl,rfl⟩) f3 (λj v W=>by grind) a7 (λ_ _=>rfl) _ _ _ (l7 _) a7
def Mu(V:Rel O al s β a w) i d(hd:d<al){el:TypeId}{arr}(b:cg O β s w cs arr.toList):Rel O al ((s.newC (el+1) i cs).put (S d) (.one (.ptr i (nxC (el+1) (s.gen i)) 0))) (upd β i (S ⟨w.heap.size,0,N⟩)) (a.put (S d) (.pointer (S ⟨w.heap.size,0,N⟩))) (w.alloc (.cells arr el))/\Tr O β s w (upd β i (S ⟨w.heap.size,0,N⟩)) ((s.newC (el+1) i cs).put (S d) (.one (.ptr i (nxC (el+1) (s.gen i)) 0))) (w.alloc (.cells arr el)):=by
 have f:z cs=arr.size:=by have:=b.1;simpa using this.symm
 obtain⟨U,Z⟩:=Rel.new (w':=w.alloc (.cells arr el)) (el+1) V i rfl ⟨rfl,rfl⟩ (cs:=cs) a7 (λ_ _=>rfl) (λj c e=>by simpa using b.2 j c e);refine⟨U.put abT ?_,Z.trans (Tr.same (St.put_gen _ _ _) (St.put_obj _ _ _) rfl)⟩;simp only[ao,aQ];refine⟨rfl,by simp[St.newC,upd],λ_ _=>⟨⟨w.heap.size,0,N⟩,by simp[upd],rfl,b9⟩⟩
end
section
attribute[local congr]ite_cc
def iO(al:Nat)(l:List Oper):Bool:=l.all λo=>match o.dst with|some d=>decide (d<al)|none=>T
def codeOk(al:Nat):Code->Bool|.region _ ops _=>iO al ops.toList|.seq x y=>codeOk al x&&codeOk al y|.cond _ x y=>codeOk al x&&codeOk al y|.block _ c=>codeOk al c|.loop c=>codeOk al c|.scope c=>codeOk al c|.rangeFunc _ b x y=>b.toList.all (λp=>decide (p<al))&&codeOk al x&&codeOk al y|_=>T
def yx(P:Program)(o:Oper)(s:St)(R:St->Prop):Prop:=∀(O:Bs)(al:Nat)(β:Loc)(a:Act)(w:World),Rel O al s β a w->(∀d,o.dst=S d->d<al)->∀(next:Act->World->Prop)(Q:Exit->Act->World->Prop),(∀b E W w',R b->Rel O al b E W w'->Tr O β s w E b w'->next W w')->o.wp P a w next Q
def Rt(P:Program)(c:Code)(s:St)(R:Exit->St->Prop):Prop:=∀(O:Bs)(al:Nat)(β:Loc)(a:Act)(w:World),codeOk al c=T->Rel O al s β a w->c.wp P (λe W w'=>∃b E,R e b/\Rel O al b E W w'/\Tr O β s w E b w') a w
def ai(s d:St):Prop:=∀(O:Bs)(al:Nat)(β:Loc)(a:Act)(w:World),Rel O al s β a w->∃E,Rel O al d E a w/\Tr O β s w E d w
def ai.refl s:ai s s:=λ_ _ β _ _ h=>⟨β,h,Tr.refl⟩
def spB(P:Program)(B:Nat):Sp:=⟨yx P,Rt P,ai,B⟩
def sp(P:Program):Sp:=spB P 0
@[go_sem]def adp P:(sp P).base=0:=B7 rfl rfl
@[go_sem]def aar P B:(spB P B).base=B:=B7 rfl rfl
variable{a:Act}{s:St}{al:Nat}{o:Oper}{Q:Exit->Act->World->Prop}{x:AV}{K:St->Prop}{next:Act->World->Prop}{w':World}{g:Nat->Nat}{ob:Obs}{v:Value}{l:List Oper}{ops:Array Oper}{k:Box K}{P:Program}{G:Nat->TI}{O:Bs}{β:Loc}{w:World}{B:Nat}
def gY{Y}(b:(execOp a.eval o).run P w=.ok (.value Y) w')(c:next (a.put o.dst Y) w'):o.wp P a w next Q:=by unfold Oper.wp;rw[b];exact c
def yG(b:(execOp a.eval o).run P w=.ok .skip w')(c:next (a.put o.dst undef) w'):o.wp P a w next Q:=by unfold Oper.wp;rw[b];exact c
def du:ao O β g ob w uv undef:=by simp only[ao,bg];exact⟨[],rfl,rfl⟩
def Iu{H:Type}{xs}(h:xs.size=1)(d:H):xs=#[xs.getD 0 d]:=by
 apply Array.ext;.simp[h]
 simp_all
def xO{H:Type}{xs}(h:xs.size=2)(d:H):xs=#[xs.getD 0 d,xs.getD 1 d]:=by
 apply Array.ext;.simp[h]
 .intro i U Z;have:i=0\/i=1:=a7;rcases this with rfl|rfl<;>simp[Array.getD,h]
def ru{d}{f}{fl}(h:mT d f=S fl):∃fs,d=.struct fs/\fs[f]?=S fl:=by cases d<;>simp[mT]at h;grind
def rv(hT:bK P G){fl}(U:okD (G fl.type).desc=T)(Z:(G fl.type).size≠0) b o:(fieldPlace ⟨b,o,N⟩ fl).run P w=.ok ⟨b,o+fl.offset,N⟩ w:=by unfold fieldPlace;rw[Sem.run_bind,cl (hT _ U)];simp[Z,fb]
def vP(hT:bK P G){t f}{K}{k:Box K}(h:kq G t f s x k)(hv:ao O β s.gen s.obj w x v):∃y Y,K y/\(∀w',Ext w w'->(Instr.fieldAt t v f).run P w'=.ok Y w')/\ao O β s.gen s.obj w y Y:=by
 unfold kq at h;split at h
 .rename_i id g c;obtain⟨i,ho,h⟩:=h;obtain⟨fl,d,⟨U,Z⟩,J⟩:=bh h;obtain⟨fs,hd,e⟩:=ru d;have L:=(hT t abk).desc;rw[hd]at L;obtain⟨ad,H,bn,rfl⟩:=hv.2.2 i ho;refine⟨_,.pointer (S ⟨ad.block,ad.off+c+fl.offset,N⟩),J,λw' _=>?_,?_⟩;.simp[Instr.fieldAt,run_underlying L,e,Instr.sureAddr,rv hT U Z]
  .exact zs
 .rename_i q;obtain⟨fl,d,⟨U,Z⟩,J⟩:=bh h;obtain⟨fs,hd,e⟩:=ru d;have L:=(hT t abk).desc;rw[hd]at L;cases hv with|iptr p m r n=>
  rename_i b c;refine⟨_,.pointer (S ⟨b,c+fl.offset,N⟩),J,λw' _=>?_,?_⟩;.simp[Instr.fieldAt,run_underlying L,e,Instr.sureAddr,rv hT U Z]
  .simp[ao,aQ];refine .iptr (λj=>p (fl.offset+j)) (λbz=>m ZN) (λj x I=>?_) (λj x I=>n _ x ZN);grind
 grind
def pj.part{cs}{vs}(h:pj O β g ob w cs vs){o n}(d:o+n<=z cs):ao O β g ob w (.agg ((cs.drop o).take n)) (.agg (vs.extract o (o+n))):=by
 simp only[ao];refine⟨_,rfl,by grind[h.1],λi c b=>?_⟩;rw[L3]at b;split at b;.rename_i e;rw[P1]at b;obtain⟨u,L,V⟩:=h.2 _ c b;grind
 .cases b
def Cd(hT:bK P G){t f}{K}{k:Box K}(h:vD G t f x k)(d:ao O β s.gen s.obj w x v):∃y Y,K y/\(∀w',Ext w w'->(Instr.field t v f).run P w'=.ok Y w')/\ao O β s.gen s.obj w y Y:=by
 unfold vD at h;split at h
 .rename_i q;obtain⟨fl,m,U,h⟩:=bh h;obtain⟨fs,hd,i⟩:=ru m;have L:=(hT t abk).desc;rw[hd]at L;have b:=hT _ U;obtain⟨vs,rfl,j⟩:=d;unfold Dj at h;split at h;.rename_i e;refine⟨_,_,h.2,λw' _=>?_,pj.part j h.1⟩;simp[Instr.field,run_underlying L,i,asAgg,part,sj b,e,cl b]
  .rename_i e;obtain⟨c,n,J⟩:=bh h;obtain⟨u,p,V⟩:=j.2 _ c n;refine⟨_,u,J,λw' _=>?_,by grind[ao]⟩;simp[Instr.field,run_underlying L,i,asAgg,part,sj b,e,p]
 grind
def xH{ox}(ho:o.op=.nilCheck ox){K}{k:Box K}(h:lF s x k)(b:ao O β s.gen s.obj w x (a.eval ox)):∃y Y,K y/\(∀w',Ext w w'->(execOp a.eval o).run P w'=.ok (.value Y) w')/\ao O β s.gen s.obj w y Y:=by
 have bl:=b;unfold lF at h;split at h;.obtain⟨c,bk,J⟩:=h;obtain⟨e,H,f,d⟩:=b.2.2 c bk;exact⟨_,_,J,λw' _=>by simp[execOp,ho,d],bl⟩
 .generalize c:a.eval ox=v at b;cases b with|iptr p i j m=>exact⟨_,.pointer (S ⟨_,_,N⟩),h,λw' _=>by simp[execOp,ho,c];exact⟨rfl,rfl⟩,by grind⟩
 grind
def bg.get{g}{ob}:∀{A}{vs}{i:Nat}{t},bg O β g ob w A vs->A[i]?=S t->∃v,vs[i]?=S v/\ao O β g ob w t v|[],_,_,_,_,h=>by simp at h;|x::A,vs,i,t,h,b=>by obtain⟨u,W,rfl,U,Z⟩:=h;cases i with|zero=>grind;|succ i=>simpa using bg.get Z ZN
def uK(hT:bK P G){ar}(V:Rel O al s β a w)(hp:fY G o.op=T)(h:opA ar G o s k):∃y Y,K (s.put o.dst y)/\(∀w',Ext w w'->(execOp a.eval o).run P w'=.ok (.value Y) w')/\ao O β s.gen s.obj w y Y:=by obtain⟨dst,op,ty,ps,af,gd⟩:=o;cases op with
 |move x=>exact⟨_,_,h,λ_ _=>rfl,V.ev x⟩;|assign x=>exact⟨_,_,h,λ_ _=>rfl,V.ev x⟩;|pick c x y=>
 obtain⟨b,hb,J⟩:=tD h (V.ev c);refine⟨_,if b then a.eval x else a.eval y,J,λw' _=>?_,?_⟩;.simp[execOp,hb,asBool]
 .cases b;.exact V.ev y
  .exact V.ev x;|load t x=>obtain⟨y,Y,U,Z,h3⟩:=xf hT V h (V.ev x);exact z8;|indexAddr t x ix=>
 have h:(bif qT (G t).desc then pd G (G t).desc s (s.ev x) (s.ev ix) (bx λv=>K (s.put dst v))else eL G t=T/\ko s (bI G t).size (s.ev x) (s.ev ix) (bx λv=>K (s.put dst v))):=by cases x<;>first|exact h|(simp[fY]at hp;done)
 cases ha:qT (G t).desc with|true=>rw[ha,U7]at h;obtain⟨y,Y,U,Z,h3⟩:=yy hT h (V.ev x) (V.ev ix);exact z8;|false=>rw[ha,U2]at h;obtain⟨y,Y,U,Z,h3⟩:=vH hT h.1 h.2 (V.ev x) (V.ev ix);exact z8
 |index t x ix=>have L:=(hT t (by rw[jX h.1];rfl)).desc;rw[jX h.1]at L;obtain⟨y,Y,U,Z,h3⟩:=BV L h.2 (V.ev x) (V.ev ix);exact z8;|binOp W t x y u=>obtain⟨X,Y,U,Z,h3⟩:=Gv hT h (V.ev x) (V.ev y) x y;refine⟨X,Y,U,λw' bc=>?_,h3⟩;simp only[execOp];rw[Sem.run_bind,Z w' bc];rfl;|unOp E t x=>have h:unA E (s.ev x) (bx λv=>K (s.put dst v)):=h;obtain⟨X,Y,U,Z,h3⟩:=Kf (P:=P) h (V.ev x);exact mM;|convert t u x=>
 have H:isSlice (G u).desc=F:=by simpa[fY]using hp
 have h:(bif isSlice (G u).desc then pU G t u ar.base dst s (s.ev x) k else xb s (bI G t).desc (G t).desc (G u).desc (s.ev x) (bx λv=>K (s.put dst v))):=h;rw[H,U2]at h;obtain⟨X,Y,U,Z,h3⟩:=DL hT V h (V.ev x);exact mM;|slice t x lo hi mx=>cases mx with|some _=>grind[fY];|none=>
 have e1:BZ O β s.gen s.obj w (lo.map s.ev) (lo.map a.eval):=by cases lo;exact .none;exact .some (V.ev _)
 have e2:BZ O β s.gen s.obj w (hi.map s.ev) (hi.map a.eval):=by cases hi;exact .none;exact .some (V.ev _)
 have h:(bif qT (G t).desc then pe G (G t).desc s (s.ev x) (lo.map s.ev) (hi.map s.ev) (bx λv=>K (s.put dst v))else qU s (isStr (G t).desc) (eL G t) (bI G t).size (s.ev x) (lo.map s.ev) (hi.map s.ev) (bx λv=>K (s.put dst v))):=h;cases ha:qT (G t).desc with|true=>rw[ha,U7]at h;obtain⟨X,Y,U,Z,h3⟩:=xF hT (λid cs ad U Z h3 arr el fr h4=>by have h5:=V.obj id cs U;rw[Z]at h5;obtain⟨_,bl,Q,_,_,h6,_,h7,_⟩:=h5.cells h3;grind) h (V.ev x) e1 e2;exact mM;|false=>rw[ha,U2]at h;obtain⟨X,Y,U,Z,h3⟩:=Ca hT h (V.ev x) e1 e2;exact mM
 |fieldAddr t x f=>have h:kq G t f s (s.ev x) (bx λv=>K (s.put dst v)):=h;obtain⟨X,Y,U,Z,h3⟩:=vP hT h (V.ev x);exact mM;|field t x f=>obtain⟨X,Y,U,Z,h3⟩:=Cd hT h (V.ev x);exact mM;|lookup t x ix ok=>have h:pR G t s (s.ev x) (s.ev ix) ok (bx λv=>K (s.put dst v)):=h;obtain⟨X,Y,U,Z,h3⟩:=Aj hT V h (V.ev x) (V.ev ix);exact mM;|makeFunc fn first bd=>cases fn with|func f=>have h:lH f (first.toList.map s.ev) (bd.toList.map s.ev) (bx λv=>K (s.put dst v)):=h;obtain⟨X,Y,U,Z,h3⟩:=xE (P:=P) V h;exact mM;|_=>grind[fY]
 |nilCheck x=>have h:lF s (s.ev x) (bx λv=>K (s.put dst v)):=h;exact xH rfl h (V.ev x);|extract x i=>
 have h:qV (s.ev x) i (bx λv=>K (s.put dst v)):=h;have I:=V.ev x;unfold qV at h;split at h;.rename_i A he;obtain⟨t,ht,J⟩:=bh h;rw[he]at I;obtain⟨vs,hv,b0⟩:=I;obtain⟨v,b7,m⟩:=b0.get ht;exact⟨_,v,J,λw' _=>by simp[execOp,hv,Instr.extract,b7],m⟩
 grind;|build t ps=>
 have h:iJ G t (ps.toList.map λp=>(p.1,s.ev p.2)) (bx λv=>K (s.put dst v)):=h;obtain⟨b3,h⟩:=h;obtain an:(∃fs,(G t).desc=.struct fs/\∀f∈fs.toList,okD (G f.type).desc=T)\/∃n e,(G t).desc=.array n e/\okD (G e).desc=T:=by grind[jo]
 have bf:=hT t (by rcases an with⟨_,hd,_⟩|⟨_,_,hd,_⟩<;>rw[hd]<;>rfl);have L:=bf.desc;obtain⟨c0,hi,az,c2,X,hz,cf⟩:=bf.info;have bk:cg O β s w ((G t).zero.map .d) X.cells.toList:=by refine⟨by grind,λj c hc=>?_⟩;rw[cf];rw[A4]at hc|-;cases hq:(G t).zero[j]?with|none=>grind;|some x=>exact sc
 obtain⟨cells,g,J,hf,hc⟩:=xi V ps.toList bk h;refine⟨_,.agg g,J,λw' _=>?_,by simp only[ao];exact⟨_,rfl,by simpa using hc.1,λi c hi=>by simpa using hc.2 i c hi⟩⟩;simp only[execOp,Sem.run_bind];rw[show (ps.map λ(i,x)=>(i,a.eval x))=(ps.toList.map λp=>(p.1,a.eval p.2)).toArray from (H8 b9)];unfold Instr.build;rcases an with⟨fs,hd,bs⟩|⟨n,e,hd,B⟩
 .rw[hd]at L;have cu:∀l:List Field,(∀f∈l,okD (G f.type).desc=T)->(l.mapM λf=>do pure (f.offset,<-sizeOf f.type):Sem (List (Nat×Nat))).run P w'=.ok (l.map λf=>(f.offset,(G f.type).size)) w':=by intro l;induction l with|nil=>simp;|cons f l ih=>intro h;have hf:=cl (w:=w') (hT _ (h f b9));simp_all
  have a1:(λi=>((fs.toList.map λf=>(f.offset,(G f.type).size)).toArray)[i]?)=placeOf G (G t).desc:=by funext i;rw[hd];simp[placeOf,mT];cases hq:fs[i]?with|none=>rfl;|some fl=>grind
  simp only[Sem.run_bind,zeroValue,typeInfo,run_program,Sem.run_pure,Result.andThen_ok,hi,hz,run_underlying L];rw[<-Array.toArray_toList (xs:=fs),T1,Sem.run_map,cu fs.toList bs];simp_all
 .rw[hd]at L;have a1:(λi=>S (i*(G e).size,(G e).size))=placeOf G (G t).desc:=by funext i;rw[hd];rfl
  simp[Sem.run_bind,zeroValue,typeInfo,run_program,Sem.run_pure,Result.andThen_ok,hi,hz,run_underlying L,cl (w:=w') (hT e B)];simp_all;|call c=>
 simp only[fY]at hp;split at hp;.rename_i hc;obtain⟨callee,args,tys⟩:=c;subst hc;have h:(args.size=1/\tys.size=1)/\Dk s (isStr (G (tys.getD 0 0)).desc) (eL G (tys.getD 0 0)) (s.ev (args.getD 0 (.const .nilFunc))) (bx λv=>K (s.put dst v)):=h;obtain⟨⟨ha,ht⟩,h⟩:=h;obtain⟨X,Y,U,Z,h3⟩:=Gw (ty:=ty) hT h (V.ev (args.getD 0 (.const .nilFunc)));refine⟨X,Y,U,λw' bc=>?_,h3⟩;rw[Iu ha (.const .nilFunc),Iu ht 0];generalize args.getD 0 (.const .nilFunc)=x0 at*;generalize tys.getD 0 0=t0 at*;simp[execOp,resolve,invoke,builtin,Z w' bc]
 .rename_i hc;obtain⟨callee,args,tys⟩:=c;subst hc;have h:args.size=2/\mxA T (s.ev (args.getD 0 (.const .nilFunc))) (s.ev (args.getD 1 (.const .nilFunc))) (bx λv=>K (s.put dst v)):=h;obtain⟨ha,h⟩:=h;rw[xO ha (.const .nilFunc)];generalize args.getD 0 (.const .nilFunc)=x0 at*;generalize args.getD 1 (.const .nilFunc)=q at*;have e0:=V.ev x0;have e1:=V.ev q;unfold mxA at h;split at h;.rename_i k1 n1 k2 n2 a' cx;rw[a']at e0;rw[cx]at e1;refine⟨_,.int k1 (max n1 n2),h,λw' _=>?_,by simp only[ao,aQ];exact .int _ _⟩;simp[execOp,resolve,invoke,builtin,Builtin.max_,Builtin.max2,e0.inv_int,e1.inv_int];omega
  grind
 .rename_i hc;obtain⟨callee,args,tys⟩:=c;subst hc;have h:args.size=2/\mxA F (s.ev (args.getD 0 (.const .nilFunc))) (s.ev (args.getD 1 (.const .nilFunc))) (bx λv=>K (s.put dst v)):=h;obtain⟨ha,h⟩:=h;rw[xO ha (.const .nilFunc)];generalize args.getD 0 (.const .nilFunc)=x0 at*;generalize args.getD 1 (.const .nilFunc)=q at*;have e0:=V.ev x0;have e1:=V.ev q;unfold mxA at h;split at h;.rename_i k1 n1 k2 n2 a' cx;rw[a']at e0;rw[cx]at e1;refine⟨_,.int k1 (min n1 n2),h,λw' _=>?_,by simp only[ao,aQ];exact .int _ _⟩;simp[execOp,resolve,invoke,builtin,Builtin.min_,Builtin.min2,e0.inv_int,e1.inv_int];omega
  grind
 .cases hp;|_=>grind[fY]
def px(hT:bK P G)(V:Rel O al s β a w)(hd:∀d,o.dst=S d->d<al)(h:opA (spB P B) G o s k)(hn:∀s' E W w',K s'->Rel O al s' E W w'->Tr O β s w E s' w'->next W w'):o.wp P a w next Q:=by
 by_cases i:fY G o.op=T;.obtain⟨y,Y,U,Z,h3⟩:=uK hT V i h;exact gY (Z w .refl) (hn _ _ _ _ U (V.put hd h3) (Tr.same (St.put_gen _ _ _) (St.put_obj _ _ _) rfl))
 .have e:bE (spB P B) o s k->o.wp P a w next Q:=λ⟨R,hR,J⟩=>hR O al β a w V hd next Q (λs' E W w' hs=>hn s' E W w' (J s' hs));obtain⟨dst,op,ty,ps,af,gd⟩:=o;cases op with
 |store t x y=>have h:tB (G t) s (s.ev x) (s.ev y) (bx λs'=>K (s'.put dst uv)):=h;obtain⟨s',w',U,Z,h3,h4⟩:=uH hT V h (V.ev x) (V.ev y);refine yG (by simp[execOp,Z]) (hn _ _ _ _ U (h3.put hd du) (h4.trans (Tr.same (St.put_gen _ _ _) (St.put_obj _ _ _) rfl)));|buildSlice t n p=>cases dst with|none=>exact e h;|some d=>have h:eL G t=T/\me (bm G t) (bI G t).size (B+d) d n s (p.toList.map λp=>(p.1,s.ev p.2)) k:=h;obtain⟨s',E,w',Y,U,Z,h3,h4⟩:=uJ hT V h.1 (hd d rfl) h.2;refine gY ?_ (hn _ _ _ _ U h3 h4);have:(p.map λx=>(x.1,a.eval x.2))=(p.toList.map λp=>(p.1,a.eval p.2)).toArray:=H8 b9;simp_all[execOp]
 |box t x=>cases dst with|none=>exact e h;|some d=>have h:QL t (B+d) d s (s.ev x) k:=h;obtain⟨cs,b2,J⟩:=bh h;obtain⟨vs,e1,e2,e3,e4⟩:=ao.cells b2 (V.ev x);obtain⟨A,I⟩:=Mu V (B+d) d (hd d rfl) (el:=t) (arr:=vs.toArray) ⟨a7,λj c hc=>by grind⟩;exact gY (by simp[execOp,Instr.box,newVar,newRow,e1]) (hn _ _ _ _ J A I)
 |alloc t=>cases dst with|none=>exact e h;|some d=>
 obtain⟨an,J⟩:=h;have bf:=hT t an;obtain⟨c0,hi,az,c2,X,hz,cf⟩:=bf.info;have bk:cg O β s w ((G t).zero.map .d) X.cells.toList:=by refine⟨by grind,λj c hc=>?_⟩;rw[cf];rw[A4]at hc|-;cases hq:(G t).zero[j]?with|none=>grind;|some x=>exact sc
 obtain⟨A,I⟩:=Mu V (B+d) d (hd d rfl) (el:=t) bk;exact gY (by simp[execOp,Instr.alloc,newVar,newRow,zeroValue,typeInfo,hi,hz]) (hn _ _ _ _ J A I)
 |makeSlice t l c=>cases dst with|none=>exact e h;|some d=>have h:eL G t=T/\lG (bm G t) (bI G t) (B+d) d s (s.ev l) (s.ev c) k:=h;obtain⟨s',E,w',Y,U,Z,h3,h4⟩:=vO hT V h.1 (hd d rfl) h.2 (V.ev l) (V.ev c);exact Y9
 |call c=>obtain⟨callee,args,tys⟩:=c;cases callee with|value f=>exact e h;|invoke r m=>exact e h;|builtin b=>
 cases b;case append=>cases dst with|none=>exact e h;|some d=>have h:(args.size=2/\tys.size=2)/\eL G (tys.getD 0 0)=T/\pO (bm G (tys.getD 0 0)) (bI G (tys.getD 0 0)) (isStr (G (tys.getD 1 0)).desc) (eL G (tys.getD 1 0)) (B+d) d s (s.ev (args.getD 0 (.const .nilFunc))) (s.ev (args.getD 1 (.const .nilFunc))) k:=h;obtain⟨⟨ha,ht⟩,ca,h⟩:=h;obtain⟨s',E,w',Y,U,Z,h3,h4⟩:=Au hT V ca (hd d rfl) h (V.ev _) (V.ev _) ty;refine gY ?_ (hn _ _ _ _ U h3 h4);rw[xO ha (.const .nilFunc),xO ht 0];generalize args.getD 0 (.const .nilFunc)=x0 at*;generalize tys.getD 0 0=t0 at*;generalize args.getD 1 (.const .nilFunc)=q at*;generalize tys.getD 1 0=t1 at*;simp[execOp,resolve,invoke,builtin,Z]
 case len=>exact absurd rfl i
 case max=>exact absurd rfl i
 case min=>exact absurd rfl i
 all_goals exact e h;|slice t x lo hi mx=>cases mx with|none=>exact absurd rfl i;|some m=>exact e h
 |lookup=>exact absurd rfl i;|makeFunc fn first bd=>cases fn with|func f=>exact absurd rfl i;|_=>exact e h
 |makeMap t res=>cases res with|some _=>exact e h;|none=>cases dst with|none=>exact e h;|some d=>have h:pg G t (B+d) d s k:=h;obtain⟨s',E,w',Y,U,Z,h3,h4⟩:=yD (P:=P) V (hd d rfl) h;exact Y9
 |mapUpdate t m L x=>have h:fX G t s (s.ev m) (s.ev L) (s.ev x) (bx λs'=>K (s'.put dst uv)):=h;obtain⟨s',w',U,Z,h3,h4⟩:=pw hT V h (V.ev m) (V.ev L) (V.ev x);exact yG (by simp[execOp,Z]) (hn _ _ _ _ U (h3.put hd du) (h4.trans (Tr.same (St.put_gen _ _ _) (St.put_obj _ _ _) rfl)));|move=>exact absurd rfl i;|assign=>exact absurd rfl i;|pick=>exact absurd rfl i;|load=>exact absurd rfl i;|indexAddr t x L=>cases x<;>first|exact e h|exact absurd rfl i
 |index=>exact absurd rfl i;|binOp=>exact absurd rfl i;|unOp=>exact absurd rfl i;|convert t u x=>
 have H:isSlice (G u).desc=T:=by simpa[fY]using i
 have h:(bif isSlice (G u).desc then pU G t u B dst s (s.ev x) k else xb s (bI G t).desc (G t).desc (G u).desc (s.ev x) (bx λv=>K (s.put dst v))):=h;rw[H,U7]at h;obtain⟨s',E,w',Y,U,Z,h3,h4⟩:=Ar hT V hd h (V.ev x);exact Y9;|fieldAddr=>exact absurd rfl i;|field=>exact absurd rfl i;|build=>exact absurd rfl i;|nilCheck=>exact absurd rfl i;|extract=>exact absurd rfl i;|_=>exact e h
def mg(h:iO al (o::l)=T):(∀d,o.dst=S d->d<al)/\iO al l=T:=by simp only[iO,D1,l6]at h|-;grind
def ao.inv_bool{g}{ob}{b}{v}(h:ao O β g ob w (bv b) v):v=.bool b:=by simp only[ao,aQ]at h;exact h.inv_bool
def ao.inv_uv(h:ao O β g ob w uv v):v=undef:=by obtain⟨vs,rfl,rfl⟩:=h;rfl
def Rel.reput(V:Rel O al s β a w){d}(I:s.f d=x):Rel O al {s with f:=upd s.f d x} β a w:=by
 have:upd s.f d x=s.f:=by funext j;simp only[upd];split<;>simp_all
 simp_all
def Rel.yielded{al}{s}{a}(V:Rel O al s β a w){ops:Array Oper}{j d:Nat}(e:(ops[j]?).bind (·.dst)=S d){b}(I:s.f d=bv b):Go.yielded ops a.tmps j=S b:=by have c:=V.f d;rw[I]at c;have c:=c.inv_bool;unfold Go.yielded;rw[e];simp;rw[y9]at c;cases h:a.tmps[d]?with|none=>grind[undef];|some v=>grind
def Rel.yielded_u(V:Rel O al s β a w){j d:Nat}(c:(ops[j]?).bind (·.dst)=S d)(I:s.f d=uv):Go.yielded ops a.tmps j=N:=by have b:=V.f d;rw[I]at b;have b:=b.inv_uv;unfold Go.yielded;rw[c];simp;rw[y9]at b;cases h:a.tmps[d]?with|none=>rfl;|some v=>rw[h]at b;simp at b;rw[b];rfl
def nq(hT:bK P G){al}{ops}{Q}{K}{k:Box K}:∀l{s}{β}{a}{w},Rel O al s β a w->iO al l=T->wpO (spB P B) G ops l s k->(∀s' E W w',K s'->Rel O al s' E W w'->Tr O β s w E s' w'->Q .normal W w')->wpList P ops Q l a w|[],s,β,a,w,V,_,h,hQ=>hQ s β a w h V Tr.refl|o::rest,s,β,a,w,V,ar,h,hQ=>by obtain⟨hd,g⟩:=mg ar;unfold wpO at h;unfold wpList;cases hg:o.guard with|none=>rw[hg]at h;rw[s5 (by simp[Region.wanted,hg])];exact .inl (px hT V hd h (λs' E W w' U Z c=>nq hT rest Z g U (λs2 bf a2 w2 k1 k2 k3=>hQ _ _ _ _ k1 k2 (c.trans k3))));|some p=>
 obtain⟨j,n⟩:=p;rw[hg]at h;obtain⟨d,f,h⟩:=bh h;unfold pN at h;split at h
 .rename_i b e;have hy:=V.yielded f e;have h:=lL h;have i:=V.reput e;by_cases hw:b=n;.rw[s5 hw]at h;rw[s5 abd];exact .inl (px hT i hd h (λs' E W w' U Z c=>nq hT rest Z g U (λs2 bf a2 w2 k1 k2 k3=>hQ _ _ _ _ k1 k2 (Tr.trans ⟨c.size,c.old,c.keep,c.os⟩ k3))))
  .rw[l4 hw]at h;rw[l4 abd];have hp:=i.put hd du;exact B2
 .rename_i e;have hy:=V.yielded_u f e;rw[l4 abH];have hp:=V.put hd du;exact B2
 grind
def jY(hT:bK P G){al}{ops}{Q}{K}{k:Box K} c:∀l{s}{a},Rel O al s β a w->iO al l=T->l.all (fY G ·.op)=T->wpO (spB P B) G ops (l++c) s k->(∀s' W,wpO (spB P B) G ops c s' k->Rel O al s' β W w->Tr O β s w β s' w->Q W)->wpStill P ops w Q l a
 |[],s,a,V,_,_,h,hQ=>hQ s a h V Tr.refl|o::rest,s,a,V,ar,hp,h,hQ=>by
  obtain⟨hd,g⟩:=mg ar;simp only[D1,l6]at hp;rw[z6]at h;unfold wpO at h;unfold wpStill;have u:∀{e:St},Rel O al e β a w->Tr O β s w β e w->opA (spB P B) G o e (bx λs'=>wpO (spB P B) G ops (rest++c) s' k)->o.still P a w (wpStill P ops w Q rest):=λ{e}bz m q=>by obtain⟨y,Y,U,Z,r⟩:=uK hT bz hp.1 q;unfold Oper.still;rw[Z w .refl];refine⟨rfl,jY hT c rest (bz.put hd r) g hp.2 U (λs' W k1 k2 k3=>hQ s' W k1 k2 (m.trans (Tr.trans (Tr.same (St.put_gen _ _ _) (St.put_obj _ _ _) rfl) k3)))⟩
  cases hg:o.guard with|none=>exact W0;|some p=>
 obtain⟨j,n⟩:=p;rw[hg]at h;obtain⟨d,i,h⟩:=bh h;unfold pN at h;split at h
 .rename_i b f;have hy:=V.yielded i f;have h:=lL h;have av:=V.reput f;by_cases hw:b=n;.exact V3
  .rw[l4 hw]at h;rw[l4 abd];have t:=av.put hd du;exact R0
 .rename_i f;have hy:=V.yielded_u i f;rw[l4 abH];have t:=V.put hd du;exact R0
 grind
def xj(h:iO al l=T) n:iO al (l.take n)=T/\iO al (l.drop n)=T:=by unfold iO at*;grind
def DN(hT:bK P G)(V:Rel O al s β a w)(hd:iO al l=T)(h:wpO (spB P B) G ops l s k)(c:∀b E W w',K b->Rel O al b E W w'->Tr O β s w E b w'->Q .normal W w'):wpList P ops Q l a w:=nq hT l V hd h c
def uL(hT:bK P G)(j:P.follows .mixedOrders=T){al id}(V:Rel O al s β a w)(hd:iO al ops.toList=T)(an:qX G ops=T)(h:wpO (spB P B) G ops ops.toList s k)(m:∀s' E W w',K s'->Rel O al s' E W w'->Tr O β s w E s' w'->Q .normal W w'):(Code.region id ops T).wp P Q a w:=by
 have p:Rel O al s β a {w with drawn:=w.drawn+1}:=V.of_heap rfl;have u:Tr O β s w β s {w with drawn:=w.drawn+1}:=Tr.same rfl rfl rfl;simp only[qX,G9,l6,Q2]at an;rcases an with⟨d,hB⟩|⟨n,_,d,hB⟩;.refine wp_region_still j hB (jY hT [] ops.toList p hd d (by rw[u7];exact h) (λs' W e f i=>m _ _ _ _ e f (u.trans i)))
 .have hl:=wp_region_still_tail (id:=id) (Q:=Q) (a:=a) (w:=w) (ops.size-n) j a7 ?_;.omega
  .obtain⟨d1,q⟩:=xj hd (ops.size-n);refine jY hT (ops.toList.drop (ops.size-n)) (ops.toList.take (ops.size-n)) p d1 d (by rw[G3];simpa using h) (λs' W e f i=>?_);exact DN hT f q e (λt y A H b r c=>m _ _ _ _ b r (u.trans (i.trans c)))
def Ku(O:Bs)(al:Nat)(β:Loc)(s:St)(w:World)(Q:Exit->St->Prop)(e:Exit)(W:Act)(w':World):Prop:=∃b E,Q e b/\Rel O al b E W w'/\Tr O β s w E b w'
def Ku.of{s c}{l}{f}{Q d}{e}{W}(i:Tr O β s w l c f)(h:Ku O al l c f Q e W w')(j:∀b,Q e b->d e b):Ku O al β s w d e W w':=let⟨b,E,U,Z,m⟩:=h
 ⟨b,E,j _ U,Z,i.trans m⟩
def gQ(hT:bK P G)(p:P.follows .mixedOrders=T){al}:∀c{Q}{q:Box Q}{s}{β}{a}{w},codeOk al c=T->Rel O al s β a w->wpC (spB P B) G c q s->c.wp P (Ku O al β s w Q) a w
 |.skip,_,_,s,β,_,_,_,V,h=>wp_skip ⟨s,β,h,V,Tr.refl⟩|.label _,_,_,s,β,_,_,_,V,h=>wp_label ⟨s,β,h,V,Tr.refl⟩|.exit _,_,_,s,β,_,_,_,V,h=>wp_exit ⟨s,β,h,V,Tr.refl⟩|.goto _,_,_,s,β,_,_,_,V,h=>wp_goto ⟨s,β,h,V,Tr.refl⟩|.ret,_,_,s,β,_,_,_,V,h=>wp_ret ⟨s,β,h,V,Tr.refl⟩|.region id ops b,Q,q,s,β,a,w,hc,V,h=>by cases b with|false=>refine wp_region ?_;have:=wpOps_eq_wpList (P:=P) (ops:=ops) (Q:=Ku O al β s w Q) ops.toList 0 b9;rw[<-Q6,O2]at this;rw[this];exact nq hT ops.toList V hc h (λs' E W w' U Z h3=>⟨s',E,U,Z,h3⟩);|true=>
 rcases h with⟨an,h⟩|⟨R,hR,J⟩;.exact uL hT p V hc an h (λs' E W w' U Z h3=>⟨s',E,U,Z,h3⟩)
 .exact u1;|.seq x y,Q,q,s,β,a,w,hc,V,h=>by simp[codeOk]at hc;have h:wpC (spB P B) G x (bx (nE (bx λs'=>wpC (spB P B) G y q s') q)) s:=h;refine wp_seq (wp_mono (gQ hT p x hc.1 V h) (λe W w' m=>?_));obtain⟨s',E,U,Z,h3⟩:=m;cases e with|normal=>exact wp_mono (gQ hT p y hc.2 Z U) (λe t A m=>Ku.of h3 m (λ_ h=>h));|_=>exact⟨s',E,U,Z,h3⟩
 |.cond c x y,Q,q,s,β,a,w,hc,V,h=>by
  simp[codeOk]at hc;obtain⟨b,hb,h⟩:=tD h (V.ev c);refine wp_cond hb ?_;cases b;.exact gQ hT p y hc.2 V h
  .exact gQ hT p x hc.1 V h;|.block id c,Q,q,s,β,a,w,hc,V,h=>by refine wp_block (wp_mono (gQ hT p c hc V h) (λe W w' m=>?_));obtain⟨s',E,U,Z,h3⟩:=m;cases e with
  |exit i=>
 simp[Exit.inBlock,kN]at U|-;split at U;.rename_i r;rw[s5 r];exact⟨s',E,U,Z,h3⟩
 .rename_i r;rw[l4 r];exact⟨s',E,U,Z,h3⟩;|_=>exact⟨s',E,U,Z,h3⟩
 |.scope c,Q,q,s,β,a,w,hc,V,h=>by refine wp_scope_straight (wp_mono (gQ hT p c hc V h) (λe W w' m=>?_));obtain⟨s',E,U,Z,h3⟩:=m;cases e with|goto l=>exact U.elim;|_=>exact⟨s',E,U,Z,h3⟩
 |.loop c,Q,q,s,β,a,w,hc,V,h=>by obtain⟨I,⟨n,d,b0,h0⟩,g⟩:=h;obtain⟨j,b1,u⟩:=b0 O al β a w V;refine wp_loop_ghost (λn W w'=>∃s' E,I n s'/\Rel O al s' E W w'/\Tr O β s w E s' w') n ⟨d,j,h0,b1,u⟩ ?_;rintro n W w'⟨s',E,U,Z,h3⟩;refine wp_mono (gQ hT p c hc Z (g n s' U)) (λe t A m=>?_);obtain⟨s2,X,Y,k2,k3⟩:=m;cases e with|normal=>obtain⟨H,s3,af,k,hI⟩:=Y;obtain⟨az,L,o⟩:=k O al X t A k2;exact⟨H,af,s3,az,hI,L,h3.trans (k3.trans o)⟩;|_=>exact⟨s2,X,Y,k2,h3.trans k3⟩
 |.rangeFunc f ps x y,Q,q,s,β,a,w,hc,V,h=>by obtain⟨R,hR,J⟩:=h;exact u1;|.refuse y,Q,q,s,β,a,w,hc,V,h=>by obtain⟨R,hR,J⟩:=h;exact u1
end
def jI:D->D|.nsl=>.sl []|x=>x
inductive Frz (s:St):C->D->Prop where|d (x:D):Frz s (.d x) (jI x)|osl {id g sz off len:Nat}{cells:List C}{es:List (List D)} (hg:s.gen id=g) (ho:s.obj id=some cells) (b1:off+len*sz<=cells.length) (bd:es.length=len) (az:∀e∈es,e.length=sz)(k:Nat->C) (hc:∀(j:Nat)(x:D),es.flatten[j]?=some x->cells[off+j]?=some (k j)) (hf:∀(j:Nat)(x:D),es.flatten[j]?=some x->Frz s (k j) x):Frz s (.osl id g sz off len) (.sl es)
def RVc(J:Nat->Prop)(w:World)(c:C)(v:Value):Prop:=∃x,c=.d x/\cX J w x v
mutual
def RV(J:Nat->Prop)(w:World):AV->Value->Prop
 |.one c,v=>RVc J w c v
 |.agg cs,v=>∃vs:Array Value,v=.agg vs/\vs.size=z cs/\∀(i:Nat)(c:C),cs[i]?=S c->∃u,vs[i]?=S u/\RVc J w c u
 |.tup A,v=>∃vs:List Value,v=.tuple vs.toArray/\RVs J w A vs
 |.junk,_=>False
 |.exact _,_=>False
def RVs(J:Nat->Prop)(w:World):List AV->List Value->Prop
 |[],vs=>vs=[]
 |t::A,vs=>∃u W,vs=u::W/\RV J w t u/\RVs J w A W
end
def Ce(P:Program)(f:FuncId):Prop:=∃fn,P.funcs[f]?=S fn/\fn.body.isNone=F/\(fn.name == "runtime.NumGoroutine")=F
def aR(P:Program)(f:FuncId)(args:List AV)(R:AV->Prop):Prop:=Ce P f/\∀(J:Nat->Prop)(w:World)(vs:List Value),(∀b,J b->b<w.heap.size)->RVs J w args vs->Calls P f vs.toArray w λe d=>∃v r,e=.returned v/\R r/\w.heap.size<=d.heap.size/\(∀b,b<w.heap.size->d.heap[b]?=w.heap[b]?)/\(d.os=w.os/\d.output=w.output)/\RV (λb=>b<d.heap.size/\(b<w.heap.size->J b)) d r v
def aR.mono{P}{f}{args}{R n}(h:aR P f args R)(V:∀r,R r->n r):aR P f args n:=⟨h.1,λJ w vs b d=>(h.2 J w vs b d).mono λ_ _⟨v,r,U,Z,e⟩=>⟨v,r,U,V r Z,e⟩⟩
variable{s:St}{a:Act}{c:C}{al:Nat}{f:FuncId}{g:Nat->Nat}{args:Array Operand}{tys:Array TypeId}{R:AV->Prop}{P:Program}{G:Nat->TI}{O:Bs}{β:Loc}{w:World}
def RVc.mono{J q}{w w'}{c}{v}(h:RVc J w c v)(d:∀b,J b->q b/\w'.heap[b]?=w.heap[b]?):RVc q w' c v:=let⟨x,U,Z⟩:=h
 ⟨x,U,Z.mono d⟩
mutual
theorem RV.mono{J q:Nat->Prop}{w w':World}(d:∀b,J b->q b/\w'.heap[b]?=w.heap[b]?):(x:AV)->{v:Value}->RV J w x v->RV q w' x v
 |.one _,_,h=>by simp only[RV]at h|-;exact RVc.mono h d
 |.agg _,_,h=>by
   simp only[RV]at h|-;obtain⟨vs,U,Z,e⟩:=h;exact⟨vs,U,Z,λi c j=>let ⟨u,hu,V⟩:=e i c j;⟨u,hu,V.mono d⟩⟩
 |.tup A,_,h=>by simp only[RV]at h|-;obtain⟨vs,U,Z⟩:=h;exact⟨vs,U,RVs.mono d A Z⟩
 |.junk,_,h=>by simp only[RV]at h
 |.exact _,_,h=>by simp only[RV]at h
theorem RVs.mono{J q:Nat->Prop}{w w':World}(d:∀b,J b->q b/\w'.heap[b]?=w.heap[b]?):(x:List AV)->{v:List Value}->RVs J w x v->RVs q w' x v
 |[],_,h=>by simp only[RVs]at h|-;exact h
 |t::A,_,h=>by simp only[RVs]at h|-;obtain⟨u,W,U,Z,e⟩:=h;exact⟨u,W,U,RV.mono d t Z,RVs.mono d A e⟩
end
def RVc.rep{ob}{v}(h:RVc (Imm O β ob w) w c v):aQ O β g ob w c v:=by obtain⟨x,rfl,I⟩:=h;exact I
mutual
theorem RV.rep{g:Nat->Nat}{ob:Obs}:(x:AV)->{v:Value}->RV (Imm O β ob w) w x v->ao O β g ob w x v
 |.one _,_,h=>by simp only[RV]at h;simp only[ao];exact RVc.rep h
 |.agg _,_,h=>by
   simp only[RV]at h;simp only[ao];obtain⟨vs,U,Z,b⟩:=h;exact⟨vs,U,Z,λi c d=>let ⟨u,hu,V⟩:=b i c d;⟨u,hu,V.rep⟩⟩
 |.tup A,_,h=>by simp only[RV]at h;simp only[ao];obtain⟨vs,U,Z⟩:=h;exact⟨vs,U,RVs.rep A Z⟩
 |.junk,_,h=>by simp only[RV]at h
 |.exact _,_,h=>by simp only[RV]at h
theorem RVs.rep{g:Nat->Nat}{ob:Obs}:(x:List AV)->{v:List Value}->RVs (Imm O β ob w) w x v->bg O β g ob w x v
 |[],_,h=>by simp only[RVs]at h;simp only[bg];exact h
 |t::A,_,h=>by simp only[RVs]at h;simp only[bg];obtain⟨u,W,U,Z,b⟩:=h;exact⟨u,W,U,RV.rep t Z,RVs.rep A b⟩
end
def Rel.grow(V:Rel O al s β a w){w'}(l:w.heap.size<=w'.heap.size)(j:∀b,b<w.heap.size->w'.heap[b]?=w.heap[b]?)(E:w'.os=w.os/\w'.output=w.output):Rel O al s β a w'/\Tr O β s w β s w':=by have q:ik O β s.gen s.obj w β s.gen s.obj w':=⟨λb e=>⟨⟨by have:=e.1;omega,e.2.1,e.2.2⟩,j b e.1⟩,λ_=>l7 _,λid _ ho=>⟨ho,rfl,λW k arr el fr U=>by rw[j _ (GI V ho k)]at U;grind⟩⟩;exact⟨⟨V.defers,V.size,λi=>ao.keep q _ (V.f i),λid d ho=>(V.obj id d ho).keep q (λW k=>j _ (GI V ZN k)),V.inj,by grind[V.base]⟩,l,λb e=>j b (by grind[V.base]),q,E⟩
def xQ(V:Rel O al s β a w){w'}{J:Nat->Prop}(e:∀b,J b->Imm O β s.obj w b){b}(d:b<w'.heap.size/\(b<w.heap.size->J b)):Imm O β s.obj w' b:=by
 by_cases h:b<w.heap.size;.obtain⟨U,Z,i⟩:=e b (d.2 h);exact⟨d.1,Z,i⟩
 .refine⟨d.1,λhB=>absurd V.base a7,λid W ho H j=>?_⟩;have:=GI V ho H;omega
def Iv:C->Bool|.d _=>T|_=>F
def iq:AV->Bool|.one c=>Iv c|.agg cs=>cs.all Iv|_=>F
def aQ.data{ob}{v}(hd:Iv c=T)(h:aQ O β g ob w c v):RVc (Imm O β ob w) w c v:=by cases c<;>simp[Iv]at hd;exact⟨_,rfl,h⟩
def ao.data{g}{ob}{x}{v}(hd:iq x=T)(h:ao O β g ob w x v):RV (Imm O β ob w) w x v:=by cases x with|one c=>simp[RV];exact aQ.data hd h;|agg cs=>simp[RV];obtain⟨vs,U,Z,d⟩:=h;refine⟨vs,U,Z,λi c b=>?_⟩;obtain⟨u,L,V⟩:=d i c b;simp[iq]at hd;exact⟨u,L,V.data (hd c (l8 b))⟩;|tup=>grind[iq];|junk=>grind[iq];|exact=>grind[iq]
def mh{o}(ho:o.op=.call ⟨.value (.func f),args,tys⟩)(d:Ce P f) w:(execOp a.eval o).run P w=.ok (.enter f (args.map a.eval)) w:=by
 obtain⟨fn,U,Z,b⟩:=d;have Z:¬fn.body=N:=by intro h;rw[h]at Z;simp at Z
 simp[execOp,ho,resolve,Act.eval,Deferred.ofValue,invoke,callFunc,U,Z,by simpa using b]
def AU{o}(ho:o.op=.call ⟨.value (.func f),args,tys⟩)(hp:aR P f (args.toList.map s.ev) R)(hd:(args.toList.map s.ev).all iq=T):yx P o s (λs'=>∃r,R r/\s'=s.put o.dst r):=by intro O al β a w V c next Q hn;unfold Oper.wp;rw[mh ho hp.1 w];exact gW
def dZ(args:List AV)(i:Nat):AV:=(args[i]?).getD uv
def oh(s:St):AV->AV->Prop|.one c,r=>∃x,Frz s c x/\r=.one (.d x)|.agg cs,r=>∃b:List D,z b=z cs/\(∀(i:Nat)(c:C),cs[i]?=S c->∃x,b[i]?=S x/\Frz s c x)/\r=.agg (b.map .d)|_,_=>False
def fv(s:St):List AV->List AV->Prop|[],rs=>rs=[]|t::A,rs=>∃r q,rs=r::q/\oh s t r/\fv s A q
def GJ(k:List Nat)(R:AV->Prop):Exit->St->Prop
 |.normal,s|.ret,s=>match k with|[t]=>∃r,oh s (s.f t) r/\R r|A=>∃b,fv s (A.map s.f) b/\R (.tup b)
 |_,_=>False
def Own(O:Bs)(w:World)(b:Nat):Prop:=b<w.heap.size/\(b<O.B->O.I b)
def Frz.rep(V:Rel O al s β a w){x}(h:Frz s c x):∀{v},aQ O β s.gen s.obj w c v->cX (Own O w) w x v:=by
 induction h with|d x=>
 intro v r;have U:cX (Own O w) w x v:=(r).mono λb t=>⟨⟨t.1,t.2.1⟩,rfl⟩;cases x<;>simp[jI]<;>first|exact U|skip
 cases U;exact .sl0;|osl B ho X hlen az k hc Y ih=>rename_i id g sz off len p es;intro v r;have b4:=iV r B ZN;have bk:=V.obj id p ho;cases H:β id with|none=>exact V6;|some q=>
 rw[H]at b4 bk;obtain⟨E,b4⟩:=b4;obtain⟨hB,arr,el,Z,hi,A,ar,cu,bs⟩:=bk.cells E;rcases b4 with⟨J,rfl,cm,_⟩|⟨K,o,rfl⟩
 .rw[<-hlen];have l:∀i e,es[i]?=S e->∀j x,e[j]?=S x->es.flatten[i*sz+j]?=S x:=λi e y j x I=>by
   have:∀(es:List (List D))(_:∀e∈es,z e=sz)i,es[i]?=S e->es.flatten[i*sz+j]?=S x:=by intro es;induction es with|nil=>simp;|cons Q es n=>intro W i h;have hl:=W Q b9;cases i with|zero=>grind;|succ i=>grind
   grind
  have av:∀m x,es.flatten[m]?=S x->∃u,w.cell? ⟨q.block,q.off+off+m,N⟩=S u/\cX (Own O w) w x u:=λm x I=>by exact X2
  refine .sl (λi j=>(w.cell? ⟨q.block,q.off+off+(i*sz+j),N⟩).getD undef) a7 (λ_=>⟨(F1.1 A).1,λh=>absurd hB a7⟩) az (λi e y j x I=>?_) (λi e y j x I=>?_);.grind
  grind
 .subst K;have:=v7 hlen;subst this;exact oo
def oh.rep{al}{s}{a}(V:Rel O al s β a w){x r}(h:oh s x r){v}(b:ao O β s.gen s.obj w x v):RV (Own O w) w r v:=by cases x with
 |one c=>obtain⟨y,m,rfl⟩:=h;simp[RV];exact⟨y,rfl,Frz.rep V m b⟩;|agg cs=>obtain⟨n,hl,I,rfl⟩:=h;simp only[RV];obtain⟨vs,U,Z,o⟩:=b;refine⟨vs,U,by grind,λi c j=>?_⟩;rw[A4]at j;cases k:n[i]?with|none=>grind;|some y=>
 rw[k]at j;simp at j;subst j;have l:i<z cs:=by rw[<-hl];exact(l9.1 k).1
 obtain⟨u,L,f⟩:=o i _ (x9 l);obtain⟨e,d,p⟩:=I i _ (x9 l);have:e=y:=by simpa[d]using k
 subst this;exact⟨u,L,e,rfl,Frz.rep V p f⟩;|tup=>exact h.elim;|junk=>exact h.elim;|exact=>exact h.elim
def fv.rep{al}{s}{a}(V:Rel O al s β a w):∀(A:List Nat){rs},fv s (A.map s.f) rs->RVs (Own O w) w rs (A.map λt=>a.tmps.getD t undef)|[],rs,h=>by simp[fv]at h;subst h;rfl;|t::A,rs,h=>by simp[fv]at h;obtain⟨r,q,rfl,U,Z⟩:=h;simp only[s7,RVs];exact⟨_,_,rfl,U.rep V (V.f t),fv.rep V A Z⟩
def vQ(a:Array Value):List Nat->Value|[t]=>a.getD t undef|A=>.tuple (A.map λt=>a.getD t undef).toArray
def ry{fn} k(b:fn.results=(k.map ResultVar.tmp).toArray) a:(results fn a).run P w=.ok (vQ a k) w:=by
 have h:∀(g:ResultVar->Sem Value)(d:∀t,g (.tmp t)=pure (a.getD t undef))(l:List Nat),((l.map ResultVar.tmp).mapM g).run P w=.ok (l.map λt=>a.getD t undef) w:=by intro g d l;induction l with|nil=>simp;|cons t l e=>simp_all
 unfold results;simp only[b,T1,Sem.run_bind,Sem.run_map];rw[h _ (λ_=>rfl) k];simp only[Result.andThen_ok,Sem.run_pure];match k with|[]=>rfl;|[t]=>rfl;|t::i::A=>rfl
def GK(hT:bK P G)(K:P.follows .mixedOrders=T){fn}{c}(B:P.funcs[f]?=S fn)(hb:fn.body=S c)(Q:(fn.name== "runtime.NumGoroutine")=F)k(X:fn.results=(k.map ResultVar.tmp).toArray)(an:codeOk fn.ntmps c=T){args}(m:z args<=fn.ntmps)(h:∀g,wpC (sp P) G c (bx (GJ k R)) ⟨dZ args,g,λ_=>N⟩):aR P f args R:=by
 refine⟨⟨fn,B,by grind,Q⟩,λJ w vs hJ hv=>?_⟩;refine calls_of_wp B hb ?_;have Y:∀(l:List AV)(vs:List Value),RVs J w l vs->z vs=z l:=by intro l;induction l with|nil=>grind[RVs];|cons x l ih=>grind[RVs]
 have hl:=Y _ _ hv;let q:Nat->Prop:=J;have V:Rel ⟨w.heap.size,q⟩ fn.ntmps ⟨dZ args,λ_=>0,λ_=>N⟩ (λ_=>N) {tmps:=vs.toArray++Array.replicate (fn.ntmps-vs.toArray.size) undef,defers:=[]} w:=by
  refine⟨rfl,by grind,λi=>?_,λid p ho=>adz,λid L a W ho=>adz,l7 _⟩;have u:∀(l:List AV)(vs:List Value),RVs J w l vs->∀(i:Nat)(x:AV),l[i]?=S x->∃v,vs[i]?=S v/\RV J w x v:=by intro l;induction l with|nil=>simp;|cons y l ih=>grind[RVs]
  simp only[dZ];cases I:args[i]?with|some x=>exact lv;|none=>exact W5
 refine wp_mono (gQ hT K c an V (h _)) (λe W o hp=>?_);obtain⟨H,E,n,av,ht⟩:=hp;have d:∀{e},GJ k R e H->(e=.normal\/e=.ret)->∃v,(results fn W.tmps).run P o=.ok v o/\∃r,R r/\RV (Own ⟨w.heap.size,q⟩ o) o r v:=by
  intro e n he;refine⟨_,ry k X W.tmps,?_⟩;have j:GJ k R .ret H:=by rcases he with rfl|rfl<;>exact n
  unfold GJ at j;match k,j with|[t],⟨r,U,Z⟩=>exact⟨r,Z,U.rep av (av.f t)⟩;|[],⟨rs,U,Z⟩=>exact⟨_,Z,by simp[RV];exact⟨_,rfl,fv.rep av [] U⟩⟩;|t::t'::A,⟨rs,U,Z⟩=>exact⟨_,Z,by simp[RV];exact⟨_,rfl,fv.rep av (t::t'::A) U⟩⟩
 cases e with|normal=>obtain⟨v,U,r,Z,h3⟩:=d n (.inl rfl);exact sb;|ret=>obtain⟨v,U,r,Z,h3⟩:=d n (.inr rfl);exact sb;|exit id=>exact n.elim;|goto l=>exact n.elim;|panic ch=>exact n.elim;|outgrown=>exact n.elim
end Go.Am

