/- A part of the proof; no conditions. -/
import Derived.Test.YtlacbjnmkhndiaaGreatDoorPart2
import Derived.Laws.Strings
import Derived.Laws.StructEq
import Derived.ChangeKeysEq
import Derived.Lib.ConvBytes
import Derived.Laws.BytesString
import Derived.Deep.LoopGhost
import Derived.Deep.Upon
import Derived.Scope
set_option linter.unusedSimpArgs false
set_option linter.unusedVariables false
set_option linter.defProp false
open List renaming length -> z
open Option renaming some -> S, none -> N
open Bool renaming true -> T, false -> F
set_option maxHeartbeats 64000000
set_option maxRecDepth 100000
namespace Go.Am
section
section
def lB:D->Bool
 |.sl _|.fn _|.iptr _|.yld _=>F
 |_=>T
variable{K:AV->Prop}{v:Value}{t:Nat}{s:St}{J:Nat->Prop}{d:TypeDesc}{x:AV}{kd:TypeDesc}{b:Bool}{al:Nat}{a:Act}{op:BinOp}{ok:Bool}{c:Option C}{k:Box K}
def cD.of_plain{w:World}{x:D}(h:lB x=T):cD J w x (dV x):=by
 cases x<;>first|(simp[lB]at h;done)|constructor
structure uz (P:Program) (t:Nat) (B:TI):Prop where
 desc:P.underlying t=some B.desc
 info:∃i,P.info? t=some i/\i.size=B.size/\i.bytes=B.bytes/\∃X,i.zero=some X/\X.cells.toList=B.zero.map dV
 plain:B.zero.all lB=true
 zlen:B.zero.length=B.size
 zone:ed B.desc=false->∀i a,P.info? t=some i->i.zero=some a->a=dV (B.zero.headD .nsl)
def bu(P:Program)(E:Nat->TI):Prop:=∀t,okD (E t).desc=T->uz P t (E t)
def Ec(l:List (Nat×TI))(t:Nat):TI:=((l.find? λp=>p.1==t).map (·.2)).getD ⟨.invalid,0,0,[]⟩
def wV{P:Program}{l:List (Nat×TI)}(h:∀p∈l,uz P p.1 p.2):bu P (Ec l):=by
 intro t f;unfold Ec at *;cases e:l.find? λp=>p.1==t with
 |none=>simp[e,okD]at f
 |some p=>
   have U:=List.find?_some e;have i:=Tg e;simp only[I7]at U;simpa[U]using h p i
def yD(h:isSlice d=T):okD d=T:=by cases d<;>simp_all[isSlice,okD]
def HA(h:isSlice d=T):∃e,d=.slice e:=by cases d<;>simp_all[isSlice]
section
variable{P:Program}{E:Nat->TI}{O:Bs}{β:Loc}{g:Nat->Nat}{ob:Obs}{w:World}
def bQ{B:TI}(h:uz P t B):(sizeOf t).run P w=.ok B.size w:=by
 obtain⟨i,e,f,_⟩:=h.info;simp[sizeOf,typeInfo,e,f]
def zT(h:ed d=T):d.isRow=T:=by cases d<;>simp_all[ed]
def pQ{B:TI}(h:uz P t B):(isAgg t).run P w=.ok (ed B.desc) w:=by
 unfold isAgg;rw[Sem.run_bind,run_underlying h.desc w];simp only[Result.andThen_ok];cases B.desc<;>rfl
def lj{A:Type}(R:A->Value->Prop)(a:Nat->Option Value):∀(cs:List A)(_:∀(j:Nat) (c:A),cs[j]?=S c->∃v,a j=S v/\R c v),
  ∃vs:List Value,z vs=z cs/\(∀(j:Nat)(v:Value),vs[j]?=S v->a j=S v)/\∀(j:Nat)(c:A),cs[j]?=S c->∃v,vs[j]?=S v/\R c v
 |[],_=>⟨[],rfl,⟨λ_ _ h=>by simp at h,λ_ _ h=>by simp at h⟩⟩
 |c::cs,h=>by
   obtain⟨v,f,V⟩:=h 0 c rfl;obtain⟨vs,U,i,l⟩:=lj R (λj=>a (j+1)) cs (λj e Z=>h (j+1) e (by simpa using Z));refine⟨v::vs,by simp[U],λj u L=>?_,λj e Z=>?_⟩
   .cases j with
    |zero=>simp at L;subst L;exact f
    |succ j=>exact i j u (by simpa using L)
   .cases j with
    |zero=>simp at Z;subst Z;exact⟨v,rfl,V⟩
    |succ j=>simpa using l j e (by simpa using Z)
def fU{b:Nat}{arr:Array Value}{el:TypeId}{fr:Nat×Nat}(h:w.heap[b]?=S (.cells arr el fr))(j:Nat):w.cell? ⟨b,j,N⟩=arr[j]?:=by
 simp[World.cell?,h]
def ew(b o j:Nat):(⟨b,o,N⟩:Addr).add j=⟨b,o+j,N⟩:=Addr.add_mid b o j
def aU{A:Type}{x:Option A}{K:A->Prop}{k:Box K}(h:bX x k):∃a,x=S a/\K a:=by
 cases x with
 |none=>exact h.elim
 |some a=>exact⟨a,rfl,h⟩
def ka{K:Bool->Prop}{k:Box K}(h:kI b k):K b:=by
 cases b
 .exact h.2 rfl
 .exact h.1 rfl
def cD.inv_bool(h:cD J w (.bool b) v):v=.bool b:=by cases h;rfl
def cD.inv_int{k:IntKind}{n:Int}(h:cD J w (.int k n) v):v=.int k n:=by cases h;rfl
def cD.inv_str{s:List UInt8}(h:cD J w (.str s) v):v=.string ⟨s.toArray⟩:=by cases h;rfl
def cD.inv_nsl(h:cD J w .nsl v):v=.slice N 0 0:=by cases h;rfl
def qG{K:Bool->Prop}{k:Box K}(h:qD x k)(e:ak O β g ob w x v):∃b,v=.bool b/\K b:=by
 unfold qD at h;split at h
 .rename_i b
  simp only[ak,aK]at e;exact⟨b,e.inv_bool,ka h⟩
 .exact Vs
def tS(hT:bu P E)(V:Rel O al s β a w)(h:uX (E t) s x k)
 (o:ak O β s.gen s.obj w x v):∃y Y,K y/\(∀G,Ext w G->(Instr.loadAt t v).run P G=.ok Y G)/\ak O β s.gen s.obj w y Y:=by
 unfold uX at h;split at h
 .rename_i id g l
  obtain⟨I,hg,h⟩:=h;obtain⟨m,ho,h⟩:=aU h;have n:=hT t I;simp only[ak,aK]at o;obtain⟨_,_,o⟩:=o;obtain⟨p,av,bo,rfl⟩:=o hg Yv;have bn:=V.obj id m ho;rw[av]at bn;obtain⟨_,arr,el,H,B,r,_,bd,ca⟩:=bn.cells bo;unfold zD at h;split at h
  .rename_i e
   obtain⟨az,J⟩:=h
   obtain⟨vs,q,Q,U⟩:=lj (aK O β s.gen s.obj w) (λj=>arr[p.off+(l+j)]?) ((m.drop l).take (E t).size) (λj c Z=>by
    rw[I4]at Z;split at Z
    .rw[H5]at Z;exact ca (l+j) c Z
    .cases Z)
   have hl:z vs=(E t).size:=by rw[q];simp;omega
   refine⟨_,.agg vs.toArray,J,λG bk=>?_,?_⟩
   .refine run_loadAt_mid G p.block (p.off+l) t vs (E t).desc (λj u L=>?_) n.desc (zT e) ?_
    .rw[fU (bk.cells r)];have:=Q j u L;rwa [<-C2]at this
    .obtain⟨i,B,W,_⟩:=n.info;simp[B,W,hl]
   .simp only[ak]
    exact⟨_,rfl,by simp[q],λi c Z=>by simpa using U i c Z⟩
  .rename_i e
   obtain⟨c,Z,J⟩:=aU h;obtain⟨u,L,f⟩:=ca l c Z;refine⟨_,u,J,λG bk=>?_,by simpa only[ak]using f⟩;have:G.cell? ⟨p.block,p.off+l,N⟩=S u:=by rw[fU (bk.cells r)];exact L
   simp[Instr.loadAt,Instr.sureAddr,loadVar,pQ n,e,this]
 .rename_i cs
  obtain⟨I,h⟩:=h;have n:=hT t I;simp only[ak,aK]at o;cases o with
  |iptr A hJ b5 b7=>
  rename_i b l;unfold Hi at h;split at h
  .rename_i e
   obtain⟨az,J⟩:=h
   obtain⟨vs,q,Q,U⟩:=lj (λ(c:D)v=>aK O β s.gen s.obj w (.d c) v) (λj=>w.cell? ⟨b,l+j,N⟩) (cs.take (E t).size) (λj c Z=>by
    rw[I4]at Z;split at Z
    .exact⟨_,b5 j c Z,b7 j c Z⟩
    .cases Z)
   have hl:z vs=(E t).size:=by rw[q];simp;omega
   refine⟨_,.agg vs.toArray,J,λG bk=>?_,?_⟩
   .refine run_loadAt_mid G b l t vs (E t).desc (λj u L=>bk.cell (Q j u L)) n.desc (zT e) ?_
    obtain⟨i,B,W,_⟩:=n.info;simp[B,W,hl]
   .simp only[ak]
    refine⟨_,rfl,by simp[q],λi c Z=>?_⟩;rw[w9]at Z;cases X:(cs.take (E t).size)[i]? with
    |none=>rw[X]at Z;cases Z
    |some y=>
      rw[X]at Z;simp only[A3,w7]at Z;subst Z;simpa using U i y X
  .rename_i e
   obtain⟨c,Z,J⟩:=aU h;refine⟨_,A 0,J,λG bk=>?_,by simp only[ak,aK];exact b7 0 c Z⟩;have:G.cell? ⟨b,l,N⟩=S (A 0):=bk.cell (b5 0 c Z);simp[Instr.loadAt,Instr.sureAddr,loadVar,pQ n,e,this]
 .exact Vs
def eQ(hT:bu P E)(h:dI E t=T):∃e,(E t).desc=.slice e/\bh E t=E e/\P.underlying t=S (.slice e)/\uz P e (E e):=by
 simp only[dI,s5]at h;obtain⟨e,f⟩:=HA h.1;have i:bh E t=E e:=by simp[bh,f]
 exact⟨e,f,i,by rw[(hT t (yD h.1)).desc,f],hT e (by rw[<-i];exact h.2)⟩
def ig{id g' sz off len:Nat}(h:aK O β s.gen s.obj w (.osl id g' sz off len) v)(hg:s.gen id=g')(ho:(s.obj id).isSome=T):oK w sz off len v (β id):=h.2.2 hg ho
def oK.slice{sz off len:Nat}{v:Value}{x:Option Addr}(h:oK w sz off len v x):∃a cap,v=.slice a len cap/\len<=cap:=by
 cases x with
 |none=>exact⟨N,0,by rw[h.2,h.1],by rw[h.1];exact l8 _⟩
 |some a=>
   rcases h.2 with⟨cap,e,hl,_⟩|⟨rfl,o,e⟩
   .exact⟨_,cap,e,hl⟩
   .exact⟨_,0,e,l8 _⟩
def sG(hT:bu P E)(H:dI E t=T){x o:AV}{v p:Value}
 (h:iZ s (bh E t).size x o k)(hv:ak O β s.gen s.obj w x v)(q:ak O β s.gen s.obj w o p):
  ∃y Y,K y/\(∀G,Ext w G->(Instr.indexAt t v p).run P G=.ok Y G)/\ak O β s.gen s.obj w y Y:=by
 obtain⟨e,c1,U,L,r⟩:=eQ hT H;rw[U]at h;unfold iZ at h;split at h
 .rename_i kd i
  simp only[ak,aK]at q;obtain rfl:=q.inv_int;split at h
  .rename_i u
   obtain⟨m,h⟩:=h;obtain⟨c,Z,az,J⟩:=aU h;have B:i.toNat<z u:=(l6.1 Z).1;simp only[ak,aK]at hv;cases hv with
   |sl0=>simp at Z
   |sl A V W X b5 b7=>
   rename_i b f n sz;have l:sz=(E e).size:=by rw[<-az];exact(X c (l7 Z)).symm
   refine⟨_,.pointer (S ⟨b,f+i.toNat*(E e).size,N⟩),J,λG _=>?_,?_⟩
   .have:i<z u:=a7
    simp[Instr.indexAt,asIntOf,run_underlying L,m,this,bQ r,ew]
   .simp only[ak,aK]
    refine .iptr (A i.toNat) (λ_=>W (by rintro rfl;cases Z)) (λj x I=>?_) (λj x I=>b7 _ _ Z j x I);rw[<-l];exact b5 _ _ Z j x I
  .rename_i id g ar f len
   obtain⟨hg,ho,m,B,rfl,J⟩:=h;simp only[ak]at hv;have Q:=ig hv hg ho;cases av:β id with
   |none=>
     rw[av]at Q;obtain⟨rfl,_⟩:=Q;omega
   |some ad=>
     rw[av]at Q;obtain⟨bo,Q⟩:=Q;rcases Q with⟨n,rfl,V,_⟩|⟨rfl,_⟩
     .refine⟨_,.pointer (S ⟨ad.block,ad.off+f+i.toNat*(E e).size,N⟩),J,λG _=>?_,?_⟩
      .simp[Instr.indexAt,asIntOf,run_underlying L,m,B,bQ r,ew]
      .exact S4
     .omega
  .exact Vs
 .exact Vs
def vp(hT:bu P E){x j:AV}{v l:Value}
 (h:my E (E t).desc s x j k)(hv:ak O β s.gen s.obj w x v)(m:ak O β s.gen s.obj w j l):
  ∃y Y,K y/\(∀G,Ext w G->(Instr.indexAt t v l).run P G=.ok Y G)/\ak O β s.gen s.obj w y Y:=by
 unfold my at h;split at h
 .rename_i n e hd
  have L:=(hT t YH).desc;rw[hd]at L;split at h
  .rename_i kd i
   simp only[ak,aK]at m;obtain rfl:=m.inv_int;split at h
   .rename_i id g f
    obtain⟨o,ho,p,q,r,J⟩:=h;have u:=hT e p;simp only[ak,aK]at hv;obtain⟨ad,av,bo,rfl⟩:=hv.2.2 o ho;refine⟨_,.pointer (S ⟨ad.block,ad.off+f+i.toNat*(E e).size,N⟩),J,λG _=>?_,?_⟩
    .simp[Instr.indexAt,asIntOf,run_underlying L,q,r,bQ u,ew,Instr.sureAddr]
    .exact S4
   .exact Vs
  .exact Vs
 .exact Vs
def size_mk(s:List UInt8):(⟨s.toArray⟩:ByteArray).size=z s:=by show s.toArray.size=z s;simp
def getElem?_mk(s:List UInt8)(i:Nat):(⟨s.toArray⟩:ByteArray)[i]?=s[i]?:=by
 by_cases h:i<z s
 .have this:i<(⟨s.toArray⟩:ByteArray).size:=by simpa[ByteArray.size]using h
  rw[getElem?_pos (⟨s.toArray⟩:ByteArray) i this,v8 h];rfl
 .have this:¬i<(⟨s.toArray⟩:ByteArray).size:=by simpa[ByteArray.size]using h
  rw[getElem?_neg (⟨s.toArray⟩:ByteArray) i this,F3 a7]
def yE(L:P.underlying t=S .string){x e:AV}{v f:Value}
 (h:uY x e k)(j:ak O β s.gen s.obj w x v)(l:ak O β s.gen s.obj w e f):
  ∃y Y,K y/\(∀G,Ext w G->(Instr.index t v f).run P G=.ok Y G)/\ak O β s.gen s.obj w y Y:=by
 unfold uY at h;split at h
 .rename_i kd i
  simp only[ak,aK]at l;obtain rfl:=l.inv_int;split at h
  .rename_i bs
   obtain⟨m,h⟩:=h;obtain⟨c,Z,J⟩:=aU h;simp only[ak,aK]at j;obtain rfl:=j.inv_str;refine⟨_,.int .u8 c.toNat,J,λG _=>?_,by simp only[ak,aK];exact .int _ _⟩;have:(⟨bs.toArray⟩:ByteArray)[i.toNat]?=S c:=by rw[getElem?_mk];exact Z
   simp[Instr.index,asIntOf,run_underlying L,m,this]
  .exact Vs
 .exact Vs
def gz{kd:IntKind}{n:Int}{x:Sem Value}(h:K (iv kd n))(V:∀w,x.run P w=.ok (.int kd n) w):∃X Y,K X/\(∀G,Ext w G->x.run P G=.ok Y G)/\ak O β g ob w X Y:=
 ⟨_,_,h,λG _=>V G,by simp only[ak,aK];exact .int _ _⟩
def gS{x:Sem Value}(h:K (bv b))(V:∀w,x.run P w=.ok (.bool b) w):∃X Y,K X/\(∀G,Ext w G->x.run P G=.ok Y G)/\ak O β g ob w X Y:=
 ⟨_,_,h,λG _=>V G,by simp only[ak,aK];exact .bool _⟩
def Cn{s:List UInt8}{x:Sem Value}(h:K (sv s))(V:∀w,x.run P w=.ok (.string ⟨s.toArray⟩) w):∃X Y,K X/\(∀G,Ext w G->x.run P G=.ok Y G)/\ak O β g ob w X Y:=
 ⟨_,_,h,λG _=>V G,by simp only[ak,aK];exact .str _⟩
def HC{kd e:IntKind}{x y:Int}{t:TypeId}(f:sameKind op kd e)(h:nZ op kd x y k):
  ∃X Y,K X/\(∀G,Ext w G->(binOp op t (.int kd x) (.int e y)).run P G=.ok Y G)/\ak O β g ob w X Y:=by
 cases op<;>simp only[nZ,sameKind]at h f<;>(try subst f)
 case quo=>exact gz h.2 (λw=>by simp[binOp,Op.intDiv,h.1])
 case rem=>exact gz h.2 (λw=>by simp[binOp,Op.intDiv,h.1])
 case shl=>have:=Int.not_lt.2 h.1;exact gz h.2 (λw=>by simp[binOp,Op.shift,this])
 case shr=>have:=Int.not_lt.2 h.1;exact gz h.2 (λw=>by simp[binOp,Op.shift,this])
 case add=>exact gz h (λw=>by simp[binOp,Op.intArith])
 case sub=>exact gz h (λw=>by simp[binOp,Op.intArith])
 case mul=>exact gz h (λw=>by simp[binOp,Op.intArith])
 case and=>exact gz h (λw=>by simp[binOp,Op.intBits])
 case or=>exact gz h (λw=>by simp[binOp,Op.intBits])
 case xor=>exact gz h (λw=>by simp[binOp,Op.intBits])
 case andNot=>exact gz h (λw=>by simp[binOp,Op.intBits])
 case eql=>exact gS h (λw=>by simp[binOp,Op.intCmp];rfl)
 case neq=>exact gS h (λw=>by simp[binOp,Op.intCmp];rfl)
 all_goals exact gS h (λw=>by simp[binOp,Op.intCmp])
def uK(x y:List UInt8):(x==y)=decide (x=y):=by rw[P2];simp
def FG(x y:List UInt8):(⟨x.toArray⟩:ByteArray)++(⟨y.toArray⟩:ByteArray)=⟨(x++y).toArray⟩:=by
 apply ByteArray.ext;simp
def HD{x y:List UInt8}{t:TypeId}(h:Fw op x y k):
  ∃X Y,K X/\(∀G,Ext w G->(binOp op t (.string ⟨x.toArray⟩) (.string ⟨y.toArray⟩)).run P G=.ok Y G)/\ak O β g ob w X Y:=by
 cases op<;>simp only[Fw]at h
 case add=>
  refine Cn h.2 λw=>?_;have U:=h.1
  have e:¬(((⟨x.toArray⟩:ByteArray).size+(⟨y.toArray⟩:ByteArray).size:Nat):Int)>IntKind.i64.max:=by
   have f:=size_mk x;have i:=size_mk y;have j:IntKind.i64.max=9223372036854775807:=b9;omega
  simp only[binOp,Op.stringOp,j9 e,FG];rfl
 case eql=>exact gS h (λw=>by simp[binOp,Op.stringOp,uK])
 case neq=>exact gS h (λw=>by simp[binOp,Op.stringOp,uK])
 case lss=>exact gS h (λw=>by simp[binOp,Op.stringOp])
 case leq=>exact gS h (λw=>by simp[binOp,Op.stringOp,uK])
 case gtr=>exact gS h (λw=>by simp[binOp,Op.stringOp,uK])
 case geq=>exact gS h (λw=>by simp[binOp,Op.stringOp])
def iV(op:BinOp)(t:TypeId)(x y:Operand)(a b:Value)(h:∀cs,a≠.agg cs)(e:a≠.nilIface):(eqGuard op t x y a b).run P w=.ok () w:=by
 unfold eqGuard;cases op<;>(try rfl)<;>(cases a<;>first|(exfalso;exact h _ rfl)|(exfalso;exact e rfl)|rfl)
def run_equal_bool{t:TypeId}(L:P.underlying t=S .bool)(a b:Bool):(Op.equal t (.bool a) (.bool b)).run P w=.ok (a==b) w:=by
 obtain⟨d,hd⟩:∃d,Op.maxDepth=d+1:=⟨9999,rfl⟩
 unfold Op.equal;rw[hd];simp[Op.equalIn,run_underlying L]
def qH{g:Nat->Nat}{ob:Obs}{k:IntKind}:∀{cs:List C}{o:List Int}{vs:List Value},xp k cs=S o->z vs=z cs->(∀(i:Nat)(c:C),cs[i]?=S c->∃u,vs[i]?=S u/\aK O β g ob w c u)->vs=o.map (Value.int k)
 |[],o,vs,h,hl,_=>by
   cases h;simpa using hl
 |c::cs,o,vs,h,hl,V=>by
   obtain⟨u,L,Z⟩:=V 0 c rfl
   match vs,hl with
   |v::vs,hl=>
     obtain rfl:=H0 L;unfold xp at h;split at h
     .rename_i e;cases e
     .rename_i j n r e
      cases e;split at h
      .rename_i l
       subst l;cases f:xp j cs with
       |none=>rw[f]at h;cases h
       |some ms=>
         rw[f]at h;cases h;simp only[aK]at Z;rw[Z.inv_int,qH f YO (λi c h=>V (i+1) c h)];rfl
      .cases h
     .cases h
def rz{e:TypeId}{k:IntKind}(f:P.underlying e=S (.int k)){cs:List Value}{i:Nat}(h:cs[i]?=S v):(part e cs.toArray i).run P w=.ok v w:=by
 simp[part,isAgg,run_underlying f,h]
def nR{e:TypeId}{k:IntKind}(f:P.underlying e=S (.int k))(d:Nat){xs Q:List Int}:∀(m j:Nat)(w:World),z xs=j+m->z Q=j+m->
  (Op.eqItems (d+1) e 1 (xs.map (Value.int k)).toArray (Q.map (Value.int k)).toArray (List.range' j m)).run P w=.ok (decide (xs.drop j=Q.drop j)) w
 |0,j,w,I,l=>by
   rw[y9 a7,y9 a7];simp[Op.eqItems]
 |m+1,j,w,I,l=>by
   have U:j<z xs:=a7;have i:j<z Q:=a7;rw[List.range'_succ];simp only[Op.eqItems,Sem.run_bind,L8];rw[rz f (v:=.int k xs[j]) (by simp[U])];simp only[Result.andThen_ok];rw[rz f (v:=.int k Q[j]) (by simp[i])];simp only[Result.andThen_ok];rw[run_equalIn_int w d e k k _ _ f];simp only[Result.andThen_ok]
   have n:decide (xs.drop j=Q.drop j)=(decide (xs[j]=Q[j])&&decide (xs.drop (j+1)=Q.drop (j+1))):=by
    rw[C3 U,C3 i];simp only[Q7,Bool.decide_and]
   rw[n];by_cases h:xs[j]=Q[j]
   .simp only[h,beq_self_eq_true,P1,E0,B1,Tz,x8]
    exact nR f d m (j+1) w a7 a7
   .have o:(xs[j]==Q[j])=F:=by simpa using h
    simp[o,h]
def vq(hT:bu P E){g:Nat->Nat}{ob:Obs}{t n e:Nat}{xs Q:List C}{vs f:Array Value}(l:P.underlying t=S (.array n e)){K:Bool->Prop}{k:Box K}(h:Lt (E e) n xs Q k)
 (o:mD O β g ob w xs vs)(L:mD O β g ob w Q f):∃b,K b/\∀G,(Op.equalIn 10000 t (.agg vs) (.agg f)).run P G=.ok b G/\P.eqGuardType P.depth t=F:=by
 unfold Lt at h;split at h
 .rename_i kd hd
  obtain⟨r,h⟩:=h;have p:=hT e YH;have j:=p.desc;rw[hd]at j;obtain⟨i,q,az,_⟩:=p.info;unfold bX at h;split at h
  .rename_i a u
   split at h
   .rename_i b y
    obtain⟨⟨H,m⟩,J⟩:=h;have A:=qH (vs:=vs.toList) u (by simpa using o.1) (λi c Z=>by simpa using o.2 i c Z);have B:=qH (vs:=f.toList) y (by simpa using L.1) (λi c Z=>by simpa using L.2 i c Z);refine⟨_,J,λG=>⟨?_,?_⟩⟩
    .rw[show vs=(a.map (Value.int kd)).toArray from by rw[<-A],show f=(b.map (Value.int kd)).toArray from by rw[<-B]]
     rw[run_equalIn_array G 9999 _ _ l q,show P.cellsOf e=1 by simp[Program.cellsOf,q,az,r],Q5,nR j 9998 n 0 G a7 a7];rfl
    .unfold Program.depth
     rw[show 2*(P.types.size+Made.depth)+2=(2*(P.types.size+Made.depth)+1)+1 from rfl];simp[Program.eqGuardType,l,j]
   .exact Vs
  .exact Vs
 .exact Vs
def Co(hT:bu P E){x y:AV}{v u:Value}(h:Cc E (E t).desc op x y k)
 (f:ak O β s.gen s.obj w x v)(L:ak O β s.gen s.obj w y u)(ox c:Operand):
  ∃X Y,K X/\(∀G,Ext w G->(do eqGuard op t ox c v u;binOp op t v u:Sem Value).run P G=.ok Y G)/\ak O β s.gen s.obj w X Y:=by
 unfold Cc at h;split at h
 .simp only[ak,aK]at f L
  obtain rfl:=f.inv_int;obtain rfl:=L.inv_int;obtain⟨X,Y,U,h2,h3⟩:=HC (O:=O) (β:=β) (g:=s.gen) (ob:=s.obj) (w:=w) (P:=P) (t:=t) h.1 h.2;exact Xt
 .simp only[ak,aK]at f L
  obtain rfl:=f.inv_str;obtain rfl:=L.inv_str;obtain⟨X,Y,U,h2,h3⟩:=HD (O:=O) (β:=β) (g:=s.gen) (ob:=s.obj) (w:=w) (P:=P) (t:=t) h;exact Xt
 .rename_i a b
  simp only[ak,aK]at f L;obtain rfl:=f.inv_bool;obtain rfl:=L.inv_bool;unfold Qd at h;split at h
  .rename_i hd
   exact s8
  .rename_i hd
   exact s8
  .exact Vs
 .rename_i i Q
  simp only[ak]at f L;obtain⟨vs,rfl,f⟩:=f;obtain⟨j,rfl,L⟩:=L;unfold TP at h;split at h
  .rename_i n e hd
   have bl:=(hT t YH).desc;rw[hd]at bl;obtain⟨b,J,V⟩:=vq hT bl h f L;refine gS J λw=>?_;rw[Sem.run_bind,run_eqGuard_agg w _ _ _ _ _ _ (V w).2];simp only[Result.andThen_ok];rw[run_eql_struct,(V w).1];rfl
  .rename_i n e hd
   have bl:=(hT t YH).desc;rw[hd]at bl;obtain⟨b,J,V⟩:=vq hT bl h f L;refine gS J λw=>?_;rw[Sem.run_bind,run_eqGuard_agg w _ _ _ _ _ _ (V w).2];simp only[Result.andThen_ok];rw[run_neq_struct,(V w).1];rfl
  .exact Vs
 .exact Vs
def FH{op:UnOp}(h:unA op x k)(e:ak O β s.gen s.obj w x v):
  ∃X Y,K X/\(∀G,Ext w G->(Op.unary op v).run P G=.ok Y G)/\ak O β s.gen s.obj w X Y:=by
 unfold unA at h;split at h
 .simp only[ak,aK]at e
  obtain rfl:=e.inv_bool;exact gS h (λw=>by simp[Op.unary])
 .simp only[ak,aK]at e
  obtain rfl:=e.inv_int;exact gz h (λw=>by simp[Op.unary,Op.intArith])
 .exact Vs
def xx{a b:D}(e:iK kd a=T)(f:iK kd b=T):kO a b=T↔dV a=dV b:=by
 cases kd<;>cases a<;>cases b<;>simp_all[iK,kO,dV]
def oS{a:D}(h:iK kd a=T):MapKept.IsKey kd (dV a):=by
 cases kd<;>cases a<;>simp_all[iK,MapKept.IsKey,dV]
def cD.key{a:D}(e:iK kd a=T)(h:cD J w a v):v=dV a:=by
 cases h<;>first|rfl|(cases kd<;>simp[iK]at e;done)
def eA.find{R:C->Value->Prop}{cs:List C}{es:List MapEntry}(h:eA R kd cs es){k:D}(m:iK kd k=T)(i:Nat):
  (Instr.findNow kd (dV k) es i=S N/\mget cs k=N/\∀c v,R c v->∀b,eA R kd (mset cs k c) (es++[{key:=dV k,val:=v,born:=b}]))\/
  ∃j e c,Instr.findNow kd (dV k) es i=S (S (i+j,e.val))/\es[j]?=S e/\e.key=dV k/\mget cs k=S c/\R c e.val/\∀c' v,R c' v->eA R kd (mset cs k c') (es.modify j λe=>{e with key:=dV k,val:=v}):=by
 induction h generalizing i with
 |nil=>exact .inl ⟨rfl,rfl,λc v V b=>.cons m rfl V .nil⟩
 |cons f U o V G=>
   rename_i p c e cs es;obtain⟨r,q,a⟩:=MapKept.sameNow_of_keys (oS m) (oS f);cases r with
   |true=>
     have u:=a.1 rfl;have d:kO p k=T:=(xx f m).2 u.symm;refine .inr ⟨0,e,c,by simp[Instr.findNow,U,q],rfl,by rw[U,u],by simp[mget,d],o,λc' v l=>?_⟩;simp only[mset,d,B5,List.modify_cons,ite_true];exact .cons f (by simpa using u) l V
   |false=>
     have n:kO p k=F:=by
      cases H:kO p k with
      |false=>rfl
      |true=>have:=a.2 ((xx f m).1 H).symm;cases this
     rcases G (i+1)with⟨y,A,B⟩|⟨j,I,c',y,A,B,g4,g5,L⟩
     .exact .inl ⟨by simp[Instr.findNow,U,q,y],by simp[mget,n,A],λc v l b=>by
       simp only[mset,n,C6];exact .cons f U o (B c v l b)⟩
     .refine .inr ⟨j+1,I,c',by simp[Instr.findNow,U,q,y];omega,by simpa using A,B,by simp[mget,n,g4],g5,λQ v l=>?_⟩
      simp only[mset,n,List.modify_succ_cons];exact .cons f U o (L Q v l)
def FI(hT:bu P E){K:D->Prop}{k:Box K}(h:zG (E t) k):∃X,K X/\lB X=T/\(∀w,(zeroValue t).run P w=.ok (dV X) w)/\okD (E t).desc=T:=by
 unfold zG at h;split at h
 .rename_i X e
  have f:=hT t h.1.1;obtain⟨i,j,m,n,a,b,Z⟩:=f.info;have l:lB X=T:=by have:=f.plain;rw[e]at this;simpa using this
  refine⟨X,h.2,l,λw=>?_,h.1.1⟩;rw[e]at Z;have c:a=dV X:=by have:=f.zone h.1.2 i a j b;rwa [e]at this
  simp[zeroValue,typeInfo,j,b,c]
 .exact Vs
def sH{g:Nat->Nat}{ob:Obs}{X:D}(J:K (tP ok X c))(e:aK O β g ob w (c.getD (.d X)) v):
  ∃y Y,K y/\(∀G,Ext w G->(pure (if ok then .tuple #[v,.bool c.isSome]else v):Sem Value).run P G=.ok Y G)/\ak O β g ob w y Y:=by
 refine⟨_,_,J,λG _=>by rw[Sem.run_pure],?_⟩;cases ok
 .simp only[tP,ak];exact e
 .simp only[tP,B5,ak,aS]
  exact⟨[v,.bool c.isSome],rfl,_,_,rfl,e,_,_,rfl,by simp only[aK];exact .bool _,rfl⟩
def Pq{kd:Nat}(h:dZ kd=d){k:D}(e:iK d k=T):kd<200:=by
 refine Nat.lt_of_not_le λZ=>?_
 have:dZ kd=.invalid:=by
  unfold dZ;split<;>first|omega|rfl
 rw[this]at h;subst h;simp[iK]at e
def FJ(hT:bu P E){K:List D->Prop}{k:Box K}(h:zI (E t) k):∃f vs,K f/\(∀w,(zeroValue t).run P w=.ok (.agg vs) w)/\vs.size=z f/\∀(i:Nat)(x:D),f[i]?=S x->vs[i]?=S (dV x)/\lB x=T:=by
 unfold zI at h;obtain⟨⟨l,n⟩,J⟩:=h;have e:=hT t l;obtain⟨i,m,o,p,a,b,Z⟩:=e.info
 have c:∃vs,a=.agg vs:=by
  cases a with
  |agg vs=>exact⟨vs,rfl⟩
  |_=>exfalso;have:=congrArg z Z;simp[Value.cells]at this;omega
 obtain⟨vs,rfl⟩:=c;have b6:vs.toList=(E t).zero.map dV:=by simpa[Value.cells]using Z
 refine⟨_,vs,J,λw=>by simp[zeroValue,typeInfo,m,b],by rw[<-Pg,b6,j7],λj x I=>⟨?_,?_⟩⟩
 .rw[<-I8,b6,w9,I];rfl
 .exact x9.1 e.plain x (l7 I)
def qI{g:Nat->Nat}{ob:Obs}{X:List D}{vs:Array Value}(J:K (nc ok X c))(f:vs.size=z (zH X c))(h:∀(i:Nat)(x:D),(zH X c)[i]?=S x->∃u,vs[i]?=S u/\cD (Imm O β ob w) w x u):
  ∃y Y,K y/\(∀G,Ext w G->(pure (if ok then .tuple #[.agg vs,.bool c.isSome]else .agg vs):Sem Value).run P G=.ok Y G)/\ak O β g ob w y Y:=by
 have b:mD O β g ob w ((zH X c).map .d) vs:=by
  refine⟨by rw[f,j7],λi j Z=>?_⟩;rw[w9]at Z;cases e:(zH X c)[i]? with
  |none=>rw[e]at Z;cases Z
  |some x=>
    rw[e]at Z;cases Z;exact h i x e
 refine⟨_,_,J,λG _=>by rw[Sem.run_pure],?_⟩;cases ok
 .simp only[nc,ak];exact⟨vs,rfl,b⟩
 .simp only[nc,B5,ak,aS]
  exact⟨[.agg vs,.bool c.isSome],rfl,_,_,rfl,⟨vs,rfl,b⟩,_,_,rfl,by simp only[aK];exact .bool _,rfl⟩
def wW(hT:bu P E)(V:Rel O al s β a w){x ix:AV}{v vi:Value}(h:nd E t s x ix ok k)
 (W:ak O β s.gen s.obj w x v)(hi:ak O β s.gen s.obj w ix vi):∃y Y,K y/\(∀G,Ext w G->(Instr.lookup t v vi ok).run P G=.ok Y G)/\ak O β s.gen s.obj w y Y:=by
 unfold nd at h;split at h
 .rename_i n H A hd
  obtain⟨⟨an,o⟩,h⟩:=h;have L:=(hT t YH).desc;rw[hd]at L;have hk:=(hT n an).desc;simp only[ak,aK]at hi;obtain rfl:=hi.key o;have az:∀e w,(Instr.checkKey e 10000 n (dV A)).run P w=.ok () w:=λe w=>MapKept.run_checkKey hk (oS o) e 9999;split at h
  .obtain⟨X,h,d,b,_⟩:=FI hT h
   split at h
   .rename_i id g kd _
    obtain⟨hg,B,h⟩:=h;have af:=Pq B o;obtain⟨cells,ho,J⟩:=aU h;simp only[ak,aK]at W;obtain⟨ad,av,Z,rfl⟩:=W.2.2 hg Yv;have bn:=V.obj id cells ho;rw[av]at bn;obtain⟨es,p,r,hm⟩:=(bn.map Z.1).2.resolve_right (λh=>Z.2 h.1);rw[yB af,show mC kd=dZ kd from l9 af,B]at hm;rcases hm.find o 0 with⟨g1,g2,_⟩|⟨j,e,c,g1,_,_,g4,g5,_⟩
    .obtain⟨y,Y,q1,q2,q3⟩:=sH (P:=P) (w:=w) (O:=O) (β:=β) (g:=s.gen) (ob:=s.obj) J (v:=dV X) (by rw[g2];simp only[T9,aK];exact .of_plain d)
     exact ra
    .obtain⟨y,Y,q1,q2,q3⟩:=sH (P:=P) (w:=w) (O:=O) (β:=β) (g:=s.gen) (ob:=s.obj) J (v:=e.val) (by rw[g4];simpa using g5)
     refine⟨y,Y,q1,λG bk=>?_,q3⟩;have q2:=q2 G bk;rw[g4]at q2;simp only[Sem.run_pure,Result.ok.injEq,M6]at q2;subst q2;simp[Instr.lookup,run_underlying L,MapKept.run_getObj_map (bk.cells r),az,MapKept.run_findKey hk g1]
   .simp only[ak,aK]at W
    cases W;obtain⟨y,Y,q1,q2,q3⟩:=sH (P:=P) (w:=w) (O:=O) (β:=β) (g:=s.gen) (ob:=s.obj) h (v:=dV X) (by simp only[T9,aK];exact .of_plain d);exact qk
   .exact Vs
  .obtain⟨X,f,h,b,m,q⟩:=FJ hT h
   have Q:∀(i:Nat)(x:D),X[i]?=S x->∃u,f[i]?=S u/\cD (Imm O β s.obj w) w x u:=λi x I=>⟨_,(q i x I).1,.of_plain (q i x I).2⟩
   split at h
   .rename_i id g kd _
    obtain⟨hg,⟨b3,B⟩,h⟩:=h;obtain⟨cells,ho,J⟩:=aU h;simp only[ak,aK]at W;obtain⟨ad,av,Z,rfl⟩:=W.2.2 hg Yv;have bn:=V.obj id cells ho;rw[av]at bn;obtain⟨es,p,r,hm⟩:=(bn.map Z.1).2.resolve_right (λh=>Z.2 h.1);rw[show mC kd=dZ (kd-200)from j9 a7,B]at hm;rcases hm.find o 0 with⟨g1,g2,_⟩|⟨j,e,c,g1,_,_,g4,g5,_⟩
    .obtain⟨y,Y,q1,q2,q3⟩:=qI (P:=P) (w:=w) (O:=O) (β:=β) (g:=s.gen) (ob:=s.obj) J (vs:=f) (by rw[g2];exact m) (by rw[g2];exact Q)
     exact ra
    .unfold jN at g5
     rw[j9 a7]at g5;obtain⟨ds,vs,rfl,l,hs,U⟩:=g5;obtain⟨y,Y,q1,q2,q3⟩:=qI (P:=P) (w:=w) (O:=O) (β:=β) (g:=s.gen) (ob:=s.obj) J (vs:=vs) (by rw[g4];exact hs) (by rw[g4];exact U);refine⟨y,Y,q1,λG bk=>?_,q3⟩;have q2:=q2 G bk;rw[g4]at q2;simp only[Sem.run_pure,Result.ok.injEq,M6]at q2;subst q2;simp[Instr.lookup,run_underlying L,MapKept.run_getObj_map (bk.cells r),az,MapKept.run_findKey hk g1,l]
   .simp only[ak,aK]at W
    cases W;obtain⟨y,Y,q1,q2,q3⟩:=qI (P:=P) (w:=w) (O:=O) (β:=β) (g:=s.gen) (ob:=s.obj) h (vs:=f) m Q;exact qk
   .exact Vs
 .exact Vs
def HF{g:Nat->Nat}{ob:Obs}{p:PC}(e:Hj x=S p)(f:ak O β g ob w x v):kP O β g ob w p v:=by
 unfold Hj at e;split at e
 .cases e;simpa only[ak,aK,kP]using f
 .cases e;simpa only[ak,aK,kP]using f
 .cases e
def xy{al:Nat}{s:St}{a:Act}(V:Rel O al s β a w):∀(xs:List Operand){ps:List PC},ow (xs.map s.ev)=S ps->z ps=z xs/\∀(i:Nat)(pc:PC),ps[i]?=S pc->∃x,xs[i]?=S x/\kP O β s.gen s.obj w pc (a.eval x)
 |[],ps,h=>by simp[ow]at h;subst h;exact⟨rfl,λi pc h=>by simp at h⟩
 |x::xs,ps,h=>by
   simp only[s6,ow]at h;cases U:Hj (s.ev x)with
   |none=>rw[U]at h;cases h
   |some p=>
     rw[U]at h;cases e:ow (xs.map s.ev)with
     |none=>rw[e]at h;cases h
     |some b=>
       rw[e]at h;simp only[Ly,w7]at h;subst h;obtain⟨f,j⟩:=xy V xs e;refine⟨by simp[f],λi pc hi=>?_⟩;cases i with
       |zero=>simp at hi;subst hi;exact⟨x,rfl,HF U (V.ev x)⟩
       |succ i=>simpa using j i pc YV
def uA(V:Rel O al s β a w){f:FuncId}{first q:Array Operand}(h:jW f (first.toList.map s.ev) (q.toList.map s.ev) k):
  ∃y Y,K y/\(∀G,Ext w G->(Instr.makeFunc (.func f) (first.map a.eval) (q.map a.eval)).run P G=.ok Y G)/\ak O β s.gen s.obj w y Y:=by
 have b6:∀(e:Array Operand){l:List PC},ow (e.toList.map s.ev)=S l->(e.map a.eval).size=z l/\∀(i:Nat)(pc:PC),l[i]?=S pc->∃u,(e.map a.eval)[i]?=S u/\kP O β s.gen s.obj w pc u:=λe l hl=>by
  obtain⟨n,o⟩:=xy V e.toList hl;refine⟨by simp[n],λi pc p=>?_⟩;obtain⟨x,I,A⟩:=o i pc p;have I:e[i]?=S x:=by simpa using I
  exact⟨a.eval x,by simp[I],A⟩
 unfold jW at h;split at h
 .rename_i j
  obtain⟨m,h⟩:=h;obtain⟨l,hl,J⟩:=aU h
  have j:first = #[]:=by
   have:=congrArg z j;exact Q3 (by simpa using this)
  subst j;refine⟨_,.func (.func f) #[] (q.map a.eval),J,λG _=>by simp[Instr.makeFunc],?_⟩;simp only[ak,aK];exact⟨_,(uI m _).symm,b6 q hl⟩
 .rename_i x r j
  obtain⟨m,h⟩:=h;obtain⟨l,hl,J⟩:=aU h;rw[<-j]at hl
  have Z:q = #[]:=by
   have:=congrArg z m;exact Q3 (by simpa using this)
  subst Z;refine⟨_,.func (.func f) (first.map a.eval) #[],J,λG _=>by simp[Instr.makeFunc],?_⟩;simp only[ak,aK];exact⟨_,(zN f _).symm,b6 first hl⟩
def iM(h:isStr d=T):d=.string:=by cases d<;>simp_all[isStr]
def Cp(hT:bu P E){ty:TypeId}(h:zE s (isStr (E t).desc) (dI E t) x k)(f:ak O β s.gen s.obj w x v):
  ∃X Y,K X/\(∀G,Ext w G->(Builtin.len_ #[t] ty #[v]).run P G=.ok Y G)/\ak O β s.gen s.obj w X Y:=by
 unfold zE at h;split at h
 .obtain⟨i,h⟩:=h
  obtain⟨e,_,_,L,_⟩:=eQ hT i;simp only[ak,aK]at f;obtain rfl:=f.inv_nsl;exact VR
 .obtain⟨i,h⟩:=h
  obtain⟨e,_,_,L,_⟩:=eQ hT i;simp only[ak,aK]at f;refine gz h λw=>?_;cases f<;>simp[Builtin.len_,run_underlying L,goInt]
 .obtain⟨i,h⟩:=h
  have L:=(hT t (by rw[iM i];rfl)).desc;rw[iM i]at L;simp only[ak,aK]at f;obtain rfl:=f.inv_str;exact gz h (λw=>by simp[Builtin.len_,run_underlying L,goInt,size_mk])
 .obtain⟨i,l,ho,h⟩:=h
  obtain⟨e,_,_,L,_⟩:=eQ hT i;simp only[ak]at f;obtain⟨a,j,rfl,_⟩:=(ig f l ho).slice;exact VR
 .obtain⟨i,h⟩:=h
  obtain⟨e,_,_,L,_⟩:=eQ hT i;simp only[ak,aK]at f;obtain⟨a,j,rfl⟩:=f;exact VR
 .exact Vs
end
end
section
variable{H r:Option AV}{q f:Option Value}{K:AV->Prop}{k:Box K}
section
variable{P:Program}{E:Nat->TI}{O:Bs}{β:Loc}{g:Nat->Nat}{ob:Obs}{w:World}
inductive yH (O:Bs) (β:Loc) (g:Nat->Nat) (ob:Obs) (w:World):Option AV->Option Value->Prop where
 |none:yH O β g ob w none none
 |some {x:AV}{v:Value} (h:ak O β g ob w x v):yH O β g ob w (some x) (some v)
def run_sliceBound{kd:IntKind}{i:Int}{y:Nat}{c:BoundsCode}(a:0<=i)(U:i.toNat<=y):(Instr.sliceBound (.int kd i) y c).run P w=.ok i.toNat w:=by
 have:i<=y:=a7;simp[Instr.sliceBound,asIntOf,a,this]
def fV{o:Option AV}{a:Option Value}{B:Nat}{K:Nat->Prop}{k:Box K}(h:jT o B k)(ho:yH O β g ob w o a):
  ∃n,K n/\((a=N/\n=B)\/∃kd i,a=S (.int kd i)/\0<=i/\n=i.toNat):=by
 unfold jT at h;split at h
 .cases ho
  exact⟨_,h,.inl ⟨rfl,rfl⟩⟩
 .cases ho with
  |some b=>
    simp only[ak,aK]at b;obtain rfl:=b.inv_int;exact⟨_,h.2,.inr ⟨_,_,rfl,h.1,rfl⟩⟩
 .exact Vs
def dD{b:Bool}{len cap h l:Nat}{ho H:Option Value}
 (c:(ho=N/\h=len)\/∃kd i,ho=S (.int kd i)/\0<=i/\h=i.toNat)(hl:(H=N/\l=0)\/∃kd i,H=S (.int kd i)/\0<=i/\l=i.toNat)
 (U:l<=h)(d:h<=cap):(Instr.sliceBounds b len cap H ho N).run P w=.ok (l,h,cap) w:=by
 rcases c with⟨rfl,rfl⟩|⟨kd,i,rfl,r,rfl⟩<;>rcases hl with⟨rfl,rfl⟩|⟨a,e,rfl,j,rfl⟩<;>
  simp[Instr.sliceBounds,run_sliceBound, *]
def extract_mk(s:List UInt8)(l h:Nat):(⟨s.toArray⟩:ByteArray).extract l h=⟨((s.take h).drop l).toArray⟩:=by
 apply ByteArray.ext;apply J7;rw[ByteArray.data_extract];simp[List.drop_take]
def yI(hT:bu P E){s:St}{t:Nat}{x:AV}{v:Value}
 (h:qE s (isStr (E t).desc) (dI E t) (bh E t).size x H r k)(V:ak O β s.gen s.obj w x v)
 (p:yH O β s.gen s.obj w H q)(d:yH O β s.gen s.obj w r f):
  ∃y Y,K y/\(∀G,Ext w G->(Instr.sliceAt t v q f N).run P G=.ok Y G)/\ak O β s.gen s.obj w y Y:=by
 unfold qE at h;split at h
 .rename_i bs
  obtain⟨hs,h⟩:=h;obtain⟨n,h,W⟩:=fV h d;obtain⟨c,⟨U,h2,J⟩,hl⟩:=fV h p;have L:=(hT t (by rw[iM hs];rfl)).desc;rw[iM hs]at L;simp only[ak,aK]at V;obtain rfl:=V.inv_str;refine Cn J λw=>?_;have this:=λw=>dD (P:=P) (w:=w) (b:=F) (len:=z bs) (cap:=z bs) W hl U h2;simp[Instr.sliceAt,run_underlying L,Instr.slice,size_mk,this,extract_mk]
 .rename_i es
  obtain⟨hs,h⟩:=h;obtain⟨n,h,W⟩:=fV h d;obtain⟨c,⟨U,h2,az,J⟩,hl⟩:=fV h p;obtain⟨e,c1,cc,L,b2⟩:=eQ hT hs;rw[cc]at az;simp only[ak,aK]at V;have bd:z ((es.take n).drop c)=n-c:=by simp;omega
  cases V with
  |@sl0 a cap=>
    have h0:n=0:=by simpa using h2
    subst h0;have l:c=0:=a7;subst l;have this:=λw=>dD (P:=P) (w:=w) (b:=T) (len:=0) (cap:=cap) W hl U (L1 _);refine⟨_,.slice a 0 cap,J,λG _=>?_,?_⟩
    .have ha:a.map (λx=>x.add 0)=a:=by cases a<;>simp[Addr.add]
     simp[Instr.sliceAt,run_underlying L,Instr.slice,this,bQ b2,ha]
    .simp only[ak,aK];exact .sl0
  |sl A cy hJ g b5 b7=>
    rename_i b u cap sz;have hb:=λw=>dD (P:=P) (w:=w) (b:=T) (len:=z es) (cap:=cap) W hl U a7;by_cases Z:cap=c
    .subst Z
     refine⟨_,.slice (S ⟨b,u,N⟩) (n-cap) (cap-cap),J,λG _=>by simp[Instr.sliceAt,run_underlying L,Instr.slice,hb,bQ b2],?_⟩;simp only[ak,aK];have B:(es.take n).drop cap=[]:=z6 (by rw[bd];omega);rw[B,<-bd,B];exact sn
    .refine⟨_,.slice (S ⟨b,u+c*(E e).size,N⟩) (n-c) (cap-c),J,λG _=>by simp[Instr.sliceAt,run_underlying L,Instr.slice,hb,bQ b2,Z,ew],?_⟩
     simp only[ak,aK];rw[<-bd]
     have al:∀(i:Nat)(y:List D),((es.take n).drop c)[i]?=S y->es[c+i]?=S y:=λi y I=>by
      rw[H5,I4]at I;split at I
      .exact I
      .cases I
     by_cases b4:es=[]
     .subst b4
      simp only[List.take_nil,List.drop_nil];exact sn
     .have b0:(E e).size=sz:=by
       obtain⟨y,I⟩:=List.exists_mem_of_ne_nil es b4;rw[<-az y I,g y I]
      rw[b0];refine .sl (λi j=>A (c+i) j) (by rw[bd];omega) (λ_=>hJ b4) (λy I=>g y (O7 (M7 I))) (λi y I j X hz=>?_) (λi y I j X hz=>b7 _ _ (al i y I) j X hz);have:=b5 _ _ (al i y I) j X hz;rw[F1]at this
      rwa [<-C2]at this
 .obtain⟨hs,h⟩:=h
  obtain⟨n,h,W⟩:=fV h d;obtain⟨c,⟨rfl,rfl,J⟩,hl⟩:=fV h p;obtain⟨e,c1,cc,L,b2⟩:=eQ hT hs;simp only[ak,aK]at V;obtain rfl:=V.inv_nsl;have this:=λw=>dD (P:=P) (w:=w) (b:=T) (len:=0) (cap:=0) W hl (l8 _) (l8 _);refine⟨_,.slice N 0 0,J,λG _=>by simp[Instr.sliceAt,run_underlying L,Instr.slice,this,bQ b2],?_⟩;simp only[ak,aK];exact .nsl
 .rename_i id g' ar u len
  obtain⟨hs,hg,ho,h⟩:=h;obtain⟨n,h,W⟩:=fV h d;obtain⟨c,⟨U,h2,a',J⟩,hl⟩:=fV h p;obtain⟨e,c1,cc,L,b2⟩:=eQ hT hs;rw[cc]at a' J;subst a';clear h;simp only[ak]at V;have b6:=ig V hg ho;cases av:β id with
  |none=>
    rw[av]at b6;obtain⟨rfl,rfl⟩:=b6;have e1:n=0:=a7;have e2:c=0:=a7;subst e1;subst e2;have this:=λw=>dD (P:=P) (w:=w) (b:=T) (len:=0) (cap:=0) W hl (l8 _) (l8 _);refine⟨_,.slice N 0 0,J,λG _=>by simp[Instr.sliceAt,run_underlying L,Instr.slice,this,bQ b2],?_⟩;simp only[ak,aK];exact⟨rfl,V.2.1,λ_ _=>by rw[av];exact⟨a8,rfl⟩⟩
  |some ad=>
    rw[av]at b6;obtain⟨bo,b6⟩:=b6;rcases b6 with⟨cap,rfl,cy,Q⟩|⟨rfl,o,rfl⟩
    .have hb:=λw=>dD (P:=P) (w:=w) (b:=T) (len:=len) (cap:=cap) W hl U a7
     by_cases Z:cap=c
     .subst Z
      refine⟨_,.slice (S ⟨ad.block,ad.off+u,N⟩) (n-cap) (cap-cap),J,λG _=>by simp[Instr.sliceAt,run_underlying L,Instr.slice,hb,bQ b2],?_⟩;simp only[ak,aK];have e1:n-cap=0:=a7;refine⟨rfl,V.2.1,λ_ _=>?_⟩;rw[av,e1,Lz];exact⟨bo,.inr ⟨rfl,ad.off+u,rfl⟩⟩
     .refine⟨_,.slice (S ⟨ad.block,ad.off+u+c*(E e).size,N⟩) (n-c) (cap-c),J,λG _=>by simp[Instr.sliceAt,run_underlying L,Instr.slice,hb,bQ b2,Z,ew],?_⟩
      simp only[ak,aK];refine⟨rfl,V.2.1,λ_ _=>?_⟩;rw[av];refine⟨bo,.inl ⟨cap-c,by simp[C2],a7,λarr el fr m=>?_⟩⟩;have:=Q arr el fr m;have e3:cap=c+(cap-c):=a7;rw[e3,F1]at this;omega
    .have e1:n=0:=a7
     have e2:c=0:=a7;subst e1;subst e2;have this:=λw=>dD (P:=P) (w:=w) (b:=T) (len:=0) (cap:=0) W hl (l8 _) (l8 _);refine⟨_,.slice (S ⟨ad.block,o,N⟩) 0 0,J,λG _=>by simp[Instr.sliceAt,run_underlying L,Instr.slice,this,bQ b2],?_⟩;simp only[ak,aK];exact⟨rfl,V.2.1,λ_ _=>by rw[av];exact⟨bo,.inr ⟨a8,o,rfl⟩⟩⟩
 .exact Vs
def uC(hT:bu P E){s:St}(X:∀id cs ad,s.obj id=S cs->β id=S ad->ad.spot=N->∀arr el fr,w.heap[ad.block]?=S (.cells arr el fr)->ad.off+z cs<=arr.size){t:Nat}{x:AV}{v:Value}
 (h:mz E (E t).desc s x H r k)(a:ak O β s.gen s.obj w x v)
 (p:yH O β s.gen s.obj w H q)(d:yH O β s.gen s.obj w r f):
  ∃y Y,K y/\(∀G,Ext w G->(Instr.sliceAt t v q f N).run P G=.ok Y G)/\ak O β s.gen s.obj w y Y:=by
 unfold mz at h;split at h
 .rename_i n e hd
  have L:=(hT t YH).desc;rw[hd]at L;split at h
  .rename_i id g off
   split at h
   .obtain⟨A,B,⟨cs,b6,Q⟩,h⟩:=h
    obtain⟨c,⟨i,J⟩,I⟩:=fV h d;cases p;have j:=hT e B;simp only[ak,aK]at a;obtain⟨ad,l,o,rfl⟩:=a.2.2 A (by rw[b6];rfl);have u:=λw=>dD (P:=P) (w:=w) (b:=F) (len:=n) (cap:=n) I (.inl ⟨rfl,rfl⟩) (L1 _) i;refine⟨_,.slice (S ⟨ad.block,ad.off+off,N⟩) c n,J,λG _=>?_,?_⟩
    .by_cases Z:n=0
     .subst Z
      obtain rfl:c=0:=a7;simp[Instr.sliceAt,run_underlying L,Instr.slice,u,bQ j,Instr.sureAddr]
     .simp[Instr.sliceAt,run_underlying L,Instr.slice,u,bQ j,Instr.sureAddr,Z,ew]
    .simp only[ak,aK]
     refine⟨rfl,a.2.1,λ_ _=>?_⟩;rw[l];exact⟨o,.inl ⟨n,rfl,i,λarr el fr m=>by have:=X id cs ad b6 l o arr el fr m;omega⟩⟩
   .exact Vs
  .exact Vs
 .exact Vs
end
end
section
def setCells_size(b:Nat):∀(vs:List Value)(o:Nat)(w:World),(w.setCells b o vs).heap.size=w.heap.size
 |[],_,_=>rfl
 |v::r,o,w=>by rw[World.setCells,setCells_size b r];simp
def lX(b:Nat):∀(vs:List Value)(o:Nat)(w:World),(w.setCells b o vs).os=w.os/\(w.setCells b o vs).output=w.output
 |[],_,_=>⟨rfl,rfl⟩
 |v::r,o,w=>by rw[World.setCells];exact lX b r _ _
def heap_setCell(w:World)(b o:Nat)(v:Value)(c:Nat):(w.setCell ⟨b,o,N⟩ v).heap[c]? =
  if c=b then(match w.heap[c]? with|some (.cells arr el fr)=>S (.cells (arr.setIfInBounds o v) el fr)|x=>x)else w.heap[c]?:=by
 simp only[World.setCell];by_cases h:c=b
 .subst h
  simp only[B5];rw[Vf];simp only[B5];cases hw:w.heap[c]? with
  |none=>rfl
  |some g=>cases g<;>simp
 .simp only[h,B1]
  rw[Vf];simp[B7 h]
def heap_setCells_other(b:Nat):∀(vs:List Value)(o:Nat)(w:World)(c:Nat),c≠b->(w.setCells b o vs).heap[c]?=w.heap[c]?
 |[],_,_,_,_=>rfl
 |v::r,o,w,c,h=>by rw[World.setCells,heap_setCells_other b r _ _ c h,heap_setCell];simp[h]
def fW(b:Nat):∀(vs:List Value)(o:Nat)(w:World)(arr:Array Value)(el:TypeId)(fr:Nat×Nat),w.heap[b]?=S (.cells arr el fr)->
  ∃c,(w.setCells b o vs).heap[b]?=S (.cells c el fr)/\c.size=arr.size/\∀j,c[j]?=if o<=j/\j<o+z vs/\j<arr.size then vs[j-o]? else arr[j]?
 |[],o,w,arr,el,fr,h=>⟨arr,h,rfl,λj=>by rw[j9 XH]⟩
 |v::r,o,w,arr,el,fr,h=>by
   have U:(w.setCell ⟨b,o,N⟩ v).heap[b]?=S (.cells (arr.setIfInBounds o v) el fr):=by rw[heap_setCell];simp[h]
   obtain⟨c,f,g,i⟩:=fW b r (o+1) _ _ el fr U;refine⟨c,f,by simpa using g,λj=>?_⟩;rw[i j];simp only[T7,l4];by_cases d:j=o
   .subst d
    rw[j9 a7];by_cases e:j<arr.size
    .rw[l9 a7,O0 e];simp
    .rw[j9 a7];simp[e]
   .by_cases Z:o+1<=j/\j<o+1+z r/\j<arr.size
    .rw[l9 Z,l9 a7]
     have:j-o=(j-(o+1))+1:=a7;rw[this,u7]
    .rw[j9 Z,j9 a7,N0 (B7 d)]
def nr:∀(cs:List C)(off:Nat)(cells:List C),z (setAt cells off cs)=z cells
 |[],_,_=>rfl
 |c::cs,off,cells=>by rw[setAt,nr cs];simp
def sM:∀(cs:List C)(off:Nat)(cells:List C)(j:Nat),(setAt cells off cs)[j]?=if off<=j/\j<off+z cs/\j<z cells then cs[j-off]? else cells[j]?
 |[],off,cells,j=>by rw[setAt,j9 XH]
 |c::cs,off,cells,j=>by
   rw[setAt,sM cs];simp only[C4,l4];by_cases b:j=off
   .subst b
    rw[j9 a7];by_cases d:j<z cells
    .rw[l9 a7];simp[d]
    .rw[j9 a7];simp[d]
   .by_cases Z:off+1<=j/\j<off+1+z cs/\j<z cells
    .rw[l9 Z,l9 a7]
     have:j-off=(j-(off+1))+1:=a7;rw[this,u7]
    .rw[j9 Z,j9 a7,O2 (B7 b)]
variable{s:St}{a:Act}{al:Nat}{arr:Array Value}{el:TypeId}{t:Nat}{K:St->Prop}{cs:List C}{v vi u:Value}{k:Box K}
section
variable{P:Program}{E:Nat->TI}{O:Bs}{β:Loc}{w:World}
def ak.cells{g:Nat->Nat}{ob:Obs}{x:AV}{v:Value}{cs:List C}(I:cellsOf x=S cs)(b:ak O β g ob w x v):
  ∃vs:List Value,v.cells=vs.toArray/\z vs=z cs/\(∀(j:Nat)(c:C),cs[j]?=S c->∃u,vs[j]?=S u/\aK O β g ob w c u)/\∀u∈vs,u.oneCell'=T:=by
 cases x with
 |one c=>
   simp only[cellsOf,w7]at I;subst I;simp only[ak]at b;have U:=b.one;refine⟨[v],by cases v<;>first|rfl|(simp[Value.oneCell']at U),rfl,λj m Z=>?_,λu L=>by simpa using(E3.1 L▸U)⟩;cases j with
   |zero=>simp at Z;subst Z;exact⟨v,rfl,b⟩
   |succ j=>simp at Z
 |agg f=>
   simp only[cellsOf,w7]at I;subst I;simp only[ak]at b;obtain⟨vs,rfl,U,d⟩:=b;refine⟨vs.toList,by simp[Value.cells],by simpa using U,λj c Z=>by simpa using d j c Z,λu L=>?_⟩;obtain⟨i,e⟩:=D9 L
   have h:i<z f:=by
    have:=(l6.1 e).1;simp at this;omega
   obtain⟨l,p,V⟩:=d i _ (v8 h);have:l=u:=by simpa[p]using e
   subst this;exact V.one
 |tup=>simp[cellsOf]at I
 |junk=>simp[cellsOf]at I
 |exact=>simp[cellsOf]at I
def sN{H c b j:Nat}(h:w.heap[b]?=S (.cells arr el (H,c)))(hf:c<=H\/arr.size<=H)(d:j<arr.size):
  w.frozen? ⟨b,j,N⟩=F:=by
 simp only[World.frozen?,h,Bool.and_eq_false_iff,decide_eq_false_iff_not];omega
def uE{B:TI}(e:uz P t B){b o:Nat}{v:Value}{vs:List Value}(f:v.cells=vs.toArray)(hl:z vs=B.size)(U:∀u∈vs,u.oneCell'=T)
{H c:Nat}(d:w.heap[b]?=S (.cells arr el (H,c)))(hf:c<=H\/arr.size<=H)(Q:o+z vs<=arr.size):
  (Instr.storeAt t (.pointer (S ⟨b,o,N⟩)) v).run P w=.ok () (w.setCells b o vs):=by
 have:=run_storeCells_cells (P:=P) b o vs 0 w (λj g=>by
   rw[fU d,B8 a7];rfl) (λj g=>sN d hf a7) U
 simp only[LN]at this;simp[Instr.storeAt,Instr.sureAddr,storeVar,bQ e,f,hl,this]
def yL(hT:bu P E)(V:Rel O al s β a w){x y:AV}{v u:Value}(h:sB (E t) s x y k)
 (hv:ak O β s.gen s.obj w x v)(L:ak O β s.gen s.obj w y u):
  ∃W G,K W/\(Instr.storeAt t v u).run P w=.ok () G/\Rel O al W β a G/\Tr O β s w β W G:=by
 unfold sB at h;split at h
 .rename_i id g e
  obtain⟨an,hg,h⟩:=h;obtain⟨cs,b6,az,h⟩:=aU h;obtain⟨d,ho,Q,J⟩:=aU h;have ht:=hT t an;simp only[ak,aK]at hv;obtain⟨ad,n,bo,rfl⟩:=hv.2.2 hg Yv;have bn:=V.obj id d ho;rw[n]at bn;obtain⟨hB,arr,el,H,hi,r,ar,bd,ca⟩:=bn.cells bo;obtain⟨vs,e1,e2,e3,e4⟩:=ak.cells b6 L;have hw:=uE (w:=w) ht (b:=ad.block) (o:=ad.off+e) e1 (by rw[e2,az]) e4 r ar.1 a7;obtain⟨b1,f1,f2,f3⟩:=fW ad.block vs (ad.off+e) w arr el (H,hi) r
  have X:∀i,(upd s.obj id (S (setAt d e cs)) i).isSome=(s.obj i).isSome:=λi=>by
   simp only[upd];split
   .rename_i A;rw[A,ho];rfl
   .rfl
  have q:fE O β s.gen s.obj w β s.gen (upd s.obj id (S (setAt d e cs))) (w.setCells ad.block (ad.off+e) vs):=by
   refine⟨λb hb=>?_,λ_=>l8 _,λi _ a6=>?_⟩
   .have b4:b≠ad.block:=λA=>hb.2.2 id ad Yv n A.symm
    exact Vw
   .exact oR
  refine⟨_,_,J,hw,⟨V.defers,V.size,λi=>ak.keep q _ (V.f i),λi l m=>?_,λi i' a1 a2 U h2=>V.inj i i' a1 a2 (by rw[<-X i];exact U) (by rw[<-X i'];exact h2),by rw[setCells_size];exact V.base⟩,
   by rw[setCells_size];exact l8 _,λb hb=>heap_setCells_other _ _ _ _ _ a7,q,lX _ _ _ _⟩
  by_cases B:i=id
  .subst B
   simp only[upd,B5,w7]at m;subst m;rw[n];refine .ofCells bo ⟨hB,b1,el,H,hi,f1,by rw[f2];exact ar,by rw[nr,f2];exact bd,λj c Z=>?_⟩;rw[sM]at Z;rw[f3];split at Z
   .rename_i bl
    obtain⟨I,p,bf⟩:=e3 _ c Z;refine⟨I,?_,bf.keep q⟩;rw[l9 a7,show ad.off+j-(ad.off+e)=j-e by omega];exact p
   .rename_i bl
    obtain⟨I,p,bf⟩:=ca j c Z;have c0:j<z d:=(l6.1 Z).1;refine⟨I,?_,bf.keep q⟩;rw[j9 a7];exact p
  .have Y:s.obj i=S l:=by simpa[upd,B]using m
   refine(V.obj i l Y).keep q (λa' b'=>heap_setCells_other _ _ _ _ _ (λhb=>B (V.inj i id a' ad (by simp[Y]) Yv b' n hb)))
 .exact Vs
def Rel.newAny{al c:Nat}(V:Rel O al s β a w)(d:Nat){G:World}{o:Obj}{ad:Addr}(e:ad.block=w.heap.size)(y:G.heap=w.heap.push o)(n:G.os=w.os/\G.output=w.output)
 (ar:fE O β s.gen s.obj w (upd β d (S ad)) (s.newC c d cs).gen (s.newC c d cs).obj G->dt O (upd β d (S ad)) (s.newC c d cs).gen (s.newC c d cs).obj G (nxC c (s.gen d)) cs (S ad)):
  Rel O al (s.newC c d cs) (upd β d (S ad)) a G/\Tr O β s w (upd β d (S ad)) (s.newC c d cs) G:=by
 have bk:∀b,b<w.heap.size->G.heap[b]?=w.heap[b]?:=λb g=>by rw[y,R6,j9 a7]
 have q:fE O β s.gen s.obj w (upd β d (S ad)) (s.newC c d cs).gen (s.newC c d cs).obj G:=by
  refine⟨λb g=>⟨⟨by rw[y];simp;have:=g.1;omega,g.2.1,λi j hi bs=>?_⟩,bk b g.1⟩,λi=>?_,λi I hi=>?_⟩
  .simp only[St.newC,upd]at hi bs
   split at bs
   .cases bs;have:=g.1;omega
   .rename_i A
    simp only[A,B1]at hi;exact g.2.2 i j hi bs
  .exact Lm
  .simp only[St.newC,upd]at I hi|-
   by_cases A:i=d
   .subst A;simp at I;exact absurd I (yv _ _)
   .simp only[A,B1]at hi|-
    refine⟨hi,trivial,λj b' X Y cm U=>?_⟩
    have B:j.block<w.heap.size:=by
     exact V8
    rw[bk _ B]at U;exact⟨X,Y,cm,U,l8 _⟩
 refine⟨⟨V.defers,V.size,λi=>ak.keep q _ (V.f i),λi l m=>?_,λi J L Q U x p r g=>?_,?_⟩,?_,?_,q,n⟩
 .simp only[St.newC,upd]at m|-
  by_cases W:i=d
  .subst W
   simp only[B5,w7]at m|-;subst m;exact ar q
  .simp only[W,B1]at m|-
   refine(V.obj i l m).keep q (λj b'=>bk _ ?_);have:=V.obj i l m;rw[b']at this;exact this.block.2
 .have B:∀(i:Nat)(j:Addr),(s.obj i).isSome=T->β i=S j->j.block<w.heap.size:=λi j hi b'=>by
   exact V8
  simp only[St.newC,upd]at U x p r;by_cases hi:i=d<;>by_cases H:J=d
  .rw[hi,H]
  .simp only[hi,H,B5,B1]at U x p r
   cases p;have:=B J Q x r;omega
  .simp only[hi,H,B5,B1]at U x p r
   cases r;have:=B i L U p;omega
  .simp only[hi,H,B1]at U x p r
   exact V.inj i J L Q U x p r g
 .rw[y];simp;have:=V.base;omega
 .rw[y];simp
 .intro b g;exact bk b (by have:=V.base;omega)
def Rel.new(c:Nat)(V:Rel O al s β a w)(d:Nat){G:World}(b:G.heap=w.heap.push (.cells arr el (0,0)))(n:G.os=w.os/\G.output=w.output)(bd:z cs<=arr.size)
 (g:c≠0->c<1000000->el+1=c)(e:∀(j:Nat)c,cs[j]?=S c->∃v,arr[j]?=S v/\aK O β s.gen s.obj w c v):
  Rel O al (s.newC c d cs) (upd β d (S ⟨w.heap.size,0,N⟩)) a G/\Tr O β s w (upd β d (S ⟨w.heap.size,0,N⟩)) (s.newC c d cs) G:=
 V.newAny d rfl b n λq=>.ofCells rfl ⟨V.base,arr,el,0,0,by rw[b];simp,⟨.inl (l8 _),λh=>⟨by rw[mw]at h|-;split at h<;>rename_i Z<;>simp_all,rfl⟩⟩,by simpa using bd,λj c Z=>
  let ⟨v,f,k⟩:=e j c Z
  ⟨v,by simpa using f,k.keep q⟩⟩
def CA(d:TypeDesc):nb d<=9:=by unfold nb;split<;>simp
def vv(V:Rel O al s β a w){t i d:Nat}(hd:d<al)(h:mA E t i d s k):
  ∃W A G Y,K W/\(Instr.makeMap t N).run P w=.ok Y G/\Rel O al W A (a.put (S d) Y) G/\Tr O β s w A W G:=by
 unfold mA at h;split at h
 .rename_i n H b
  obtain⟨B,J⟩:=h
  obtain⟨e,f⟩:=V.newAny (c:=0) i (G:=w.alloc (.map #[] 0)) (o:=.map #[] 0) (ad:=⟨w.heap.size,0,S (zF (ed (E H).desc) (nb (E n).desc))⟩) (cs:=[]) rfl rfl ⟨rfl,rfl⟩
   (λq=>.ofMap rfl ⟨V.base,.inl ⟨#[],0,(MapKept.heap_alloc w _).1,.nil⟩⟩)
  refine⟨_,_,_,.map (S w.heap.size),J,by simp[Instr.makeMap],e.put (λj g=>by cases g;exact hd) ?_,f.trans (Tr.same (St.put_gen _ _ _) (St.put_obj _ _ _) rfl)⟩;simp only[ak,aK];exact⟨rfl,by simp[St.newC,upd],λ_ _=>⟨_,by simp[upd];rfl,⟨rfl,by have:=CA (E n).desc;unfold zF;split<;>omega⟩,rfl⟩⟩
 .exact Vs
def rC(hT:bu P E)(V:Rel O al s β a w){t n H id g kd:Nat}{A:D}{c:C}{cells:List C}(hd:(E t).desc=.map n H)(an:okD (E n).desc=T)(o:iK (E n).desc A=T)(hg:s.gen id=g)(B:mC kd=(E n).desc)(ho:s.obj id=S cells)
 (hv:ak O β s.gen s.obj w (.one (.mp id g kd)) v)(hi:ak O β s.gen s.obj w (.one (.d A)) vi)(L:jN O β s.gen s.obj w kd c u):
  ∃G,(Instr.mapUpdate t v vi u).run P w=.ok () G/\Rel O al {s with obj:=upd s.obj id (S (mset cells A c))} β a G/\Tr O β s w β {s with obj:=upd s.obj id (S (mset cells A c))} G:=by
  have bl:=(hT t YH).desc;rw[hd]at bl;have hk:=(hT n an).desc;simp only[ak,aK]at hi hv;obtain rfl:=hi.key o;have az:∀e,(Instr.checkKey e 10000 n (dV A)).run P w=.ok () w:=λe=>MapKept.run_checkKey hk (oS o) e 9999;obtain⟨J,W,Z,rfl⟩:=hv.2.2 hg Yv;have bn:=V.obj id cells ho;rw[W]at bn;have hB:=(bn.map Z.1).1;obtain⟨es,p,r,hm⟩:=(bn.map Z.1).2.resolve_right (λh=>Z.2 h.1);rw[B]at hm;have af:=(E5.1 r).1
  obtain⟨y,x,bz,cv⟩:∃y x,(Instr.mapUpdate t (.map (S J.block)) (dV A) u).run P w=.ok () {w with heap:=w.heap.setIfInBounds J.block (.map y x)}/\
    ∀R:C->Value->Prop,(∀c v,jN O β s.gen s.obj w kd c v->R c v)->eA R (E n).desc (mset cells A c) y.toList:=by
   rcases hm.find o 0 with⟨g1,g2,g3⟩|⟨j,e,c',g1,g2,g3,_,_,g6⟩
   .refine⟨es.push {key:=dV A,val:=u,born:=p},p+1,?_,λR hR=>?_⟩
    .simp[Instr.mapUpdate,run_underlying bl,MapKept.run_getObj_map r,az,MapKept.run_findKey hk g1,MapKept.run_setObj_map _ r]
    .have:=(g3 c u L p).mono hR
     exact Vt
   .refine⟨es.modify j λe=>{e with key:=dV A,val:=u},p,?_,λR hR=>?_⟩
    .have hj:es[j]?=S e:=by simpa using g2
     simp[Instr.mapUpdate,run_underlying bl,MapKept.run_getObj_map r,az,MapKept.run_findKey hk g1,hj,g3,MapKept.run_keyThatStays (oS o),MapKept.run_setObj_map _ r]
    .have:=(g6 c u L).mono hR
     exact Vt
  have k:∀b,b≠J.block->(w.heap.setIfInBounds J.block (.map y x))[b]?=w.heap[b]?:=λb I=>by simp[B7 I]
  have X:∀i,(upd s.obj id (S (mset cells A c)) i).isSome=(s.obj i).isSome:=λi=>by
   simp only[upd];split
   .rename_i he;rw[he,ho];rfl
   .rfl
  have q:fE O β s.gen s.obj w β s.gen (upd s.obj id (S (mset cells A c))) {w with heap:=w.heap.setIfInBounds J.block (.map y x)}:=by
   refine⟨λb I=>?_,λ_=>l8 _,λi _ a6=>?_⟩
   .have b4:b≠J.block:=λhe=>I.2.2 id J Yv W he.symm
    exact⟨⟨by simpa using I.1,I.2.1,λi Q a6=>I.2.2 i Q (by rw[<-X i];exact a6)⟩,k b b4⟩
   .rw[X i]at a6
    refine⟨a6,rfl,λQ b' cu cz cm U=>?_⟩;by_cases I:Q.block=J.block
    .rw[I]at U
     simp[af]at U
    .simp only[k _ I]at U
     exact⟨cu,cz,cm,U,l8 _⟩
  refine⟨_,bz,⟨V.defers,V.size,λi=>ak.keep q _ (V.f i),λi l m=>?_,λi i' a1 a2 U h2=>V.inj i i' a1 a2 (by rw[<-X i];exact U) (by rw[<-X i'];exact h2),by simpa using V.base⟩,
   by simp,λb I=>k b a7,q,rfl,rfl⟩
  by_cases b8:i=id
  .subst b8
   simp only[upd,B5,w7]at m;subst m;rw[W];refine .ofMap Z.1 ⟨hB,.inl ⟨y,x,by simp[af],?_⟩⟩;rw[B];exact cv _ (λ_ _=>jN.keep q)
  .have Y:s.obj i=S l:=by simpa[upd,b8]using m
   exact(V.obj i l Y).keep q (λQ b'=>k _ (λI=>b8 (V.inj i id Q J (by simp[Y]) Yv b' W I)))
def xB:∀{cs:List C}{ds:List D},datas cs=S ds->cs=ds.map .d
 |[],ds,h=>by simp only[datas,w7]at h;subst h;rfl
 |.d x::r,ds,h=>by
   simp only[datas]at h;cases b:datas r with
   |none=>rw[b]at h;cases h
   |some l=>
     rw[b]at h;simp only[A3,w7]at h;subst h;rw[xB b];rfl
def mL(hT:bu P E)(V:Rel O al s β a w){m q x:AV}(h:eK E t s m q x k)
 (r:ak O β s.gen s.obj w m v)(y:ak O β s.gen s.obj w q vi)(L:ak O β s.gen s.obj w x u):
  ∃W G,K W/\(Instr.mapUpdate t v vi u).run P w=.ok () G/\Rel O al W β a G/\Tr O β s w β W G:=by
 unfold eK at h;split at h
 .rename_i n H A id g e c hd
  obtain⟨⟨f,o⟩,j,B,h⟩:=h;obtain⟨b,ho,J⟩:=aU h;have Q:=Pq B o;simp only[ak]at L;obtain⟨G,U,l,p⟩:=rC hT V hd f o j (by rw[show mC e=dZ e from l9 Q];exact B) ho r y (by rw[yB Q];exact L);exact⟨_,G,J,U,l,p⟩
 .rename_i n H A id g e cs hd
  obtain⟨⟨f,o⟩,j,⟨Y,B⟩,h⟩:=h;obtain⟨ds,ar,h⟩:=aU h;obtain⟨b,ho,J⟩:=aU h;have b6:=xB ar;subst b6;simp only[ak]at L;obtain⟨vs,rfl,X,L⟩:=L
  obtain⟨G,U,l,p⟩:=rC (c:=.d (.iptr ds)) (u:=.agg vs) hT V hd f o j (by rw[show mC e=dZ (e-200)from j9 a7];exact B) ho r y (by
   unfold jN;rw[j9 a7];refine⟨ds,vs,rfl,rfl,by rw[X,j7],λi x I=>?_⟩;exact L i (.d x) (by rw[w9,I];rfl))
  exact⟨_,G,J,U,l,p⟩
 .exact Vs
end
end
section
def xC(n:Nat):∀k c,Builtin.growBy n k c<=max c (n+(n+768)/4)
 |0,c=>by simp[Builtin.growBy];omega
 |k+1,c=>by
   simp only[Builtin.growBy];split
   .omega
   .have:=xC n k (c+(c+768)/4)
    omega
def nextslicecap_le(n c:Nat)(h:c<n):Builtin.nextslicecap n c<=2*n+1024:=by
 unfold Builtin.nextslicecap;split
 .omega
 .split
  .omega
  .have:=xC n 4 c
   omega
def lY{A:Type}{sz:Nat}:∀(es:List (List A))(_:∀e∈es,z e=sz)(m:Nat)(c:A),es.flatten[m]?=S c->∃i e j,es[i]?=S e/\e[j]?=S c/\m=i*sz+j
 |[],_,m,c,h=>by simp at h
 |e::es,d,m,c,h=>by
   rw[E7,L3]at h;have g:=d e a8;split at h
   .exact⟨0,e,m,rfl,h,a8⟩
   .rename_i l
    obtain⟨i,b,j,U,f,n⟩:=lY es (λb q=>d b (by simp[q])) _ c h;exact⟨i+1,b,j,by simpa using U,f,by rw[F1];omega⟩
def oZ{A:Type}{sz:Nat}:∀(es:List (List A))(_:∀e∈es,z e=sz),z es.flatten=z es*sz
 |[],_=>by simp
 |e::es,b=>by
   rw[E7,j8,oZ es (λc q=>b c (by simp[q])),b e a8,l4,F1];omega
variable{s:St}{al:Nat}{a:Act}{v:Value}{B:TI}{cs cd:List C}{K:Nat->List C->Prop}{t tx e:Nat}{k:Box K}
section
variable{P:Program}{E:Nat->TI}{O:Bs}{β:Loc}{w:World}
def bL(O:Bs)(β:Loc)(s:St)(w:World)(cs:List C)(vs:List Value):Prop:=
 (z vs)=z cs/\∀(j:Nat)(c:C),cs[j]?=S c->∃u,vs[j]?=S u/\aK O β s.gen s.obj w c u
def bL.one{s:St}{cs:List C}{vs:List Value}(h:bL O β s w cs vs):∀u∈vs,u.oneCell'=T:=λu L=>by
 obtain⟨i,b⟩:=D9 L;have c:i<z cs:=by rw[<-h.1];exact(l6.1 b).1
 obtain⟨d,p,V⟩:=h.2 i _ (v8 c);have:d=u:=by simpa[p]using b
 exact this▸V.one
def bL.append{vs d:List Value}(h:bL O β s w cs vs)(q:bL O β s w cd d):bL O β s w (cs++cd) (vs++d):=by
 refine⟨by simp[h.1,q.1],λj c Z=>?_⟩;rw[L3]at Z|-;rw[h.1];split at Z
 .rename_i b;rw[l9 b];exact h.2 j c Z
 .rename_i b;rw[j9 b];exact q.2 _ c Z
def oK.spot{sz off len:Nat}{v:Value}{x:Option Addr}(h:oK w sz off len v x):∀ad,x=S ad->ad.spot=N:=λad I=>by subst I;exact h.1
def pV(V:Rel O al s β a w){id off n:Nat}{cells:List C}(g:∀ad,β id=S ad->ad.spot=N)(ho:s.obj id=S cells)(Q:off+n<=z cells):
  (∃ad,β id=S ad/\∃vs,bL O β s w ((cells.drop off).take n) vs/\z vs=n/\∀(j:Nat)(u:Value),vs[j]?=S u->w.cell? ⟨ad.block,ad.off+off+j,N⟩=S u)\/(β id=N/\cells=[]):=by
 have b:=V.obj id cells ho;cases d:β id with
 |none=>rw[d]at b;exact .inr ⟨rfl,b⟩
 |some ad=>
   rw[d]at b;obtain⟨_,arr,el,H,m,r,_,o,h⟩:=b.cells (g ad d)
   obtain⟨vs,f,i,l⟩:=lj (aK O β s.gen s.obj w) (λj=>arr[ad.off+(off+j)]?) ((cells.drop off).take n) (λj c Z=>by
     rw[I4]at Z;split at Z
     .rw[H5]at Z;exact h (off+j) c Z
     .cases Z)
   refine .inl ⟨ad,rfl,vs,⟨f,l⟩,by rw[f];simp;omega,λj u L=>?_⟩;rw[fU r,C2];exact i j u L
def pb(hT:bu P E)(V:Rel O al s β a w){tx sz:Nat}{y:AV}{u:Value}
 (h:contents s (isStr (E tx).desc) (dI E tx) sz y k)(L:ak O β s.gen s.obj w y u):
  ∃n cs news,K n cs/\Src P sz tx u n news w/\bL O β s w cs news:=by
 unfold contents at h;split at h
 .obtain⟨q,h⟩:=h
  obtain⟨e,_,_,bl,_⟩:=eQ hT q;simp only[ak,aK]at L;obtain rfl:=L.inv_nsl;exact⟨0,[],[],h,Src.ofNil w bl 0,rfl,λ_ _ Z=>by simp at Z⟩
 .rename_i g
  obtain⟨q,az,h⟩:=h;obtain⟨e,_,_,bl,_⟩:=eQ hT q;simp only[ak,aK]at L;cases L with
  |sl0=>
    rename_i a f;refine⟨0,[],[],by simpa using h,?_,rfl,λ_ _ Z=>by simp at Z⟩;cases a with
    |none=>exact Src.ofNil w bl f
    |some a=>exact Src.ofSlice w bl a 0 f [] a8 (λ_ _ h=>by simp at h) (λ_ h=>by cases h)
  |sl A cy hJ hs b5 b7=>
    rename_i b l f ar
    obtain⟨vs,I,e2,e3⟩:=lj (λ(c:D)v=>aK O β s.gen s.obj w (.d c) v) (λj=>w.cell? ⟨b,l+j,N⟩) g.flatten (λm c Z=>by
     obtain⟨i,W,j,U,X,rfl⟩:=lY g hs m c Z;refine⟨A i j,?_,b7 i W U j c X⟩;rw[<-C2];exact b5 i W U j c X)
    have hl:z vs=z g*sz:=by rw[I,oZ g az]
    have p:bL O β s w (g.flatten.map .d) vs:=by
     refine⟨by rw[j7,I],λj c Z=>?_⟩;rw[w9]at Z;cases hq:g.flatten[j]? with
     |none=>rw[hq]at Z;cases Z
     |some x=>
       exact W5
    exact⟨_,_,vs,h,Src.ofSlice w bl ⟨b,l,N⟩ (z g) f vs hl (λj v r=>by rw[ew];exact e2 j v r) p.one,p⟩
 .rename_i bs
  obtain⟨Y,rfl,h⟩:=h;have bl:=(hT tx (by rw[iM Y];rfl)).desc;rw[iM Y]at bl;simp only[ak,aK]at L;obtain rfl:=L.inv_str;have:=Src.ofString (P:=P) w bl ⟨bs.toArray⟩;rw[size_mk]at this;refine⟨_,_,_,h,this,by simp[byteCells],λj c Z=>?_⟩;rw[w9]at Z;cases hq:bs[j]? with
  |none=>rw[hq]at Z;cases Z
  |some x=>
    rw[hq]at Z;simp only[A3,w7]at Z;subst Z;refine⟨.int .u8 x.toNat,by simp[byteCells,hq],?_⟩;simp only[aK,zC];exact .int _ _
 .rename_i id g' ar l len
  obtain⟨q,hg,rfl,h⟩:=h;obtain⟨e,_,_,bl,_⟩:=eQ hT q;obtain⟨G,ho,Q,J⟩:=aU h;simp only[ak]at L;have b6:=ig L hg Yv;rcases pV V (b6.spot) ho Q with⟨ad,H,vs,p,hl,bf⟩|⟨H,rfl⟩
  .rw[H]at b6
   rcases b6.2 with⟨f,rfl,_,_⟩|⟨rfl,o,rfl⟩
   .exact⟨_,_,vs,J,Src.ofSlice w bl _ len f vs hl (λj v r=>by rw[ew];exact bf j v r) p.one,p⟩
   .refine⟨_,_,vs,J,?_,p⟩
    have:vs=[]:=z6 YO;subst this;exact Src.ofSlice w bl _ 0 0 [] a8 (λj v r=>by simp at r) (λ_ h=>by cases h)
  .rw[H]at b6
   obtain⟨rfl,rfl⟩:=b6;exact⟨_,_,[],J,Src.ofNil w bl 0,a8,λj c Z=>by simp at Z⟩
 .exact Vs
def Ad(hT:bu P E)(V:Rel O al s β a w){y:AV}{u:Value}(h:contents s F T 1 y k)(L:ak O β s.gen s.obj w y u):
  ∃n cs news,K n cs/\bL O β s w cs news/\z news=n/\((∃l c,u=.slice N l c/\n=0)\/∃ad cap,u=.slice (S ad) n cap/\∀(j:Nat)v,news[j]?=S v->w.cell? (ad.add j)=S v):=by
 unfold contents at h;split at h
 .obtain⟨_,h⟩:=h
  simp only[ak,aK]at L;obtain rfl:=L.inv_nsl;exact⟨0,[],[],h,⟨rfl,λ_ _ Z=>by simp at Z⟩,rfl,.inl ⟨_,_,rfl,rfl⟩⟩
 .rename_i g
  obtain⟨_,az,h⟩:=h;simp only[ak,aK]at L;cases L with
  |sl0=>
    rename_i a cap;refine⟨0,[],[],by simpa using h,⟨rfl,λ_ _ Z=>by simp at Z⟩,rfl,?_⟩;cases a with
    |none=>exact .inl ⟨_,_,rfl,rfl⟩
    |some a=>exact .inr ⟨_,_,rfl,λ_ _ h=>by simp at h⟩
  |sl A cy hJ X Y b7=>
    rename_i b f cap ar
    obtain⟨vs,H,e2,e3⟩:=lj (λ(c:D)v=>aK O β s.gen s.obj w (.d c) v) (λj=>w.cell? ⟨b,f+j,N⟩) g.flatten (λm c Z=>by
     obtain⟨i,I,j,U,W,rfl⟩:=lY g X m c Z;refine⟨A i j,?_,b7 i I U j c W⟩;rw[<-C2];exact Y i I U j c W)
    have hl:z vs=z g:=by rw[H,oZ g az,L8]
    have p:bL O β s w (g.flatten.map .d) vs:=by
     refine⟨by rw[j7,H],λj c Z=>?_⟩;rw[w9]at Z;cases hq:g.flatten[j]? with
     |none=>rw[hq]at Z;cases Z
     |some x=>
       exact W5
    exact⟨_,_,vs,h,p,hl,.inr ⟨⟨b,f,N⟩,cap,rfl,λj v q=>by rw[ew];exact e2 j v q⟩⟩
 .exact absurd h.1 a8
 .rename_i id g' ar f len
  obtain⟨_,hg,rfl,h⟩:=h;obtain⟨r,ho,Q,J⟩:=aU h;simp only[ak]at L;have b6:=ig L hg Yv;rcases pV V (b6.spot) ho Q with⟨ad,G,vs,p,hl,bf⟩|⟨G,rfl⟩
  .rw[G]at b6
   rw[L8]at hl;rcases b6.2 with⟨cap,rfl,_,_⟩|⟨rfl,o,rfl⟩
   .exact⟨_,_,vs,J,p,hl,.inr ⟨_,cap,rfl,λj v q=>by rw[ew];exact bf j v q⟩⟩
   .have:vs=[]:=z6 YO
    subst this;exact⟨_,_,[],J,p,rfl,.inr ⟨_,_,rfl,λj v q=>by simp at q⟩⟩
  .rw[G]at b6
   obtain⟨rfl,rfl⟩:=b6;exact⟨_,_,[],J,⟨a8,λj c Z=>by simp at Z⟩,rfl,.inl ⟨_,_,rfl,rfl⟩⟩
 .exact Vs
def Ae{s:St}:∀{cs:List C}{o:List Int}{vs:List Value},u8s cs=S o->bL O β s w cs vs->vs=o.map (.int .u8)
 |[],o,vs,h,Z=>by
   simp only[u8s]at h;cases h;exact z6 Z.1
 |c::cs,o,vs,h,Z=>by
   match vs,Z with
   |[],Z=>exact absurd Z.1 a8
   |v::vs,Z=>
     cases c with
     |d x=>
       cases x with
       |int k n=>
         cases k with
         |u8=>
           simp only[u8s]at h;obtain⟨a,U,rfl⟩:=G5.1 h;have b:=Z.2 0 _ rfl;obtain⟨u,L,f⟩:∃u,(v::vs)[0]?=S u/\_:=b;cases L;simp only[aK]at f;obtain rfl:=f.inv_int;have g:bL O β s w cs vs:=⟨by simpa using Z.1,λj i m=>by simpa using Z.2 (j+1) i ZL⟩
           rw[s6,Ae U g]
         |_=>simp[u8s]at h
       |_=>simp[u8s]at h
     |_=>simp[u8s]at h
def Af(hT:bu P E)(V:Rel O al s β a w){i dst:Nat}{x:AV}{K:AV->Prop}{k:Box K}(h:tO s (bh E i).desc (E i).desc (E dst).desc x k)(q:ak O β s.gen s.obj w x v):
  ∃X Y,K X/\(∀G,Ext w G->(convert i dst v).run P G=.ok Y G)/\ak O β s.gen s.obj w X Y:=by
 unfold tO at h;split at h
 .rename_i hd
  simp only[ak,aK]at q;obtain rfl:=q.inv_int;have U:=(hT i h.1).desc;have d:=(hT dst YH).desc;rw[hd]at d;refine gz h.2 λw=>?_;simp[convert,run_underlying U,run_underlying d,Conv.intToInt]
 .rename_i g hd
  simp only[ak,aK]at q;obtain rfl:=q.inv_str;have U:=(hT i (by rw[g];rfl)).desc;rw[g]at U;have d:=(hT dst YH).desc;rw[hd]at d;refine Cn h λw=>?_;simp[convert,run_underlying U,run_underlying d]
 .rename_i y e g hd
  obtain⟨f,h⟩:=h;have U:=(hT i (by rw[g];rfl)).desc;rw[g]at U;have d:=(hT dst YH).desc;rw[hd]at d;have Q:bh E i=E e:=by simp[bh,g]
  rw[Q]at f;have m:(E e).desc=.int .u8:=by cases W:(E e).desc<;>rw[W]at f<;>simp[Cd]at f;rename_i kk;cases kk<;>simp[Cd]at f;rfl
  have A:=(hT e (by rw[m];rfl)).desc;rw[m]at A;obtain⟨n,cs,I,J,p,hl,b⟩:=Ad hT V h q;obtain⟨o,Z,J⟩:=aU J;obtain rfl:=Ae Z p;refine⟨_,.string ⟨(o.map λn=>UInt8.ofNat n.toNat).toArray⟩,J,λG bk=>?_,by simp only[ak,aK];exact .str _⟩;rcases b with⟨l,c,rfl,hn⟩|⟨H,u,rfl,bf⟩
  .have:o=[]:=z6 (by rw[<-hn,<-hl];simp)
   subst this;simp[convert,run_underlying U,run_underlying d,run_underlying A,Conv.bytesToString];rfl
  .rw[run_convert_bytes_string G i dst e (S H) n u U A d]
   have L:=run_loadCells_list (P:=P) G H (o.map (Value.int .u8)) (λj v hj=>bk.cell (bf j v hj));rw[j7]at hl;simp only[j7,hl]at L;rw[run_bytesToString G H n u _ L]
   have hf:∀(l:List Int)(r:ByteArray),l.foldl (λr n=>r.push (UInt8.ofNat n.toNat)) r=⟨r.data++(l.map λn=>UInt8.ofNat n.toNat).toArray⟩:=by
    intro l
    induction l with
    |nil=>intro r;simp
    |cons n l ih=>intro r;rw[G7,ih];simp[ByteArray.push]
   rw[hf];have a':ByteArray.empty.data = #[]:=rfl;rw[a'];simp
 .exact Vs
def vw(c:Nat)(V:Rel O al s β a w)(i d:Nat)(hd:d<al){G:World}{arr:Array Value}{el:TypeId}(hw:G.heap=w.heap.push (.cells arr el (0,0)))(n:G.os=w.os/\G.output=w.output){cs:List C}{vs:List Value}
 (Z:bL O β s w cs vs)(g:∀(j:Nat)v,vs[j]?=S v->arr[j]?=S v)(bd:z cs<=arr.size)(a6:c≠0->c<1000000->el+1=c)(sz len cap:Nat)(b:len<=cap)(Q:cap*sz<=arr.size):
  Rel O al ((s.newC c i cs).put (S d) (.one (.osl i (nxC c (s.gen i)) sz 0 len))) (upd β i (S ⟨w.heap.size,0,N⟩)) (a.put (S d) (.slice (S ⟨w.heap.size,0,N⟩) len cap)) G/\
   Tr O β s w (upd β i (S ⟨w.heap.size,0,N⟩)) ((s.newC c i cs).put (S d) (.one (.osl i (nxC c (s.gen i)) sz 0 len))) G:=by
 obtain⟨U,f⟩:=Rel.new c V i hw n bd a6 (λj c l=>let ⟨u,hu,m⟩:=Z.2 j c l;⟨u,g j u hu,m⟩);refine⟨U.put (λq p=>by cases p;exact hd) ?_,f.trans (Tr.same (St.put_gen _ _ _) (St.put_obj _ _ _) rfl)⟩;simp only[ak,aK];refine⟨rfl,by simp[St.newC,upd],λ_ _=>?_⟩;simp only[upd,B5];refine⟨rfl,.inl ⟨cap,a8,b,λx r o h=>?_⟩⟩;rw[hw]at h;simp at h;obtain⟨rfl,_⟩:=h;simpa using Q
def grownCap_ge(w:World)(need old:Nat)(e:TypeId):need<=grownCap w need old e:=by simp[grownCap,Question.cut]
def xd(hT:bu P E)(V:Rel O al s β a w){i d base:Nat}{dst:Option Nat}(hd:∀j,dst=S j->j<al){x:AV}{K:St->Prop}{k:Box K}(h:ng E i d base dst s x k)(H:ak O β s.gen s.obj w x v):
  ∃W A G Y,K W/\(convert i d v).run P w=.ok Y G/\Rel O al W A (a.put dst Y) G/\Tr O β s w A W G:=by
 unfold ng at h;split at h
 .rename_i l bs
  obtain⟨I,f,h⟩:=h;have J:=(hT i (by rw[iM I];rfl)).desc;rw[iM I]at J
  obtain⟨e,u,a6⟩:∃e,(E d).desc=.slice e/\bh E d=E e:=by
   unfold bh at f|-;cases p:(E d).desc with
   |slice e=>exact⟨e,rfl,rfl⟩
   |_=>rw[p]at f;exact absurd (show F=T from f) b9
  have L:=(hT d (by rw[u];rfl)).desc;rw[u]at L;rw[a6]at f;have m:(E e).desc=.int .u8:=by cases p:(E e).desc<;>rw[p]at f<;>simp[Cd]at f;rename_i kk;cases kk<;>simp[Cd]at f;rfl
  have Q:=(hT e (by rw[m];rfl)).desc;rw[m]at Q;have bl:ba E d=e:=by simp[ba,u]
  simp only[ak,aK]at H;obtain rfl:=H.inv_str;have bz:=Lib.run_convert_string_bytes (P:=P) w i d e ⟨bs.toArray⟩ J L Q;have hz:(⟨bs.toArray⟩:ByteArray).size=z bs:=by simp[ByteArray.size]
  have g:(Lib.bytesWorld w e ⟨bs.toArray⟩).heap=w.heap.push (.cells (Lib.bytesCells w e ⟨bs.toArray⟩) e ((Lib.bytesCells w e ⟨bs.toArray⟩).size,(Lib.bytesCells w e ⟨bs.toArray⟩).size+1)):=by
   apply Array.ext_getElem?;intro j;rcases Nat.lt_trichotomy j w.heap.size with y|y|y
   .rw[Lib.bytesWorld_at_old w e _ j y,R6,j9 a7]
   .subst y;rw[Lib.bytesWorld_at_new,R6,l9 rfl]
   .rw[LQ (by rw[Lib.bytesWorld_size];omega),LQ XH]
  have X:=grownCap_ge w (z bs) 0 e
  have az:(Lib.bytesCells w e ⟨bs.toArray⟩).size=grownCap w (z bs) 0 e:=by
   simp[Lib.bytesCells,hz];omega
  rw[bl]at h;refine⟨_,upd β (base+l) (S ⟨w.heap.size,0,N⟩),_,_,h,bz,?_⟩
  obtain⟨U,h2⟩:=V.newAny (c:=e+1) (base+l) (G:=Lib.bytesWorld w e ⟨bs.toArray⟩) (ad:=⟨w.heap.size,0,N⟩) (cs:=bs.map λb=>.d (zC b)) rfl g ⟨rfl,rfl⟩ λq=>
   .ofCells rfl ⟨V.base,Lib.bytesCells w e ⟨bs.toArray⟩,e,(Lib.bytesCells w e ⟨bs.toArray⟩).size,(Lib.bytesCells w e ⟨bs.toArray⟩).size+1,by rw[g];simp,⟨.inr (l8 _),λh=>⟨by rw[mw]at h|-;split at h<;>rename_i Z<;>simp_all,rfl⟩⟩,by rw[az];simpa using X,λj c Z=>by
    rw[w9]at Z;cases p:bs[j]? with
    |none=>rw[p]at Z;cases Z
    |some b=>
      rw[p]at Z;simp only[A3,w7]at Z;subst Z;have y:j<z bs:=(l6.1 p).1;refine⟨.int .u8 b.toNat,?_,by simp only[aK,zC];exact .int _ _⟩;rw[C5,Lib.bytesCells,G1 (by simpa using y)];simp[p]⟩
  refine⟨U.put hd ?_,h2.trans (Tr.same (St.put_gen _ _ _) (St.put_obj _ _ _) rfl)⟩;simp only[ak,aK];refine⟨rfl,by simp[St.newC,upd],λ_ _=>?_⟩;simp only[upd,B5];refine⟨rfl,.inl ⟨grownCap w (z bs) 0 e,rfl,X,λb1 r o h=>?_⟩⟩;rw[g]at h;simp at h;obtain⟨rfl,_⟩:=h;rw[az];simp
 .exact Vs
def uz.zsize{t:Nat}(h:uz P t B){i:TypeInfo}{X:Value}(c:P.info? t=S i)(d:i.zero=S X):X.cells.size=B.size:=by
 obtain⟨f,b,_,_,a,q,Z⟩:=h.info;rw[c]at b;cases b;rw[d]at q;cases q;rw[<-Pg,Z,j7,h.zlen]
def Ma{e g g' off:Nat}(h:code (nxC (apC e g off) g')≠0):code g=e+1/\off=0/\code (nxC (apC e g off) g')=e+1:=by
 unfold apC at h|-;by_cases Z:code g=e+1/\off=0
 .rw[l9 Z]at h|-
  refine⟨Z.1,Z.2,?_⟩;rw[mw]at h|-;split
  .rfl
  .rename_i b;rw[j9 b]at h;exact absurd rfl h
 .rw[j9 Z,mw]at h
  exact absurd rfl h
def QA(e g off:Nat):apC e g off=e+1\/apC e g off=0:=by unfold apC;split<;>simp
def HN{e g off:Nat}(h:apC e g off≠0):code g=apC e g off/\off=0:=by
 unfold apC at h|-;by_cases Z:code g=e+1/\off=0
 .rw[l9 Z];exact Z
 .rw[j9 Z]at h;exact absurd rfl h
def tV(c:Nat)(V:Rel O al s β a w)(L:P.underlying t=S (.slice e))(o:uz P e B)(i d:Nat)(hd:d<al){base:Option Addr}{g b5 n:Nat}{x:Value}{olds news:List Value}
 (bk:(Builtin.firstCells B.size g (.slice base g b5)).run P w.drew=.ok olds.toArray w.drew)(p:z olds=g*B.size)(h:Src P B.size tx x n news w)
 (Z:bL O β s w cs olds)(m:bL O β s w cd news)(hg:b5<g+n)(l:Ce (g+n) B.bytes)(E:c=e+1\/c=0)(ty:TypeId):
  ∃A G Y,(Builtin.append_ #[t,tx] ty #[.slice base g b5,x]).run P w=.ok Y G/\
   Rel O al ((s.newC c i (cs++cd)).put (S d) (.one (.osl i (nxC c (s.gen i)) B.size 0 (g+n)))) A (a.put (S d) Y) G/\
   Tr O β s w A ((s.newC c i (cs++cd)).put (S d) (.one (.osl i (nxC c (s.gen i)) B.size 0 (g+n)))) G:=by
 obtain⟨c0,q,az,H,X,u,c2⟩:=o.info;have r:=o.zsize q u;have b:=nextslicecap_le (g+n) b5 hg;obtain⟨I,l⟩:=l
 have f:((g+n:Nat):Int)<=9223372036854775807:=by
  have:(2*(g+n)+1024)*1<=(2*(g+n)+1024)*B.bytes:=Nat.mul_le_mul_left _ I;omega
 have Q:Builtin.nextslicecap (g+n) b5*c0.bytes<=281474976710656:=by
  rw[H];exact D0 (L4 _ b) l
 rw[<-az]at bk h;have bz:=run_append_grow_src (P:=P) w t tx ty e c0 X L q u base g b5 olds bk x n news h hg f Q;have J:=grownCap_ge w (g+n) b5 e;have W:z news=n*B.size:=by rw[<-az];exact h.newsLen
 have bd:z (olds++news)=(g+n)*B.size:=by rw[j8,p,W,F1]
 refine⟨upd β i (S ⟨w.heap.size,0,N⟩),_,_,bz,?_⟩;refine vw c V i d hd (el:=e) rfl (by exact⟨rfl,rfl⟩) (Z.append m) (λj v y=>?_) ?_ (λU _=>(E.resolve_right U).symm) _ _ _ J ?_
 .rw[G1]
  .simpa using y
  .simpa using(l6.1 y).1
 .have:=(Z.append m).1
  simp at this|-;omega
 .have bl:(Builtin.zeroCells X.cells (grownCap w (g+n) b5 e-(g+n))).size=(grownCap w (g+n) b5 e-(g+n))*B.size:=by
   simp[Builtin.zeroCells,r]
  rw[Array.size_append,bl];have U:(olds++news).toArray.size=(g+n)*B.size:=by simpa using bd
  rw[U,<-F1];exact F7 (by congr 1;omega)
def lC(c:Nat)(V:Rel O al s β a w)(i d:Nat)(hd:d<al)(sz:Nat){x:Option Addr}(I:oK w sz 0 0 v x)(U:v.oneCell'=T)
 (bn:dt O β s.gen s.obj w (nxC c (s.gen i)) [] x)(Z:∀g r A,g≠i->(s.obj g).isSome=T->β g=S r->x=S A->r.block≠A.block)(J:∀b A,x=S A->Imm O β s.obj w b->A.block≠b):
  Rel O al ((s.newC c i []).put (S d) (.one (.osl i (nxC c (s.gen i)) sz 0 0))) (upd β i x) (a.put (S d) v) w/\Tr O β s w (upd β i x) ((s.newC c i []).put (S d) (.one (.osl i (nxC c (s.gen i)) sz 0 0))) w:=by
 have q:fE O β s.gen s.obj w (upd β i x) (s.newC c i []).gen (s.newC c i []).obj w:=by
  refine⟨λb j=>⟨⟨j.1,j.2.1,λg r n bs=>?_⟩,rfl⟩,λg=>?_,λg L n=>?_⟩
  .simp only[St.newC,upd]at n bs
   split at bs
   .exact J b r bs j
   .rename_i H
    simp only[H,B1]at n;exact j.2.2 g r n bs
  .exact Lm
  .simp only[St.newC,upd]at L n|-
   by_cases H:g=i
   .subst H;simp at L;exact absurd L (yv _ _)
   .simp only[H,B1]at n|-
    exact⟨n,trivial,λr b' cu cz cm U=>⟨cu,cz,cm,U,l8 _⟩⟩
 have cx:Rel O al (s.newC c i []) (upd β i x) a w:=by
  refine⟨V.defers,V.size,λi=>ak.keep q _ (V.f i),λg l m=>?_,λQ W X Y U u o p j=>?_,V.base⟩
  .simp only[St.newC,upd]at m|-
   by_cases b8:g=i
   .subst b8
    simp only[B5,w7]at m|-;subst m;exact bn.keep q (λ_ _=>rfl)
   .simp only[b8,B1]at m|-
    exact(V.obj g l m).keep q (λ_ _=>rfl)
  .simp only[St.newC,upd]at U u o p
   by_cases G:Q=i<;>by_cases y:W=i
   .rw[G,y]
   .simp only[G,y,B5,B1]at U u o p
    exact absurd j.symm (Z W Y X y u p o)
   .simp only[G,y,B5,B1]at U u o p
    exact absurd j (Z Q X Y G U o p)
   .simp only[G,y,B1]at U u o p
    exact V.inj Q W X Y U u o p j
 refine⟨cx.put (λd' an=>by cases an;exact hd) ?_,⟨l8 _,λ_ _=>rfl,?_,rfl,rfl⟩⟩
 .simp only[ak,aK]
  refine⟨U,by simp[St.newC,upd],λ_ _=>?_⟩;simp only[upd,B5];exact I
 .rw[St.put_obj,St.put_gen];exact q
def Ag(c:Nat)(V:Rel O al s β a w)(L:P.underlying t=S (.slice e))(b2:uz P e B)(i d:Nat)(hd:d<al){ad:Addr}{off g b5 n:Nat}{x:Value}{cells cd:List C}{news:List Value}
 (av:β i=S ad)(bo:ad.spot=N)(ho:s.obj i=S cells)(Q:off+g*B.size<=z cells)(cy:∀arr el fr,w.heap[ad.block]?=S (.cells arr el fr)->ad.off+off+b5*B.size<=arr.size)
 (hs:Src P B.size tx x n news w)(m:bL O β s w cd news)(hg:g+n<=b5)(E:c≠0->code (s.gen i)=c/\off=0)(ty:TypeId):
  ∃A G Y,(Builtin.append_ #[t,tx] ty #[.slice (S ⟨ad.block,ad.off+off,N⟩) g b5,x]).run P w=.ok Y G/\
   Rel O al ((s.newC c i ((cells.drop off).take (g*B.size)++cd)).put (S d) (.one (.osl i (nxC c (s.gen i)) B.size 0 (g+n)))) A (a.put (S d) Y) G/\
   Tr O β s w A ((s.newC c i ((cells.drop off).take (g*B.size)++cd)).put (S d) (.one (.osl i (nxC c (s.gen i)) B.size 0 (g+n)))) G:=by
 obtain⟨c0,hi,az,c4,X,hz,c2⟩:=b2.info;have bn:=V.obj i cells ho;rw[av]at bn;obtain⟨hB,arr,el,H,a6,r,ar,bd,ca⟩:=bn.cells bo;have J:=cy _ _ _ r;have cb:z news=n*B.size:=hs.newsLen;have I:g*B.size+n*B.size<=b5*B.size:=by rw[<-F1];exact L4 _ hg
 rw[<-az]at hs
 have bz:=run_append_room_src (P:=P) w t tx ty e c0 L hi ad.block (ad.off+off) g b5 x n news hs hg (λj hj=>by
   rw[az,fU r,B8 a7];rfl) (λj hj=>by rw[az];exact sN r ar.1 a7)
 rw[az]at bz;obtain⟨b1,f1,f2,f3⟩:=fW ad.block news (ad.off+off+g*B.size) w arr el (H,a6) r;have k:∀b,b≠ad.block->(w.setCells ad.block (ad.off+off+g*B.size) news).heap[b]?=w.heap[b]?:=λb hb=>heap_setCells_other _ _ _ _ _ hb;generalize bk:w.setCells ad.block (ad.off+off+g*B.size) news=G at *;have o:G.heap.size=w.heap.size:=by rw[<-bk];exact setCells_size _ _ _ _
 have K:G.os=w.os/\G.output=w.output:=by rw[<-bk];exact lX _ _ _ _
 generalize b6:(cells.drop off).take (g*B.size)=front at *;have b0:z front=g*B.size:=by rw[<-b6];simp;omega
 have q:fE O β s.gen s.obj w (upd β i (S ⟨ad.block,ad.off+off,N⟩)) (s.newC c i (front++cd)).gen (s.newC c i (front++cd)).obj G:=by
  refine⟨λb hb=>?_,λi'=>?_,λi' hg a6=>?_⟩
  .have b4:b≠ad.block:=λhe=>hb.2.2 i ad Yv av he.symm
   refine⟨⟨by rw[o];exact hb.1,hb.2.1,λi' a' a6 bs=>?_⟩,k b b4⟩;simp only[St.newC,upd]at a6 bs;split at bs
   .cases bs;exact B7 b4
   .rename_i W
    simp only[W,B1]at a6;exact hb.2.2 i' a' a6 bs
  .exact Lm
  .simp only[St.newC,upd]at hg a6|-
   by_cases b4:i'=i
   .subst b4;simp at hg;exact absurd hg (yv _ _)
   .simp only[b4,B1]at a6|-
    refine⟨a6,trivial,λa' b' cu cz cm U=>?_⟩;rw[k _ (λhb=>b4 (V.inj i' i a' ad a6 Yv b' av hb))]at U;exact⟨cu,cz,cm,U,l8 _⟩
 have cx:Rel O al (s.newC c i (front++cd)) (upd β i (S ⟨ad.block,ad.off+off,N⟩)) a G:=by
  refine⟨V.defers,V.size,λi=>ak.keep q _ (V.f i),λi' l m=>?_,λi1 i2 a1 a2 U h2 cf b7 hb=>?_,by rw[o];exact V.base⟩
  .simp only[St.newC,upd]at m|-
   by_cases b8:i'=i
   .subst b8
    simp only[B5,w7]at m|-;subst m;have v:z cd=z news:=m.1.symm
    have u:code (nxC c (s.gen i'))≠0->el+1=code (nxC c (s.gen i'))/\(⟨ad.block,ad.off+off,N⟩:Addr).off=0:=λch=>by
     have U:code (nxC c (s.gen i'))=c:=by
      rw[mw]at ch|-;split
      .rfl
      .rename_i h;rw[j9 h]at ch;exact absurd rfl ch
     rw[U]at ch|-;obtain⟨q1,q2⟩:=E ch;obtain⟨q3,q4⟩:=ar.2 (by rw[q1];exact ch);exact⟨by rw[q3,q1],by simp[q4,q2]⟩
    refine .ofCells rfl ⟨hB,b1,el,H,a6,f1,⟨by rw[f2];exact ar.1,u⟩,by rw[j8,b0,f2,v];simp only;omega,λj c Z=>?_⟩;rw[f3];simp only at *;rw[L3]at Z;split at Z
    .rename_i hj
     rw[b0]at hj;rw[<-b6,I4,l9 hj,H5]at Z;obtain⟨u',p,bf⟩:=ca _ c Z;refine⟨u',?_,bf.keep q⟩;rw[j9 a7,C2];exact p
    .rename_i hj
     rw[b0]at hj Z;obtain⟨u',p,bf⟩:=m.2 _ c Z;have af:j-g*B.size<z news:=by rw[<-v];exact(l6.1 Z).1
     refine⟨u',?_,bf.keep q⟩;rw[l9 a7,show ad.off+off+j-(ad.off+off+g*B.size)=j-g*B.size by omega];exact p
   .simp only[b8,B1]at m|-
    exact(V.obj i' l m).keep q (λa' b'=>k _ (λhb=>b8 (V.inj i' i a' ad (by simp[m]) Yv b' av hb)))
  .simp only[St.newC,upd]at U h2 cf b7
   by_cases b3:i1=i<;>by_cases y:i2=i
   .rw[b3,y]
   .simp only[b3,y,B5,B1]at U h2 cf b7
    cases cf;exact absurd (V.inj i2 i a2 ad h2 Yv b7 av hb.symm) y
   .simp only[b3,y,B5,B1]at U h2 cf b7
    cases b7;exact absurd (V.inj i1 i a1 ad U Yv cf av hb) b3
   .simp only[b3,y,B1]at U h2 cf b7
    exact V.inj i1 i2 a1 a2 U h2 cf b7 hb
 refine⟨_,_,_,bz,cx.put (λd' an=>by cases an;exact hd) ?_,⟨by rw[o];exact l8 _,λb hb=>k b a7,?_,K⟩⟩
 .simp only[ak,aK]
  refine⟨rfl,by simp[St.newC,upd],λ_ _=>?_⟩;simp only[upd,B5];refine⟨rfl,.inl ⟨b5,a8,hg,λcu cz cm U=>?_⟩⟩;rw[f1]at U;cases U;rw[f2];simpa using J
 .rw[St.put_obj,St.put_gen];exact q
end
end
section
variable{s:St}{al:Nat}{a:Act}{K:St->Prop}{cs:List C}{v u:Value}{k:Box K}
section
variable{P:Program}{E:Nat->TI}{O:Bs}{β:Loc}{w:World}
def Src.eq_nil{size:Nat}{tx:TypeId}{x:Value}{news:List Value}(b:Src P size tx x 0 news w):news=[]:=z6 (by rw[b.newsLen];simp)
def bL.nil_of(h:bL O β s w cs []):cs=[]:=z6 (by rw[<-h.1];rfl)
def CB(V:Rel O al s β a w){i:Nat}{ad:Addr}(ho:(s.obj i).isSome=T)(av:β i=S ad):ad.block<w.heap.size:=by
 obtain⟨b,Z⟩:=M9.1 ho;have:=V.obj i b Z;rw[av]at this;exact this.block.2
def xe(hT:bu P E)(V:Rel O al s β a w){t tx f d:Nat}(cb:dI E t=T)(hd:d<al){x y:AV}
 (h:na (ba E t) (bh E t) (isStr (E tx).desc) (dI E tx) f d s x y k)(hv:ak O β s.gen s.obj w x v)(L:ak O β s.gen s.obj w y u)(ty:TypeId):
  ∃W A G Y,K W/\(Builtin.append_ #[t,tx] ty #[v,u]).run P w=.ok Y G/\Rel O al W A (a.put (S d) Y) G/\Tr O β s w A W G:=by
 obtain⟨e,c1,cc,bl,b2⟩:=eQ hT cb;rw[cc,show ba E t=e from by simp[ba,c1]]at h;unfold na at h;split at h
 .simp only[ak,aK]at hv
  obtain rfl:=hv.inv_nsl;obtain⟨n,cs,news,⟨l,J⟩,hs,p⟩:=pb hT V h L;obtain⟨c0,hi,az,_⟩:=b2.info;by_cases hn:n=0
  .subst hn
   obtain rfl:=Src.eq_nil hs;obtain rfl:=p.nil_of;have bz:=run_append_nothing (P:=P) w t tx ty e c0 bl hi N 0 0 (l8 _) u (by rw[az];exact hs);obtain⟨r1,r2⟩:=lC (e+1) V f d hd (E e).size (x:=N) (v:=.slice N 0 0) ⟨rfl,rfl⟩ rfl rfl (λ_ _ _ _ _ _ I=>by cases I) (λ_ _ I=>by cases I);exact⟨_,_,_,_,J,bz,r1,r2⟩
  .obtain⟨A,G,Y,g1,g2,g3⟩:=tV (e+1) V bl b2 f d hd (base:=N) (g:=0) (b5:=0) (n:=n) (x:=u) (cs:=[]) (cd:=cs) (olds:=[]) (news:=news)
    (run_firstCells_none w.drew _ _ _ _) a8 hs ⟨rfl,λ_ _ Z=>by simp at Z⟩ p a7 (by simpa using l) (.inl rfl) ty (tx:=tx)
   simp only[A7,C5]at g2 g3;exact⟨_,_,_,_,J,g1,g2,g3⟩
 .rename_i id g' sz b' len
  obtain⟨hg,rfl,h⟩:=h;obtain⟨cv,ho,Q,h⟩:=aU h;simp only[ak]at hv;have b6:=ig hv hg Yv;obtain⟨n,cs,news,⟨l,J⟩,hs,p⟩:=pb hT V h L;obtain⟨c0,hi,az,_⟩:=b2.info;have bn:=V.obj id cv ho
  -- an empty handle,to c' nothing is a1
  have m:len=0->n=0->v.oneCell'=T->∀(b1:∃b,v=.slice b 0 0),∃W A G Y,K W/\(Builtin.append_ #[t,tx] ty #[v,u]).run P w=.ok Y G/\Rel O al W A (a.put (S d) Y) G/\Tr O β s w A W G:=by
   rintro rfl rfl c2 ⟨b,rfl⟩;obtain rfl:=Src.eq_nil hs;obtain rfl:=p.nil_of;have bz:=run_append_nothing (P:=P) w t tx ty e c0 bl hi b 0 0 (l8 _) u (by rw[az];exact hs);simp only[Nat.zero_mul,M1,s9,LN]at J;cases av:β id with
   |none=>
     rw[av]at b6 bn;obtain⟨r1,r2⟩:=lC (apC e (s.gen id) b') V id d hd (E e).size (x:=N) (v:=.slice b 0 0) ⟨rfl,b6.2⟩ c2 rfl (λ_ _ _ _ _ _ I=>by cases I) (λ_ _ I=>by cases I);exact⟨_,_,_,_,J,bz,r1,r2⟩
   |some ad=>
     rw[av]at b6 bn;obtain⟨bo,b6⟩:=b6;obtain⟨hB,arr,el,H,a6,r,ar,bd,ca⟩:=bn.cells bo
     have I:oK w (E e).size 0 0 (.slice b 0 0) (S ⟨ad.block,ad.off+b',N⟩):=by
      rcases b6 with⟨cap,cx,_,Z⟩|⟨_,o,q⟩
      .cases cx
       exact⟨rfl,.inl ⟨0,a8,l8 _,λcu cz cm U=>by have:=Z _ _ _ U;simpa using this⟩⟩
      .exact⟨rfl,.inr ⟨rfl,o,q⟩⟩
     obtain⟨r1,r2⟩:=lC (apC e (s.gen id) b') V id d hd (E e).size (x:=S ⟨ad.block,ad.off+b',N⟩) (v:=.slice b 0 0) I c2
      (.ofCells rfl ⟨hB,arr,el,H,a6,r,⟨ar.1,λch=>by obtain⟨q1,q2,q3⟩:=Ma ch;obtain⟨q4,q5⟩:=ar.2 (by rw[q1];omega);exact⟨by rw[q3,q4,q1],by simp[q5,q2]⟩⟩,by simp at Q|-;omega,λ_ _ Z=>by simp at Z⟩)
      (λi' a' b0 b4 b3 cf b7 hb=>by cases b7;exact b4 (V.inj i' id a' ad b3 Yv cf av hb)) (λX b0 b7 hb=>by cases b7;exact hb.2.2 id ad Yv av)
     exact⟨_,_,_,_,J,bz,r1,r2⟩
  -- c8 cv c6 ek there c7
  have c:∀base b5,v=.slice base len b5->len*(E e).size=0\/(∃ad,β id=S ad/\base=S ⟨ad.block,ad.off+b',N⟩)->b5<len+n->
    ∃W A G Y,K W/\(Builtin.append_ #[t,tx] ty #[v,u]).run P w=.ok Y G/\Rel O al W A (a.put (S d) Y) G/\Tr O β s w A W G:=by
   rintro base b5 rfl i af
   have bk:∃olds,(Builtin.firstCells (E e).size len (.slice base len b5)).run P w.drew=.ok olds.toArray w.drew/\z olds=len*(E e).size/\bL O β s w ((cv.drop b').take (len*(E e).size)) olds:=by
    rcases i with h0|⟨ad,av,rfl⟩
    .refine⟨[],?_,by simp[h0],by simp[h0],λ_ _ Z=>by rw[h0]at Z;simp at Z⟩
     cases base with
     |none=>exact run_firstCells_none w.drew _ _ _ _
     |some b=>exact run_firstCells_some w.drew _ _ b _ _ [] (by simp[h0]) (λ_ _ Z=>by simp at Z)
    .rcases pV V (b6.spot) ho Q with⟨dc,bs,vs,c4,hl,bf⟩|⟨bs,rfl⟩
     .rw[av]at bs;cases bs
      exact⟨vs,run_firstCells_some w.drew _ _ _ _ _ vs hl (λj u L=>by rw[ew];simpa using bf j u L),hl,c4⟩
     .rw[av]at bs;cases bs
   obtain⟨olds,o1,o2,B⟩:=bk;obtain⟨A,G,Y,g1,g2,g3⟩:=tV (apC e (s.gen id) b') V bl b2 id d hd (base:=base) (g:=len) (b5:=b5) (n:=n) (x:=u) o1 o2 hs B p af l (QA _ _ _) ty (tx:=tx);exact⟨_,_,_,_,J,g1,g2,g3⟩
  cases av:β id with
  |none=>
    rw[av]at b6;obtain⟨b8,rfl⟩:=b6;by_cases hn:n=0
    .exact m b8 hn rfl ⟨N,rfl⟩
    .subst b8
     exact c N 0 rfl (.inl a8) a7
  |some ad=>
    rw[av]at b6;obtain⟨bo,b6⟩:=b6;rcases b6 with⟨cap,rfl,cy,Z⟩|⟨b8,o,rfl⟩
    .by_cases af:cap<len+n
     .exact c _ cap rfl (.inr ⟨ad,av,rfl⟩) af
     .obtain⟨A,G,Y,g1,g2,g3⟩:=Ag (apC e (s.gen id) b') V bl b2 id d hd av bo ho Q Z hs p a7 HN ty
      exact⟨_,_,_,_,J,g1,g2,g3⟩
    .by_cases hn:n=0
     .exact m b8 hn rfl ⟨_,rfl⟩
     .subst b8
      exact c _ 0 rfl (.inl a8) a7
 .exact Vs
def sO(hT:bu P E)(V:Rel O al s β a w){t f d:Nat}(cb:dI E t=T)(hd:d<al){x y:AV}
 (h:jV (ba E t) (bh E t) f d s x y k)(B:ak O β s.gen s.obj w x v)(L:ak O β s.gen s.obj w y u):
  ∃W A G Y,K W/\(Instr.makeSlice t v u).run P w=.ok Y G/\Rel O al W A (a.put (S d) Y) G/\Tr O β s w A W G:=by
 obtain⟨e,c1,cc,bl,l⟩:=eQ hT cb;rw[cc,show ba E t=e from by simp[ba,c1]]at h;unfold jV at h;split at h
 .rename_i k1 n k2 m
  obtain⟨h0,U,h2,h3,J⟩:=h;simp only[ak,aK]at B L;obtain rfl:=B.inv_int;obtain rfl:=L.inv_int;obtain⟨c0,Q,az,c4,X,hz,c2⟩:=l.info;have bz:=run_make (P:=P) w t e c0 X bl Q hz k1 k2 n m h0 U (by rw[c4,Int.mul_comm];exact h3) a7;have r:=l.zsize Q hz
  have H:z ((List.replicate m.toNat ((E e).zero.map C.d)).flatten)=m.toNat*(E e).size:=by
   simp[l.zlen]
  refine⟨_,upd β f (S ⟨w.heap.size,0,N⟩),_,_,J,bz,?_⟩;refine vw (e+1) V f d hd rfl (by exact⟨rfl,rfl⟩) (vs:=(madeCells X.cells (m.toNat*c0.size)).toList) ⟨?_,λj c Z=>?_⟩ (λj v B=>by simpa using B) ?_ (λ_ _=>rfl) _ _ _ a7 ?_
  .rw[H,Pg,size_madeCells,az]
  .have af:j<m.toNat*(E e).size:=by rw[<-H];exact(l6.1 Z).1
   obtain⟨i,e',b,q1,p,q3⟩:=lY (sz:=(E e).size) _ (λe' I=>by rw[F6 I,j7,l.zlen]) j c Z;have I:e'=(E e).zero.map C.d:=F6 (l7 q1);subst I;rw[w9]at p;cases q:(E e).zero[b]? with
   |none=>rw[q]at p;cases p
   |some x=>
     rw[q]at p;simp only[A3,w7]at p;subst p;have cm:b<(E e).size:=by rw[<-l.zlen];exact(l6.1 q).1
     have o:j%X.cells.size=b:=by rw[r,q3,U5,Nat.mul_add_mod,L2 cm]
     have g:X.cells[b]?=S (dV x):=by rw[<-I8,c2,w9,q];rfl
     refine⟨dV x,?_,?_⟩
     .rw[I8]
      have:j<m.toNat*c0.size:=by rw[az];exact af
      simp only[madeCells,Array.getElem?_map,Array.getElem?_range,this,B5,A3,o];rw[getElem!_def,g]
     .simp only[aK]
      exact cD.of_plain (by have:=l.plain;rw[x9]at this;exact this x (l7 q))
  .rw[H,size_madeCells,az];exact l8 _
  .rw[size_madeCells,az];exact l8 _
 .exact Vs
def xD(off:Nat):∀(l:List Value)(k:Nat)(c:Array Value),((l.zipIdx k).foldl (λcs(p:Value×Nat)=>cs.setIfInBounds (off+p.2) p.1) c).size=c.size/\
  ∀j,((l.zipIdx k).foldl (λcs(p:Value×Nat)=>cs.setIfInBounds (off+p.2) p.1) c)[j]?=if off+k<=j/\j<off+k+z l/\j<c.size then l[j-(off+k)]? else c[j]?
 |[],k,c=>⟨rfl,λj=>by rw[j9 XH];rfl⟩
 |v::l,k,c=>by
   simp only[List.zipIdx_cons,G7];obtain⟨U,e⟩:=xD off l (k+1) (c.setIfInBounds (off+k) v);refine⟨by rw[U];simp,λj=>?_⟩;rw[e j];simp only[T7,l4];by_cases b:j=off+k
   .subst b
    rw[j9 a7];by_cases d:off+k<c.size
    .rw[l9 a7,O0 d];simp
    .rw[j9 a7];simp[d]
   .by_cases Z:off+(k+1)<=j/\j<off+(k+1)+z l/\j<c.size
    .rw[l9 Z,l9 a7]
     have:j-(off+k)=(j-(off+(k+1)))+1:=a7;rw[this,u7]
    .rw[j9 Z,j9 a7,N0 (B7 b)]
def xE{pl:Nat->Option (Nat×Nat)}{i off sz:Nat}{v:Value}{vs:List Value}{cells:Array Value}{rest:List (Nat×Value)}(c:pl i=S (off,sz))(b:v.cells=vs.toArray)(hl:z vs=sz)(Q:off+sz<=cells.size):
  ∃l:Array Value,Instr.fill pl cells ((i,v)::rest)=Instr.fill pl l rest/\l.size=cells.size/\∀j,l[j]?=if off<=j/\j<off+sz/\j<cells.size then vs[j-off]? else cells[j]?:=by
 obtain⟨U,d⟩:=xD off vs 0 cells;have az:v.cells.size=sz:=by rw[b];simpa using hl
 refine⟨_,?_,U,λj=>?_⟩
 .simp only[Instr.fill,c,az,ne_eq,Tn,L7,T6,gt_iff_lt,B4,j9 (Nat.not_lt.2 Q)]
  rw[b];congr 1;simp
 .have:=d j
  simp only[LN,hl]at this;exact this
def tW{al:Nat}{s:St}{a:Act}(V:Rel O al s β a w){pl:Nat->Option (Nat×Nat)}:∀(ps:List (Nat×Operand)){cells:List C}{g:Array Value}{K:List C->Prop}{k:Box K},bL O β s w cells g.toList->
  uZ pl cells (ps.map λp=>(p.1,s.ev p.2)) k->∃l b,K l/\Instr.fill pl g (ps.map λp=>(p.1,a.eval p.2))=S b/\bL O β s w l b.toList
 |[],cells,g,K,k,Z,h=>⟨cells,g,h,rfl,Z⟩
 |p::ps,cells,g,K,k,Z,h=>by
   simp only[s6,uZ]at h;obtain⟨q,i,h⟩:=aU h;obtain⟨cs,b6,hl,Q,h⟩:=aU h;obtain⟨vs,e1,e2,n,A⟩:=ak.cells b6 (V.ev p.2);have b5:g.size=z cells:=by simpa using Z.1
   obtain⟨b,o,r,t⟩:=xE (rest:=ps.map λp=>(p.1,a.eval p.2)) (cells:=g) i e1 (by rw[e2,hl]) a7
   have m:bL O β s w (setAt cells q.1 cs) b.toList:=by
    refine⟨by simp[nr,r,b5],λj c f=>?_⟩;rw[sM]at f;rw[I8,t];split at f
    .rename_i bl
     rw[l9 a7];exact n _ c f
    .rename_i bl
     rw[j9 a7];simpa using Z.2 j c f
   obtain⟨d,e,f1,x,y⟩:=tW V ps m h;exact⟨d,e,f1,by simp only[s6];rw[o];exact x,y⟩
def vx{al:Nat}{s:St}{a:Act}(V:Rel O al s β a w){sz:Nat}:∀(ps:List (Nat×Operand)){k:Nat}{arr:Array Value}{K:List C->Prop}{b:Box K},arr.size=(k+z ps)*sz->
  Cg sz k (ps.map λp=>(p.1,s.ev p.2)) b->∃cs vs g,K cs/\Instr.fill (λi=>S (i*sz,sz)) arr (ps.map λp=>(p.1,a.eval p.2))=S g/\g.size=arr.size/\bL O β s w cs vs/\z vs=z ps*sz/\
   (∀j,j<k*sz->g[j]?=arr[j]?)/\∀(j:Nat)v,vs[j]?=S v->g[k*sz+j]?=S v
 |[],k,arr,K,b,az,h=>⟨[],[],arr,h,rfl,rfl,⟨rfl,λ_ _ h=>by simp at h⟩,a8,λ_ _=>rfl,λ_ _ h=>by simp at h⟩
 |p::ps,k,arr,K,b,az,h=>by
   simp only[s6,Cg]at h;obtain⟨q,h⟩:=h;obtain⟨cs,b6,hl,h⟩:=aU h;obtain⟨vs,e1,e2,r,G⟩:=ak.cells b6 (V.ev p.2);have I:(k+(z ps+1))*sz=k*sz+sz+z ps*sz:=by rw[F1,F1];omega
   simp only[l4]at az;rw[I]at az;obtain⟨t,x,n,o⟩:=xE (pl:=λi=>S (i*sz,sz)) (i:=p.1) (v:=a.eval p.2) (rest:=ps.map λp=>(p.1,a.eval p.2)) (cells:=arr) (by rw[q]) e1 (by rw[e2,hl]) a7;have c:(k+1)*sz=k*sz+sz:=by rw[F1];omega
   obtain⟨rest,e,d,f1,y,A,f4,f5,f6,B⟩:=vx V ps (k:=k+1) (arr:=t) (by rw[n,az,F1,c]) h;have l:z vs=sz:=by rw[e2,hl]
   refine⟨cs++rest,vs++e,d,f1,by simp only[s6];rw[x];exact y,by rw[A,n],bL.append ⟨e2,r⟩ f4,by simp[l,f5,F1];omega,λj f=>?_,λj v f=>?_⟩
   .rw[f6 j a7,o,j9 a7]
   .rw[L3]at f
    split at f
    .rename_i m
     rw[l]at m;rw[f6 _ a7,o,l9 a7,show k*sz+j-k*sz=j by omega];exact f
    .rename_i m
     have:=B _ v f;rw[l]at this m;rw[c,show k*sz+sz+(j-sz)=k*sz+j by omega]at this;exact this
def rD(hT:bu P E)(V:Rel O al s β a w){t f d n:Nat}(Z:dI E t=T)(hd:d<al){ps:List (Nat×Operand)}
 (h:kv (ba E t) (bh E t).size f d n s (ps.map λp=>(p.1,s.ev p.2)) k):
  ∃W A G Y,K W/\(Instr.buildSlice t n (ps.map λp=>(p.1,a.eval p.2)).toArray).run P w=.ok Y G/\Rel O al W A (a.put (S d) Y) G/\Tr O β s w A W G:=by
 obtain⟨e,c1,cc,bl,y⟩:=eQ hT Z;rw[cc,show ba E t=e from by simp[ba,c1]]at h;obtain⟨c0,J,az,c4,X,L,c2⟩:=y.info;have r:=y.zsize J L;obtain⟨B,c,h⟩:=h;rw[j7]at B;have q:¬n*(E e).size>2^24:=a7
 have Q:∀arr:Array Value,arr.size=n*(E e).size->∃cs l,K ((s.newC (e+1) f cs).put (S d) (.one (.osl f (nxC (e+1) (s.gen f)) (E e).size 0 n)))/\Instr.fill (λi=>S (i*(E e).size,(E e).size)) arr (ps.map λp=>(p.1,a.eval p.2))=S l/\bL O β s w cs l.toList/\l.size=n*(E e).size:=λarr g=>by
  obtain⟨cs,vs,l,f1,o,m,f4,f5,f6,f7⟩:=vx V ps (k:=0) (arr:=arr) (by rw[g,C5,B]) h
  have H:vs=l.toList:=by
   apply L0;intro j;have e2:l.toList[j]?=l[j]?:=I8;rw[e2];by_cases U:j<z vs
   .have:=f7 j _ (v8 U)
    rw[v8 U,<-this];simp
   .rw[F3 a7,LQ (by rw[m,g,<-B,<-f5];omega)]
  exact⟨cs,l,f1,o,H▸f4,by rw[m,g]⟩
 have b:∃cs l,K ((s.newC (e+1) f cs).put (S d) (.one (.osl f (nxC (e+1) (s.gen f)) (E e).size 0 n)))/\(Instr.buildSlice t n (ps.map λp=>(p.1,a.eval p.2)).toArray).run P w=.ok (.slice (S ⟨w.heap.size,0,N⟩) n n) (w.alloc (.cells l e))/\bL O β s w cs l.toList/\l.size=n*(E e).size:=by
  unfold Instr.buildSlice;simp only[Sem.run_bind,run_underlying bl,bQ y,Result.andThen_ok,q,B1];by_cases I:n*(E e).size=0
  .obtain⟨cs,l,f1,o,m,f4⟩:=Q ((Array.range (n*(E e).size)).map (λx=>(#[]:Array Value)[x%(#[]:Array Value).size]!)) a8
   refine⟨cs,l,f1,?_,m,f4⟩;simp only[I,B5,Sem.run_bind,Sem.run_pure,Result.andThen_ok];rw[I]at o;simp only[o];simp[newRow]
  .obtain⟨cs,l,f1,o,m,f4⟩:=Q ((Array.range (n*(E e).size)).map (λx=>X.cells[x%X.cells.size]!)) a8
   refine⟨cs,l,f1,?_,m,f4⟩;simp only[I,B1,Sem.run_bind,zeroValue,typeInfo,Sem.run_pure,run_program,Result.andThen_ok,J,L];simp only[o];simp[newRow]
 obtain⟨cs,l,f1,o,m,f4⟩:=b;have b5:z cs=l.size:=by have:=m.1;simpa using this.symm
 refine⟨_,upd β f (S ⟨w.heap.size,0,N⟩),_,_,f1,o,?_⟩;exact vw (e+1) V f d hd (arr:=l) (el:=e) rfl (by exact⟨rfl,rfl⟩) m (λj v H=>by simpa using H) a7 (λ_ _=>rfl) _ _ _ (l8 _) a7
def HO(V:Rel O al s β a w)(i d:Nat)(hd:d<al){el:TypeId}{arr:Array Value}(Z:bL O β s w cs arr.toList):
  Rel O al ((s.newC (el+1) i cs).put (S d) (.one (.ptr i (nxC (el+1) (s.gen i)) 0))) (upd β i (S ⟨w.heap.size,0,N⟩)) (a.put (S d) (.pointer (S ⟨w.heap.size,0,N⟩))) (w.alloc (.cells arr el))/\
   Tr O β s w (upd β i (S ⟨w.heap.size,0,N⟩)) ((s.newC (el+1) i cs).put (S d) (.one (.ptr i (nxC (el+1) (s.gen i)) 0))) (w.alloc (.cells arr el)):=by
 have g:z cs=arr.size:=by have:=Z.1;simpa using this.symm
 obtain⟨U,b⟩:=Rel.new (G:=w.alloc (.cells arr el)) (el+1) V i rfl ⟨rfl,rfl⟩ (cs:=cs) a7 (λ_ _=>rfl) (λj c e=>by simpa using Z.2 j c e);refine⟨U.put (λl f=>by cases f;exact hd) ?_,b.trans (Tr.same (St.put_gen _ _ _) (St.put_obj _ _ _) rfl)⟩;simp only[ak,aK];refine⟨rfl,by simp[St.newC,upd],λ_ _=>⟨⟨w.heap.size,0,N⟩,by simp[upd],rfl,a8⟩⟩
end
end
end
section
attribute[local congr]ite_cc
section
def fX(al:Nat)(l:List Oper):Bool:=l.all λo=>match o.dst with|some d=>decide (d<al)|none=>T
def codeOk(al:Nat):Code->Bool
 |.region _ ops _=>fX al ops.toList
 |.seq x y=>codeOk al x&&codeOk al y
 |.cond _ x y=>codeOk al x&&codeOk al y
 |.block _ c=>codeOk al c
 |.loop c=>codeOk al c
 |.scope c=>codeOk al c
 |.rangeFunc _ b x y=>b.toList.all (λp=>decide (p<al))&&codeOk al x&&codeOk al y
 |_=>T
def vo(P:Program)(o:Oper)(s:St)(R:St->Prop):Prop:=∀(O:Bs)(al:Nat)(β:Loc)(a:Act)(w:World),Rel O al s β a w->(∀d,o.dst=S d->d<al)->∀(next:Act->World->Prop)(Q:Exit->Act->World->Prop),
 (∀W A b G,R W->Rel O al W A b G->Tr O β s w A W G->next b G)->o.wp P a w next Q
def Mb(P:Program)(c:Code)(s:St)(R:Exit->St->Prop):Prop:=∀(O:Bs)(al:Nat)(β:Loc)(a:Act)(w:World),codeOk al c=T->Rel O al s β a w->
 c.wp P (λe b G=>∃W A,R e W/\Rel O al W A b G/\Tr O β s w A W G) a w
def ai(s d:St):Prop:=∀(O:Bs)(al:Nat)(β:Loc)(a:Act)(w:World),Rel O al s β a w->∃A,Rel O al d A a w/\Tr O β s w A d w
def ai.refl(s:St):ai s s:=λ_ _ β _ _ h=>⟨β,h,Tr.refl⟩
def spB(P:Program)(B:Nat):Sp:=⟨vo P,Mb P,ai,B⟩
def sp(P:Program):Sp:=spB P 0
@[go_sem]def Xn(P:Program):(sp P).base=0:=B9 rfl rfl
@[go_sem]def Uy(P:Program)(B:Nat):(spB P B).base=B:=B9 rfl rfl
variable{a:Act}{s:St}{al:Nat}{o:Oper}{Q:Exit->Act->World->Prop}{x:AV}{K:St->Prop}{next:Act->World->Prop}{G:World}{g:Nat->Nat}{ob:Obs}{v:Value}{l:List Oper}{ops:Array Oper}{k:Box K}
section
variable{P:Program}{E:Nat->TI}{O:Bs}{β:Loc}{w:World}{B:Nat}
def gf{Y:Value}(bz:(execOp a.eval o).run P w=.ok (.value Y) G)(b:next (a.put o.dst Y) G):o.wp P a w next Q:=by
 unfold Oper.wp;rw[bz];exact b
def vy(bz:(execOp a.eval o).run P w=.ok .skip G)(b:next (a.put o.dst undef) G):o.wp P a w next Q:=by
 unfold Oper.wp;rw[bz];exact b
def cZ:ak O β g ob w uv undef:=by
 simp only[ak,aS];exact⟨[],rfl,rfl⟩
def Ed{A:Type}{xs:Array A}(h:xs.size=1)(d:A):xs = #[xs.getD 0 d]:=by
 apply Array.ext
 .simp[h]
 .intro i U b
  have:i=0:=a7;subst this;simp[Array.getD,h]
def uL{A:Type}{xs:Array A}(h:xs.size=2)(d:A):xs = #[xs.getD 0 d,xs.getD 1 d]:=by
 apply Array.ext
 .simp[h]
 .intro i U b
  have:i=0\/i=1:=a7;rcases this with rfl|rfl<;>simp[Array.getD,h]
def pd{d:TypeDesc}{f:Nat}{fl:Field}(h:kS d f=S fl):∃fs,d=.struct fs/\fs[f]?=S fl:=by
 cases d<;>simp[kS]at h;exact⟨_,rfl,by simpa using h⟩
def pe(hT:bu P E){fl:Field}(U:okD (E fl.type).desc=T)(c:(E fl.type).size≠0)(b o:Nat):(fieldPlace ⟨b,o,N⟩ fl).run P w=.ok ⟨b,o+fl.offset,N⟩ w:=by
 unfold fieldPlace;rw[Sem.run_bind,bQ (hT _ U)];simp[c,ew]
def sP(hT:bu P E){t f:Nat}{K:AV->Prop}{k:Box K}(h:ja E t f s x k)(hv:ak O β s.gen s.obj w x v):
  ∃y Y,K y/\(∀G,Ext w G->(Instr.fieldAt t v f).run P G=.ok Y G)/\ak O β s.gen s.obj w y Y:=by
 unfold ja at h;split at h
 .rename_i id g c
  obtain⟨m,ho,h⟩:=h;obtain⟨fl,d,⟨U,e⟩,J⟩:=aU h;obtain⟨fs,hd,i⟩:=pd d;have L:=(hT t YH).desc;rw[hd]at L;simp only[ak,aK]at hv;obtain⟨ad,av,bo,rfl⟩:=hv.2.2 m ho;refine⟨_,.pointer (S ⟨ad.block,ad.off+c+fl.offset,N⟩),J,λG _=>?_,?_⟩
  .simp[Instr.fieldAt,run_underlying L,i,Instr.sureAddr,pe hT U e]
  .exact S4
 .rename_i u
  obtain⟨fl,d,⟨U,e⟩,J⟩:=aU h;obtain⟨fs,hd,i⟩:=pd d;have L:=(hT t YH).desc;rw[hd]at L;simp only[ak,aK]at hv;cases hv with
  |iptr A n p q=>
    rename_i b c;refine⟨_,.pointer (S ⟨b,c+fl.offset,N⟩),J,λG _=>?_,?_⟩
    .simp[Instr.fieldAt,run_underlying L,i,Instr.sureAddr,pe hT U e]
    .simp only[ak,aK]
     refine .iptr (λj=>A (fl.offset+j)) (λr=>n (by rintro rfl;simp at r)) (λj x I=>?_) (λj x I=>q _ x (by rw[H5]at I;exact I));rw[H5]at I;rw[C2];exact p _ x I
 .exact Vs
def mD.part{cs:List C}{vs:Array Value}(h:mD O β g ob w cs vs){o n:Nat}(Q:o+n<=z cs):ak O β g ob w (.agg ((cs.drop o).take n)) (.agg (vs.extract o (o+n))):=by
 simp only[ak];refine⟨_,rfl,by simp[h.1];omega,λi c Z=>?_⟩;rw[I4]at Z;split at Z
 .rename_i b
  rw[H5]at Z;obtain⟨u,L,V⟩:=h.2 _ c Z;refine⟨u,?_,V⟩;rw[Array.getElem?_extract];have:i<min (o+n) vs.size-o:=by rw[h.1];omega
  rw[l9 this];exact L
 .cases Z
def yM(hT:bu P E){t f:Nat}{K:AV->Prop}{k:Box K}(h:sC E t f x k)(b:ak O β s.gen s.obj w x v):
  ∃y Y,K y/\(∀G,Ext w G->(Instr.field t v f).run P G=.ok Y G)/\ak O β s.gen s.obj w y Y:=by
 unfold sC at h;split at h
 .rename_i m
  obtain⟨fl,j,U,h⟩:=aU h;obtain⟨fs,hd,d⟩:=pd j;have L:=(hT t YH).desc;rw[hd]at L;have bl:=hT _ U;simp only[ak]at b;obtain⟨vs,rfl,i⟩:=b;unfold zD at h;split at h
  .rename_i e
   refine⟨_,_,h.2,λG _=>?_,mD.part i h.1⟩;simp[Instr.field,run_underlying L,d,asAgg,part,pQ bl,e,bQ bl]
  .rename_i e
   obtain⟨c,Z,J⟩:=aU h;obtain⟨u,p,V⟩:=i.2 _ c Z;refine⟨_,u,J,λG _=>?_,by simpa only[ak]using V⟩;simp[Instr.field,run_underlying L,d,asAgg,part,pQ bl,e,p]
 .exact Vs
def uF{ox:Operand}(ho:o.op=.nilCheck ox){K:AV->Prop}{k:Box K}(h:jU s x k)(b:ak O β s.gen s.obj w x (a.eval ox)):
  ∃y Y,K y/\(∀G,Ext w G->(execOp a.eval o).run P G=.ok (.value Y) G)/\ak O β s.gen s.obj w y Y:=by
 have d:=b;unfold jU at h;split at h
 .obtain⟨c,e,J⟩:=h
  simp only[ak,aK]at b;obtain⟨i,j,m,f⟩:=b.2.2 c e;exact⟨_,_,J,λG _=>by simp[execOp,ho,f],d⟩
 .simp only[ak,aK]at b
  generalize c:a.eval ox=v at b;cases b with
  |iptr A n p q=>exact⟨_,.pointer (S ⟨_,_,N⟩),h,λG _=>by simp[execOp,ho,c];exact⟨rfl,rfl⟩,by rw[c]at d;exact d⟩
 .exact Vs
def aS.get{g:Nat->Nat}{ob:Obs}:∀{ts:List AV}{vs:List Value}{i:Nat}{t:AV},aS O β g ob w ts vs->ts[i]?=S t->∃v,vs[i]?=S v/\ak O β g ob w t v
 |[],_,_,_,_,h=>by simp at h
 |x::ts,vs,i,t,h,hi=>by
   simp only[aS]at h;obtain⟨u,c,rfl,U,b⟩:=h;cases i with
   |zero=>simp at hi;subst hi;exact⟨u,rfl,U⟩
   |succ i=>simpa using aS.get b YV
def rF(hT:bu P E){ar:Sp}(V:Rel O al s β a w)(hp:eL E o.op=T)(h:opA ar E o s k):
  ∃y Y,K (s.put o.dst y)/\(∀G,Ext w G->(execOp a.eval o).run P G=.ok (.value Y) G)/\ak O β s.gen s.obj w y Y:=by
 obtain⟨dst,op,ty,ps,af,gd⟩:=o;cases op with
 |move x=>exact⟨_,_,h,λ_ _=>rfl,V.ev x⟩
 |assign x=>exact⟨_,_,h,λ_ _=>rfl,V.ev x⟩
 |pick c x y=>
   obtain⟨b,hb,J⟩:=qG h (V.ev c);refine⟨_,if b then a.eval x else a.eval y,J,λG _=>?_,?_⟩
   .simp[execOp,hb,asBool]
   .cases b
    .exact V.ev y
    .exact V.ev x
 |load t x=>
   obtain⟨y,Y,U,h2,h3⟩:=tS hT V h (V.ev x);exact Vv
 |indexAddr t x ix=>
   have h:(bif oq (E t).desc then my E (E t).desc s (s.ev x) (s.ev ix) (bx λv=>K (s.put dst v))else dI E t=T/\iZ s (bh E t).size (s.ev x) (s.ev ix) (bx λv=>K (s.put dst v))):=by cases x<;>first|exact h|(simp[eL]at hp;done)
   cases ha:oq (E t).desc with
   |true=>
     rw[ha,Vo]at h;obtain⟨y,Y,U,h2,h3⟩:=vp hT h (V.ev x) (V.ev ix);exact Vv
   |false=>
     rw[ha,Vm]at h;obtain⟨y,Y,U,h2,h3⟩:=sG hT h.1 h.2 (V.ev x) (V.ev ix);exact Vv
 |index t x ix=>
   have L:=(hT t (by rw[iM h.1];rfl)).desc;rw[iM h.1]at L;obtain⟨y,Y,U,h2,h3⟩:=yE (s:=s) L h.2 (V.ev x) (V.ev ix);exact Vv
 |binOp W t x y u=>
   obtain⟨X,Y,U,h2,h3⟩:=Co hT h (V.ev x) (V.ev y) x y;refine⟨X,Y,U,λG bk=>?_,h3⟩;simp only[execOp];rw[Sem.run_bind,h2 G bk];rfl
 |unOp Q t x=>
   have h:unA Q (s.ev x) (bx λv=>K (s.put dst v)):=h;obtain⟨X,Y,U,h2,h3⟩:=FH (P:=P) h (V.ev x);exact oC
 |convert t u x=>
   have av:isSlice (E u).desc=F:=by simpa[eL]using hp
   have h:(bif isSlice (E u).desc then ng E t u ar.base dst s (s.ev x) k else tO s (bh E t).desc (E t).desc (E u).desc (s.ev x) (bx λv=>K (s.put dst v))):=h;rw[av,Vm]at h;obtain⟨X,Y,U,h2,h3⟩:=Af hT V h (V.ev x);exact oC
 |slice t x H hi mx=>
   cases mx with
   |some _=>simp[eL]at hp
   |none=>
     have e1:yH O β s.gen s.obj w (H.map s.ev) (H.map a.eval):=by cases H;exact .none;exact .some (V.ev _)
     have e2:yH O β s.gen s.obj w (hi.map s.ev) (hi.map a.eval):=by cases hi;exact .none;exact .some (V.ev _)
     have h:(bif oq (E t).desc then mz E (E t).desc s (s.ev x) (H.map s.ev) (hi.map s.ev) (bx λv=>K (s.put dst v))else qE s (isStr (E t).desc) (dI E t) (bh E t).size (s.ev x) (H.map s.ev) (hi.map s.ev) (bx λv=>K (s.put dst v))):=h;cases ha:oq (E t).desc with
     |true=>
       rw[ha,Vo]at h
       obtain⟨X,Y,U,h2,h3⟩:=uC hT (λid cs ad U h2 h3 arr el fr h4=>by
        have h5:=V.obj id cs U;rw[h2]at h5;obtain⟨_,b1,r,_,_,h6,_,h7,_⟩:=h5.cells h3;rw[h4]at h6;cases h6;exact h7) h (V.ev x) e1 e2
       exact oC
     |false=>
       rw[ha,Vm]at h;obtain⟨X,Y,U,h2,h3⟩:=yI hT h (V.ev x) e1 e2;exact oC
 |fieldAddr t x f=>
   have h:ja E t f s (s.ev x) (bx λv=>K (s.put dst v)):=h;obtain⟨X,Y,U,h2,h3⟩:=sP hT h (V.ev x);exact oC
 |field t x f=>
   have h:sC E t f (s.ev x) (bx λv=>K (s.put dst v)):=h;obtain⟨X,Y,U,h2,h3⟩:=yM hT h (V.ev x);exact oC
 |lookup t x ix ok=>
   have h:nd E t s (s.ev x) (s.ev ix) ok (bx λv=>K (s.put dst v)):=h;obtain⟨X,Y,U,h2,h3⟩:=wW hT V h (V.ev x) (V.ev ix);exact oC
 |makeFunc fn first q=>
   cases fn with
   |func f=>
     have h:jW f (first.toList.map s.ev) (q.toList.map s.ev) (bx λv=>K (s.put dst v)):=h;obtain⟨X,Y,U,h2,h3⟩:=uA (P:=P) V h;exact oC
   |_=>simp[eL]at hp
 |nilCheck x=>
   have h:jU s (s.ev x) (bx λv=>K (s.put dst v)):=h;exact uF rfl h (V.ev x)
 |extract x i=>
   have h:ou (s.ev x) i (bx λv=>K (s.put dst v)):=h;have I:=V.ev x;unfold ou at h;split at h
   .rename_i ts he
    obtain⟨t,ht,J⟩:=aU h;rw[he]at I;simp only[ak]at I;obtain⟨vs,hv,b8⟩:=I;obtain⟨v,cx,m⟩:=b8.get ht;exact⟨_,v,J,λG _=>by simp[execOp,hv,Instr.extract,cx],m⟩
   .exact Vs
 |build t ps=>
   have h:fS E t (ps.toList.map λp=>(p.1,s.ev p.2)) (bx λv=>K (s.put dst v)):=h;obtain⟨b0,h⟩:=h
   obtain an:(∃fs,(E t).desc=.struct fs/\∀f∈fs.toList,okD (E f.type).desc=T)\/∃n e,(E t).desc=.array n e/\okD (E e).desc=T:=by
    unfold gU at b0;split at b0
    .rename_i fs hq;exact .inl ⟨fs,hq,x9.1 b0⟩
    .rename_i n e hq;exact .inr ⟨n,e,hq,b0⟩
    .cases b0
   have bl:=hT t (by rcases an with⟨_,hd,_⟩|⟨_,_,hd,_⟩<;>rw[hd]<;>rfl);have L:=bl.desc;obtain⟨c0,hi,az,c4,X,hz,c2⟩:=bl.info
   have bd:bL O β s w ((E t).zero.map .d) X.cells.toList:=by
    refine⟨by rw[c2];simp,λj c Z=>?_⟩;rw[c2];rw[w9]at Z|-;cases hq:(E t).zero[j]? with
    |none=>rw[hq]at Z;cases Z
    |some x=>
      exact u2
   obtain⟨cells,g,J,hf,Z⟩:=tW V ps.toList bd h;refine⟨_,.agg g,J,λG _=>?_,by simp only[ak];exact⟨_,rfl,by simpa using Z.1,λi c hi=>by simpa using Z.2 i c hi⟩⟩;have b3:(ps.map λx=>(x.1,a.eval x.2))=(ps.toList.map λp=>(p.1,a.eval p.2)).toArray:=J7 a8;simp only[execOp,Sem.run_bind];rw[show (ps.map λ(i,x)=>(i,a.eval x))=(ps.toList.map λp=>(p.1,a.eval p.2)).toArray from b3];unfold Instr.build;rcases an with⟨fs,hd,bs⟩|⟨n,e,hd,A⟩
   .rw[hd]at L
    have cu:∀l:List Field,(∀f∈l,okD (E f.type).desc=T)->(l.mapM λf=>do pure (f.offset,<-sizeOf f.type):Sem (List (Nat×Nat))).run P G=.ok (l.map λf=>(f.offset,(E f.type).size)) G:=by
     intro l
     induction l with
     |nil=>intro _;simp
     |cons f l ih=>
       intro h;have hf:=bQ (P:=P) (w:=G) (hT _ (h f a8));simp only[P8,Sem.run_bind,hf,Result.andThen_ok,Sem.run_pure,ih (λf hf=>h f (by simp[hf])),s6]
    have B:(λi=>((fs.toList.map λf=>(f.offset,(E f.type).size)).toArray)[i]?)=placeOf E (E t).desc:=by
     funext i;rw[hd];simp only[placeOf,kS,y7,w9,I8];cases hq:fs[i]? with
     |none=>rfl
     |some fl=>
       have:okD (E fl.type).desc=T:=bs fl (by have:=Vg hq;simpa using this);simp[this]
    simp only[Sem.run_bind,zeroValue,typeInfo,run_program,Sem.run_pure,Result.andThen_ok,hi,hz,run_underlying L];have hm:=cu fs.toList bs;rw[<-Array.toArray_toList (xs:=fs),TR,Sem.run_map,hm];simp only[Result.andThen_ok];rw[B,hf];simp
   .rw[hd]at L
    have b2:=bQ (P:=P) (w:=G) (hT e A)
    have B:(λi=>S (i*(E e).size,(E e).size))=placeOf E (E t).desc:=by
     funext i;rw[hd];rfl
    simp only[Sem.run_bind,zeroValue,typeInfo,run_program,Sem.run_pure,Result.andThen_ok,hi,hz,run_underlying L,b2];rw[B,hf];simp
 |call c=>
   simp only[eL]at hp;split at hp
   .rename_i Z
    obtain⟨callee,a1,tys⟩:=c;simp only at Z;subst Z;have h:(a1.size=1/\tys.size=1)/\zE s (isStr (E (tys.getD 0 0)).desc) (dI E (tys.getD 0 0)) (s.ev (a1.getD 0 (.const .nilFunc))) (bx λv=>K (s.put dst v)):=h;obtain⟨⟨ha,ht⟩,h⟩:=h;obtain⟨X,Y,U,h2,h3⟩:=Cp (ty:=ty) hT h (V.ev (a1.getD 0 (.const .nilFunc)));refine⟨X,Y,U,λG bk=>?_,h3⟩;have h2:=h2 G bk;rw[Ed ha (.const .nilFunc),Ed ht 0];generalize a1.getD 0 (.const .nilFunc)=x0 at *;generalize tys.getD 0 0=t0 at *;simp[execOp,resolve,invoke,builtin,h2]
   .rename_i Z
    obtain⟨callee,a1,tys⟩:=c;simp only at Z;subst Z;have h:a1.size=2/\mxA T (s.ev (a1.getD 0 (.const .nilFunc))) (s.ev (a1.getD 1 (.const .nilFunc))) (bx λv=>K (s.put dst v)):=h;obtain⟨ha,h⟩:=h;rw[uL ha (.const .nilFunc)];generalize a1.getD 0 (.const .nilFunc)=x0 at *;generalize a1.getD 1 (.const .nilFunc)=x1 at *;have e0:=V.ev x0;have e1:=V.ev x1;unfold mxA at h;split at h
    .rename_i k1 n1 k2 n2 a' c1
     rw[a']at e0;rw[c1]at e1;simp only[ak,aK]at e0 e1;have e0:=e0.inv_int;have e1:=e1.inv_int;refine⟨_,.int k1 (max n1 n2),h,λG _=>?_,by simp only[ak,aK];exact .int _ _⟩;simp[execOp,resolve,invoke,builtin,Builtin.max_,Builtin.max2,e0,e1];omega
    .exact Vs
   .rename_i Z
    obtain⟨callee,a1,tys⟩:=c;simp only at Z;subst Z;have h:a1.size=2/\mxA F (s.ev (a1.getD 0 (.const .nilFunc))) (s.ev (a1.getD 1 (.const .nilFunc))) (bx λv=>K (s.put dst v)):=h;obtain⟨ha,h⟩:=h;rw[uL ha (.const .nilFunc)];generalize a1.getD 0 (.const .nilFunc)=x0 at *;generalize a1.getD 1 (.const .nilFunc)=x1 at *;have e0:=V.ev x0;have e1:=V.ev x1;unfold mxA at h;split at h
    .rename_i k1 n1 k2 n2 a' c1
     rw[a']at e0;rw[c1]at e1;simp only[ak,aK]at e0 e1;have e0:=e0.inv_int;have e1:=e1.inv_int;refine⟨_,.int k1 (min n1 n2),h,λG _=>?_,by simp only[ak,aK];exact .int _ _⟩;simp[execOp,resolve,invoke,builtin,Builtin.min_,Builtin.min2,e0,e1];omega
    .exact Vs
   .cases hp
 |_=>simp[eL]at hp
def mN(hT:bu P E)(V:Rel O al s β a w)(hd:∀d,o.dst=S d->d<al)(h:opA (spB P B) E o s k)
(hn:∀W A a' G,K W->Rel O al W A a' G->Tr O β s w A W G->next a' G):o.wp P a w next Q:=by
 by_cases I:eL E o.op=T
 .obtain⟨y,Y,U,h2,h3⟩:=rF hT V I h
  exact gf (h2 w .refl) (hn _ _ _ _ U (V.put hd h3) (Tr.same (St.put_gen _ _ _) (St.put_obj _ _ _) rfl))
 .have e:bC (spB P B) o s k->o.wp P a w next Q:=λ⟨R,hR,J⟩=>hR O al β a w V hd next Q (λW A a' G hs=>hn W A a' G (J W hs))
  obtain⟨dst,op,ty,ps,af,gd⟩:=o;cases op with
  |store t x y=>
    have h:sB (E t) s (s.ev x) (s.ev y) (bx λW=>K (W.put dst uv)):=h;obtain⟨W,G,U,h2,h3,h4⟩:=yL hT V h (V.ev x) (V.ev y);refine vy (G:=G) (by simp[execOp,h2]) (hn _ _ _ _ U (h3.put hd cZ) (h4.trans (Tr.same (St.put_gen _ _ _) (St.put_obj _ _ _) rfl)))
  |buildSlice t n p=>
    cases dst with
    |none=>exact e h
    |some d=>
      have h:dI E t=T/\kv (ba E t) (bh E t).size (B+d) d n s (p.toList.map λp=>(p.1,s.ev p.2)) k:=h;obtain⟨W,A,G,Y,U,h2,h3,h4⟩:=rD hT V h.1 (hd d rfl) h.2;refine gf ?_ (hn _ _ _ _ U h3 h4);have:(p.map λx=>(x.1,a.eval x.2))=(p.toList.map λp=>(p.1,a.eval p.2)).toArray:=J7 a8;simp only[execOp,Sem.run_bind];rw[show (p.map λ(i,x)=>(i,a.eval x))=(p.toList.map λp=>(p.1,a.eval p.2)).toArray from this,h2];rfl
  |box t x=>
    cases dst with
    |none=>exact e h
    |some d=>
      have h:Lv t (B+d) d s (s.ev x) k:=h;obtain⟨cs,b6,J⟩:=aU h;obtain⟨vs,e1,e2,e3,e4⟩:=ak.cells b6 (V.ev x);obtain⟨r1,r2⟩:=HO V (B+d) d (hd d rfl) (el:=t) (cs:=cs) (arr:=vs.toArray) ⟨by simpa using e2,λj c Z=>by simpa using e3 j c Z⟩;exact gf (by simp[execOp,Instr.box,newVar,newRow,e1]) (hn _ _ _ _ J r1 r2)
  |alloc t=>
    cases dst with
    |none=>exact e h
    |some d=>
      have h:yw t (E t) (B+d) d s k:=h;obtain⟨an,J⟩:=h;have bl:=hT t an;obtain⟨c0,hi,az,c4,X,hz,c2⟩:=bl.info
      have bd:bL O β s w ((E t).zero.map .d) X.cells.toList:=by
       refine⟨by rw[c2];simp,λj c Z=>?_⟩;rw[c2];rw[w9]at Z|-;cases hq:(E t).zero[j]? with
       |none=>rw[hq]at Z;cases Z
       |some x=>
         exact u2
      obtain⟨r1,r2⟩:=HO V (B+d) d (hd d rfl) (el:=t) bd;exact gf (by simp[execOp,Instr.alloc,newVar,newRow,zeroValue,typeInfo,hi,hz]) (hn _ _ _ _ J r1 r2)
  |makeSlice t l c=>
    cases dst with
    |none=>exact e h
    |some d=>
      have h:dI E t=T/\jV (ba E t) (bh E t) (B+d) d s (s.ev l) (s.ev c) k:=h;obtain⟨W,A,G,Y,U,h2,h3,h4⟩:=sO hT V h.1 (hd d rfl) h.2 (V.ev l) (V.ev c);exact Xr
  |call c=>
    obtain⟨callee,L,tys⟩:=c;cases callee with
    |value f=>exact e h
    |invoke r m=>exact e h
    |builtin b=>
      cases b
      case append=>
       cases dst with
       |none=>exact e h
       |some d=>
         have h:(L.size=2/\tys.size=2)/\dI E (tys.getD 0 0)=T/\na (ba E (tys.getD 0 0)) (bh E (tys.getD 0 0)) (isStr (E (tys.getD 1 0)).desc) (dI E (tys.getD 1 0)) (B+d) d s (s.ev (L.getD 0 (.const .nilFunc))) (s.ev (L.getD 1 (.const .nilFunc))) k:=h;obtain⟨⟨ha,ht⟩,cb,h⟩:=h;obtain⟨W,A,G,Y,U,h2,h3,h4⟩:=xe hT V cb (hd d rfl) h (V.ev _) (V.ev _) ty;refine gf ?_ (hn _ _ _ _ U h3 h4);rw[uL ha (.const .nilFunc),uL ht 0];generalize L.getD 0 (.const .nilFunc)=x0 at *;generalize tys.getD 0 0=t0 at *;generalize L.getD 1 (.const .nilFunc)=x1 at *;generalize tys.getD 1 0=t1 at *;simp[execOp,resolve,invoke,builtin,h2]
      case len=>exact absurd rfl I
      case max=>exact absurd rfl I
      case min=>exact absurd rfl I
      all_goals exact e h
  |slice t x H hi mx=>
    cases mx with
    |none=>exact absurd rfl I
    |some m=>exact e h
  |lookup=>exact absurd rfl I
  |makeFunc fn first q=>
    cases fn with
    |func f=>exact absurd rfl I
    |_=>exact e h
  |makeMap t res=>
    cases res with
    |some _=>exact e h
    |none=>
      cases dst with
      |none=>exact e h
      |some d=>
        have h:mA E t (B+d) d s k:=h;obtain⟨W,A,G,Y,U,h2,h3,h4⟩:=vv (P:=P) V (hd d rfl) h;exact Xr
  |mapUpdate t m ix x=>
    have h:eK E t s (s.ev m) (s.ev ix) (s.ev x) (bx λW=>K (W.put dst uv)):=h;obtain⟨W,G,U,h2,h3,h4⟩:=mL hT V h (V.ev m) (V.ev ix) (V.ev x);exact vy (G:=G) (by simp[execOp,h2]) (hn _ _ _ _ U (h3.put hd cZ) (h4.trans (Tr.same (St.put_gen _ _ _) (St.put_obj _ _ _) rfl)))
  |move=>exact absurd rfl I
  |assign=>exact absurd rfl I
  |pick=>exact absurd rfl I
  |load=>exact absurd rfl I
  |indexAddr t x ix=>cases x<;>first|exact e h|exact absurd rfl I
  |index=>exact absurd rfl I
  |binOp=>exact absurd rfl I
  |unOp=>exact absurd rfl I
  |convert t u x=>
    have av:isSlice (E u).desc=T:=by simpa[eL]using I
    have h:(bif isSlice (E u).desc then ng E t u B dst s (s.ev x) k else tO s (bh E t).desc (E t).desc (E u).desc (s.ev x) (bx λv=>K (s.put dst v))):=h;rw[av,Vo]at h;obtain⟨W,A,G,Y,U,h2,h3,h4⟩:=xd hT V hd h (V.ev x);exact Xr
  |fieldAddr=>exact absurd rfl I
  |field=>exact absurd rfl I
  |build=>exact absurd rfl I
  |nilCheck=>exact absurd rfl I
  |extract=>exact absurd rfl I
  |_=>exact e h
def kx(h:fX al (o::l)=T):(∀d,o.dst=S d->d<al)/\fX al l=T:=by
 simp only[fX,E9,s5]at h|-;refine⟨λd hd=>?_,h.2⟩;have:=h.1;rw[hd]at this;exact Vt
def ak.inv_bool{g:Nat->Nat}{ob:Obs}{b:Bool}{v:Value}(h:ak O β g ob w (bv b) v):v=.bool b:=by
 simp only[ak,aK]at h;exact h.inv_bool
def ak.inv_uv(h:ak O β g ob w uv v):v=undef:=by
 simp only[ak,aS]at h;obtain⟨vs,rfl,rfl⟩:=h;rfl
def Rel.reput(V:Rel O al s β a w){d:Nat}(I:s.f d=x):Rel O al {s with f:=upd s.f d x} β a w:=by
 have:upd s.f d x=s.f:=by funext j;simp only[upd];split<;>simp_all
 rw[this];exact V
def Rel.yielded{al:Nat}{s:St}{a:Act}(V:Rel O al s β a w){ops:Array Oper}{j d:Nat}(e:(ops[j]?).bind (·.dst)=S d){b:Bool}(I:s.f d=bv b):Go.yielded ops a.tmps j=S b:=by
 have c:=V.f d;rw[I]at c;have c:=c.inv_bool;unfold Go.yielded;rw[e];simp only[Ly];rw[z7]at c;cases h:a.tmps[d]? with
 |none=>rw[h]at c;simp[undef]at c
 |some v=>rw[h]at c;simp at c;rw[c]
def Rel.yielded_u(V:Rel O al s β a w){j d:Nat}(c:(ops[j]?).bind (·.dst)=S d)(I:s.f d=uv):Go.yielded ops a.tmps j=N:=by
 have b:=V.f d;rw[I]at b;have b:=b.inv_uv;unfold Go.yielded;rw[c];simp only[Ly];rw[z7]at b;cases h:a.tmps[d]? with
 |none=>rfl
 |some v=>rw[h]at b;simp at b;rw[b];rfl
def lk(hT:bu P E){al:Nat}{ops:Array Oper}{Q:Exit->Act->World->Prop}{K:St->Prop}{k:Box K}:∀(l:List Oper){s:St}{β:Loc}{a:Act}{w:World},Rel O al s β a w->fX al l=T->wpO (spB P B) E ops l s k->
  (∀W A e G,K W->Rel O al W A e G->Tr O β s w A W G->Q .normal e G)->wpList P ops Q l a w
 |[],s,β,a,w,V,_,h,hQ=>hQ s β a w h V Tr.refl
 |o::rest,s,β,a,w,V,ar,h,hQ=>by
   obtain⟨hd,g⟩:=kx ar;unfold wpO at h;unfold wpList;cases hg:o.guard with
   |none=>
     rw[hg]at h;simp only at h;rw[l9 (by simp[Region.wanted,hg])];exact .inl (mN hT V hd h (λW A e G U i c=>lk hT rest i g U (λs2 ad a2 w2 k1 k2 k3=>hQ _ _ _ _ k1 k2 (c.trans k3))))
   |some p=>
     obtain⟨j,t⟩:=p;rw[hg]at h;simp only at h;obtain⟨d,m,h⟩:=aU h;unfold mZ at h;split at h
     .rename_i b f
      have hy:=V.yielded m f;have h:=ka h;have q:=V.reput f;by_cases hw:b=t
      .rw[l9 hw]at h
       rw[l9 Yw];exact .inl (mN hT q hd h (λW A e G U i c=>lk hT rest i g U (λs2 ad a2 w2 k1 k2 k3=>hQ _ _ _ _ k1 k2 (Tr.trans ⟨c.size,c.old,c.keep,c.os⟩ k3))))
      .rw[j9 hw]at h
       rw[j9 Yw];have hp:=q.put hd (x:=uv) (v:=undef) cZ;exact Vy
     .rename_i f
      have hy:=V.yielded_u m f;rw[j9 YX];have hp:=V.put hd (x:=uv) (v:=undef) cZ;exact Vy
     .exact Vs
def iO(hT:bu P E){al:Nat}{ops:Array Oper}{Q:Act->Prop}{K:St->Prop}{k:Box K}(c:List Oper):∀(l:List Oper){s:St}{a:Act},Rel O al s β a w->fX al l=T->l.all (eL E ·.op)=T->wpO (spB P B) E ops (l++c) s k->
  (∀W e,wpO (spB P B) E ops c W k->Rel O al W β e w->Tr O β s w β W w->Q e)->wpStill P ops w Q l a
 |[],s,a,V,_,_,h,hQ=>hQ s a h V Tr.refl
 |o::rest,s,a,V,ar,hp,h,hQ=>by
   obtain⟨hd,g⟩:=kx ar;simp only[E9,s5]at hp;rw[C6]at h;unfold wpO at h;unfold wpStill
   have u:∀{f:St},Rel O al f β a w->Tr O β s w β f w->opA (spB P B) E o f (bx λW=>wpO (spB P B) E ops (rest++c) W k)->o.still P a w (wpStill P ops w Q rest):=λ{f}m J r=>by
    obtain⟨y,Y,U,A,H⟩:=rF hT m hp.1 r;unfold Oper.still;rw[A w .refl];refine⟨rfl,iO hT c rest (m.put hd H) g hp.2 U (λW e k1 k2 k3=>hQ W e k1 k2 (J.trans (Tr.trans (Tr.same (St.put_gen _ _ _) (St.put_obj _ _ _) rfl) k3)))⟩
   cases hg:o.guard with
   |none=>
     exact V5
   |some p=>
     obtain⟨j,t⟩:=p;rw[hg]at h;simp only at h;obtain⟨d,q,h⟩:=aU h;unfold mZ at h;split at h
     .rename_i b i
      have hy:=V.yielded q i;have h:=ka h;have bf:=V.reput i;by_cases hw:b=t
      .exact VU
      .rw[j9 hw]at h
       rw[j9 Yw];have Z:=bf.put hd (x:=uv) (v:=undef) cZ;exact VE
     .rename_i i
      have hy:=V.yielded_u q i;rw[j9 YX];have Z:=V.put hd (x:=uv) (v:=undef) cZ;exact VE
     .exact Vs
def tX(h:fX al l=T)(n:Nat):fX al (l.take n)=T/\fX al (l.drop n)=T:=by
 unfold fX at *;rw[x9]at h;exact⟨x9.2 λx I=>h x (O7 I),x9.2 λx I=>h x (M7 I)⟩
def Ah(hT:bu P E)(V:Rel O al s β a w)(hd:fX al l=T)(h:wpO (spB P B) E ops l s k)
 (c:∀W A b G,K W->Rel O al W A b G->Tr O β s w A W G->Q .normal b G):wpList P ops Q l a w:=lk hT l V hd h c
def rG(hT:bu P E)(m:P.follows .mixedOrders=T){al id:Nat}(V:Rel O al s β a w)(hd:fX al ops.toList=T)(p:oz E ops=T)
 (h:wpO (spB P B) E ops ops.toList s k)(q:∀W A d G,K W->Rel O al W A d G->Tr O β s w A W G->Q .normal d G):(Code.region id ops T).wp P Q a w:=by
 have r:Rel O al s β a {w with drawn:=w.drawn+1}:=V.of_heap rfl;have u:Tr O β s w β s {w with drawn:=w.drawn+1}:=Tr.same rfl rfl rfl;simp only[oz,H9,s5,Q1]at p;rcases p with⟨e,hB⟩|⟨n,_,e,hB⟩
 .refine wp_region_still m hB (iO hT [] ops.toList r hd e (by rw[s9];exact h) (λW d f i j=>q _ _ _ _ f i (u.trans j)))
 .have hl:=wp_region_still_tail (P:=P) (id:=id) (Q:=Q) (a:=a) (w:=w) (l:=ops.toList) (ops.size-n) m (by simpa using hB) ?_
  .simpa using hl
  .obtain⟨t,y⟩:=tX hd (ops.size-n)
   refine iO hT (ops.toList.drop (ops.size-n)) (ops.toList.take (ops.size-n)) r t e (by rw[H7];simpa using h) (λW d f i j=>?_);exact Ah hT i y f (λI J L U b H c=>q _ _ _ _ b H (u.trans (j.trans c)))
def FV(O:Bs)(al:Nat)(β:Loc)(s:St)(w:World)(Q:Exit->St->Prop)(e:Exit)(b:Act)(G:World):Prop:=∃W A,Q e W/\Rel O al W A b G/\Tr O β s w A W G
def FV.of{s b:St}{l:Loc}{c:World}{Q d:Exit->St->Prop}{e:Exit}{f:Act}(i:Tr O β s w l b c)(h:FV O al l b c Q e f G)(j:∀W,Q e W->d e W):FV O al β s w d e f G:=
 let ⟨W,A,U,m,n⟩:=h
 ⟨W,A,j _ U,m,i.trans n⟩
def fc(hT:bu P E)(t:P.follows .mixedOrders=T){al:Nat}:∀(c:Code){Q:Exit->St->Prop}{q:Box Q}{s:St}{β:Loc}{a:Act}{w:World},codeOk al c=T->Rel O al s β a w->wpC (spB P B) E c q s->c.wp P (FV O al β s w Q) a w
 |.skip,_,_,s,β,_,_,_,V,h=>wp_skip ⟨s,β,h,V,Tr.refl⟩
 |.label _,_,_,s,β,_,_,_,V,h=>wp_label ⟨s,β,h,V,Tr.refl⟩
 |.exit _,_,_,s,β,_,_,_,V,h=>wp_exit ⟨s,β,h,V,Tr.refl⟩
 |.goto _,_,_,s,β,_,_,_,V,h=>wp_goto ⟨s,β,h,V,Tr.refl⟩
 |.ret,_,_,s,β,_,_,_,V,h=>wp_ret ⟨s,β,h,V,Tr.refl⟩
 |.region id ops b,Q,q,s,β,a,w,Z,V,h=>by
   cases b with
   |false=>
     have h:wpO (spB P B) E ops ops.toList s (bx λW=>Q .normal W):=h;refine wp_region ?_;have:=wpOps_eq_wpList (P:=P) (ops:=ops) (Q:=FV O al β s w Q) ops.toList 0 a8;rw[<-Q5,Pg]at this;rw[this];exact lk hT ops.toList V Z h (λW A a' G U h2 h3=>⟨W,A,U,h2,h3⟩)
   |true=>
     rcases h with⟨an,h⟩|⟨R,hR,J⟩
     .exact rG hT t V Z an h (λW A a' G U h2 h3=>⟨W,A,U,h2,h3⟩)
     .exact Lw
 |.seq x y,Q,q,s,β,a,w,Z,V,h=>by
   simp only[codeOk,s5]at Z;have h:wpC (spB P B) E x (bx (jD (bx λW=>wpC (spB P B) E y q W) q)) s:=h;refine wp_seq (wp_mono (fc hT t x Z.1 V h) (λe a' G p=>?_));obtain⟨W,A,U,h2,h3⟩:=p;cases e with
   |normal=>exact wp_mono (fc hT t y Z.2 h2 U) (λe X Y p=>FV.of h3 p (λ_ h=>h))
   |_=>exact⟨W,A,U,h2,h3⟩
 |.cond c x y,Q,q,s,β,a,w,Z,V,h=>by
   simp only[codeOk,s5]at Z;obtain⟨b,hb,h⟩:=qG h (V.ev c);refine wp_cond hb ?_;cases b
   .exact fc hT t y Z.2 V h
   .exact fc hT t x Z.1 V h
 |.block id c,Q,q,s,β,a,w,Z,V,h=>by
   have h:wpC (spB P B) E c (bx (jE id q)) s:=h;refine wp_block (wp_mono (fc hT t c Z V h) (λe a' G p=>?_));obtain⟨W,A,U,h2,h3⟩:=p;cases e with
   |exit i=>
     simp only[Exit.inBlock,jE]at U|-;split at U
     .rename_i H;rw[l9 H];exact⟨W,A,U,h2,h3⟩
     .rename_i H;rw[j9 H];exact⟨W,A,U,h2,h3⟩
   |_=>exact⟨W,A,U,h2,h3⟩
 |.scope c,Q,q,s,β,a,w,Z,V,h=>by
   have h:wpC (spB P B) E c (bx (rq q)) s:=h;refine wp_scope_straight (wp_mono (fc hT t c Z V h) (λe a' G p=>?_));obtain⟨W,A,U,h2,h3⟩:=p;cases e with
   |goto l=>exact U.elim
   |_=>exact⟨W,A,U,h2,h3⟩
 |.loop c,Q,q,s,β,a,w,Z,V,h=>by
   obtain⟨I,⟨n,d,b8,h0⟩,g⟩:=h;obtain⟨k,b1,u⟩:=b8 O al β a w V;refine wp_loop_ghost (λn a' G=>∃W A,I n W/\Rel O al W A a' G/\Tr O β s w A W G) n ⟨d,k,h0,b1,u⟩ ?_;rintro n a' G ⟨W,A,U,h2,h3⟩;refine wp_mono (fc hT t c Z h2 (g n W U)) (λe X Y p=>?_);obtain⟨s2,ad,k1,k2,k3⟩:=p;cases e with
   |normal=>
     obtain⟨j,s3,af,m,hI⟩:=k1;obtain⟨r,L,v⟩:=m O al ad X Y k2;exact⟨j,af,s3,r,hI,L,h3.trans (k3.trans v)⟩
   |_=>exact⟨s2,ad,k1,k2,h3.trans k3⟩
 |.rangeFunc f ps x y,Q,q,s,β,a,w,Z,V,h=>by
   obtain⟨R,hR,J⟩:=h;exact Lw
 |.refuse y,Q,q,s,β,a,w,Z,V,h=>by
   obtain⟨R,hR,J⟩:=h;exact Lw
end
end
end
section
section
def iC:D->D
 |.nsl=>.sl []
 |x=>x
inductive Frz (s:St):C->D->Prop where
 |d (x:D):Frz s (.d x) (iC x)
 |osl {id g sz off len:Nat}{cells:List C}{es:List (List D)} (hg:s.gen id=g) (ho:s.obj id=some cells) (Q:off+len*sz<=cells.length) (bd:es.length=len) (az:∀e∈es,e.length=sz)
    (k:Nat->C) (Z:∀(j:Nat)(x:D),es.flatten[j]?=some x->cells[off+j]?=some (k j)) (hf:∀(j:Nat)(x:D),es.flatten[j]?=some x->Frz s (k j) x):Frz s (.osl id g sz off len) (.sl es)
def RVc(J:Nat->Prop)(w:World)(c:C)(v:Value):Prop:=∃x,c=.d x/\cD J w x v
mutual
def RV(J:Nat->Prop)(w:World):AV->Value->Prop
 |.one c,v=>RVc J w c v
 |.agg cs,v=>∃vs:Array Value,v=.agg vs/\vs.size=z cs/\∀(i:Nat)(c:C),cs[i]?=S c->∃u,vs[i]?=S u/\RVc J w c u
 |.tup b,v=>∃vs:List Value,v=.tuple vs.toArray/\RVs J w b vs
 |.junk,_=>False
 |.exact _,_=>False
def RVs(J:Nat->Prop)(w:World):List AV->List Value->Prop
 |[],vs=>vs=[]
 |t::d,vs=>∃u b,vs=u::b/\RV J w t u/\RVs J w d b
end
def FW(P:Program)(f:FuncId):Prop:=∃fn,P.funcs[f]?=S fn/\fn.body.isNone=F/\(fn.name == "runtime.NumGoroutine")=F
def aJ(P:Program)(f:FuncId)(args:List AV)(R:AV->Prop):Prop:=
 FW P f/\∀(J:Nat->Prop)(w:World)(vs:List Value),(∀b,J b->b<w.heap.size)->RVs J w args vs->
  Calls P f vs.toArray w λe G=>∃v r,e=.returned v/\R r/\w.heap.size<=G.heap.size/\(∀b,b<w.heap.size->G.heap[b]?=w.heap[b]?)/\(G.os=w.os/\G.output=w.output)/\RV (λb=>b<G.heap.size/\(b<w.heap.size->J b)) G r v
def aJ.mono{P:Program}{f:FuncId}{args:List AV}{R t:AV->Prop}(h:aJ P f args R)(V:∀r,R r->t r):aJ P f args t:=
 ⟨h.1,λJ w vs b d=>(h.2 J w vs b d).mono λ_ _⟨v,r,U,e,i⟩=>⟨v,r,U,V r e,i⟩⟩
variable{s:St}{a:Act}{c:C}{al:Nat}{f:FuncId}{g:Nat->Nat}{args:Array Operand}{tys:Array TypeId}{R:AV->Prop}
section
variable{P:Program}{E:Nat->TI}{O:Bs}{β:Loc}{w:World}
def RVc.mono{J K:Nat->Prop}{w G:World}{c:C}{v:Value}(h:RVc J w c v)(d:∀b,J b->K b/\G.heap[b]?=w.heap[b]?):RVc K G c v:=
 let ⟨x,U,e⟩:=h
 ⟨x,U,e.mono d⟩
mutual
theorem RV.mono{J K:Nat->Prop}{w G:World}(d:∀b,J b->K b/\G.heap[b]?=w.heap[b]?):(x:AV)->{v:Value}->RV J w x v->RV K G x v
 |.one _,_,h=>by simp only[RV]at h|-;exact RVc.mono h d
 |.agg _,_,h=>by
   simp only[RV]at h|-;obtain⟨vs,U,e,j⟩:=h;exact⟨vs,U,e,λi c Z=>let ⟨u,hu,V⟩:=j i c Z;⟨u,hu,V.mono d⟩⟩
 |.tup k,_,h=>by simp only[RV]at h|-;obtain⟨vs,U,e⟩:=h;exact⟨vs,U,RVs.mono d k e⟩
 |.junk,_,h=>by simp only[RV]at h
 |.exact _,_,h=>by simp only[RV]at h
theorem RVs.mono{J K:Nat->Prop}{w G:World}(d:∀b,J b->K b/\G.heap[b]?=w.heap[b]?):(x:List AV)->{v:List Value}->RVs J w x v->RVs K G x v
 |[],_,h=>by simp only[RVs]at h|-;exact h
 |t::e,_,h=>by simp only[RVs]at h|-;obtain⟨u,i,U,j,k⟩:=h;exact⟨u,i,U,RV.mono d t j,RVs.mono d e k⟩
end
def RVc.rep{ob:Obs}{v:Value}(h:RVc (Imm O β ob w) w c v):aK O β g ob w c v:=by
 obtain⟨x,rfl,I⟩:=h;exact I
mutual
theorem RV.rep{g:Nat->Nat}{ob:Obs}:(x:AV)->{v:Value}->RV (Imm O β ob w) w x v->ak O β g ob w x v
 |.one _,_,h=>by simp only[RV]at h;simp only[ak];exact RVc.rep h
 |.agg _,_,h=>by
   simp only[RV]at h;simp only[ak];obtain⟨vs,U,b,d⟩:=h;exact⟨vs,U,b,λi c Z=>let ⟨u,hu,V⟩:=d i c Z;⟨u,hu,V.rep⟩⟩
 |.tup e,_,h=>by simp only[RV]at h;simp only[ak];obtain⟨vs,U,b⟩:=h;exact⟨vs,U,RVs.rep e b⟩
 |.junk,_,h=>by simp only[RV]at h
 |.exact _,_,h=>by simp only[RV]at h
theorem RVs.rep{g:Nat->Nat}{ob:Obs}:(x:List AV)->{v:List Value}->RVs (Imm O β ob w) w x v->aS O β g ob w x v
 |[],_,h=>by simp only[RVs]at h;simp only[aS];exact h
 |t::b,_,h=>by simp only[RVs]at h;simp only[aS];obtain⟨u,d,U,e,i⟩:=h;exact⟨u,d,U,RV.rep t e,RVs.rep b i⟩
end
def Rel.grow(V:Rel O al s β a w){G:World}(l:w.heap.size<=G.heap.size)(j:∀b,b<w.heap.size->G.heap[b]?=w.heap[b]?)(n:G.os=w.os/\G.output=w.output):Rel O al s β a G/\Tr O β s w β s G:=by
 have q:fE O β s.gen s.obj w β s.gen s.obj G:=⟨λb e=>⟨⟨by have:=e.1;omega,e.2.1,e.2.2⟩,j b e.1⟩,λ_=>l8 _,λid _ ho=>⟨ho,rfl,λm k arr el fr U=>by
  rw[j _ (CB V ho k)]at U;exact⟨arr,el,fr,U,l8 _⟩⟩⟩
 exact⟨⟨V.defers,V.size,λi=>ak.keep q _ (V.f i),λid d ho=>(V.obj id d ho).keep q (λm k=>j _ (CB V ZD k)),V.inj,by have:=V.base;omega⟩,
  l,λb e=>j b (by have:=V.base;omega),q,n⟩
def uM(V:Rel O al s β a w){G:World}{J:Nat->Prop}(e:∀b,J b->Imm O β s.obj w b){b:Nat}(d:b<G.heap.size/\(b<w.heap.size->J b)):Imm O β s.obj G b:=by
 by_cases h:b<w.heap.size
 .obtain⟨U,i,j⟩:=e b (d.2 h)
  exact⟨d.1,i,j⟩
 .refine⟨d.1,λhB=>absurd V.base a7,λid l ho k m=>?_⟩
  have:=CB V ho k;omega
def Ee:C->Bool
 |.d _=>T
 |_=>F
def fk:AV->Bool
 |.one c=>Ee c
 |.agg cs=>cs.all Ee
 |_=>F
def aK.data{ob:Obs}{v:Value}(hd:Ee c=T)(h:aK O β g ob w c v):RVc (Imm O β ob w) w c v:=by
 cases c<;>simp[Ee]at hd;exact⟨_,rfl,h⟩
def ak.data{g:Nat->Nat}{ob:Obs}{x:AV}{v:Value}(hd:fk x=T)(h:ak O β g ob w x v):RV (Imm O β ob w) w x v:=by
 cases x with
 |one c=>simp only[ak]at h;simp only[RV];exact aK.data hd h
 |agg cs=>
   simp only[ak]at h;simp only[RV];obtain⟨vs,U,b,d⟩:=h;refine⟨vs,U,b,λi c Z=>?_⟩;obtain⟨u,L,V⟩:=d i c Z;simp only[fk,x9]at hd;exact⟨u,L,V.data (hd c (l7 Z))⟩
 |tup=>simp[fk]at hd
 |junk=>simp[fk]at hd
 |exact=>simp[fk]at hd
def ky{o:Oper}(ho:o.op=.call ⟨.value (.func f),args,tys⟩)(hf:FW P f)(w:World):
  (execOp a.eval o).run P w=.ok (.enter f (args.map a.eval)) w:=by
 obtain⟨fn,U,b,d⟩:=hf;have b:¬fn.body=N:=by intro h;rw[h]at b;simp at b
 have d:¬fn.name = "runtime.NumGoroutine":=by simpa using d
 simp[execOp,ho,resolve,Act.eval,Deferred.ofValue,invoke,callFunc,U,b,d]
def xF{o:Oper}(ho:o.op=.call ⟨.value (.func f),args,tys⟩)
 (hp:aJ P f (args.toList.map s.ev) R)(hd:(args.toList.map s.ev).all fk=T):vo P o s (λW=>∃r,R r/\W=s.put o.dst r):=by
 intro O al β a w V c next Q hn;unfold Oper.wp;rw[ky ho hp.1 w];exact hO
def dE(args:List AV)(i:Nat):AV:=(args[i]?).getD uv
def lW(s:St):AV->AV->Prop
 |.one c,r=>∃x,Frz s c x/\r=.one (.d x)
 |.agg cs,r=>∃b:List D,z b=z cs/\(∀(i:Nat)(c:C),cs[i]?=S c->∃x,b[i]?=S x/\Frz s c x)/\r=.agg (b.map .d)
 |_,_=>False
def dU(s:St):List AV->List AV->Prop
 |[],rs=>rs=[]
 |t::b,rs=>∃r o,rs=r::o/\lW s t r/\dU s b o
def CC(d:List Nat)(R:AV->Prop):Exit->St->Prop
 |.normal,s|.ret,s=>
   match d with
   |[t]=>∃r,lW s (s.f t) r/\R r
   |e=>∃b,dU s (e.map s.f) b/\R (.tup b)
 |_,_=>False
def Own(O:Bs)(w:World)(b:Nat):Prop:=b<w.heap.size/\(b<O.B->O.I b)
def Frz.rep(V:Rel O al s β a w){x:D}(h:Frz s c x):∀{v:Value},aK O β s.gen s.obj w c v->cD (Own O w) w x v:=by
 induction h with
 |d x=>
   intro v t;have t:cD (Imm O β s.obj w) w x v:=t;have U:cD (Own O w) w x v:=t.mono λb y=>⟨⟨y.1,y.2.1⟩,rfl⟩
   cases x<;>simp only[iC]<;>first|exact U|skip
   cases U;exact .sl0
 |osl G ho Q hlen az k Z X ih=>
   rename_i id g sz off len n es;intro v t;have b6:=ig t G ZD;have A:=V.obj id n ho;cases av:β id with
   |none=>
     exact VT
   |some q=>
     rw[av]at b6 A;obtain⟨J,b6⟩:=b6;obtain⟨hB,arr,el,H,Y,r,ar,bl,ca⟩:=A.cells J;rcases b6 with⟨K,rfl,cy,_⟩|⟨W,o,rfl⟩
     .rw[<-hlen]
      have l:∀i e,es[i]?=S e->∀j x,e[j]?=S x->es.flatten[i*sz+j]?=S x:=λi e he j x I=>by
       exact hV
      have B:∀m x,es.flatten[m]?=S x->∃u,w.cell? ⟨q.block,q.off+off+m,N⟩=S u/\cD (Own O w) w x u:=λm x I=>by
       exact W8
      refine .sl (b:=q.block) (off:=q.off+off) (sz:=sz) (λi j=>(w.cell? ⟨q.block,q.off+off+(i*sz+j),N⟩).getD undef) a7 (λ_=>⟨(E5.1 r).1,λh=>absurd hB a7⟩) az (λi e he j x I=>?_) (λi e he j x I=>?_)
      .obtain⟨u,L,_⟩:=B _ x (l i e he j x I)
       rw[C2,L];rfl
      .obtain⟨u,L,f⟩:=B _ x (l i e he j x I)
       rw[L];exact f
     .subst W
      have:es=[]:=z6 hlen;subst this;exact sn
def lW.rep{al:Nat}{s:St}{a:Act}(V:Rel O al s β a w){x r:AV}(h:lW s x r){v:Value}(b:ak O β s.gen s.obj w x v):RV (Own O w) w r v:=by
 cases x with
 |one c=>
   obtain⟨y,l,rfl⟩:=h;simp only[ak]at b;simp only[RV];exact⟨y,rfl,Frz.rep V l b⟩
 |agg cs=>
   obtain⟨m,hl,I,rfl⟩:=h;simp only[ak]at b;simp only[RV];obtain⟨vs,U,n,o⟩:=b;refine⟨vs,U,by rw[n,j7,hl],λi c Z=>?_⟩;rw[w9]at Z;cases j:m[i]? with
   |none=>rw[j]at Z;cases Z
   |some y=>
     rw[j]at Z;simp only[A3,w7]at Z;subst Z;have k:i<z cs:=by rw[<-hl];exact(l6.1 j).1
     obtain⟨u,L,f⟩:=o i _ (v8 k);obtain⟨e,d,p⟩:=I i _ (v8 k);have:e=y:=by simpa[d]using j
     subst this;exact⟨u,L,e,rfl,Frz.rep V p f⟩
 |tup=>exact h.elim
 |junk=>exact h.elim
 |exact=>exact h.elim
def dU.rep{al:Nat}{s:St}{a:Act}(V:Rel O al s β a w):∀(ts:List Nat){rs:List AV},dU s (ts.map s.f) rs->RVs (Own O w) w rs (ts.map λt=>a.tmps.getD t undef)
 |[],rs,h=>by simp only[x7,dU]at h;subst h;simp only[x7,RVs]
 |t::ts,rs,h=>by
   simp only[s6,dU]at h;obtain⟨r,o,rfl,U,b⟩:=h;simp only[s6,RVs];exact⟨_,_,rfl,U.rep V (V.f t),dU.rep V ts b⟩
def nv(a:Array Value):List Nat->Value
 |[t]=>a.getD t undef
 |b=>.tuple (b.map λt=>a.getD t undef).toArray
def pg{fn:Func}(d:List Nat)(e:fn.results=(d.map ResultVar.tmp).toArray)(a:Array Value):(results fn a).run P w=.ok (nv a d) w:=by
 have h:∀(g:ResultVar->Sem Value)(b:∀t,g (.tmp t)=pure (a.getD t undef))(l:List Nat),((l.map ResultVar.tmp).mapM g).run P w=.ok (l.map λt=>a.getD t undef) w:=by
  intro g b l
  induction l with
  |nil=>simp
  |cons t l i=>simp only[s6,P8,Sem.run_bind,b,Sem.run_pure,Result.andThen_ok,i]
 unfold results;simp only[e,TR,Sem.run_bind,Sem.run_map];rw[h _ (λ_=>rfl) d];simp only[Result.andThen_ok,Sem.run_pure]
 match d with
 |[]=>simp[nv]
 |[t]=>simp[nv]
 |t::j::k=>simp[nv]
def CD(hT:bu P E)(H:P.follows .mixedOrders=T){fn:Func}{c:Code}(hf:P.funcs[f]?=S fn)(hb:fn.body=S c)(Q:(fn.name == "runtime.NumGoroutine")=F)
 (d:List Nat)(X:fn.results=(d.map ResultVar.tmp).toArray)(Y:codeOk fn.ntmps c=T){args:List AV}(m:z args<=fn.ntmps)
 (h:∀g,wpC (sp P) E c (bx (CC d R)) ⟨dE args,g,λ_=>N⟩):aJ P f args R:=by
 refine⟨⟨fn,hf,by rw[hb];rfl,Q⟩,λJ w vs hJ hv=>?_⟩;refine calls_of_wp hf hb ?_
 have Z:∀(l:List AV)(vs:List Value),RVs J w l vs->z vs=z l:=by
  intro l
  induction l with
  |nil=>intro vs h;simp only[RVs]at h;subst h;rfl
  |cons x l o=>intro vs h;simp only[RVs]at h;obtain⟨u,p,rfl,_,h⟩:=h;simp[o p h]
 have hl:=Z _ _ hv
 let K:Nat->Prop:=J
 have V:Rel ⟨w.heap.size,K⟩ fn.ntmps ⟨dE args,λ_=>0,λ_=>N⟩ (λ_=>N) {tmps:=vs.toArray++Array.replicate (fn.ntmps-vs.toArray.size) undef,defers:=[]} w:=by
  refine⟨rfl,by simp;omega,λi=>?_,λid q ho=>ZV,λid L a B ho=>ZV,l8 _⟩
  have al:∀(l:List AV)(vs:List Value),RVs J w l vs->∀(i:Nat)(x:AV),l[i]?=S x->∃v,vs[i]?=S v/\RV J w x v:=by
   intro l
   induction l with
   |nil=>intro vs _ i x h;simp at h
   |cons y l o=>
     intro vs h i x I;simp only[RVs]at h;obtain⟨u,p,rfl,U,h2⟩:=h;cases i with
     |zero=>simp at I;subst I;exact⟨u,rfl,U⟩
     |succ i=>simpa using o p h2 i x YT
  simp only[dE];cases I:args[i]? with
  |some x=>
    exact nf
  |none=>
    exact W1
 refine wp_mono (fc hT H c Y V (h _)) (λe B G hp=>?_);obtain⟨W,A,n,bf,ht⟩:=hp
 have k:∀{e},CC d R e W->(e=.normal\/e=.ret)->∃v,(results fn B.tmps).run P G=.ok v G/\∃r,R r/\RV (Own ⟨w.heap.size,K⟩ G) G r v:=by
  intro e n he;refine⟨_,pg d X B.tmps,?_⟩;have j:CC d R .ret W:=by rcases he with rfl|rfl<;>exact n
  unfold CC at j
  match d,j with
  |[t],⟨r,U,h2⟩=>exact⟨r,h2,U.rep bf (bf.f t)⟩
  |[],⟨rs,U,h2⟩=>exact⟨_,h2,by simp only[RV];exact⟨_,rfl,dU.rep bf [] U⟩⟩
  |t::t'::ts,⟨rs,U,h2⟩=>exact⟨_,h2,by simp only[RV];exact⟨_,rfl,dU.rep bf (t::t'::ts) U⟩⟩
 cases e with
 |normal=>
   obtain⟨v,U,r,h2,h3⟩:=k n (.inl rfl);exact x3
 |ret=>
   obtain⟨v,U,r,h2,h3⟩:=k n (.inr rfl);exact x3
 |exit id=>exact n.elim
 |goto l=>exact n.elim
 |panic ch=>exact n.elim
 |outgrown=>exact n.elim
end
end
end
end Go.Am
