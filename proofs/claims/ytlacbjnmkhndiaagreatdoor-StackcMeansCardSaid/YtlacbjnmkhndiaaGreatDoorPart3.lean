/- A part of the proof; no conditions. -/
import Derived.Test.YtlacbjnmkhndiaaGreatDoorPart2
import Derived.Laws.Strings
import Derived.Laws.StructEq
import Derived.ChangeKeysEq
import Derived.Lib.ConvBytes
import Derived.Laws.BytesString
import Derived.Deep.LoopGhost
import Derived.Deep.Upon
import Derived.Scope
set_option linter.unusedSimpArgs false
set_option linter.unusedVariables false
set_option linter.defProp false
open List renaming length -> z
open Option renaming some -> S, none -> N
open Bool renaming true -> T, false -> F
set_option maxHeartbeats 64000000
set_option maxRecDepth 100000
namespace Go.Am
section
section
def kB:D->Bool
 |.sl _|.fn _|.iptr _|.yld _=>F
 |_=>T
variable{K:AV->Prop}{v:Value}{t:Nat}{s:St}{J:Nat->Prop}{d:TypeDesc}{x:AV}{kd:TypeDesc}{b:Bool}{al:Nat}{a:Act}{op:BinOp}{ok:Bool}{c:Option C}{k:Box K}
def ce.of_plain{w:World}{x:D}(h:kB x=T):ce J w x (dV x):=by
 cases x<;>first|(simp[kB]at h;done)|constructor
structure sH (P:Program) (t:Nat) (B:TI):Prop where
 desc:P.underlying t=some B.desc
 info:∃i,P.info? t=some i/\i.size=B.size/\i.bytes=B.bytes/\∃X,i.zero=some X/\X.cells.toList=B.zero.map dV
 plain:B.zero.all kB=true
 zlen:B.zero.length=B.size
 zone:dF B.desc=false->∀i a,P.info? t=some i->i.zero=some a->a=dV (B.zero.headD .nsl)
def bb(P:Program)(E:Nat->TI):Prop:=∀t,okD (E t).desc=T->sH P t (E t)
def BX(l:List (Nat×TI))(t:Nat):TI:=((l.find? λp=>p.1==t).map (·.2)).getD ⟨.invalid,0,0,[]⟩
def vh{P:Program}{l:List (Nat×TI)}(h:∀p∈l,sH P p.1 p.2):bb P (BX l):=by
 intro t f;unfold BX at *;cases e:l.find? λp=>p.1==t with
 |none=>simp[e,okD]at f
 |some p=>
   have U:=List.find?_some e;have i:=Q8 e;simp only[I3]at U;simpa[U]using h p i
def wS(h:isSlice d=T):okD d=T:=by cases d<;>simp_all[isSlice,okD]
def Fg(h:isSlice d=T):∃e,d=.slice e:=by cases d<;>simp_all[isSlice]
section
variable{P:Program}{E:Nat->TI}{O:Bs}{β:Loc}{g:Nat->Nat}{ob:Obs}{w:World}
def bB{B:TI}(h:sH P t B):(sizeOf t).run P w=.ok B.size w:=by
 obtain⟨i,e,f,_⟩:=h.info;simp[sizeOf,typeInfo,e,f]
def yj(h:dF d=T):d.isRow=T:=by cases d<;>simp_all[dF]
def ou{B:TI}(h:sH P t B):(isAgg t).run P w=.ok (dF B.desc) w:=by
 unfold isAgg;rw[Sem.run_bind,run_underlying h.desc w];simp only[Result.andThen_ok];cases B.desc<;>rfl
def ko{A:Type}(R:A->Value->Prop)(a:Nat->Option Value):∀(cs:List A)(_:∀(j:Nat) (c:A),cs[j]?=S c->∃v,a j=S v/\R c v),
  ∃vs:List Value,z vs=z cs/\(∀(j:Nat)(v:Value),vs[j]?=S v->a j=S v)/\∀(j:Nat)(c:A),cs[j]?=S c->∃v,vs[j]?=S v/\R c v
 |[],_=>⟨[],rfl,⟨λ_ _ h=>by simp at h,λ_ _ h=>by simp at h⟩⟩
 |c::cs,h=>by
   obtain⟨v,f,V⟩:=h 0 c rfl;obtain⟨vs,U,i,l⟩:=ko R (λj=>a (j+1)) cs (λj e Z=>h (j+1) e (by simpa using Z));refine⟨v::vs,by simp[U],λj u L=>?_,λj e Z=>?_⟩
   .cases j with
    |zero=>simp at L;subst L;exact f
    |succ j=>exact i j u (by simpa using L)
   .cases j with
    |zero=>simp at Z;subst Z;exact⟨v,rfl,V⟩
    |succ j=>simpa using l j e (by simpa using Z)
def fg{b:Nat}{arr:Array Value}{el:TypeId}{fr:Nat×Nat}(h:w.heap[b]?=S (.cells arr el fr))(j:Nat):w.cell? ⟨b,j,N⟩=arr[j]?:=by
 simp[World.cell?,h]
def dO(b o j:Nat):(⟨b,o,N⟩:Addr).add j=⟨b,o+j,N⟩:=Addr.add_mid b o j
def aJ{A:Type}{x:Option A}{K:A->Prop}{k:Box K}(h:bG x k):∃a,x=S a/\K a:=by
 cases x with
 |none=>exact h.elim
 |some a=>exact⟨a,rfl,h⟩
def jq{K:Bool->Prop}{k:Box K}(h:jO b k):K b:=by
 cases b
 .exact h.2 rfl
 .exact h.1 rfl
def ce.inv_bool(h:ce J w (.bool b) v):v=.bool b:=by cases h;rfl
def ce.inv_int{k:IntKind}{n:Int}(h:ce J w (.int k n) v):v=.int k n:=by cases h;rfl
def ce.inv_str{s:List UInt8}(h:ce J w (.str s) v):v=.string ⟨s.toArray⟩:=by cases h;rfl
def ce.inv_nsl(h:ce J w .nsl v):v=.slice N 0 0:=by cases h;rfl
def px{K:Bool->Prop}{k:Box K}(h:pt x k)(e:ag O β g ob w x v):∃b,v=.bool b/\K b:=by
 unfold pt at h;split at h
 .rename_i b
  simp only[ag,ay]at e;exact⟨b,e.inv_bool,jq h⟩
 .exact SL
def sf(hT:bb P E)(V:Rel O al s β a w)(h:tq (E t) s x k)
 (o:ag O β s.gen s.obj w x v):∃y Y,K y/\(∀G,Ext w G->(Instr.loadAt t v).run P G=.ok Y G)/\ag O β s.gen s.obj w y Y:=by
 unfold tq at h;split at h
 .rename_i id g l
  obtain⟨I,hg,h⟩:=h;obtain⟨m,ho,h⟩:=aJ h;have n:=hT t I;simp only[ag,ay]at o;obtain⟨_,_,o⟩:=o;obtain⟨q,p,b5,rfl⟩:=o hg VW;have bl:=V.obj id m ho;rw[p]at bl;obtain⟨_,arr,el,H,B,a6,_,bd,ca⟩:=bl.cells b5;unfold xR at h;split at h
  .rename_i e
   obtain⟨az,J⟩:=h
   obtain⟨vs,A,Q,U⟩:=ko (ay O β s.gen s.obj w) (λj=>arr[q.off+(l+j)]?) ((m.drop l).take (E t).size) (λj c Z=>by
    rw[I1]at Z;split at Z
    .rw[H0]at Z;exact ca (l+j) c Z
    .cases Z)
   have hl:z vs=(E t).size:=by rw[A];simp;omega
   refine⟨_,.agg vs.toArray,J,λG bk=>?_,?_⟩
   .refine run_loadAt_mid G q.block (q.off+l) t vs (E t).desc (λj u L=>?_) n.desc (yj e) ?_
    .rw[fg (bk.cells a6)];have:=Q j u L;rwa [<-C0]at this
    .obtain⟨i,B,W,_⟩:=n.info;simp[B,W,hl]
   .simp only[ag]
    exact⟨_,rfl,by simp[A],λi c Z=>by simpa using U i c Z⟩
  .rename_i e
   obtain⟨c,Z,J⟩:=aJ h;obtain⟨u,L,f⟩:=ca l c Z;refine⟨_,u,J,λG bk=>?_,by simpa only[ag]using f⟩;have:G.cell? ⟨q.block,q.off+l,N⟩=S u:=by rw[fg (bk.cells a6)];exact L
   simp[Instr.loadAt,Instr.sureAddr,loadVar,ou n,e,this]
 .rename_i cs
  obtain⟨I,h⟩:=h;have n:=hT t I;simp only[ag,ay]at o;cases o with
  |iptr r hJ b0 b7=>
  rename_i b l;unfold EP at h;split at h
  .rename_i e
   obtain⟨az,J⟩:=h
   obtain⟨vs,A,Q,U⟩:=ko (λ(c:D)v=>ay O β s.gen s.obj w (.d c) v) (λj=>w.cell? ⟨b,l+j,N⟩) (cs.take (E t).size) (λj c Z=>by
    rw[I1]at Z;split at Z
    .exact⟨_,b0 j c Z,b7 j c Z⟩
    .cases Z)
   have hl:z vs=(E t).size:=by rw[A];simp;omega
   refine⟨_,.agg vs.toArray,J,λG bk=>?_,?_⟩
   .refine run_loadAt_mid G b l t vs (E t).desc (λj u L=>bk.cell (Q j u L)) n.desc (yj e) ?_
    obtain⟨i,B,W,_⟩:=n.info;simp[B,W,hl]
   .simp only[ag]
    refine⟨_,rfl,by simp[A],λi c Z=>?_⟩;rw[x8]at Z;cases X:(cs.take (E t).size)[i]? with
    |none=>rw[X]at Z;cases Z
    |some y=>
      rw[X]at Z;simp only[z7,v7]at Z;subst Z;simpa using U i y X
  .rename_i e
   obtain⟨c,Z,J⟩:=aJ h;refine⟨_,r 0,J,λG bk=>?_,by simp only[ag,ay];exact b7 0 c Z⟩;have:G.cell? ⟨b,l,N⟩=S (r 0):=bk.cell (b0 0 c Z);simp[Instr.loadAt,Instr.sureAddr,loadVar,ou n,e,this]
 .exact SL
def eo(hT:bb P E)(h:cZ E t=T):∃e,(E t).desc=.slice e/\aR E t=E e/\P.underlying t=S (.slice e)/\sH P e (E e):=by
 simp only[cZ,s5]at h;obtain⟨e,f⟩:=Fg h.1;have i:aR E t=E e:=by simp[aR,f]
 exact⟨e,f,i,by rw[(hT t (wS h.1)).desc,f],hT e (by rw[<-i];exact h.2)⟩
def fM{id g' sz off len:Nat}(h:ay O β s.gen s.obj w (.osl id g' sz off len) v)(hg:s.gen id=g')(ho:(s.obj id).isSome=T):nj w sz off len v (β id):=h.2.2 hg ho
def nj.slice{sz off len:Nat}{v:Value}{x:Option Addr}(h:nj w sz off len v x):∃a cap,v=.slice a len cap/\len<=cap:=by
 cases x with
 |none=>exact⟨N,0,by rw[h.2,h.1],by rw[h.1];exact l7 _⟩
 |some a=>
   rcases h.2 with⟨cap,e,hl,_⟩|⟨rfl,o,e⟩
   .exact⟨_,cap,e,hl⟩
   .exact⟨_,0,e,l7 _⟩
def ri(hT:bb P E)(av:cZ E t=T){x n:AV}{v Q:Value}
 (h:ik s (aR E t).size x n k)(hv:ag O β s.gen s.obj w x v)(o:ag O β s.gen s.obj w n Q):
  ∃y Y,K y/\(∀G,Ext w G->(Instr.indexAt t v Q).run P G=.ok Y G)/\ag O β s.gen s.obj w y Y:=by
 obtain⟨e,c4,A,L,b2⟩:=eo hT av;rw[A]at h;unfold ik at h;split at h
 .rename_i kd i
  simp only[ag,ay]at o;obtain rfl:=o.inv_int;split at h
  .rename_i q
   obtain⟨l,h⟩:=h;obtain⟨c,Z,az,J⟩:=aJ h;have u:i.toNat<z q:=(l5.1 Z).1;simp only[ag,ay]at hv;cases hv with
   |sl0=>simp at Z
   |sl r H U V X b7=>
   rename_i b f m sz;have a:sz=(E e).size:=by rw[<-az];exact(V c (l6 Z)).symm
   refine⟨_,.pointer (S ⟨b,f+i.toNat*(E e).size,N⟩),J,λG _=>?_,?_⟩
   .have:i<z q:=a7
    simp[Instr.indexAt,asIntOf,run_underlying L,l,this,bB b2,dO]
   .simp only[ag,ay]
    refine .iptr (r i.toNat) (λ_=>U (by rintro rfl;cases Z)) (λj x I=>?_) (λj x I=>b7 _ _ Z j x I);rw[<-a];exact X _ _ Z j x I
  .rename_i id g W f len
   obtain⟨hg,ho,l,u,rfl,J⟩:=h;simp only[ag]at hv;have B:=fM hv hg ho;cases p:β id with
   |none=>
     rw[p]at B;obtain⟨rfl,_⟩:=B;omega
   |some ad=>
     rw[p]at B;obtain⟨b5,B⟩:=B;rcases B with⟨m,rfl,H,_⟩|⟨rfl,_⟩
     .refine⟨_,.pointer (S ⟨ad.block,ad.off+f+i.toNat*(E e).size,N⟩),J,λG _=>?_,?_⟩
      .simp[Instr.indexAt,asIntOf,run_underlying L,l,u,bB b2,dO]
      .exact SG
     .omega
  .exact SL
 .exact SL
def tL(hT:bb P E){x j:AV}{v Q:Value}
 (h:lr E (E t).desc s x j k)(hv:ag O β s.gen s.obj w x v)(l:ag O β s.gen s.obj w j Q):
  ∃y Y,K y/\(∀G,Ext w G->(Instr.indexAt t v Q).run P G=.ok Y G)/\ag O β s.gen s.obj w y Y:=by
 unfold lr at h;split at h
 .rename_i n e hd
  have L:=(hT t V8).desc;rw[hd]at L;split at h
  .rename_i kd i
   simp only[ag,ay]at l;obtain rfl:=l.inv_int;split at h
   .rename_i id g f
    obtain⟨m,ho,o,q,r,J⟩:=h;have b2:=hT e o;simp only[ag,ay]at hv;obtain⟨ad,p,b5,rfl⟩:=hv.2.2 m ho;refine⟨_,.pointer (S ⟨ad.block,ad.off+f+i.toNat*(E e).size,N⟩),J,λG _=>?_,?_⟩
    .simp[Instr.indexAt,asIntOf,run_underlying L,q,r,bB b2,dO,Instr.sureAddr]
    .exact SG
   .exact SL
  .exact SL
 .exact SL
def size_mk(s:List UInt8):(⟨s.toArray⟩:ByteArray).size=z s:=by show s.toArray.size=z s;simp
def getElem?_mk(s:List UInt8)(i:Nat):(⟨s.toArray⟩:ByteArray)[i]?=s[i]?:=by
 by_cases h:i<z s
 .have this:i<(⟨s.toArray⟩:ByteArray).size:=by simpa[ByteArray.size]using h
  rw[getElem?_pos (⟨s.toArray⟩:ByteArray) i this,v8 h];rfl
 .have this:¬i<(⟨s.toArray⟩:ByteArray).size:=by simpa[ByteArray.size]using h
  rw[getElem?_neg (⟨s.toArray⟩:ByteArray) i this,E5 a7]
def wT(L:P.underlying t=S .string){x e:AV}{v Q:Value}
 (h:tr x e k)(f:ag O β s.gen s.obj w x v)(j:ag O β s.gen s.obj w e Q):
  ∃y Y,K y/\(∀G,Ext w G->(Instr.index t v Q).run P G=.ok Y G)/\ag O β s.gen s.obj w y Y:=by
 unfold tr at h;split at h
 .rename_i kd i
  simp only[ag,ay]at j;obtain rfl:=j.inv_int;split at h
  .rename_i bs
   obtain⟨l,h⟩:=h;obtain⟨c,Z,J⟩:=aJ h;simp only[ag,ay]at f;obtain rfl:=f.inv_str;refine⟨_,.int .u8 c.toNat,J,λG _=>?_,by simp only[ag,ay];exact .int _ _⟩;have:(⟨bs.toArray⟩:ByteArray)[i.toNat]?=S c:=by rw[getElem?_mk];exact Z
   simp[Instr.index,asIntOf,run_underlying L,l,this]
  .exact SL
 .exact SL
def fF{kd:IntKind}{n:Int}{x:Sem Value}(h:K (iv kd n))(V:∀w,x.run P w=.ok (.int kd n) w):∃X Y,K X/\(∀G,Ext w G->x.run P G=.ok Y G)/\ag O β g ob w X Y:=
 ⟨_,_,h,λG _=>V G,by simp only[ag,ay];exact .int _ _⟩
def fI{x:Sem Value}(h:K (bv b))(V:∀w,x.run P w=.ok (.bool b) w):∃X Y,K X/\(∀G,Ext w G->x.run P G=.ok Y G)/\ag O β g ob w X Y:=
 ⟨_,_,h,λG _=>V G,by simp only[ag,ay];exact .bool _⟩
def Av{s:List UInt8}{x:Sem Value}(h:K (sv s))(V:∀w,x.run P w=.ok (.string ⟨s.toArray⟩) w):∃X Y,K X/\(∀G,Ext w G->x.run P G=.ok Y G)/\ag O β g ob w X Y:=
 ⟨_,_,h,λG _=>V G,by simp only[ag,ay];exact .str _⟩
def Fh{kd e:IntKind}{x y:Int}{t:TypeId}(f:sameKind op kd e)(h:mW op kd x y k):
  ∃X Y,K X/\(∀G,Ext w G->(binOp op t (.int kd x) (.int e y)).run P G=.ok Y G)/\ag O β g ob w X Y:=by
 cases op<;>simp only[mW,sameKind]at h f<;>(try subst f)
 case quo=>exact fF h.2 (λw=>by simp[binOp,Op.intDiv,h.1])
 case rem=>exact fF h.2 (λw=>by simp[binOp,Op.intDiv,h.1])
 case shl=>have:=Int.not_lt.2 h.1;exact fF h.2 (λw=>by simp[binOp,Op.shift,this])
 case shr=>have:=Int.not_lt.2 h.1;exact fF h.2 (λw=>by simp[binOp,Op.shift,this])
 case add=>exact fF h (λw=>by simp[binOp,Op.intArith])
 case sub=>exact fF h (λw=>by simp[binOp,Op.intArith])
 case mul=>exact fF h (λw=>by simp[binOp,Op.intArith])
 case and=>exact fF h (λw=>by simp[binOp,Op.intBits])
 case or=>exact fF h (λw=>by simp[binOp,Op.intBits])
 case xor=>exact fF h (λw=>by simp[binOp,Op.intBits])
 case andNot=>exact fF h (λw=>by simp[binOp,Op.intBits])
 case eql=>exact fI h (λw=>by simp[binOp,Op.intCmp];rfl)
 case neq=>exact fI h (λw=>by simp[binOp,Op.intCmp];rfl)
 all_goals exact fI h (λw=>by simp[binOp,Op.intCmp])
def sU(x y:List UInt8):(x==y)=decide (x=y):=by rw[N5];simp
def Du(x y:List UInt8):(⟨x.toArray⟩:ByteArray)++(⟨y.toArray⟩:ByteArray)=⟨(x++y).toArray⟩:=by
 apply ByteArray.ext;simp
def Fi{x y:List UInt8}{t:TypeId}(h:Dk op x y k):
  ∃X Y,K X/\(∀G,Ext w G->(binOp op t (.string ⟨x.toArray⟩) (.string ⟨y.toArray⟩)).run P G=.ok Y G)/\ag O β g ob w X Y:=by
 cases op<;>simp only[Dk]at h
 case add=>
  refine Av h.2 λw=>?_;have U:=h.1
  have e:¬(((⟨x.toArray⟩:ByteArray).size+(⟨y.toArray⟩:ByteArray).size:Nat):Int)>IntKind.i64.max:=by
   have f:=size_mk x;have i:=size_mk y;have j:IntKind.i64.max=9223372036854775807:=b9;omega
  simp only[binOp,Op.stringOp,j8 e,Du];rfl
 case eql=>exact fI h (λw=>by simp[binOp,Op.stringOp,sU])
 case neq=>exact fI h (λw=>by simp[binOp,Op.stringOp,sU])
 case lss=>exact fI h (λw=>by simp[binOp,Op.stringOp])
 case leq=>exact fI h (λw=>by simp[binOp,Op.stringOp,sU])
 case gtr=>exact fI h (λw=>by simp[binOp,Op.stringOp,sU])
 case geq=>exact fI h (λw=>by simp[binOp,Op.stringOp])
def ie(op:BinOp)(t:TypeId)(x y:Operand)(a b:Value)(h:∀cs,a≠.agg cs)(e:a≠.nilIface):(eqGuard op t x y a b).run P w=.ok () w:=by
 unfold eqGuard;cases op<;>(try rfl)<;>(cases a<;>first|(exfalso;exact h _ rfl)|(exfalso;exact e rfl)|rfl)
def run_equal_bool{t:TypeId}(L:P.underlying t=S .bool)(a b:Bool):(Op.equal t (.bool a) (.bool b)).run P w=.ok (a==b) w:=by
 obtain⟨d,hd⟩:∃d,Op.maxDepth=d+1:=⟨9999,rfl⟩
 unfold Op.equal;rw[hd];simp[Op.equalIn,run_underlying L]
def pA{g:Nat->Nat}{ob:Obs}{k:IntKind}:∀{cs:List C}{m:List Int}{vs:List Value},vE k cs=S m->z vs=z cs->(∀(i:Nat)(c:C),cs[i]?=S c->∃u,vs[i]?=S u/\ay O β g ob w c u)->vs=m.map (Value.int k)
 |[],m,vs,h,hl,_=>by
   cases h;simpa using hl
 |c::cs,m,vs,h,hl,V=>by
   obtain⟨u,L,Z⟩:=V 0 c rfl
   match vs,hl with
   |v::vs,hl=>
     obtain rfl:=G6 L;unfold vE at h;split at h
     .rename_i e;cases e
     .rename_i j n r e
      cases e;split at h
      .rename_i l
       subst l;cases f:vE j cs with
       |none=>rw[f]at h;cases h
       |some ms=>
         rw[f]at h;cases h;simp only[ay]at Z;rw[Z.inv_int,pA f Wf (λi c h=>V (i+1) c h)];rfl
      .cases h
     .cases h
def qm{e:TypeId}{k:IntKind}(f:P.underlying e=S (.int k)){cs:List Value}{i:Nat}(h:cs[i]?=S v):(part e cs.toArray i).run P w=.ok v w:=by
 simp[part,isAgg,run_underlying f,h]
def mL{e:TypeId}{k:IntKind}(f:P.underlying e=S (.int k))(d:Nat){xs Q:List Int}:∀(m j:Nat)(w:World),z xs=j+m->z Q=j+m->
  (Op.eqItems (d+1) e 1 (xs.map (Value.int k)).toArray (Q.map (Value.int k)).toArray (List.range' j m)).run P w=.ok (decide (xs.drop j=Q.drop j)) w
 |0,j,w,I,l=>by
   rw[y9 a7,y9 a7];simp[Op.eqItems]
 |m+1,j,w,I,l=>by
   have U:j<z xs:=a7;have i:j<z Q:=a7;rw[List.range'_succ];simp only[Op.eqItems,Sem.run_bind,L3];rw[qm f (v:=.int k xs[j]) (by simp[U])];simp only[Result.andThen_ok];rw[qm f (v:=.int k Q[j]) (by simp[i])];simp only[Result.andThen_ok];rw[run_equalIn_int w d e k k _ _ f];simp only[Result.andThen_ok]
   have n:decide (xs.drop j=Q.drop j)=(decide (xs[j]=Q[j])&&decide (xs.drop (j+1)=Q.drop (j+1))):=by
    rw[C1 U,C1 i];simp only[P7,Bool.decide_and]
   rw[n];by_cases h:xs[j]=Q[j]
   .simp only[h,beq_self_eq_true,N4,D7,A8,RZ,x6]
    exact mL f d m (j+1) w a7 a7
   .have o:(xs[j]==Q[j])=F:=by simpa using h
    simp[o,h]
def tM(hT:bb P E){g:Nat->Nat}{ob:Obs}{t n e:Nat}{xs Q:List C}{vs f:Array Value}(l:P.underlying t=S (.array n e)){K:Bool->Prop}{k:Box K}(h:Ja (E e) n xs Q k)
 (o:ly O β g ob w xs vs)(L:ly O β g ob w Q f):∃b,K b/\∀G,(Op.equalIn 10000 t (.agg vs) (.agg f)).run P G=.ok b G/\P.eqGuardType P.depth t=F:=by
 unfold Ja at h;split at h
 .rename_i kd hd
  obtain⟨q,h⟩:=h;have b2:=hT e V8;have j:=b2.desc;rw[hd]at j;obtain⟨i,p,az,_⟩:=b2.info;unfold bG at h;split at h
  .rename_i a r
   split at h
   .rename_i b u
    obtain⟨⟨B,m⟩,J⟩:=h;have y:=pA (vs:=vs.toList) r (by simpa using o.1) (λi c Z=>by simpa using o.2 i c Z);have A:=pA (vs:=f.toList) u (by simpa using L.1) (λi c Z=>by simpa using L.2 i c Z);refine⟨_,J,λG=>⟨?_,?_⟩⟩
    .rw[show vs=(a.map (Value.int kd)).toArray from by rw[<-y],show f=(b.map (Value.int kd)).toArray from by rw[<-A]]
     rw[run_equalIn_array G 9999 _ _ l p,show P.cellsOf e=1 by simp[Program.cellsOf,p,az,q],P5,mL j 9998 n 0 G a7 a7];rfl
    .unfold Program.depth
     rw[show 2*(P.types.size+Made.depth)+2=(2*(P.types.size+Made.depth)+1)+1 from rfl];simp[Program.eqGuardType,l,j]
   .exact SL
  .exact SL
 .exact SL
def Aw(hT:bb P E){x y:AV}{v u:Value}(h:Ah E (E t).desc op x y k)
 (f:ag O β s.gen s.obj w x v)(L:ag O β s.gen s.obj w y u)(ox c:Operand):
  ∃X Y,K X/\(∀G,Ext w G->(do eqGuard op t ox c v u;binOp op t v u:Sem Value).run P G=.ok Y G)/\ag O β s.gen s.obj w X Y:=by
 unfold Ah at h;split at h
 .simp only[ag,ay]at f L
  obtain rfl:=f.inv_int;obtain rfl:=L.inv_int;obtain⟨X,Y,U,h2,h3⟩:=Fh (O:=O) (β:=β) (g:=s.gen) (ob:=s.obj) (w:=w) (P:=P) (t:=t) h.1 h.2;exact U7
 .simp only[ag,ay]at f L
  obtain rfl:=f.inv_str;obtain rfl:=L.inv_str;obtain⟨X,Y,U,h2,h3⟩:=Fi (O:=O) (β:=β) (g:=s.gen) (ob:=s.obj) (w:=w) (P:=P) (t:=t) h;exact U7
 .rename_i a b
  simp only[ag,ay]at f L;obtain rfl:=f.inv_bool;obtain rfl:=L.inv_bool;unfold Nr at h;split at h
  .rename_i hd
   exact tz
  .rename_i hd
   exact tz
  .exact SL
 .rename_i i Q
  simp only[ag]at f L;obtain⟨vs,rfl,f⟩:=f;obtain⟨j,rfl,L⟩:=L;unfold QG at h;split at h
  .rename_i n e hd
   have b1:=(hT t V8).desc;rw[hd]at b1;obtain⟨b,J,V⟩:=tM hT b1 h f L;refine fI J λw=>?_;rw[Sem.run_bind,run_eqGuard_agg w _ _ _ _ _ _ (V w).2];simp only[Result.andThen_ok];rw[run_eql_struct,(V w).1];rfl
  .rename_i n e hd
   have b1:=(hT t V8).desc;rw[hd]at b1;obtain⟨b,J,V⟩:=tM hT b1 h f L;refine fI J λw=>?_;rw[Sem.run_bind,run_eqGuard_agg w _ _ _ _ _ _ (V w).2];simp only[Result.andThen_ok];rw[run_neq_struct,(V w).1];rfl
  .exact SL
 .exact SL
def Dv{op:UnOp}(h:unA op x k)(e:ag O β s.gen s.obj w x v):
  ∃X Y,K X/\(∀G,Ext w G->(Op.unary op v).run P G=.ok Y G)/\ag O β s.gen s.obj w X Y:=by
 unfold unA at h;split at h
 .simp only[ag,ay]at e
  obtain rfl:=e.inv_bool;exact fI h (λw=>by simp[Op.unary])
 .simp only[ag,ay]at e
  obtain rfl:=e.inv_int;exact fF h (λw=>by simp[Op.unary,Op.intArith])
 .exact SL
def vL{a b:D}(e:gw kd a=T)(f:gw kd b=T):jT a b=T↔dV a=dV b:=by
 cases kd<;>cases a<;>cases b<;>simp_all[gw,jT,dV]
def nq{a:D}(h:gw kd a=T):MapKept.IsKey kd (dV a):=by
 cases kd<;>cases a<;>simp_all[gw,MapKept.IsKey,dV]
def ce.key{a:D}(e:gw kd a=T)(h:ce J w a v):v=dV a:=by
 cases h<;>first|rfl|(cases kd<;>simp[gw]at e;done)
def dR.find{R:C->Value->Prop}{cs:List C}{es:List MapEntry}(h:dR R kd cs es){k:D}(m:gw kd k=T)(i:Nat):
  (Instr.findNow kd (dV k) es i=S N/\mget cs k=N/\∀c v,R c v->∀b,dR R kd (mset cs k c) (es++[{key:=dV k,val:=v,born:=b}]))\/
  ∃j e c,Instr.findNow kd (dV k) es i=S (S (i+j,e.val))/\es[j]?=S e/\e.key=dV k/\mget cs k=S c/\R c e.val/\∀c' v,R c' v->dR R kd (mset cs k c') (es.modify j λe=>{e with key:=dV k,val:=v}):=by
 induction h generalizing i with
 |nil=>exact .inl ⟨rfl,rfl,λc v V b=>.cons m rfl V .nil⟩
 |cons f U n V B=>
   rename_i o c e cs es;obtain⟨r,p,a⟩:=MapKept.sameNow_of_keys (nq m) (nq f);cases r with
   |true=>
     have q:=a.1 rfl;have d:jT o k=T:=(vL f m).2 q.symm;refine .inr ⟨0,e,c,by simp[Instr.findNow,U,p],rfl,by rw[U,q],by simp[mget,d],n,λc' v l=>?_⟩;simp only[mset,d,B1,List.modify_cons,ite_true];exact .cons f (by simpa using q) l V
   |false=>
     have bz:jT o k=F:=by
      cases G:jT o k with
      |false=>rfl
      |true=>have:=a.2 ((vL f m).1 G).symm;cases this
     rcases B (i+1)with⟨u,y,A⟩|⟨j,H,c',u,y,A,g4,g5,I⟩
     .exact .inl ⟨by simp[Instr.findNow,U,p,u],by simp[mget,bz,y],λc v l b=>by
       simp only[mset,bz,C3];exact .cons f U n (A c v l b)⟩
     .refine .inr ⟨j+1,H,c',by simp[Instr.findNow,U,p,u];omega,by simpa using y,A,by simp[mget,bz,g4],g5,λL v l=>?_⟩
      simp only[mset,bz,List.modify_succ_cons];exact .cons f U n (I L v l)
def Dw(hT:bb P E){K:D->Prop}{k:Box K}(h:xU (E t) k):∃X,K X/\kB X=T/\(∀w,(zeroValue t).run P w=.ok (dV X) w)/\okD (E t).desc=T:=by
 unfold xU at h;split at h
 .rename_i X e
  have f:=hT t h.1.1;obtain⟨i,j,m,n,a,b,Z⟩:=f.info;have l:kB X=T:=by have:=f.plain;rw[e]at this;simpa using this
  refine⟨X,h.2,l,λw=>?_,h.1.1⟩;rw[e]at Z;have c:a=dV X:=by have:=f.zone h.1.2 i a j b;rwa [e]at this
  simp[zeroValue,typeInfo,j,b,c]
 .exact SL
def rj{g:Nat->Nat}{ob:Obs}{X:D}(J:K (sb ok X c))(e:ay O β g ob w (c.getD (.d X)) v):
  ∃y Y,K y/\(∀G,Ext w G->(pure (if ok then .tuple #[v,.bool c.isSome]else v):Sem Value).run P G=.ok Y G)/\ag O β g ob w y Y:=by
 refine⟨_,_,J,λG _=>by rw[Sem.run_pure],?_⟩;cases ok
 .simp only[sb,ag];exact e
 .simp only[sb,B1,ag,aH]
  exact⟨[v,.bool c.isSome],rfl,_,_,rfl,e,_,_,rfl,by simp only[ay];exact .bool _,rfl⟩
def ME{kd:Nat}(h:dA kd=d){k:D}(e:gw d k=T):kd<200:=by
 refine Nat.lt_of_not_le λZ=>?_
 have:dA kd=.invalid:=by
  unfold dA;split<;>first|omega|rfl
 rw[this]at h;subst h;simp[gw]at e
def Dx(hT:bb P E){K:List D->Prop}{k:Box K}(h:xW (E t) k):∃f vs,K f/\(∀w,(zeroValue t).run P w=.ok (.agg vs) w)/\vs.size=z f/\∀(i:Nat)(x:D),f[i]?=S x->vs[i]?=S (dV x)/\kB x=T:=by
 unfold xW at h;obtain⟨⟨m,o⟩,J⟩:=h;have e:=hT t m;obtain⟨i,n,p,q,a,b,Z⟩:=e.info
 have c:∃vs,a=.agg vs:=by
  cases a with
  |agg vs=>exact⟨vs,rfl⟩
  |_=>exfalso;have:=congrArg z Z;simp[Value.cells]at this;omega
 obtain⟨vs,rfl⟩:=c;have l:vs.toList=(E t).zero.map dV:=by simpa[Value.cells]using Z
 refine⟨_,vs,J,λw=>by simp[zeroValue,typeInfo,n,b],by rw[<-N1,l,j6],λj x I=>⟨?_,?_⟩⟩
 .rw[<-I4,l,x8,I];rfl
 .exact y8.1 e.plain x (l6 I)
def pC{g:Nat->Nat}{ob:Obs}{X:List D}{vs:Array Value}(J:K (lV ok X c))(f:vs.size=z (xV X c))(h:∀(i:Nat)(x:D),(xV X c)[i]?=S x->∃u,vs[i]?=S u/\ce (Imm O β ob w) w x u):
  ∃y Y,K y/\(∀G,Ext w G->(pure (if ok then .tuple #[.agg vs,.bool c.isSome]else .agg vs):Sem Value).run P G=.ok Y G)/\ag O β g ob w y Y:=by
 have b:ly O β g ob w ((xV X c).map .d) vs:=by
  refine⟨by rw[f,j6],λi j Z=>?_⟩;rw[x8]at Z;cases e:(xV X c)[i]? with
  |none=>rw[e]at Z;cases Z
  |some x=>
    rw[e]at Z;cases Z;exact h i x e
 refine⟨_,_,J,λG _=>by rw[Sem.run_pure],?_⟩;cases ok
 .simp only[lV,ag];exact⟨vs,rfl,b⟩
 .simp only[lV,B1,ag,aH]
  exact⟨[.agg vs,.bool c.isSome],rfl,_,_,rfl,⟨vs,rfl,b⟩,_,_,rfl,by simp only[ay];exact .bool _,rfl⟩
def vj(hT:bb P E)(V:Rel O al s β a w){x ix:AV}{v Q:Value}(h:lW E t s x ix ok k)
 (Z:ag O β s.gen s.obj w x v)(hi:ag O β s.gen s.obj w ix Q):∃y Y,K y/\(∀G,Ext w G->(Instr.lookup t v Q ok).run P G=.ok Y G)/\ag O β s.gen s.obj w y Y:=by
 unfold lW at h;split at h
 .rename_i r H A hd
  obtain⟨⟨an,o⟩,h⟩:=h;have L:=(hT t V8).desc;rw[hd]at L;have hk:=(hT r an).desc;simp only[ag,ay]at hi;obtain rfl:=hi.key o;have az:∀e w,(Instr.checkKey e 10000 r (dV A)).run P w=.ok () w:=λe w=>MapKept.run_checkKey hk (nq o) e 9999;split at h
  .obtain⟨X,h,d,b,_⟩:=Dw hT h
   split at h
   .rename_i id g kd _
    obtain⟨hg,B,h⟩:=h;have af:=ME B o;obtain⟨cells,ho,J⟩:=aJ h;simp only[ag,ay]at Z;obtain⟨ad,p,b5,rfl⟩:=Z.2.2 hg VW;have bl:=V.obj id cells ho;rw[p]at bl;obtain⟨es,n,a6,hm⟩:=(bl.map b5.1).2.resolve_right (λh=>b5.2 h.1);rw[wQ af,show lx kd=dA kd from l8 af,B]at hm;rcases hm.find o 0 with⟨g1,g2,_⟩|⟨j,e,c,g1,_,_,g4,g5,_⟩
    .obtain⟨y,Y,q1,q2,q3⟩:=rj (P:=P) (w:=w) (O:=O) (β:=β) (g:=s.gen) (ob:=s.obj) J (v:=dV X) (by rw[g2];simp only[Sa,ay];exact .of_plain d)
     exact sc
    .obtain⟨y,Y,q1,q2,q3⟩:=rj (P:=P) (w:=w) (O:=O) (β:=β) (g:=s.gen) (ob:=s.obj) J (v:=e.val) (by rw[g4];simpa using g5)
     refine⟨y,Y,q1,λG bk=>?_,q3⟩;have q2:=q2 G bk;rw[g4]at q2;simp only[Sem.run_pure,Result.ok.injEq,L8]at q2;subst q2;simp[Instr.lookup,run_underlying L,MapKept.run_getObj_map (bk.cells a6),az,MapKept.run_findKey hk g1]
   .simp only[ag,ay]at Z
    cases Z;obtain⟨y,Y,q1,q2,q3⟩:=rj (P:=P) (w:=w) (O:=O) (β:=β) (g:=s.gen) (ob:=s.obj) h (v:=dV X) (by simp only[Sa,ay];exact .of_plain d);exact sn
   .exact SL
  .obtain⟨X,f,h,b,m,q⟩:=Dx hT h
   have U:∀(i:Nat)(x:D),X[i]?=S x->∃u,f[i]?=S u/\ce (Imm O β s.obj w) w x u:=λi x I=>⟨_,(q i x I).1,.of_plain (q i x I).2⟩
   split at h
   .rename_i id g kd _
    obtain⟨hg,⟨bo,B⟩,h⟩:=h;obtain⟨cells,ho,J⟩:=aJ h;simp only[ag,ay]at Z;obtain⟨ad,p,b5,rfl⟩:=Z.2.2 hg VW;have bl:=V.obj id cells ho;rw[p]at bl;obtain⟨es,n,a6,hm⟩:=(bl.map b5.1).2.resolve_right (λh=>b5.2 h.1);rw[show lx kd=dA (kd-200)from j8 a7,B]at hm;rcases hm.find o 0 with⟨g1,g2,_⟩|⟨j,e,c,g1,_,_,g4,g5,_⟩
    .obtain⟨y,Y,q1,q2,q3⟩:=pC (P:=P) (w:=w) (O:=O) (β:=β) (g:=s.gen) (ob:=s.obj) J (vs:=f) (by rw[g2];exact m) (by rw[g2];exact U)
     exact sc
    .unfold jc at g5
     rw[j8 a7]at g5;obtain⟨ds,vs,rfl,l,hs,W⟩:=g5;obtain⟨y,Y,q1,q2,q3⟩:=pC (P:=P) (w:=w) (O:=O) (β:=β) (g:=s.gen) (ob:=s.obj) J (vs:=vs) (by rw[g4];exact hs) (by rw[g4];exact W);refine⟨y,Y,q1,λG bk=>?_,q3⟩;have q2:=q2 G bk;rw[g4]at q2;simp only[Sem.run_pure,Result.ok.injEq,L8]at q2;subst q2;simp[Instr.lookup,run_underlying L,MapKept.run_getObj_map (bk.cells a6),az,MapKept.run_findKey hk g1,l]
   .simp only[ag,ay]at Z
    cases Z;obtain⟨y,Y,q1,q2,q3⟩:=pC (P:=P) (w:=w) (O:=O) (β:=β) (g:=s.gen) (ob:=s.obj) h (vs:=f) m U;exact sn
   .exact SL
 .exact SL
def Fj{g:Nat->Nat}{ob:Obs}{p:PC}(e:EQ x=S p)(f:ag O β g ob w x v):jU O β g ob w p v:=by
 unfold EQ at e;split at e
 .cases e;simpa only[ag,ay,jU]using f
 .cases e;simpa only[ag,ay,jU]using f
 .cases e
def vM{al:Nat}{s:St}{a:Act}(V:Rel O al s β a w):∀(xs:List Operand){ps:List PC},nc (xs.map s.ev)=S ps->z ps=z xs/\∀(i:Nat)(pc:PC),ps[i]?=S pc->∃x,xs[i]?=S x/\jU O β s.gen s.obj w pc (a.eval x)
 |[],ps,h=>by simp[nc]at h;subst h;exact⟨rfl,λi pc h=>by simp at h⟩
 |x::xs,ps,h=>by
   simp only[l9,nc]at h;cases U:EQ (s.ev x)with
   |none=>rw[U]at h;cases h
   |some p=>
     rw[U]at h;cases e:nc (xs.map s.ev)with
     |none=>rw[e]at h;cases h
     |some b=>
       rw[e]at h;simp only[J4,v7]at h;subst h;obtain⟨f,j⟩:=vM V xs e;refine⟨by simp[f],λi pc hi=>?_⟩;cases i with
       |zero=>simp at hi;subst hi;exact⟨x,rfl,Fj U (V.ev x)⟩
       |succ i=>simpa using j i pc WG
def sI(V:Rel O al s β a w){f:FuncId}{first q:Array Operand}(h:jm f (first.toList.map s.ev) (q.toList.map s.ev) k):
  ∃y Y,K y/\(∀G,Ext w G->(Instr.makeFunc (.func f) (first.map a.eval) (q.map a.eval)).run P G=.ok Y G)/\ag O β s.gen s.obj w y Y:=by
 have n:∀(e:Array Operand){l:List PC},nc (e.toList.map s.ev)=S l->(e.map a.eval).size=z l/\∀(i:Nat)(pc:PC),l[i]?=S pc->∃u,(e.map a.eval)[i]?=S u/\jU O β s.gen s.obj w pc u:=λe l hl=>by
  obtain⟨o,p⟩:=vM V e.toList hl;refine⟨by simp[o],λi pc A=>?_⟩;obtain⟨x,I,B⟩:=p i pc A;have I:e[i]?=S x:=by simpa using I
  exact⟨a.eval x,by simp[I],B⟩
 unfold jm at h;split at h
 .rename_i j
  obtain⟨m,h⟩:=h;obtain⟨l,hl,J⟩:=aJ h
  have j:first = #[]:=by
   have:=congrArg z j;exact P2 (by simpa using this)
  subst j;refine⟨_,.func (.func f) #[] (q.map a.eval),J,λG _=>by simp[Instr.makeFunc],?_⟩;simp only[ag,ay];exact⟨_,(sR m _).symm,n q hl⟩
 .rename_i x r j
  obtain⟨m,h⟩:=h;obtain⟨l,hl,J⟩:=aJ h;rw[<-j]at hl
  have Z:q = #[]:=by
   have:=congrArg z m;exact P2 (by simpa using this)
  subst Z;refine⟨_,.func (.func f) (first.map a.eval) #[],J,λG _=>by simp[Instr.makeFunc],?_⟩;simp only[ag,ay];exact⟨_,(yb f _).symm,n first hl⟩
def gz(h:isStr d=T):d=.string:=by cases d<;>simp_all[isStr]
def Ax(hT:bb P E){ty:TypeId}(h:xS s (isStr (E t).desc) (cZ E t) x k)(f:ag O β s.gen s.obj w x v):
  ∃X Y,K X/\(∀G,Ext w G->(Builtin.len_ #[t] ty #[v]).run P G=.ok Y G)/\ag O β s.gen s.obj w X Y:=by
 unfold xS at h;split at h
 .obtain⟨i,h⟩:=h
  obtain⟨e,_,_,L,_⟩:=eo hT i;simp only[ag,ay]at f;obtain rfl:=f.inv_nsl;exact Ul
 .obtain⟨i,h⟩:=h
  obtain⟨e,_,_,L,_⟩:=eo hT i;simp only[ag,ay]at f;refine fF h λw=>?_;cases f<;>simp[Builtin.len_,run_underlying L,goInt]
 .obtain⟨i,h⟩:=h
  have L:=(hT t (by rw[gz i];rfl)).desc;rw[gz i]at L;simp only[ag,ay]at f;obtain rfl:=f.inv_str;exact fF h (λw=>by simp[Builtin.len_,run_underlying L,goInt,size_mk])
 .obtain⟨i,l,ho,h⟩:=h
  obtain⟨e,_,_,L,_⟩:=eo hT i;simp only[ag]at f;obtain⟨a,j,rfl,_⟩:=(fM f l ho).slice;exact Ul
 .obtain⟨i,h⟩:=h
  obtain⟨e,_,_,L,_⟩:=eo hT i;simp only[ag,ay]at f;obtain⟨a,j,rfl⟩:=f;exact Ul
 .exact SL
end
end
section
variable{H I:Option AV}{q f:Option Value}{K:AV->Prop}{k:Box K}
section
variable{P:Program}{E:Nat->TI}{O:Bs}{β:Loc}{g:Nat->Nat}{ob:Obs}{w:World}
inductive wW (O:Bs) (β:Loc) (g:Nat->Nat) (ob:Obs) (w:World):Option AV->Option Value->Prop where
 |none:wW O β g ob w none none
 |some {x:AV}{v:Value} (h:ag O β g ob w x v):wW O β g ob w (some x) (some v)
def run_sliceBound{kd:IntKind}{i:Int}{y:Nat}{c:BoundsCode}(a:0<=i)(U:i.toNat<=y):(Instr.sliceBound (.int kd i) y c).run P w=.ok i.toNat w:=by
 have:i<=y:=a7;simp[Instr.sliceBound,asIntOf,a,this]
def fh{o:Option AV}{a:Option Value}{B:Nat}{K:Nat->Prop}{k:Box K}(h:jj o B k)(ho:wW O β g ob w o a):
  ∃n,K n/\((a=N/\n=B)\/∃kd i,a=S (.int kd i)/\0<=i/\n=i.toNat):=by
 unfold jj at h;split at h
 .cases ho
  exact⟨_,h,.inl ⟨rfl,rfl⟩⟩
 .cases ho with
  |some b=>
    simp only[ag,ay]at b;obtain rfl:=b.inv_int;exact⟨_,h.2,.inr ⟨_,_,rfl,h.1,rfl⟩⟩
 .exact SL
def cV{b:Bool}{len cap h l:Nat}{ho H:Option Value}
 (c:(ho=N/\h=len)\/∃kd i,ho=S (.int kd i)/\0<=i/\h=i.toNat)(hl:(H=N/\l=0)\/∃kd i,H=S (.int kd i)/\0<=i/\l=i.toNat)
 (U:l<=h)(d:h<=cap):(Instr.sliceBounds b len cap H ho N).run P w=.ok (l,h,cap) w:=by
 rcases c with⟨rfl,rfl⟩|⟨kd,i,rfl,I,rfl⟩<;>rcases hl with⟨rfl,rfl⟩|⟨a,e,rfl,j,rfl⟩<;>
  simp[Instr.sliceBounds,run_sliceBound, *]
def extract_mk(s:List UInt8)(l h:Nat):(⟨s.toArray⟩:ByteArray).extract l h=⟨((s.take h).drop l).toArray⟩:=by
 apply ByteArray.ext;apply Jf;rw[ByteArray.data_extract];simp[List.drop_take]
def wX(hT:bb P E){s:St}{t:Nat}{x:AV}{v:Value}
 (h:pu s (isStr (E t).desc) (cZ E t) (aR E t).size x H I k)(hv:ag O β s.gen s.obj w x v)
 (m:wW O β s.gen s.obj w H q)(d:wW O β s.gen s.obj w I f):
  ∃y Y,K y/\(∀G,Ext w G->(Instr.sliceAt t v q f N).run P G=.ok Y G)/\ag O β s.gen s.obj w y Y:=by
 unfold pu at h;split at h
 .rename_i bs
  obtain⟨hs,h⟩:=h;obtain⟨n,h,hh⟩:=fh h d;obtain⟨c,⟨U,h2,J⟩,hl⟩:=fh h m;have L:=(hT t (by rw[gz hs];rfl)).desc;rw[gz hs]at L;simp only[ag,ay]at hv;obtain rfl:=hv.inv_str;refine Av J λw=>?_;have this:=λw=>cV (P:=P) (w:=w) (b:=F) (len:=z bs) (cap:=z bs) hh hl U h2;simp[Instr.sliceAt,run_underlying L,Instr.slice,size_mk,this,extract_mk]
 .rename_i es
  obtain⟨hs,h⟩:=h;obtain⟨n,h,hh⟩:=fh h d;obtain⟨c,⟨U,h2,az,J⟩,hl⟩:=fh h m;obtain⟨e,c4,cb,L,b2⟩:=eo hT hs;rw[cb]at az;simp only[ag,ay]at hv;have bd:z ((es.take n).drop c)=n-c:=by simp;omega
  cases hv with
  |@sl0 a cap=>
    have h0:n=0:=by simpa using h2
    subst h0;have l:c=0:=a7;subst l;have this:=λw=>cV (P:=P) (w:=w) (b:=T) (len:=0) (cap:=cap) hh hl U (L0 _);refine⟨_,.slice a 0 cap,J,λG _=>?_,?_⟩
    .have ha:a.map (λx=>x.add 0)=a:=by cases a<;>simp[Addr.add]
     simp[Instr.sliceAt,run_underlying L,Instr.slice,this,bB b2,ha]
    .simp only[ag,ay];exact .sl0
  |sl r cy hJ g b0 b7=>
    rename_i b B cap sz;have hb:=λw=>cV (P:=P) (w:=w) (b:=T) (len:=z es) (cap:=cap) hh hl U a7;by_cases Z:cap=c
    .subst Z
     refine⟨_,.slice (S ⟨b,B,N⟩) (n-cap) (cap-cap),J,λG _=>by simp[Instr.sliceAt,run_underlying L,Instr.slice,hb,bB b2],?_⟩;simp only[ag,ay];have A:(es.take n).drop cap=[]:=y7 (by rw[bd];omega);rw[A,<-bd,A];exact tb
    .refine⟨_,.slice (S ⟨b,B+c*(E e).size,N⟩) (n-c) (cap-c),J,λG _=>by simp[Instr.sliceAt,run_underlying L,Instr.slice,hb,bB b2,Z,dO],?_⟩
     simp only[ag,ay];rw[<-bd]
     have al:∀(i:Nat)(y:List D),((es.take n).drop c)[i]?=S y->es[c+i]?=S y:=λi y V=>by
      rw[H0,I1]at V;split at V
      .exact V
      .cases V
     by_cases bz:es=[]
     .subst bz
      simp only[List.take_nil,List.drop_nil];exact tb
     .have b1:(E e).size=sz:=by
       obtain⟨y,V⟩:=List.exists_mem_of_ne_nil es bz;rw[<-az y V,g y V]
      rw[b1];refine .sl (λi j=>r (c+i) j) (by rw[bd];omega) (λ_=>hJ bz) (λy V=>g y (M9 (L9 V))) (λi y V j X hz=>?_) (λi y V j X hz=>b7 _ _ (al i y V) j X hz);have:=b0 _ _ (al i y V) j X hz;rw[E7]at this
      rwa [<-C0]at this
 .obtain⟨hs,h⟩:=h
  obtain⟨n,h,hh⟩:=fh h d;obtain⟨c,⟨rfl,rfl,J⟩,hl⟩:=fh h m;obtain⟨e,c4,cb,L,b2⟩:=eo hT hs;simp only[ag,ay]at hv;obtain rfl:=hv.inv_nsl;have this:=λw=>cV (P:=P) (w:=w) (b:=T) (len:=0) (cap:=0) hh hl (l7 _) (l7 _);refine⟨_,.slice N 0 0,J,λG _=>by simp[Instr.sliceAt,run_underlying L,Instr.slice,this,bB b2],?_⟩;simp only[ag,ay];exact .nsl
 .rename_i id g' W B len
  obtain⟨hs,hg,ho,h⟩:=h;obtain⟨n,h,hh⟩:=fh h d;obtain⟨c,⟨U,h2,a',J⟩,hl⟩:=fh h m;obtain⟨e,c4,cb,L,b2⟩:=eo hT hs;rw[cb]at a' J;subst a';clear h;simp only[ag]at hv;have b4:=fM hv hg ho;cases p:β id with
  |none=>
    rw[p]at b4;obtain⟨rfl,rfl⟩:=b4;have e1:n=0:=a7;have e2:c=0:=a7;subst e1;subst e2;have this:=λw=>cV (P:=P) (w:=w) (b:=T) (len:=0) (cap:=0) hh hl (l7 _) (l7 _);refine⟨_,.slice N 0 0,J,λG _=>by simp[Instr.sliceAt,run_underlying L,Instr.slice,this,bB b2],?_⟩;simp only[ag,ay];exact⟨rfl,hv.2.1,λ_ _=>by rw[p];exact⟨a8,rfl⟩⟩
  |some ad=>
    rw[p]at b4;obtain⟨b5,b4⟩:=b4;rcases b4 with⟨cap,rfl,cy,Q⟩|⟨rfl,o,rfl⟩
    .have hb:=λw=>cV (P:=P) (w:=w) (b:=T) (len:=len) (cap:=cap) hh hl U a7
     by_cases Z:cap=c
     .subst Z
      refine⟨_,.slice (S ⟨ad.block,ad.off+B,N⟩) (n-cap) (cap-cap),J,λG _=>by simp[Instr.sliceAt,run_underlying L,Instr.slice,hb,bB b2],?_⟩;simp only[ag,ay];have e1:n-cap=0:=a7;refine⟨rfl,hv.2.1,λ_ _=>?_⟩;rw[p,e1,J5];exact⟨b5,.inr ⟨rfl,ad.off+B,rfl⟩⟩
     .refine⟨_,.slice (S ⟨ad.block,ad.off+B+c*(E e).size,N⟩) (n-c) (cap-c),J,λG _=>by simp[Instr.sliceAt,run_underlying L,Instr.slice,hb,bB b2,Z,dO],?_⟩
      simp only[ag,ay];refine⟨rfl,hv.2.1,λ_ _=>?_⟩;rw[p];refine⟨b5,.inl ⟨cap-c,by simp[C0],a7,λarr el fr u=>?_⟩⟩;have:=Q arr el fr u;have e3:cap=c+(cap-c):=a7;rw[e3,E7]at this;omega
    .have e1:n=0:=a7
     have e2:c=0:=a7;subst e1;subst e2;have this:=λw=>cV (P:=P) (w:=w) (b:=T) (len:=0) (cap:=0) hh hl (l7 _) (l7 _);refine⟨_,.slice (S ⟨ad.block,o,N⟩) 0 0,J,λG _=>by simp[Instr.sliceAt,run_underlying L,Instr.slice,this,bB b2],?_⟩;simp only[ag,ay];exact⟨rfl,hv.2.1,λ_ _=>by rw[p];exact⟨b5,.inr ⟨a8,o,rfl⟩⟩⟩
 .exact SL
def sK(hT:bb P E){s:St}(X:∀id cs ad,s.obj id=S cs->β id=S ad->ad.spot=N->∀arr el fr,w.heap[ad.block]?=S (.cells arr el fr)->ad.off+z cs<=arr.size){t:Nat}{x:AV}{v:Value}
 (h:lu E (E t).desc s x H I k)(a:ag O β s.gen s.obj w x v)
 (m:wW O β s.gen s.obj w H q)(d:wW O β s.gen s.obj w I f):
  ∃y Y,K y/\(∀G,Ext w G->(Instr.sliceAt t v q f N).run P G=.ok Y G)/\ag O β s.gen s.obj w y Y:=by
 unfold lu at h;split at h
 .rename_i n e hd
  have L:=(hT t V8).desc;rw[hd]at L;split at h
  .rename_i id g off
   split at h
   .obtain⟨r,A,⟨cs,c,Q⟩,h⟩:=h
    obtain⟨i,⟨j,J⟩,B⟩:=fh h d;cases m;have b2:=hT e A;simp only[ag,ay]at a;obtain⟨ad,p,l,rfl⟩:=a.2.2 r (by rw[c];rfl);have o:=λw=>cV (P:=P) (w:=w) (b:=F) (len:=n) (cap:=n) B (.inl ⟨rfl,rfl⟩) (L0 _) j;refine⟨_,.slice (S ⟨ad.block,ad.off+off,N⟩) i n,J,λG _=>?_,?_⟩
    .by_cases Z:n=0
     .subst Z
      obtain rfl:i=0:=a7;simp[Instr.sliceAt,run_underlying L,Instr.slice,o,bB b2,Instr.sureAddr]
     .simp[Instr.sliceAt,run_underlying L,Instr.slice,o,bB b2,Instr.sureAddr,Z,dO]
    .simp only[ag,ay]
     refine⟨rfl,a.2.1,λ_ _=>?_⟩;rw[p];exact⟨l,.inl ⟨n,rfl,j,λarr el fr u=>by have:=X id cs ad c p l arr el fr u;omega⟩⟩
   .exact SL
  .exact SL
 .exact SL
end
end
section
def setCells_size(b:Nat):∀(vs:List Value)(o:Nat)(w:World),(w.setCells b o vs).heap.size=w.heap.size
 |[],_,_=>rfl
 |v::r,o,w=>by rw[World.setCells,setCells_size b r];simp
def kS(b:Nat):∀(vs:List Value)(o:Nat)(w:World),(w.setCells b o vs).os=w.os/\(w.setCells b o vs).output=w.output
 |[],_,_=>⟨rfl,rfl⟩
 |v::r,o,w=>by rw[World.setCells];exact kS b r _ _
def heap_setCell(w:World)(b o:Nat)(v:Value)(c:Nat):(w.setCell ⟨b,o,N⟩ v).heap[c]? =
  if c=b then(match w.heap[c]? with|some (.cells arr el fr)=>S (.cells (arr.setIfInBounds o v) el fr)|x=>x)else w.heap[c]?:=by
 simp only[World.setCell];by_cases h:c=b
 .subst h
  simp only[B1];rw[Sn];simp only[B1];cases hw:w.heap[c]? with
  |none=>rfl
  |some g=>cases g<;>simp
 .simp only[h,A8]
  rw[Sn];simp[B8 h]
def heap_setCells_other(b:Nat):∀(vs:List Value)(o:Nat)(w:World)(c:Nat),c≠b->(w.setCells b o vs).heap[c]?=w.heap[c]?
 |[],_,_,_,_=>rfl
 |v::r,o,w,c,h=>by rw[World.setCells,heap_setCells_other b r _ _ c h,heap_setCell];simp[h]
def fj(b:Nat):∀(vs:List Value)(o:Nat)(w:World)(arr:Array Value)(el:TypeId)(fr:Nat×Nat),w.heap[b]?=S (.cells arr el fr)->
  ∃c,(w.setCells b o vs).heap[b]?=S (.cells c el fr)/\c.size=arr.size/\∀j,c[j]?=if o<=j/\j<o+z vs/\j<arr.size then vs[j-o]? else arr[j]?
 |[],o,w,arr,el,fr,h=>⟨arr,h,rfl,λj=>by rw[j8 VC]⟩
 |v::r,o,w,arr,el,fr,h=>by
   have U:(w.setCell ⟨b,o,N⟩ v).heap[b]?=S (.cells (arr.setIfInBounds o v) el fr):=by rw[heap_setCell];simp[h]
   obtain⟨c,f,g,i⟩:=fj b r (o+1) _ _ el fr U;refine⟨c,f,by simpa using g,λj=>?_⟩;rw[i j];simp only[R8,j9];by_cases d:j=o
   .subst d
    rw[j8 a7];by_cases e:j<arr.size
    .rw[l8 a7,M7 e];simp
    .rw[j8 a7];simp[e]
   .by_cases Z:o+1<=j/\j<o+1+z r/\j<arr.size
    .rw[l8 Z,l8 a7]
     have:j-o=(j-(o+1))+1:=a7;rw[this,s9]
    .rw[j8 Z,j8 a7,Ml (B8 d)]
def mh:∀(cs:List C)(off:Nat)(cells:List C),z (setAt cells off cs)=z cells
 |[],_,_=>rfl
 |c::cs,off,cells=>by rw[setAt,mh cs];simp
def rp:∀(cs:List C)(off:Nat)(cells:List C)(j:Nat),(setAt cells off cs)[j]?=if off<=j/\j<off+z cs/\j<z cells then cs[j-off]? else cells[j]?
 |[],off,cells,j=>by rw[setAt,j8 VC]
 |c::cs,off,cells,j=>by
   rw[setAt,rp cs];simp only[C2,j9];by_cases b:j=off
   .subst b
    rw[j8 a7];by_cases d:j<z cells
    .rw[l8 a7];simp[d]
    .rw[j8 a7];simp[d]
   .by_cases Z:off+1<=j/\j<off+1+z cs/\j<z cells
    .rw[l8 Z,l8 a7]
     have:j-off=(j-(off+1))+1:=a7;rw[this,s9]
    .rw[j8 Z,j8 a7,M8 (B8 b)]
variable{s:St}{a:Act}{al:Nat}{arr:Array Value}{el:TypeId}{t:Nat}{K:St->Prop}{cs:List C}{v Q u:Value}{k:Box K}
section
variable{P:Program}{E:Nat->TI}{O:Bs}{β:Loc}{w:World}
def ag.cells{g:Nat->Nat}{ob:Obs}{x:AV}{v:Value}{cs:List C}(I:cellsOf x=S cs)(b:ag O β g ob w x v):
  ∃vs:List Value,v.cells=vs.toArray/\z vs=z cs/\(∀(j:Nat)(c:C),cs[j]?=S c->∃u,vs[j]?=S u/\ay O β g ob w c u)/\∀u∈vs,u.oneCell'=T:=by
 cases x with
 |one c=>
   simp only[cellsOf,v7]at I;subst I;simp only[ag]at b;have U:=b.one;refine⟨[v],by cases v<;>first|rfl|(simp[Value.oneCell']at U),rfl,λj m Z=>?_,λu L=>by simpa using(E0.1 L▸U)⟩;cases j with
   |zero=>simp at Z;subst Z;exact⟨v,rfl,b⟩
   |succ j=>simp at Z
 |agg f=>
   simp only[cellsOf,v7]at I;subst I;simp only[ag]at b;obtain⟨vs,rfl,U,d⟩:=b;refine⟨vs.toList,by simp[Value.cells],by simpa using U,λj c Z=>by simpa using d j c Z,λu L=>?_⟩;obtain⟨i,e⟩:=D6 L
   have h:i<z f:=by
    have:=(l5.1 e).1;simp at this;omega
   obtain⟨l,r,V⟩:=d i _ (v8 h);have:l=u:=by simpa[r]using e
   subst this;exact V.one
 |tup=>simp[cellsOf]at I
 |junk=>simp[cellsOf]at I
 |exact=>simp[cellsOf]at I
def rq{H c b j:Nat}(h:w.heap[b]?=S (.cells arr el (H,c)))(hf:c<=H\/arr.size<=H)(d:j<arr.size):
  w.frozen? ⟨b,j,N⟩=F:=by
 simp only[World.frozen?,h,Bool.and_eq_false_iff,decide_eq_false_iff_not];omega
def sM{B:TI}(e:sH P t B){b o:Nat}{v:Value}{vs:List Value}(f:v.cells=vs.toArray)(hl:z vs=B.size)(U:∀u∈vs,u.oneCell'=T)
{H c:Nat}(d:w.heap[b]?=S (.cells arr el (H,c)))(hf:c<=H\/arr.size<=H)(Q:o+z vs<=arr.size):
  (Instr.storeAt t (.pointer (S ⟨b,o,N⟩)) v).run P w=.ok () (w.setCells b o vs):=by
 have:=run_storeCells_cells (P:=P) b o vs 0 w (λj g=>by
   rw[fg d,B6 a7];rfl) (λj g=>rq d hf a7) U
 simp only[J6]at this;simp[Instr.storeAt,Instr.sureAddr,storeVar,bB e,f,hl,this]
def xa(hT:bb P E)(V:Rel O al s β a w){x y:AV}{v u:Value}(h:qY (E t) s x y k)
 (hv:ag O β s.gen s.obj w x v)(L:ag O β s.gen s.obj w y u):
  ∃W G,K W/\(Instr.storeAt t v u).run P w=.ok () G/\Rel O al W β a G/\Tr O β s w β W G:=by
 unfold qY at h;split at h
 .rename_i id g e
  obtain⟨an,hg,h⟩:=h;obtain⟨cs,b4,az,h⟩:=aJ h;obtain⟨d,ho,Q,J⟩:=aJ h;have ht:=hT t an;simp only[ag,ay]at hv;obtain⟨ad,p,b5,rfl⟩:=hv.2.2 hg VW;have bl:=V.obj id d ho;rw[p]at bl;obtain⟨hB,arr,el,H,hi,a6,ar,bd,ca⟩:=bl.cells b5;obtain⟨vs,e1,e2,e3,e4⟩:=ag.cells b4 L;have hw:=sM (w:=w) ht (b:=ad.block) (o:=ad.off+e) e1 (by rw[e2,az]) e4 a6 ar.1 a7;obtain⟨bn,f1,f2,f3⟩:=fj ad.block vs (ad.off+e) w arr el (H,hi) a6
  have X:∀i,(upd s.obj id (S (setAt d e cs)) i).isSome=(s.obj i).isSome:=λi=>by
   simp only[upd];split
   .rename_i n;rw[n,ho];rfl
   .rfl
  have q:eQ O β s.gen s.obj w β s.gen (upd s.obj id (S (setAt d e cs))) (w.setCells ad.block (ad.off+e) vs):=by
   refine⟨λb hb=>?_,λ_=>l7 _,λi _ bo=>?_⟩
   .have bz:b≠ad.block:=λn=>hb.2.2 id ad VW p n.symm
    exact SP
   .exact qc
  refine⟨_,_,J,hw,⟨V.defers,V.size,λi=>ag.keep q _ (V.f i),λi m l=>?_,λi i' a1 a2 U h2=>V.inj i i' a1 a2 (by rw[<-X i];exact U) (by rw[<-X i'];exact h2),by rw[setCells_size];exact V.base⟩,
   by rw[setCells_size];exact l7 _,λb hb=>heap_setCells_other _ _ _ _ _ a7,q,kS _ _ _ _⟩
  by_cases A:i=id
  .subst A
   simp only[upd,B1,v7]at l;subst l;rw[p];refine .ofCells b5 ⟨hB,bn,el,H,hi,f1,by rw[f2];exact ar,by rw[mh,f2];exact bd,λj c Z=>?_⟩;rw[rp]at Z;rw[f3];split at Z
   .rename_i bf
    obtain⟨B,r,I⟩:=e3 _ c Z;refine⟨B,?_,I.keep q⟩;rw[l8 a7,show ad.off+j-(ad.off+e)=j-e by omega];exact r
   .rename_i bf
    obtain⟨B,r,I⟩:=ca j c Z;have e0:j<z d:=(l5.1 Z).1;refine⟨B,?_,I.keep q⟩;rw[j8 a7];exact r
  .have Y:s.obj i=S m:=by simpa[upd,A]using l
   refine(V.obj i m Y).keep q (λa' b'=>heap_setCells_other _ _ _ _ _ (λhb=>A (V.inj i id a' ad (by simp[Y]) VW b' p hb)))
 .exact SL
def Rel.newAny{al c:Nat}(V:Rel O al s β a w)(d:Nat){G:World}{o:Obj}{ad:Addr}(e:ad.block=w.heap.size)(y:G.heap=w.heap.push o)(n:G.os=w.os/\G.output=w.output)
 (az:eQ O β s.gen s.obj w (upd β d (S ad)) (s.newC c d cs).gen (s.newC c d cs).obj G->cU O (upd β d (S ad)) (s.newC c d cs).gen (s.newC c d cs).obj G (nxC c (s.gen d)) cs (S ad)):
  Rel O al (s.newC c d cs) (upd β d (S ad)) a G/\Tr O β s w (upd β d (S ad)) (s.newC c d cs) G:=by
 have bk:∀b,b<w.heap.size->G.heap[b]?=w.heap[b]?:=λb g=>by rw[y,Qd,j8 a7]
 have q:eQ O β s.gen s.obj w (upd β d (S ad)) (s.newC c d cs).gen (s.newC c d cs).obj G:=by
  refine⟨λb g=>⟨⟨by rw[y];simp;have:=g.1;omega,g.2.1,λi j hi bs=>?_⟩,bk b g.1⟩,λi=>?_,λi H hi=>?_⟩
  .simp only[St.newC,upd]at hi bs
   split at bs
   .cases bs;have:=g.1;omega
   .rename_i bz
    simp only[bz,A8]at hi;exact g.2.2 i j hi bs
  .exact R1
  .simp only[St.newC,upd]at H hi|-
   by_cases bz:i=d
   .subst bz;simp at H;exact absurd H (wJ _ _)
   .simp only[bz,A8]at hi|-
    refine⟨hi,trivial,λj b' X c0 Y U=>?_⟩
    have A:j.block<w.heap.size:=by
     exact UF
    rw[bk _ A]at U;exact⟨X,c0,Y,U,l7 _⟩
 refine⟨⟨V.defers,V.size,λi=>ag.keep q _ (V.f i),λi m l=>?_,λi I J L U x p r g=>?_,?_⟩,?_,?_,q,n⟩
 .simp only[St.newC,upd]at l|-
  by_cases W:i=d
  .subst W
   simp only[B1,v7]at l|-;subst l;exact az q
  .simp only[W,A8]at l|-
   refine(V.obj i m l).keep q (λj b'=>bk _ ?_);have:=V.obj i m l;rw[b']at this;exact this.block.2
 .have A:∀(i:Nat)(j:Addr),(s.obj i).isSome=T->β i=S j->j.block<w.heap.size:=λi j hi b'=>by
   exact UF
  simp only[St.newC,upd]at U x p r;by_cases hi:i=d<;>by_cases B:I=d
  .rw[hi,B]
  .simp only[hi,B,B1,A8]at U x p r
   cases p;have:=A I L x r;omega
  .simp only[hi,B,B1,A8]at U x p r
   cases r;have:=A i J U p;omega
  .simp only[hi,B,A8]at U x p r
   exact V.inj i I J L U x p r g
 .rw[y];simp;have:=V.base;omega
 .rw[y];simp
 .intro b g;exact bk b (by have:=V.base;omega)
def Rel.new(c:Nat)(V:Rel O al s β a w)(d:Nat){G:World}(b:G.heap=w.heap.push (.cells arr el (0,0)))(n:G.os=w.os/\G.output=w.output)(bd:z cs<=arr.size)
 (g:c≠0->c<1000000->el+1=c)(e:∀(j:Nat)c,cs[j]?=S c->∃v,arr[j]?=S v/\ay O β s.gen s.obj w c v):
  Rel O al (s.newC c d cs) (upd β d (S ⟨w.heap.size,0,N⟩)) a G/\Tr O β s w (upd β d (S ⟨w.heap.size,0,N⟩)) (s.newC c d cs) G:=
 V.newAny d rfl b n λq=>.ofCells rfl ⟨V.base,arr,el,0,0,by rw[b];simp,⟨.inl (l7 _),λh=>⟨by rw[lq]at h|-;split at h<;>rename_i Z<;>simp_all,rfl⟩⟩,by simpa using bd,λj c Z=>
  let ⟨v,f,i⟩:=e j c Z
  ⟨v,by simpa using f,i.keep q⟩⟩
def AG(d:TypeDesc):lU d<=9:=by unfold lU;split<;>simp
def tP(V:Rel O al s β a w){t i d:Nat}(hd:d<al)(h:lw E t i d s k):
  ∃W A G Y,K W/\(Instr.makeMap t N).run P w=.ok Y G/\Rel O al W A (a.put (S d) Y) G/\Tr O β s w A W G:=by
 unfold lw at h;split at h
 .rename_i r H b
  obtain⟨B,J⟩:=h
  obtain⟨e,f⟩:=V.newAny (c:=0) i (G:=w.alloc (.map #[] 0)) (o:=.map #[] 0) (ad:=⟨w.heap.size,0,S (xT (dF (E H).desc) (lU (E r).desc))⟩) (cs:=[]) rfl rfl ⟨rfl,rfl⟩
   (λq=>.ofMap rfl ⟨V.base,.inl ⟨#[],0,(MapKept.heap_alloc w _).1,.nil⟩⟩)
  refine⟨_,_,_,.map (S w.heap.size),J,by simp[Instr.makeMap],e.put (λj g=>by cases g;exact hd) ?_,f.trans (Tr.same (St.put_gen _ _ _) (St.put_obj _ _ _) rfl)⟩;simp only[ag,ay];exact⟨rfl,by simp[St.newC,upd],λ_ _=>⟨_,by simp[upd];rfl,⟨rfl,by have:=AG (E r).desc;unfold xT;split<;>omega⟩,rfl⟩⟩
 .exact SL
def qq(hT:bb P E)(V:Rel O al s β a w){t r H id g kd:Nat}{A:D}{c:C}{cells:List C}(hd:(E t).desc=.map r H)(an:okD (E r).desc=T)(o:gw (E r).desc A=T)(hg:s.gen id=g)(B:lx kd=(E r).desc)(ho:s.obj id=S cells)
 (hv:ag O β s.gen s.obj w (.one (.mp id g kd)) v)(hi:ag O β s.gen s.obj w (.one (.d A)) Q)(L:jc O β s.gen s.obj w kd c u):
  ∃G,(Instr.mapUpdate t v Q u).run P w=.ok () G/\Rel O al {s with obj:=upd s.obj id (S (mset cells A c))} β a G/\Tr O β s w β {s with obj:=upd s.obj id (S (mset cells A c))} G:=by
  have b1:=(hT t V8).desc;rw[hd]at b1;have hk:=(hT r an).desc;simp only[ag,ay]at hi hv;obtain rfl:=hi.key o;have az:∀e,(Instr.checkKey e 10000 r (dV A)).run P w=.ok () w:=λe=>MapKept.run_checkKey hk (nq o) e 9999;obtain⟨J,p,b5,rfl⟩:=hv.2.2 hg VW;have bl:=V.obj id cells ho;rw[p]at bl;have hB:=(bl.map b5.1).1;obtain⟨es,n,W,hm⟩:=(bl.map b5.1).2.resolve_right (λh=>b5.2 h.1);rw[B]at hm;have af:=(ER.1 W).1
  obtain⟨y,x,bf,cf⟩:∃y x,(Instr.mapUpdate t (.map (S J.block)) (dV A) u).run P w=.ok () {w with heap:=w.heap.setIfInBounds J.block (.map y x)}/\
    ∀R:C->Value->Prop,(∀c v,jc O β s.gen s.obj w kd c v->R c v)->dR R (E r).desc (mset cells A c) y.toList:=by
   rcases hm.find o 0 with⟨g1,g2,g3⟩|⟨j,e,c',g1,g2,g3,_,_,g6⟩
   .refine⟨es.push {key:=dV A,val:=u,born:=n},n+1,?_,λR hR=>?_⟩
    .simp[Instr.mapUpdate,run_underlying b1,MapKept.run_getObj_map W,az,MapKept.run_findKey hk g1,MapKept.run_setObj_map _ W]
    .have:=(g3 c u L n).mono hR
     exact SV
   .refine⟨es.modify j λe=>{e with key:=dV A,val:=u},n,?_,λR hR=>?_⟩
    .have hj:es[j]?=S e:=by simpa using g2
     simp[Instr.mapUpdate,run_underlying b1,MapKept.run_getObj_map W,az,MapKept.run_findKey hk g1,hj,g3,MapKept.run_keyThatStays (nq o),MapKept.run_setObj_map _ W]
    .have:=(g6 c u L).mono hR
     exact SV
  have k:∀b,b≠J.block->(w.heap.setIfInBounds J.block (.map y x))[b]?=w.heap[b]?:=λb I=>by simp[B8 I]
  have X:∀i,(upd s.obj id (S (mset cells A c)) i).isSome=(s.obj i).isSome:=λi=>by
   simp only[upd];split
   .rename_i he;rw[he,ho];rfl
   .rfl
  have q:eQ O β s.gen s.obj w β s.gen (upd s.obj id (S (mset cells A c))) {w with heap:=w.heap.setIfInBounds J.block (.map y x)}:=by
   refine⟨λb I=>?_,λ_=>l7 _,λi _ bo=>?_⟩
   .have bz:b≠J.block:=λhe=>I.2.2 id J VW p he.symm
    exact⟨⟨by simpa using I.1,I.2.1,λi Z bo=>I.2.2 i Z (by rw[<-X i];exact bo)⟩,k b bz⟩
   .rw[X i]at bo
    refine⟨bo,rfl,λZ b' cu c0 cm U=>?_⟩;by_cases I:Z.block=J.block
    .rw[I]at U
     simp[af]at U
    .simp only[k _ I]at U
     exact⟨cu,c0,cm,U,l7 _⟩
  refine⟨_,bf,⟨V.defers,V.size,λi=>ag.keep q _ (V.f i),λi m l=>?_,λi i' a1 a2 U h2=>V.inj i i' a1 a2 (by rw[<-X i];exact U) (by rw[<-X i'];exact h2),by simpa using V.base⟩,
   by simp,λb I=>k b a7,q,rfl,rfl⟩
  by_cases b8:i=id
  .subst b8
   simp only[upd,B1,v7]at l;subst l;rw[p];refine .ofMap b5.1 ⟨hB,.inl ⟨y,x,by simp[af],?_⟩⟩;rw[B];exact cf _ (λ_ _=>jc.keep q)
  .have Y:s.obj i=S m:=by simpa[upd,b8]using l
   exact(V.obj i m Y).keep q (λZ b'=>k _ (λI=>b8 (V.inj i id Z J (by simp[Y]) VW b' p I)))
def vP:∀{cs:List C}{ds:List D},datas cs=S ds->cs=ds.map .d
 |[],ds,h=>by simp only[datas,v7]at h;subst h;rfl
 |.d x::r,ds,h=>by
   simp only[datas]at h;cases b:datas r with
   |none=>rw[b]at h;cases h
   |some l=>
     rw[b]at h;simp only[z7,v7]at h;subst h;rw[vP b];rfl
def lG(hT:bb P E)(V:Rel O al s β a w){m p x:AV}(h:ed E t s m p x k)
 (q:ag O β s.gen s.obj w m v)(y:ag O β s.gen s.obj w p Q)(L:ag O β s.gen s.obj w x u):
  ∃W G,K W/\(Instr.mapUpdate t v Q u).run P w=.ok () G/\Rel O al W β a G/\Tr O β s w β W G:=by
 unfold ed at h;split at h
 .rename_i r H A id g e c hd
  obtain⟨⟨f,o⟩,j,B,h⟩:=h;obtain⟨b,ho,J⟩:=aJ h;have X:=ME B o;simp only[ag]at L;obtain⟨G,U,l,n⟩:=qq hT V hd f o j (by rw[show lx e=dA e from l8 X];exact B) ho q y (by rw[wQ X];exact L);exact⟨_,G,J,U,l,n⟩
 .rename_i r H A id g e cs hd
  obtain⟨⟨f,o⟩,j,⟨bo,B⟩,h⟩:=h;obtain⟨ds,ar,h⟩:=aJ h;obtain⟨b,ho,J⟩:=aJ h;have Y:=vP ar;subst Y;simp only[ag]at L;obtain⟨vs,rfl,Z,L⟩:=L
  obtain⟨G,U,l,n⟩:=qq (c:=.d (.iptr ds)) (u:=.agg vs) hT V hd f o j (by rw[show lx e=dA (e-200)from j8 a7];exact B) ho q y (by
   unfold jc;rw[j8 a7];refine⟨ds,vs,rfl,rfl,by rw[Z,j6],λi x I=>?_⟩;exact L i (.d x) (by rw[x8,I];rfl))
  exact⟨_,G,J,U,l,n⟩
 .exact SL
end
end
section
def vQ(n:Nat):∀k c,Builtin.growBy n k c<=max c (n+(n+768)/4)
 |0,c=>by simp[Builtin.growBy];omega
 |k+1,c=>by
   simp only[Builtin.growBy];split
   .omega
   .have:=vQ n k (c+(c+768)/4)
    omega
def nextslicecap_le(n c:Nat)(h:c<n):Builtin.nextslicecap n c<=2*n+1024:=by
 unfold Builtin.nextslicecap;split
 .omega
 .split
  .omega
  .have:=vQ n 4 c
   omega
def kT{A:Type}{sz:Nat}:∀(es:List (List A))(_:∀e∈es,z e=sz)(m:Nat)(c:A),es.flatten[m]?=S c->∃i e j,es[i]?=S e/\e[j]?=S c/\m=i*sz+j
 |[],_,m,c,h=>by simp at h
 |e::es,d,m,c,h=>by
   rw[E8,K8]at h;have g:=d e a8;split at h
   .exact⟨0,e,m,rfl,h,a8⟩
   .rename_i l
    obtain⟨i,b,j,U,f,n⟩:=kT es (λb q=>d b (by simp[q])) _ c h;exact⟨i+1,b,j,by simpa using U,f,by rw[E7];omega⟩
def nz{A:Type}{sz:Nat}:∀(es:List (List A))(_:∀e∈es,z e=sz),z es.flatten=z es*sz
 |[],_=>by simp
 |e::es,b=>by
   rw[E8,j7,nz es (λc q=>b c (by simp[q])),b e a8,j9,E7];omega
variable{s:St}{al:Nat}{a:Act}{v:Value}{B:TI}{cs cf:List C}{K:Nat->List C->Prop}{t tx e:Nat}{k:Box K}
section
variable{P:Program}{E:Nat->TI}{O:Bs}{β:Loc}{w:World}
def bw(O:Bs)(β:Loc)(s:St)(w:World)(cs:List C)(vs:List Value):Prop:=
 (z vs)=z cs/\∀(j:Nat)(c:C),cs[j]?=S c->∃u,vs[j]?=S u/\ay O β s.gen s.obj w c u
def bw.one{s:St}{cs:List C}{vs:List Value}(h:bw O β s w cs vs):∀u∈vs,u.oneCell'=T:=λu L=>by
 obtain⟨i,b⟩:=D6 L;have c:i<z cs:=by rw[<-h.1];exact(l5.1 b).1
 obtain⟨d,r,V⟩:=h.2 i _ (v8 c);have:d=u:=by simpa[r]using b
 exact this▸V.one
def bw.append{vs d:List Value}(h:bw O β s w cs vs)(q:bw O β s w cf d):bw O β s w (cs++cf) (vs++d):=by
 refine⟨by simp[h.1,q.1],λj c Z=>?_⟩;rw[K8]at Z|-;rw[h.1];split at Z
 .rename_i b;rw[l8 b];exact h.2 j c Z
 .rename_i b;rw[j8 b];exact q.2 _ c Z
def nj.spot{sz off len:Nat}{v:Value}{x:Option Addr}(h:nj w sz off len v x):∀ad,x=S ad->ad.spot=N:=λad I=>by subst I;exact h.1
def oF(V:Rel O al s β a w){id off n:Nat}{cells:List C}(g:∀ad,β id=S ad->ad.spot=N)(ho:s.obj id=S cells)(Q:off+n<=z cells):
  (∃ad,β id=S ad/\∃vs,bw O β s w ((cells.drop off).take n) vs/\z vs=n/\∀(j:Nat)(u:Value),vs[j]?=S u->w.cell? ⟨ad.block,ad.off+off+j,N⟩=S u)\/(β id=N/\cells=[]):=by
 have bl:=V.obj id cells ho;cases p:β id with
 |none=>rw[p]at bl;exact .inr ⟨rfl,bl⟩
 |some ad=>
   rw[p]at bl;obtain⟨_,arr,el,H,l,d,_,m,f⟩:=bl.cells (g ad p)
   obtain⟨vs,b,h,i⟩:=ko (ay O β s.gen s.obj w) (λj=>arr[ad.off+(off+j)]?) ((cells.drop off).take n) (λj c Z=>by
     rw[I1]at Z;split at Z
     .rw[H0]at Z;exact f (off+j) c Z
     .cases Z)
   refine .inl ⟨ad,rfl,vs,⟨b,i⟩,by rw[b];simp;omega,λj u L=>?_⟩;rw[fg d,C0];exact h j u L
def nA(hT:bb P E)(V:Rel O al s β a w){tx sz:Nat}{y:AV}{u:Value}
 (h:contents s (isStr (E tx).desc) (cZ E tx) sz y k)(L:ag O β s.gen s.obj w y u):
  ∃n cs news,K n cs/\Src P sz tx u n news w/\bw O β s w cs news:=by
 unfold contents at h;split at h
 .obtain⟨G,h⟩:=h
  obtain⟨e,_,_,g,_⟩:=eo hT G;simp only[ag,ay]at L;obtain rfl:=L.inv_nsl;exact⟨0,[],[],h,Src.ofNil w g 0,rfl,λ_ _ Z=>by simp at Z⟩
 .rename_i l
  obtain⟨G,az,h⟩:=h;obtain⟨e,_,_,g,_⟩:=eo hT G;simp only[ag,ay]at L;cases L with
  |sl0=>
    rename_i a f;refine⟨0,[],[],by simpa using h,?_,rfl,λ_ _ Z=>by simp at Z⟩;cases a with
    |none=>exact Src.ofNil w g f
    |some a=>exact Src.ofSlice w g a 0 f [] a8 (λ_ _ h=>by simp at h) (λ_ h=>by cases h)
  |sl r cy hJ hs b0 b7=>
    rename_i b q f W
    obtain⟨vs,Y,e2,e3⟩:=ko (λ(c:D)v=>ay O β s.gen s.obj w (.d c) v) (λj=>w.cell? ⟨b,q+j,N⟩) l.flatten (λm c Z=>by
     obtain⟨i,e',j,U,h2,rfl⟩:=kT l hs m c Z;refine⟨r i j,?_,b7 i e' U j c h2⟩;rw[<-C0];exact b0 i e' U j c h2)
    have hl:z vs=z l*sz:=by rw[Y,nz l az]
    have A:bw O β s w (l.flatten.map .d) vs:=by
     refine⟨by rw[j6,Y],λj c Z=>?_⟩;rw[x8]at Z;cases hq:l.flatten[j]? with
     |none=>rw[hq]at Z;cases Z
     |some x=>
       exact UM
    exact⟨_,_,vs,h,Src.ofSlice w g ⟨b,q,N⟩ (z l) f vs hl (λj v H=>by rw[dO];exact e2 j v H) A.one,A⟩
 .rename_i bs
  obtain⟨b3,rfl,h⟩:=h;have g:=(hT tx (by rw[gz b3];rfl)).desc;rw[gz b3]at g;simp only[ag,ay]at L;obtain rfl:=L.inv_str;have:=Src.ofString (P:=P) w g ⟨bs.toArray⟩;rw[size_mk]at this;refine⟨_,_,_,h,this,by simp[byteCells],λj c Z=>?_⟩;rw[x8]at Z;cases hq:bs[j]? with
  |none=>rw[hq]at Z;cases Z
  |some x=>
    rw[hq]at Z;simp only[z7,v7]at Z;subst Z;refine⟨.int .u8 x.toNat,by simp[byteCells,hq],?_⟩;simp only[ay,xQ];exact .int _ _
 .rename_i id g' W q len
  obtain⟨G,hg,rfl,h⟩:=h;obtain⟨e,_,_,g,_⟩:=eo hT G;obtain⟨X,ho,Q,J⟩:=aJ h;simp only[ag]at L;have I:=fM L hg VW;rcases oF V (I.spot) ho Q with⟨ad,p,vs,A,hl,cd⟩|⟨p,rfl⟩
  .rw[p]at I
   rcases I.2 with⟨f,rfl,_,_⟩|⟨rfl,o,rfl⟩
   .exact⟨_,_,vs,J,Src.ofSlice w g _ len f vs hl (λj v H=>by rw[dO];exact cd j v H) A.one,A⟩
   .refine⟨_,_,vs,J,?_,A⟩
    have:vs=[]:=y7 Wf;subst this;exact Src.ofSlice w g _ 0 0 [] a8 (λj v H=>by simp at H) (λ_ h=>by cases h)
  .rw[p]at I
   obtain⟨rfl,rfl⟩:=I;exact⟨_,_,[],J,Src.ofNil w g 0,a8,λj c Z=>by simp at Z⟩
 .exact SL
def yu(hT:bb P E)(V:Rel O al s β a w){y:AV}{u:Value}(h:contents s F T 1 y k)(L:ag O β s.gen s.obj w y u):
  ∃n cs news,K n cs/\bw O β s w cs news/\z news=n/\((∃l c,u=.slice N l c/\n=0)\/∃ad cap,u=.slice (S ad) n cap/\∀(j:Nat)v,news[j]?=S v->w.cell? (ad.add j)=S v):=by
 unfold contents at h;split at h
 .obtain⟨_,h⟩:=h
  simp only[ag,ay]at L;obtain rfl:=L.inv_nsl;exact⟨0,[],[],h,⟨rfl,λ_ _ Z=>by simp at Z⟩,rfl,.inl ⟨_,_,rfl,rfl⟩⟩
 .rename_i g
  obtain⟨_,az,h⟩:=h;simp only[ag,ay]at L;cases L with
  |sl0=>
    rename_i a cap;refine⟨0,[],[],by simpa using h,⟨rfl,λ_ _ Z=>by simp at Z⟩,rfl,?_⟩;cases a with
    |none=>exact .inl ⟨_,_,rfl,rfl⟩
    |some a=>exact .inr ⟨_,_,rfl,λ_ _ h=>by simp at h⟩
  |sl r cy hJ hs b0 b7=>
    rename_i b f cap W
    obtain⟨vs,I,e2,e3⟩:=ko (λ(c:D)v=>ay O β s.gen s.obj w (.d c) v) (λj=>w.cell? ⟨b,f+j,N⟩) g.flatten (λm c Z=>by
     obtain⟨i,X,j,U,Y,rfl⟩:=kT g hs m c Z;refine⟨r i j,?_,b7 i X U j c Y⟩;rw[<-C0];exact b0 i X U j c Y)
    have hl:z vs=z g:=by rw[I,nz g az,L3]
    have G:bw O β s w (g.flatten.map .d) vs:=by
     refine⟨by rw[j6,I],λj c Z=>?_⟩;rw[x8]at Z;cases hq:g.flatten[j]? with
     |none=>rw[hq]at Z;cases Z
     |some x=>
       exact UM
    exact⟨_,_,vs,h,G,hl,.inr ⟨⟨b,f,N⟩,cap,rfl,λj v q=>by rw[dO];exact e2 j v q⟩⟩
 .exact absurd h.1 a8
 .rename_i id g' W f len
  obtain⟨_,hg,rfl,h⟩:=h;obtain⟨H,ho,Q,J⟩:=aJ h;simp only[ag]at L;have A:=fM L hg VW;rcases oF V (A.spot) ho Q with⟨ad,p,vs,G,hl,cd⟩|⟨p,rfl⟩
  .rw[p]at A
   rw[L3]at hl;rcases A.2 with⟨cap,rfl,_,_⟩|⟨rfl,o,rfl⟩
   .exact⟨_,_,vs,J,G,hl,.inr ⟨_,cap,rfl,λj v q=>by rw[dO];exact cd j v q⟩⟩
   .have:vs=[]:=y7 Wf
    subst this;exact⟨_,_,[],J,G,rfl,.inr ⟨_,_,rfl,λj v q=>by simp at q⟩⟩
  .rw[p]at A
   obtain⟨rfl,rfl⟩:=A;exact⟨_,_,[],J,⟨a8,λj c Z=>by simp at Z⟩,rfl,.inl ⟨_,_,rfl,rfl⟩⟩
 .exact SL
def yv{s:St}:∀{cs:List C}{m:List Int}{vs:List Value},u8s cs=S m->bw O β s w cs vs->vs=m.map (.int .u8)
 |[],m,vs,h,Z=>by
   simp only[u8s]at h;cases h;exact y7 Z.1
 |c::cs,m,vs,h,Z=>by
   match vs,Z with
   |[],Z=>exact absurd Z.1 a8
   |v::vs,Z=>
     cases c with
     |d x=>
       cases x with
       |int k n=>
         cases k with
         |u8=>
           simp only[u8s]at h;obtain⟨a,U,rfl⟩:=G1.1 h;have b:=Z.2 0 _ rfl;obtain⟨u,L,f⟩:∃u,(v::vs)[0]?=S u/\_:=b;cases L;simp only[ay]at f;obtain rfl:=f.inv_int;have g:bw O β s w cs vs:=⟨by simpa using Z.1,λj i l=>by simpa using Z.2 (j+1) i (by simpa using l)⟩
           rw[l9,yv U g]
         |_=>simp[u8s]at h
       |_=>simp[u8s]at h
     |_=>simp[u8s]at h
def yw(hT:bb P E)(V:Rel O al s β a w){i dst:Nat}{x:AV}{K:AV->Prop}{k:Box K}(h:sa s (aR E i).desc (E i).desc (E dst).desc x k)(p:ag O β s.gen s.obj w x v):
  ∃X Y,K X/\(∀G,Ext w G->(convert i dst v).run P G=.ok Y G)/\ag O β s.gen s.obj w X Y:=by
 unfold sa at h;split at h
 .rename_i hd
  simp only[ag,ay]at p;obtain rfl:=p.inv_int;have U:=(hT i h.1).desc;have d:=(hT dst V8).desc;rw[hd]at d;refine fF h.2 λw=>?_;simp[convert,run_underlying U,run_underlying d,Conv.intToInt]
 .rename_i g hd
  simp only[ag,ay]at p;obtain rfl:=p.inv_str;have U:=(hT i (by rw[g];rfl)).desc;rw[g]at U;have d:=(hT dst V8).desc;rw[hd]at d;refine Av h λw=>?_;simp[convert,run_underlying U,run_underlying d]
 .rename_i y e g hd
  obtain⟨f,h⟩:=h;have U:=(hT i (by rw[g];rfl)).desc;rw[g]at U;have d:=(hT dst V8).desc;rw[hd]at d;have L:aR E i=E e:=by simp[aR,g]
  rw[L]at f;have o:(E e).desc=.int .u8:=by cases Q:(E e).desc<;>rw[Q]at f<;>simp[Ai]at f;rename_i kk;cases kk<;>simp[Ai]at f;rfl
  have u:=(hT e (by rw[o];rfl)).desc;rw[o]at u;obtain⟨n,cs,I,J,W,hl,b⟩:=yu hT V h p;obtain⟨m,Z,J⟩:=aJ J;obtain rfl:=yv Z W;refine⟨_,.string ⟨(m.map λn=>UInt8.ofNat n.toNat).toArray⟩,J,λG bk=>?_,by simp only[ag,ay];exact .str _⟩;rcases b with⟨l,c,rfl,hn⟩|⟨A,q,rfl,cd⟩
  .have:m=[]:=y7 (by rw[<-hn,<-hl];simp)
   subst this;simp[convert,run_underlying U,run_underlying d,run_underlying u,Conv.bytesToString];rfl
  .rw[run_convert_bytes_string G i dst e (S A) n q U u d]
   have H:=run_loadCells_list (P:=P) G A (m.map (Value.int .u8)) (λj v hj=>bk.cell (cd j v hj));rw[j6]at hl;simp only[j6,hl]at H;rw[run_bytesToString G A n q _ H]
   have hf:∀(l:List Int)(r:ByteArray),l.foldl (λr n=>r.push (UInt8.ofNat n.toNat)) r=⟨r.data++(l.map λn=>UInt8.ofNat n.toNat).toArray⟩:=by
    intro l
    induction l with
    |nil=>intro r;simp
    |cons n l ih=>intro r;rw[H7,ih];simp[ByteArray.push]
   rw[hf];have a':ByteArray.empty.data = #[]:=rfl;rw[a'];simp
 .exact SL
def tQ(c:Nat)(V:Rel O al s β a w)(i d:Nat)(hd:d<al){G:World}{arr:Array Value}{el:TypeId}(hw:G.heap=w.heap.push (.cells arr el (0,0)))(n:G.os=w.os/\G.output=w.output){cs:List C}{vs:List Value}
 (Z:bw O β s w cs vs)(g:∀(j:Nat)v,vs[j]?=S v->arr[j]?=S v)(bd:z cs<=arr.size)(a6:c≠0->c<1000000->el+1=c)(sz len cap:Nat)(b:len<=cap)(Q:cap*sz<=arr.size):
  Rel O al ((s.newC c i cs).put (S d) (.one (.osl i (nxC c (s.gen i)) sz 0 len))) (upd β i (S ⟨w.heap.size,0,N⟩)) (a.put (S d) (.slice (S ⟨w.heap.size,0,N⟩) len cap)) G/\
   Tr O β s w (upd β i (S ⟨w.heap.size,0,N⟩)) ((s.newC c i cs).put (S d) (.one (.osl i (nxC c (s.gen i)) sz 0 len))) G:=by
 obtain⟨U,f⟩:=Rel.new c V i hw n bd a6 (λj c l=>let ⟨u,hu,o⟩:=Z.2 j c l;⟨u,g j u hu,o⟩);refine⟨U.put (λq p=>by cases p;exact hd) ?_,f.trans (Tr.same (St.put_gen _ _ _) (St.put_obj _ _ _) rfl)⟩;simp only[ag,ay];refine⟨rfl,by simp[St.newC,upd],λ_ _=>?_⟩;simp only[upd,B1];refine⟨rfl,.inl ⟨cap,a8,b,λx r m h=>?_⟩⟩;rw[hw]at h;simp at h;obtain⟨rfl,_⟩:=h;simpa using Q
def grownCap_ge(w:World)(need old:Nat)(e:TypeId):need<=grownCap w need old e:=by simp[grownCap,Question.cut]
def vq(hT:bb P E)(V:Rel O al s β a w){i d base:Nat}{dst:Option Nat}(hd:∀j,dst=S j->j<al){x:AV}{K:St->Prop}{k:Box K}(h:lX E i d base dst s x k)(H:ag O β s.gen s.obj w x v):
  ∃W A G Y,K W/\(convert i d v).run P w=.ok Y G/\Rel O al W A (a.put dst Y) G/\Tr O β s w A W G:=by
 unfold lX at h;split at h
 .rename_i l bs
  obtain⟨I,f,h⟩:=h;have J:=(hT i (by rw[gz I];rfl)).desc;rw[gz I]at J
  obtain⟨e,u,X⟩:∃e,(E d).desc=.slice e/\aR E d=E e:=by
   unfold aR at f|-;cases p:(E d).desc with
   |slice e=>exact⟨e,rfl,rfl⟩
   |_=>rw[p]at f;exact absurd (show F=T from f) b9
  have B:=(hT d (by rw[u];rfl)).desc;rw[u]at B;rw[X]at f;have o:(E e).desc=.int .u8:=by cases p:(E e).desc<;>rw[p]at f<;>simp[Ai]at f;rename_i kk;cases kk<;>simp[Ai]at f;rfl
  have L:=(hT e (by rw[o];rfl)).desc;rw[o]at L;have b1:aW E d=e:=by simp[aW,u]
  simp only[ag,ay]at H;obtain rfl:=H.inv_str;have bf:=Lib.run_convert_string_bytes (P:=P) w i d e ⟨bs.toArray⟩ J B L;have hz:(⟨bs.toArray⟩:ByteArray).size=z bs:=by simp[ByteArray.size]
  have g:(Lib.bytesWorld w e ⟨bs.toArray⟩).heap=w.heap.push (.cells (Lib.bytesCells w e ⟨bs.toArray⟩) e ((Lib.bytesCells w e ⟨bs.toArray⟩).size,(Lib.bytesCells w e ⟨bs.toArray⟩).size+1)):=by
   apply Array.ext_getElem?;intro j;rcases Nat.lt_trichotomy j w.heap.size with y|y|y
   .rw[Lib.bytesWorld_at_old w e _ j y,Qd,j8 a7]
   .subst y;rw[Lib.bytesWorld_at_new,Qd,l8 rfl]
   .rw[J7 (by rw[Lib.bytesWorld_size];omega),J7 VC]
  have Q:=grownCap_ge w (z bs) 0 e
  have az:(Lib.bytesCells w e ⟨bs.toArray⟩).size=grownCap w (z bs) 0 e:=by
   simp[Lib.bytesCells,hz];omega
  rw[b1]at h;refine⟨_,upd β (base+l) (S ⟨w.heap.size,0,N⟩),_,_,h,bf,?_⟩
  obtain⟨U,h2⟩:=V.newAny (c:=e+1) (base+l) (G:=Lib.bytesWorld w e ⟨bs.toArray⟩) (ad:=⟨w.heap.size,0,N⟩) (cs:=bs.map λb=>.d (xQ b)) rfl g ⟨rfl,rfl⟩ λq=>
   .ofCells rfl ⟨V.base,Lib.bytesCells w e ⟨bs.toArray⟩,e,(Lib.bytesCells w e ⟨bs.toArray⟩).size,(Lib.bytesCells w e ⟨bs.toArray⟩).size+1,by rw[g];simp,⟨.inr (l7 _),λh=>⟨by rw[lq]at h|-;split at h<;>rename_i Z<;>simp_all,rfl⟩⟩,by rw[az];simpa using Q,λj c Z=>by
    rw[x8]at Z;cases p:bs[j]? with
    |none=>rw[p]at Z;cases Z
    |some b=>
      rw[p]at Z;simp only[z7,v7]at Z;subst Z;have y:j<z bs:=(l5.1 p).1;refine⟨.int .u8 b.toNat,?_,by simp only[ay,xQ];exact .int _ _⟩;rw[C7,Lib.bytesCells,F8 (by simpa using y)];simp[p]⟩
  refine⟨U.put hd ?_,h2.trans (Tr.same (St.put_gen _ _ _) (St.put_obj _ _ _) rfl)⟩;simp only[ag,ay];refine⟨rfl,by simp[St.newC,upd],λ_ _=>?_⟩;simp only[upd,B1];refine⟨rfl,.inl ⟨grownCap w (z bs) 0 e,rfl,Q,λbn r m h=>?_⟩⟩;rw[g]at h;simp at h;obtain⟨rfl,_⟩:=h;rw[az];simp
 .exact SL
def sH.zsize{t:Nat}(h:sH P t B){i:TypeInfo}{X:Value}(d:P.info? t=S i)(f:i.zero=S X):X.cells.size=B.size:=by
 obtain⟨g,c,_,_,b,a,Z⟩:=h.info;rw[d]at c;cases c;rw[f]at a;cases a;rw[<-N1,Z,j6,h.zlen]
def JD{e g g' off:Nat}(h:code (nxC (apC e g off) g')≠0):code g=e+1/\off=0/\code (nxC (apC e g off) g')=e+1:=by
 unfold apC at h|-;by_cases Z:code g=e+1/\off=0
 .rw[l8 Z]at h|-
  refine⟨Z.1,Z.2,?_⟩;rw[lq]at h|-;split
  .rfl
  .rename_i b;rw[j8 b]at h;exact absurd rfl h
 .rw[j8 Z,lq]at h
  exact absurd rfl h
def NO(e g off:Nat):apC e g off=e+1\/apC e g off=0:=by unfold apC;split<;>simp
def Ft{e g off:Nat}(h:apC e g off≠0):code g=apC e g off/\off=0:=by
 unfold apC at h|-;by_cases Z:code g=e+1/\off=0
 .rw[l8 Z];exact Z
 .rw[j8 Z]at h;exact absurd rfl h
def sh(c:Nat)(V:Rel O al s β a w)(L:P.underlying t=S (.slice e))(b2:sH P e B)(i d:Nat)(hd:d<al){base:Option Addr}{g b0 n:Nat}{x:Value}{olds news:List Value}
 (bk:(Builtin.firstCells B.size g (.slice base g b0)).run P w.drew=.ok olds.toArray w.drew)(m:z olds=g*B.size)(h:Src P B.size tx x n news w)
 (Z:bw O β s w cs olds)(l:bw O β s w cf news)(hg:b0<g+n)(r:Aj (g+n) B.bytes)(E:c=e+1\/c=0)(ty:TypeId):
  ∃A G Y,(Builtin.append_ #[t,tx] ty #[.slice base g b0,x]).run P w=.ok Y G/\
   Rel O al ((s.newC c i (cs++cf)).put (S d) (.one (.osl i (nxC c (s.gen i)) B.size 0 (g+n)))) A (a.put (S d) Y) G/\
   Tr O β s w A ((s.newC c i (cs++cf)).put (S d) (.one (.osl i (nxC c (s.gen i)) B.size 0 (g+n)))) G:=by
 obtain⟨o,p,az,y,X,q,cd⟩:=b2.info;have H:=b2.zsize p q;have b:=nextslicecap_le (g+n) b0 hg;obtain⟨I,r⟩:=r
 have f:((g+n:Nat):Int)<=9223372036854775807:=by
  have:(2*(g+n)+1024)*1<=(2*(g+n)+1024)*B.bytes:=Nat.mul_le_mul_left _ I;omega
 have Q:Builtin.nextslicecap (g+n) b0*o.bytes<=281474976710656:=by
  rw[y];exact C8 (K9 _ b) r
 rw[<-az]at bk h;have J:=run_append_grow_src (P:=P) w t tx ty e o X L p q base g b0 olds bk x n news h hg f Q;have W:=grownCap_ge w (g+n) b0 e;have b1:z news=n*B.size:=by rw[<-az];exact h.newsLen
 have bd:z (olds++news)=(g+n)*B.size:=by rw[j7,m,b1,E7]
 refine⟨upd β i (S ⟨w.heap.size,0,N⟩),_,_,J,?_⟩;refine tQ c V i d hd (el:=e) rfl (by exact⟨rfl,rfl⟩) (Z.append l) (λj v u=>?_) ?_ (λU _=>(E.resolve_right U).symm) _ _ _ W ?_
 .rw[F8]
  .simpa using u
  .simpa using(l5.1 u).1
 .have:=(Z.append l).1
  simp at this|-;omega
 .have bl:(Builtin.zeroCells X.cells (grownCap w (g+n) b0 e-(g+n))).size=(grownCap w (g+n) b0 e-(g+n))*B.size:=by
   simp[Builtin.zeroCells,H]
  rw[Array.size_append,bl];have U:(olds++news).toArray.size=(g+n)*B.size:=by simpa using bd
  rw[U,<-E7];exact F2 (by congr 1;omega)
def kC(c:Nat)(V:Rel O al s β a w)(i d:Nat)(hd:d<al)(sz:Nat){x:Option Addr}(I:nj w sz 0 0 v x)(U:v.oneCell'=T)
 (bl:cU O β s.gen s.obj w (nxC c (s.gen i)) [] x)(Y:∀g r G,g≠i->(s.obj g).isSome=T->β g=S r->x=S G->r.block≠G.block)(K:∀b G,x=S G->Imm O β s.obj w b->G.block≠b):
  Rel O al ((s.newC c i []).put (S d) (.one (.osl i (nxC c (s.gen i)) sz 0 0))) (upd β i x) (a.put (S d) v) w/\Tr O β s w (upd β i x) ((s.newC c i []).put (S d) (.one (.osl i (nxC c (s.gen i)) sz 0 0))) w:=by
 have q:eQ O β s.gen s.obj w (upd β i x) (s.newC c i []).gen (s.newC c i []).obj w:=by
  refine⟨λb j=>⟨⟨j.1,j.2.1,λg r n bs=>?_⟩,rfl⟩,λg=>?_,λg L n=>?_⟩
  .simp only[St.newC,upd]at n bs
   split at bs
   .exact K b r bs j
   .rename_i bz
    simp only[bz,A8]at n;exact j.2.2 g r n bs
  .exact R1
  .simp only[St.newC,upd]at L n|-
   by_cases bz:g=i
   .subst bz;simp at L;exact absurd L (wJ _ _)
   .simp only[bz,A8]at n|-
    exact⟨n,trivial,λr b' cu c0 cm U=>⟨cu,c0,cm,U,l7 _⟩⟩
 have J:Rel O al (s.newC c i []) (upd β i x) a w:=by
  refine⟨V.defers,V.size,λi=>ag.keep q _ (V.f i),λg m l=>?_,λQ u W X U A o p j=>?_,V.base⟩
  .simp only[St.newC,upd]at l|-
   by_cases Z:g=i
   .subst Z
    simp only[B1,v7]at l|-;subst l;exact bl.keep q (λ_ _=>rfl)
   .simp only[Z,A8]at l|-
    exact(V.obj g m l).keep q (λ_ _=>rfl)
  .simp only[St.newC,upd]at U A o p
   by_cases H:Q=i<;>by_cases y:u=i
   .rw[H,y]
   .simp only[H,y,B1,A8]at U A o p
    exact absurd j.symm (Y u X W y A p o)
   .simp only[H,y,B1,A8]at U A o p
    exact absurd j (Y Q W X H U o p)
   .simp only[H,y,A8]at U A o p
    exact V.inj Q u W X U A o p j
 refine⟨J.put (λd' an=>by cases an;exact hd) ?_,⟨l7 _,λ_ _=>rfl,?_,rfl,rfl⟩⟩
 .simp only[ag,ay]
  refine⟨U,by simp[St.newC,upd],λ_ _=>?_⟩;simp only[upd,B1];exact I
 .rw[St.put_obj,St.put_gen];exact q
def yx(c:Nat)(V:Rel O al s β a w)(L:P.underlying t=S (.slice e))(b2:sH P e B)(i d:Nat)(hd:d<al){ad:Addr}{off g b0 n:Nat}{x:Value}{cells cf:List C}{news:List Value}
 (p:β i=S ad)(b5:ad.spot=N)(ho:s.obj i=S cells)(Q:off+g*B.size<=z cells)(cy:∀arr el fr,w.heap[ad.block]?=S (.cells arr el fr)->ad.off+off+b0*B.size<=arr.size)
 (hs:Src P B.size tx x n news w)(l:bw O β s w cf news)(hg:g+n<=b0)(E:c≠0->code (s.gen i)=c/\off=0)(ty:TypeId):
  ∃A G Y,(Builtin.append_ #[t,tx] ty #[.slice (S ⟨ad.block,ad.off+off,N⟩) g b0,x]).run P w=.ok Y G/\
   Rel O al ((s.newC c i ((cells.drop off).take (g*B.size)++cf)).put (S d) (.one (.osl i (nxC c (s.gen i)) B.size 0 (g+n)))) A (a.put (S d) Y) G/\
   Tr O β s w A ((s.newC c i ((cells.drop off).take (g*B.size)++cf)).put (S d) (.one (.osl i (nxC c (s.gen i)) B.size 0 (g+n)))) G:=by
 obtain⟨c2,hi,az,cz,X,hz,cd⟩:=b2.info;have bl:=V.obj i cells ho;rw[p]at bl;obtain⟨hB,arr,el,H,bo,a6,ar,bd,ca⟩:=bl.cells b5;have W:=cy _ _ _ a6;have b1:z news=n*B.size:=hs.newsLen;have I:g*B.size+n*B.size<=b0*B.size:=by rw[<-E7];exact K9 _ hg
 rw[<-az]at hs
 have bf:=run_append_room_src (P:=P) w t tx ty e c2 L hi ad.block (ad.off+off) g b0 x n news hs hg (λj hj=>by
   rw[az,fg a6,B6 a7];rfl) (λj hj=>by rw[az];exact rq a6 ar.1 a7)
 rw[az]at bf;obtain⟨bn,f1,f2,f3⟩:=fj ad.block news (ad.off+off+g*B.size) w arr el (H,bo) a6;have k:∀b,b≠ad.block->(w.setCells ad.block (ad.off+off+g*B.size) news).heap[b]?=w.heap[b]?:=λb hb=>heap_setCells_other _ _ _ _ _ hb;generalize bk:w.setCells ad.block (ad.off+off+g*B.size) news=G at *;have o:G.heap.size=w.heap.size:=by rw[<-bk];exact setCells_size _ _ _ _
 have cb:G.os=w.os/\G.output=w.output:=by rw[<-bk];exact kS _ _ _ _
 generalize b4:(cells.drop off).take (g*B.size)=front at *;have b3:z front=g*B.size:=by rw[<-b4];simp;omega
 have q:eQ O β s.gen s.obj w (upd β i (S ⟨ad.block,ad.off+off,N⟩)) (s.newC c i (front++cf)).gen (s.newC c i (front++cf)).obj G:=by
  refine⟨λb hb=>?_,λi'=>?_,λi' hg bo=>?_⟩
  .have bz:b≠ad.block:=λhe=>hb.2.2 i ad VW p he.symm
   refine⟨⟨by rw[o];exact hb.1,hb.2.1,λi' a' bo bs=>?_⟩,k b bz⟩;simp only[St.newC,upd]at bo bs;split at bs
   .cases bs;exact B8 bz
   .rename_i cx
    simp only[cx,A8]at bo;exact hb.2.2 i' a' bo bs
  .exact R1
  .simp only[St.newC,upd]at hg bo|-
   by_cases bz:i'=i
   .subst bz;simp at hg;exact absurd hg (wJ _ _)
   .simp only[bz,A8]at bo|-
    refine⟨bo,trivial,λa' b' cu c0 cm U=>?_⟩;rw[k _ (λhb=>bz (V.inj i' i a' ad bo VW b' p hb))]at U;exact⟨cu,c0,cm,U,l7 _⟩
 have J:Rel O al (s.newC c i (front++cf)) (upd β i (S ⟨ad.block,ad.off+off,N⟩)) a G:=by
  refine⟨V.defers,V.size,λi=>ag.keep q _ (V.f i),λi' m l=>?_,λi1 u a1 a2 U h2 cc b7 hb=>?_,by rw[o];exact V.base⟩
  .simp only[St.newC,upd]at l|-
   by_cases b8:i'=i
   .subst b8
    simp only[B1,v7]at l|-;subst l;have K:z cf=z news:=l.1.symm
    have v:code (nxC c (s.gen i'))≠0->el+1=code (nxC c (s.gen i'))/\(⟨ad.block,ad.off+off,N⟩:Addr).off=0:=λch=>by
     have U:code (nxC c (s.gen i'))=c:=by
      rw[lq]at ch|-;split
      .rfl
      .rename_i h;rw[j8 h]at ch;exact absurd rfl ch
     rw[U]at ch|-;obtain⟨q1,q2⟩:=E ch;obtain⟨q3,q4⟩:=ar.2 (by rw[q1];exact ch);exact⟨by rw[q3,q1],by simp[q4,q2]⟩
    refine .ofCells rfl ⟨hB,bn,el,H,bo,f1,⟨by rw[f2];exact ar.1,v⟩,by rw[j7,b3,f2,K];simp only;omega,λj c Z=>?_⟩;rw[f3];simp only at *;rw[K8]at Z;split at Z
    .rename_i hj
     rw[b3]at hj;rw[<-b4,I1,l8 hj,H0]at Z;obtain⟨u',r,av⟩:=ca _ c Z;refine⟨u',?_,av.keep q⟩;rw[j8 a7,C0];exact r
    .rename_i hj
     rw[b3]at hj Z;obtain⟨u',r,av⟩:=l.2 _ c Z;have af:j-g*B.size<z news:=by rw[<-K];exact(l5.1 Z).1
     refine⟨u',?_,av.keep q⟩;rw[l8 a7,show ad.off+off+j-(ad.off+off+g*B.size)=j-g*B.size by omega];exact r
   .simp only[b8,A8]at l|-
    exact(V.obj i' m l).keep q (λa' b'=>k _ (λhb=>b8 (V.inj i' i a' ad (by simp[l]) VW b' p hb)))
  .simp only[St.newC,upd]at U h2 cc b7
   by_cases b6:i1=i<;>by_cases y:u=i
   .rw[b6,y]
   .simp only[b6,y,B1,A8]at U h2 cc b7
    cases cc;exact absurd (V.inj u i a2 ad h2 VW b7 p hb.symm) y
   .simp only[b6,y,B1,A8]at U h2 cc b7
    cases b7;exact absurd (V.inj i1 i a1 ad U VW cc p hb) b6
   .simp only[b6,y,A8]at U h2 cc b7
    exact V.inj i1 u a1 a2 U h2 cc b7 hb
 refine⟨_,_,_,bf,J.put (λd' an=>by cases an;exact hd) ?_,⟨by rw[o];exact l7 _,λb hb=>k b a7,?_,cb⟩⟩
 .simp only[ag,ay]
  refine⟨rfl,by simp[St.newC,upd],λ_ _=>?_⟩;simp only[upd,B1];refine⟨rfl,.inl ⟨b0,a8,hg,λcu c0 cm U=>?_⟩⟩;rw[f1]at U;cases U;rw[f2];simpa using W
 .rw[St.put_obj,St.put_gen];exact q
end
end
section
variable{s:St}{al:Nat}{a:Act}{K:St->Prop}{cs:List C}{v u:Value}{k:Box K}
section
variable{P:Program}{E:Nat->TI}{O:Bs}{β:Loc}{w:World}
def Src.eq_nil{size:Nat}{tx:TypeId}{x:Value}{news:List Value}(b:Src P size tx x 0 news w):news=[]:=y7 (by rw[b.newsLen];simp)
def bw.nil_of(h:bw O β s w cs []):cs=[]:=y7 (by rw[<-h.1];rfl)
def AH(V:Rel O al s β a w){i:Nat}{ad:Addr}(ho:(s.obj i).isSome=T)(p:β i=S ad):ad.block<w.heap.size:=by
 obtain⟨b,Z⟩:=Mj.1 ho;have:=V.obj i b Z;rw[p]at this;exact this.block.2
def vt(hT:bb P E)(V:Rel O al s β a w){t tx f d:Nat}(av:cZ E t=T)(hd:d<al){x y:AV}
 (h:lT (aW E t) (aR E t) (isStr (E tx).desc) (cZ E tx) f d s x y k)(hv:ag O β s.gen s.obj w x v)(L:ag O β s.gen s.obj w y u)(ty:TypeId):
  ∃W A G Y,K W/\(Builtin.append_ #[t,tx] ty #[v,u]).run P w=.ok Y G/\Rel O al W A (a.put (S d) Y) G/\Tr O β s w A W G:=by
 obtain⟨e,c4,cb,b1,b2⟩:=eo hT av;rw[cb,show aW E t=e from by simp[aW,c4]]at h;unfold lT at h;split at h
 .simp only[ag,ay]at hv
  obtain rfl:=hv.inv_nsl;obtain⟨n,cs,news,⟨r,J⟩,hs,cz⟩:=nA hT V h L;obtain⟨c2,hi,az,_⟩:=b2.info;by_cases hn:n=0
  .subst hn
   obtain rfl:=Src.eq_nil hs;obtain rfl:=cz.nil_of;have bf:=run_append_nothing (P:=P) w t tx ty e c2 b1 hi N 0 0 (l7 _) u (by rw[az];exact hs);obtain⟨r1,r2⟩:=kC (e+1) V f d hd (E e).size (x:=N) (v:=.slice N 0 0) ⟨rfl,rfl⟩ rfl rfl (λ_ _ _ _ _ _ I=>by cases I) (λ_ _ I=>by cases I);exact⟨_,_,_,_,J,bf,r1,r2⟩
  .obtain⟨A,G,Y,g1,g2,g3⟩:=sh (e+1) V b1 b2 f d hd (base:=N) (g:=0) (b0:=0) (n:=n) (x:=u) (cs:=[]) (cf:=cs) (olds:=[]) (news:=news)
    (run_firstCells_none w.drew _ _ _ _) a8 hs ⟨rfl,λ_ _ Z=>by simp at Z⟩ cz a7 (by simpa using r) (.inl rfl) ty (tx:=tx)
   simp only[A6,C7]at g2 g3;exact⟨_,_,_,_,J,g1,g2,g3⟩
 .rename_i id g' sz b' len
  obtain⟨hg,rfl,h⟩:=h;obtain⟨cv,ho,Q,h⟩:=aJ h;simp only[ag]at hv;have b4:=fM hv hg VW;obtain⟨n,cs,news,⟨r,J⟩,hs,cz⟩:=nA hT V h L;obtain⟨c2,hi,az,_⟩:=b2.info;have bl:=V.obj id cv ho
  -- an empty handle,to dc nothing is m
  have l:len=0->n=0->v.oneCell'=T->∀(c1:∃b,v=.slice b 0 0),∃W A G Y,K W/\(Builtin.append_ #[t,tx] ty #[v,u]).run P w=.ok Y G/\Rel O al W A (a.put (S d) Y) G/\Tr O β s w A W G:=by
   rintro rfl rfl b3 ⟨b,rfl⟩;obtain rfl:=Src.eq_nil hs;obtain rfl:=cz.nil_of;have bf:=run_append_nothing (P:=P) w t tx ty e c2 b1 hi b 0 0 (l7 _) u (by rw[az];exact hs);simp only[Nat.zero_mul,L5,s7,J6]at J;cases p:β id with
   |none=>
     rw[p]at b4 bl;obtain⟨r1,r2⟩:=kC (apC e (s.gen id) b') V id d hd (E e).size (x:=N) (v:=.slice b 0 0) ⟨rfl,b4.2⟩ b3 rfl (λ_ _ _ _ _ _ I=>by cases I) (λ_ _ I=>by cases I);exact⟨_,_,_,_,J,bf,r1,r2⟩
   |some ad=>
     rw[p]at b4 bl;obtain⟨b5,b4⟩:=b4;obtain⟨hB,arr,el,H,bo,a6,ar,bd,ca⟩:=bl.cells b5
     have I:nj w (E e).size 0 0 (.slice b 0 0) (S ⟨ad.block,ad.off+b',N⟩):=by
      rcases b4 with⟨cap,cx,_,Z⟩|⟨_,o,q⟩
      .cases cx
       exact⟨rfl,.inl ⟨0,a8,l7 _,λcu c0 cm U=>by have:=Z _ _ _ U;simpa using this⟩⟩
      .exact⟨rfl,.inr ⟨rfl,o,q⟩⟩
     obtain⟨r1,r2⟩:=kC (apC e (s.gen id) b') V id d hd (E e).size (x:=S ⟨ad.block,ad.off+b',N⟩) (v:=.slice b 0 0) I b3
      (.ofCells rfl ⟨hB,arr,el,H,bo,a6,⟨ar.1,λch=>by obtain⟨q1,q2,q3⟩:=JD ch;obtain⟨q4,q5⟩:=ar.2 (by rw[q1];omega);exact⟨by rw[q3,q4,q1],by simp[q5,q2]⟩⟩,by simp at Q|-;omega,λ_ _ Z=>by simp at Z⟩)
      (λi' a' bn bz b6 cc b7 hb=>by cases b7;exact bz (V.inj i' id a' ad b6 VW cc p hb)) (λX bn b7 hb=>by cases b7;exact hb.2.2 id ad VW p)
     exact⟨_,_,_,_,J,bf,r1,r2⟩
  -- c' cv a1 ev there c7
  have c:∀base b0,v=.slice base len b0->len*(E e).size=0\/(∃ad,β id=S ad/\base=S ⟨ad.block,ad.off+b',N⟩)->b0<len+n->
    ∃W A G Y,K W/\(Builtin.append_ #[t,tx] ty #[v,u]).run P w=.ok Y G/\Rel O al W A (a.put (S d) Y) G/\Tr O β s w A W G:=by
   rintro base b0 rfl i af
   have bk:∃olds,(Builtin.firstCells (E e).size len (.slice base len b0)).run P w.drew=.ok olds.toArray w.drew/\z olds=len*(E e).size/\bw O β s w ((cv.drop b').take (len*(E e).size)) olds:=by
    rcases i with h0|⟨ad,p,rfl⟩
    .refine⟨[],?_,by simp[h0],by simp[h0],λ_ _ Z=>by rw[h0]at Z;simp at Z⟩
     cases base with
     |none=>exact run_firstCells_none w.drew _ _ _ _
     |some b=>exact run_firstCells_some w.drew _ _ b _ _ [] (by simp[h0]) (λ_ _ Z=>by simp at Z)
    .rcases oF V (b4.spot) ho Q with⟨dd,bs,vs,c6,hl,cd⟩|⟨bs,rfl⟩
     .rw[p]at bs;cases bs
      exact⟨vs,run_firstCells_some w.drew _ _ _ _ _ vs hl (λj u L=>by rw[dO];simpa using cd j u L),hl,c6⟩
     .rw[p]at bs;cases bs
   obtain⟨olds,o1,o2,B⟩:=bk;obtain⟨A,G,Y,g1,g2,g3⟩:=sh (apC e (s.gen id) b') V b1 b2 id d hd (base:=base) (g:=len) (b0:=b0) (n:=n) (x:=u) o1 o2 hs B cz af r (NO _ _ _) ty (tx:=tx);exact⟨_,_,_,_,J,g1,g2,g3⟩
  cases p:β id with
  |none=>
    rw[p]at b4;obtain⟨b8,rfl⟩:=b4;by_cases hn:n=0
    .exact l b8 hn rfl ⟨N,rfl⟩
    .subst b8
     exact c N 0 rfl (.inl a8) a7
  |some ad=>
    rw[p]at b4;obtain⟨b5,b4⟩:=b4;rcases b4 with⟨cap,rfl,cy,Z⟩|⟨b8,o,rfl⟩
    .by_cases af:cap<len+n
     .exact c _ cap rfl (.inr ⟨ad,p,rfl⟩) af
     .obtain⟨A,G,Y,g1,g2,g3⟩:=yx (apC e (s.gen id) b') V b1 b2 id d hd p b5 ho Q Z hs cz a7 Ft ty
      exact⟨_,_,_,_,J,g1,g2,g3⟩
    .by_cases hn:n=0
     .exact l b8 hn rfl ⟨_,rfl⟩
     .subst b8
      exact c _ 0 rfl (.inl a8) a7
 .exact SL
def rr(hT:bb P E)(V:Rel O al s β a w){t f d:Nat}(av:cZ E t=T)(hd:d<al){x y:AV}
 (h:jl (aW E t) (aR E t) f d s x y k)(q:ag O β s.gen s.obj w x v)(L:ag O β s.gen s.obj w y u):
  ∃W A G Y,K W/\(Instr.makeSlice t v u).run P w=.ok Y G/\Rel O al W A (a.put (S d) Y) G/\Tr O β s w A W G:=by
 obtain⟨e,c4,cb,b1,b2⟩:=eo hT av;rw[cb,show aW E t=e from by simp[aW,c4]]at h;unfold jl at h;split at h
 .rename_i k1 n k2 m
  obtain⟨h0,U,h2,h3,J⟩:=h;simp only[ag,ay]at q L;obtain rfl:=q.inv_int;obtain rfl:=L.inv_int;obtain⟨r,Q,az,cz,X,hz,cd⟩:=b2.info;have bf:=run_make (P:=P) w t e r X b1 Q hz k1 k2 n m h0 U (by rw[cz,Int.mul_comm];exact h3) a7;have H:=b2.zsize Q hz
  have B:z ((List.replicate m.toNat ((E e).zero.map C.d)).flatten)=m.toNat*(E e).size:=by
   simp[b2.zlen]
  refine⟨_,upd β f (S ⟨w.heap.size,0,N⟩),_,_,J,bf,?_⟩;refine tQ (e+1) V f d hd rfl (by exact⟨rfl,rfl⟩) (vs:=(madeCells X.cells (m.toNat*r.size)).toList) ⟨?_,λj c Z=>?_⟩ (λj v q=>by simpa using q) ?_ (λ_ _=>rfl) _ _ _ a7 ?_
  .rw[B,N1,size_madeCells,az]
  .have af:j<m.toNat*(E e).size:=by rw[<-B];exact(l5.1 Z).1
   obtain⟨i,e',b,q1,l,q3⟩:=kT (sz:=(E e).size) _ (λe' I=>by rw[F1 I,j6,b2.zlen]) j c Z;have I:e'=(E e).zero.map C.d:=F1 (l6 q1);subst I;rw[x8]at l;cases p:(E e).zero[b]? with
   |none=>rw[p]at l;cases l
   |some x=>
     rw[p]at l;simp only[z7,v7]at l;subst l;have cu:b<(E e).size:=by rw[<-b2.zlen];exact(l5.1 p).1
     have o:j%X.cells.size=b:=by rw[H,q3,Sh,Nat.mul_add_mod,J9 cu]
     have g:X.cells[b]?=S (dV x):=by rw[<-I4,cd,x8,p];rfl
     refine⟨dV x,?_,?_⟩
     .rw[I4]
      have:j<m.toNat*r.size:=by rw[az];exact af
      simp only[madeCells,Array.getElem?_map,Array.getElem?_range,this,B1,z7,o];rw[getElem!_def,g]
     .simp only[ay]
      exact ce.of_plain (by have:=b2.plain;rw[y8]at this;exact this x (l6 p))
  .rw[B,size_madeCells,az];exact l7 _
  .rw[size_madeCells,az];exact l7 _
 .exact SL
def vR(off:Nat):∀(l:List Value)(k:Nat)(c:Array Value),((l.zipIdx k).foldl (λcs(p:Value×Nat)=>cs.setIfInBounds (off+p.2) p.1) c).size=c.size/\
  ∀j,((l.zipIdx k).foldl (λcs(p:Value×Nat)=>cs.setIfInBounds (off+p.2) p.1) c)[j]?=if off+k<=j/\j<off+k+z l/\j<c.size then l[j-(off+k)]? else c[j]?
 |[],k,c=>⟨rfl,λj=>by rw[j8 VC];rfl⟩
 |v::l,k,c=>by
   simp only[List.zipIdx_cons,H7];obtain⟨U,e⟩:=vR off l (k+1) (c.setIfInBounds (off+k) v);refine⟨by rw[U];simp,λj=>?_⟩;rw[e j];simp only[R8,j9];by_cases b:j=off+k
   .subst b
    rw[j8 a7];by_cases d:off+k<c.size
    .rw[l8 a7,M7 d];simp
    .rw[j8 a7];simp[d]
   .by_cases Z:off+(k+1)<=j/\j<off+(k+1)+z l/\j<c.size
    .rw[l8 Z,l8 a7]
     have:j-(off+k)=(j-(off+(k+1)))+1:=a7;rw[this,s9]
    .rw[j8 Z,j8 a7,Ml (B8 b)]
def vS{pl:Nat->Option (Nat×Nat)}{i off sz:Nat}{v:Value}{vs:List Value}{cells:Array Value}{rest:List (Nat×Value)}(c:pl i=S (off,sz))(b:v.cells=vs.toArray)(hl:z vs=sz)(Q:off+sz<=cells.size):
  ∃m:Array Value,Instr.fill pl cells ((i,v)::rest)=Instr.fill pl m rest/\m.size=cells.size/\∀j,m[j]?=if off<=j/\j<off+sz/\j<cells.size then vs[j-off]? else cells[j]?:=by
 obtain⟨U,d⟩:=vR off vs 0 cells;have az:v.cells.size=sz:=by rw[b];simpa using hl
 refine⟨_,?_,U,λj=>?_⟩
 .simp only[Instr.fill,c,az,ne_eq,Q9,L2,R6,gt_iff_lt,B4,j8 (Nat.not_lt.2 Q)]
  rw[b];congr 1;simp
 .have:=d j
  simp only[J6,hl]at this;exact this
def si{al:Nat}{s:St}{a:Act}(V:Rel O al s β a w){pl:Nat->Option (Nat×Nat)}:∀(ps:List (Nat×Operand)){cells:List C}{g:Array Value}{K:List C->Prop}{k:Box K},bw O β s w cells g.toList->
  tt pl cells (ps.map λp=>(p.1,s.ev p.2)) k->∃m b,K m/\Instr.fill pl g (ps.map λp=>(p.1,a.eval p.2))=S b/\bw O β s w m b.toList
 |[],cells,g,K,k,Z,h=>⟨cells,g,h,rfl,Z⟩
 |p::ps,cells,g,K,k,Z,h=>by
   simp only[l9,tt]at h;obtain⟨q,i,h⟩:=aJ h;obtain⟨cs,n,hl,Q,h⟩:=aJ h;obtain⟨vs,e1,e2,o,G⟩:=ag.cells n (V.ev p.2);have b0:g.size=z cells:=by simpa using Z.1
   obtain⟨b,r,t,x⟩:=vS (rest:=ps.map λp=>(p.1,a.eval p.2)) (cells:=g) i e1 (by rw[e2,hl]) a7
   have l:bw O β s w (setAt cells q.1 cs) b.toList:=by
    refine⟨by simp[mh,t,b0],λj c f=>?_⟩;rw[rp]at f;rw[I4,x];split at f
    .rename_i y
     rw[l8 a7];exact o _ c f
    .rename_i y
     rw[j8 a7];simpa using Z.2 j c f
   obtain⟨d,e,f1,A,B⟩:=si V ps l h;exact⟨d,e,f1,by simp only[l9];rw[r];exact A,B⟩
def tR{al:Nat}{s:St}{a:Act}(V:Rel O al s β a w){sz:Nat}:∀(ps:List (Nat×Operand)){k:Nat}{arr:Array Value}{K:List C->Prop}{b:Box K},arr.size=(k+z ps)*sz->
  Ak sz k (ps.map λp=>(p.1,s.ev p.2)) b->∃cs vs g,K cs/\Instr.fill (λi=>S (i*sz,sz)) arr (ps.map λp=>(p.1,a.eval p.2))=S g/\g.size=arr.size/\bw O β s w cs vs/\z vs=z ps*sz/\
   (∀j,j<k*sz->g[j]?=arr[j]?)/\∀(j:Nat)v,vs[j]?=S v->g[k*sz+j]?=S v
 |[],k,arr,K,b,az,h=>⟨[],[],arr,h,rfl,rfl,⟨rfl,λ_ _ h=>by simp at h⟩,a8,λ_ _=>rfl,λ_ _ h=>by simp at h⟩
 |p::ps,k,arr,K,b,az,h=>by
   simp only[l9,Ak]at h;obtain⟨q,h⟩:=h;obtain⟨cs,r,hl,h⟩:=aJ h;obtain⟨vs,e1,e2,t,G⟩:=ag.cells r (V.ev p.2);have I:(k+(z ps+1))*sz=k*sz+sz+z ps*sz:=by rw[E7,E7];omega
   simp only[j9]at az;rw[I]at az;obtain⟨x,y,n,o⟩:=vS (pl:=λi=>S (i*sz,sz)) (i:=p.1) (v:=a.eval p.2) (rest:=ps.map λp=>(p.1,a.eval p.2)) (cells:=arr) (by rw[q]) e1 (by rw[e2,hl]) a7;have c:(k+1)*sz=k*sz+sz:=by rw[E7];omega
   obtain⟨rest,e,d,f1,A,B,f4,f5,f6,Z⟩:=tR V ps (k:=k+1) (arr:=x) (by rw[n,az,E7,c]) h;have l:z vs=sz:=by rw[e2,hl]
   refine⟨cs++rest,vs++e,d,f1,by simp only[l9];rw[y];exact A,by rw[B,n],bw.append ⟨e2,t⟩ f4,by simp[l,f5,E7];omega,λj f=>?_,λj v f=>?_⟩
   .rw[f6 j a7,o,j8 a7]
   .rw[K8]at f
    split at f
    .rename_i m
     rw[l]at m;rw[f6 _ a7,o,l8 a7,show k*sz+j-k*sz=j by omega];exact f
    .rename_i m
     have:=Z _ v f;rw[l]at this m;rw[c,show k*sz+sz+(j-sz)=k*sz+j by omega]at this;exact this
def qr(hT:bb P E)(V:Rel O al s β a w){t f d n:Nat}(av:cZ E t=T)(hd:d<al){ps:List (Nat×Operand)}
 (h:jC (aW E t) (aR E t).size f d n s (ps.map λp=>(p.1,s.ev p.2)) k):
  ∃W A G Y,K W/\(Instr.buildSlice t n (ps.map λp=>(p.1,a.eval p.2)).toArray).run P w=.ok Y G/\Rel O al W A (a.put (S d) Y) G/\Tr O β s w A W G:=by
 obtain⟨e,U,cb,b1,b2⟩:=eo hT av;rw[cb,show aW E t=e from by simp[aW,U]]at h;obtain⟨c2,I,az,cz,X,J,cd⟩:=b2.info;have H:=b2.zsize I J;obtain⟨r,c,h⟩:=h;rw[j6]at r;have q:¬n*(E e).size>2^24:=a7
 have L:∀arr:Array Value,arr.size=n*(E e).size->∃cs l,K ((s.newC (e+1) f cs).put (S d) (.one (.osl f (nxC (e+1) (s.gen f)) (E e).size 0 n)))/\Instr.fill (λi=>S (i*(E e).size,(E e).size)) arr (ps.map λp=>(p.1,a.eval p.2))=S l/\bw O β s w cs l.toList/\l.size=n*(E e).size:=λarr g=>by
  obtain⟨cs,vs,l,f1,o,m,f4,f5,f6,Z⟩:=tR V ps (k:=0) (arr:=arr) (by rw[g,C7,r]) h
  have y:vs=l.toList:=by
   apply M5;intro j;have e2:l.toList[j]?=l[j]?:=I4;rw[e2];by_cases Q:j<z vs
   .have:=Z j _ (v8 Q)
    rw[v8 Q,<-this];simp
   .rw[E5 a7,J7 (by rw[m,g,<-r,<-f5];omega)]
  exact⟨cs,l,f1,o,y▸f4,by rw[m,g]⟩
 have b:∃cs l,K ((s.newC (e+1) f cs).put (S d) (.one (.osl f (nxC (e+1) (s.gen f)) (E e).size 0 n)))/\(Instr.buildSlice t n (ps.map λp=>(p.1,a.eval p.2)).toArray).run P w=.ok (.slice (S ⟨w.heap.size,0,N⟩) n n) (w.alloc (.cells l e))/\bw O β s w cs l.toList/\l.size=n*(E e).size:=by
  unfold Instr.buildSlice;simp only[Sem.run_bind,run_underlying b1,bB b2,Result.andThen_ok,q,A8];by_cases B:n*(E e).size=0
  .obtain⟨cs,l,f1,o,m,f4⟩:=L ((Array.range (n*(E e).size)).map (λx=>(#[]:Array Value)[x%(#[]:Array Value).size]!)) a8
   refine⟨cs,l,f1,?_,m,f4⟩;simp only[B,B1,Sem.run_bind,Sem.run_pure,Result.andThen_ok];rw[B]at o;simp only[o];simp[newRow]
  .obtain⟨cs,l,f1,o,m,f4⟩:=L ((Array.range (n*(E e).size)).map (λx=>X.cells[x%X.cells.size]!)) a8
   refine⟨cs,l,f1,?_,m,f4⟩;simp only[B,A8,Sem.run_bind,zeroValue,typeInfo,Sem.run_pure,run_program,Result.andThen_ok,I,J];simp only[o];simp[newRow]
 obtain⟨cs,l,f1,o,m,f4⟩:=b;have b0:z cs=l.size:=by have:=m.1;simpa using this.symm
 refine⟨_,upd β f (S ⟨w.heap.size,0,N⟩),_,_,f1,o,?_⟩;exact tQ (e+1) V f d hd (arr:=l) (el:=e) rfl (by exact⟨rfl,rfl⟩) m (λj v y=>by simpa using y) a7 (λ_ _=>rfl) _ _ _ (l7 _) a7
def Fu(V:Rel O al s β a w)(i d:Nat)(hd:d<al){el:TypeId}{arr:Array Value}(Z:bw O β s w cs arr.toList):
  Rel O al ((s.newC (el+1) i cs).put (S d) (.one (.ptr i (nxC (el+1) (s.gen i)) 0))) (upd β i (S ⟨w.heap.size,0,N⟩)) (a.put (S d) (.pointer (S ⟨w.heap.size,0,N⟩))) (w.alloc (.cells arr el))/\
   Tr O β s w (upd β i (S ⟨w.heap.size,0,N⟩)) ((s.newC (el+1) i cs).put (S d) (.one (.ptr i (nxC (el+1) (s.gen i)) 0))) (w.alloc (.cells arr el)):=by
 have g:z cs=arr.size:=by have:=Z.1;simpa using this.symm
 obtain⟨U,b⟩:=Rel.new (G:=w.alloc (.cells arr el)) (el+1) V i rfl ⟨rfl,rfl⟩ (cs:=cs) a7 (λ_ _=>rfl) (λj c e=>by simpa using Z.2 j c e);refine⟨U.put (λl f=>by cases f;exact hd) ?_,b.trans (Tr.same (St.put_gen _ _ _) (St.put_obj _ _ _) rfl)⟩;simp only[ag,ay];refine⟨rfl,by simp[St.newC,upd],λ_ _=>⟨⟨w.heap.size,0,N⟩,by simp[upd],rfl,a8⟩⟩
end
end
end
section
attribute[local congr]ite_cc
section
def fk(al:Nat)(l:List Oper):Bool:=l.all λo=>match o.dst with|some d=>decide (d<al)|none=>T
def codeOk(al:Nat):Code->Bool
 |.region _ ops _=>fk al ops.toList
 |.seq x y=>codeOk al x&&codeOk al y
 |.cond _ x y=>codeOk al x&&codeOk al y
 |.block _ c=>codeOk al c
 |.loop c=>codeOk al c
 |.scope c=>codeOk al c
 |.rangeFunc _ b x y=>b.toList.all (λp=>decide (p<al))&&codeOk al x&&codeOk al y
 |_=>T
def tK(P:Program)(o:Oper)(s:St)(R:St->Prop):Prop:=∀(O:Bs)(al:Nat)(β:Loc)(a:Act)(w:World),Rel O al s β a w->(∀d,o.dst=S d->d<al)->∀(next:Act->World->Prop)(Q:Exit->Act->World->Prop),
 (∀W A b G,R W->Rel O al W A b G->Tr O β s w A W G->next b G)->o.wp P a w next Q
def JE(P:Program)(c:Code)(s:St)(R:Exit->St->Prop):Prop:=∀(O:Bs)(al:Nat)(β:Loc)(a:Act)(w:World),codeOk al c=T->Rel O al s β a w->
 c.wp P (λe b G=>∃W A,R e W/\Rel O al W A b G/\Tr O β s w A W G) a w
def ae(s d:St):Prop:=∀(O:Bs)(al:Nat)(β:Loc)(a:Act)(w:World),Rel O al s β a w->∃A,Rel O al d A a w/\Tr O β s w A d w
def ae.refl(s:St):ae s s:=λ_ _ β _ _ h=>⟨β,h,Tr.refl⟩
def spB(P:Program)(B:Nat):Sp:=⟨tK P,JE P,ae,B⟩
def sp(P:Program):Sp:=spB P 0
@[go_sem]def Up(P:Program):(sp P).base=0:=B7 rfl rfl
@[go_sem]def Rp(P:Program)(B:Nat):(spB P B).base=B:=B7 rfl rfl
variable{a:Act}{s:St}{al:Nat}{o:Oper}{Q:Exit->Act->World->Prop}{x:AV}{K:St->Prop}{next:Act->World->Prop}{G:World}{g:Nat->Nat}{ob:Obs}{v:Value}{l:List Oper}{ops:Array Oper}{k:Box K}
section
variable{P:Program}{E:Nat->TI}{O:Bs}{β:Loc}{w:World}{B:Nat}
def fy{Y:Value}(b:(execOp a.eval o).run P w=.ok (.value Y) G)(c:next (a.put o.dst Y) G):o.wp P a w next Q:=by
 unfold Oper.wp;rw[b];exact c
def tS(b:(execOp a.eval o).run P w=.ok .skip G)(c:next (a.put o.dst undef) G):o.wp P a w next Q:=by
 unfold Oper.wp;rw[b];exact c
def cI:ag O β g ob w uv undef:=by
 simp only[ag,aH];exact⟨[],rfl,rfl⟩
def BY{A:Type}{xs:Array A}(h:xs.size=1)(d:A):xs = #[xs.getD 0 d]:=by
 apply Array.ext
 .simp[h]
 .intro i U b
  have:i=0:=a7;subst this;simp[Array.getD,h]
def sV{A:Type}{xs:Array A}(h:xs.size=2)(d:A):xs = #[xs.getD 0 d,xs.getD 1 d]:=by
 apply Array.ext
 .simp[h]
 .intro i U b
  have:i=0\/i=1:=a7;rcases this with rfl|rfl<;>simp[Array.getD,h]
def nB{d:TypeDesc}{f:Nat}{fl:Field}(h:jX d f=S fl):∃fs,d=.struct fs/\fs[f]?=S fl:=by
 cases d<;>simp[jX]at h;exact⟨_,rfl,by simpa using h⟩
def nC(hT:bb P E){fl:Field}(U:okD (E fl.type).desc=T)(c:(E fl.type).size≠0)(b o:Nat):(fieldPlace ⟨b,o,N⟩ fl).run P w=.ok ⟨b,o+fl.offset,N⟩ w:=by
 unfold fieldPlace;rw[Sem.run_bind,bB (hT _ U)];simp[c,dO]
def rt(hT:bb P E){t f:Nat}{K:AV->Prop}{k:Box K}(h:il E t f s x k)(hv:ag O β s.gen s.obj w x v):
  ∃y Y,K y/\(∀G,Ext w G->(Instr.fieldAt t v f).run P G=.ok Y G)/\ag O β s.gen s.obj w y Y:=by
 unfold il at h;split at h
 .rename_i id g c
  obtain⟨m,ho,h⟩:=h;obtain⟨fl,d,⟨U,e⟩,J⟩:=aJ h;obtain⟨fs,hd,i⟩:=nB d;have L:=(hT t V8).desc;rw[hd]at L;simp only[ag,ay]at hv;obtain⟨ad,p,b5,rfl⟩:=hv.2.2 m ho;refine⟨_,.pointer (S ⟨ad.block,ad.off+c+fl.offset,N⟩),J,λG _=>?_,?_⟩
  .simp[Instr.fieldAt,run_underlying L,i,Instr.sureAddr,nC hT U e]
  .exact SG
 .rename_i A
  obtain⟨fl,d,⟨U,e⟩,J⟩:=aJ h;obtain⟨fs,hd,i⟩:=nB d;have L:=(hT t V8).desc;rw[hd]at L;simp only[ag,ay]at hv;cases hv with
  |iptr r n q u=>
    rename_i b c;refine⟨_,.pointer (S ⟨b,c+fl.offset,N⟩),J,λG _=>?_,?_⟩
    .simp[Instr.fieldAt,run_underlying L,i,Instr.sureAddr,nC hT U e]
    .simp only[ag,ay]
     refine .iptr (λj=>r (fl.offset+j)) (λbz=>n (by rintro rfl;simp at bz)) (λj x I=>?_) (λj x I=>u _ x (by rw[H0]at I;exact I));rw[H0]at I;rw[C0];exact q _ x I
 .exact SL
def ly.part{cs:List C}{vs:Array Value}(h:ly O β g ob w cs vs){o n:Nat}(Q:o+n<=z cs):ag O β g ob w (.agg ((cs.drop o).take n)) (.agg (vs.extract o (o+n))):=by
 simp only[ag];refine⟨_,rfl,by simp[h.1];omega,λi c Z=>?_⟩;rw[I1]at Z;split at Z
 .rename_i b
  rw[H0]at Z;obtain⟨u,L,V⟩:=h.2 _ c Z;refine⟨u,?_,V⟩;rw[Array.getElem?_extract];have:i<min (o+n) vs.size-o:=by rw[h.1];omega
  rw[l8 this];exact L
 .cases Z
def xb(hT:bb P E){t f:Nat}{K:AV->Prop}{k:Box K}(h:qZ E t f x k)(d:ag O β s.gen s.obj w x v):
  ∃y Y,K y/\(∀G,Ext w G->(Instr.field t v f).run P G=.ok Y G)/\ag O β s.gen s.obj w y Y:=by
 unfold qZ at h;split at h
 .rename_i n
  obtain⟨fl,m,U,h⟩:=aJ h;obtain⟨fs,hd,i⟩:=nB m;have L:=(hT t V8).desc;rw[hd]at L;have b:=hT _ U;simp only[ag]at d;obtain⟨vs,rfl,j⟩:=d;unfold xR at h;split at h
  .rename_i e
   refine⟨_,_,h.2,λG _=>?_,ly.part j h.1⟩;simp[Instr.field,run_underlying L,i,asAgg,part,ou b,e,bB b]
  .rename_i e
   obtain⟨c,Z,J⟩:=aJ h;obtain⟨u,r,V⟩:=j.2 _ c Z;refine⟨_,u,J,λG _=>?_,by simpa only[ag]using V⟩;simp[Instr.field,run_underlying L,i,asAgg,part,ou b,e,r]
 .exact SL
def sN{ox:Operand}(ho:o.op=.nilCheck ox){K:AV->Prop}{k:Box K}(h:jk s x k)(b:ag O β s.gen s.obj w x (a.eval ox)):
  ∃y Y,K y/\(∀G,Ext w G->(execOp a.eval o).run P G=.ok (.value Y) G)/\ag O β s.gen s.obj w y Y:=by
 have d:=b;unfold jk at h;split at h
 .obtain⟨c,bl,J⟩:=h
  simp only[ag,ay]at b;obtain⟨f,p,i,e⟩:=b.2.2 c bl;exact⟨_,_,J,λG _=>by simp[execOp,ho,e],d⟩
 .simp only[ag,ay]at b
  generalize c:a.eval ox=v at b;cases b with
  |iptr r j m n=>exact⟨_,.pointer (S ⟨_,_,N⟩),h,λG _=>by simp[execOp,ho,c];exact⟨rfl,rfl⟩,by rw[c]at d;exact d⟩
 .exact SL
def aH.get{g:Nat->Nat}{ob:Obs}:∀{ts:List AV}{vs:List Value}{i:Nat}{t:AV},aH O β g ob w ts vs->ts[i]?=S t->∃v,vs[i]?=S v/\ag O β g ob w t v
 |[],_,_,_,_,h=>by simp at h
 |x::ts,vs,i,t,h,hi=>by
   simp only[aH]at h;obtain⟨u,c,rfl,U,b⟩:=h;cases i with
   |zero=>simp at hi;subst hi;exact⟨u,rfl,U⟩
   |succ i=>simpa using aH.get b WG
def qs(hT:bb P E){ar:Sp}(V:Rel O al s β a w)(hp:ee E o.op=T)(h:opA ar E o s k):
  ∃y Y,K (s.put o.dst y)/\(∀G,Ext w G->(execOp a.eval o).run P G=.ok (.value Y) G)/\ag O β s.gen s.obj w y Y:=by
 obtain⟨dst,op,ty,ps,af,gd⟩:=o;cases op with
 |move x=>exact⟨_,_,h,λ_ _=>rfl,V.ev x⟩
 |assign x=>exact⟨_,_,h,λ_ _=>rfl,V.ev x⟩
 |pick c x y=>
   obtain⟨b,hb,J⟩:=px h (V.ev c);refine⟨_,if b then a.eval x else a.eval y,J,λG _=>?_,?_⟩
   .simp[execOp,hb,asBool]
   .cases b
    .exact V.ev y
    .exact V.ev x
 |load t x=>
   obtain⟨y,Y,U,h2,h3⟩:=sf hT V h (V.ev x);exact SN
 |indexAddr t x ix=>
   have h:(bif na (E t).desc then lr E (E t).desc s (s.ev x) (s.ev ix) (bx λv=>K (s.put dst v))else cZ E t=T/\ik s (aR E t).size (s.ev x) (s.ev ix) (bx λv=>K (s.put dst v))):=by cases x<;>first|exact h|(simp[ee]at hp;done)
   cases ha:na (E t).desc with
   |true=>
     rw[ha,Sy]at h;obtain⟨y,Y,U,h2,h3⟩:=tL hT h (V.ev x) (V.ev ix);exact SN
   |false=>
     rw[ha,Sx]at h;obtain⟨y,Y,U,h2,h3⟩:=ri hT h.1 h.2 (V.ev x) (V.ev ix);exact SN
 |index t x ix=>
   have L:=(hT t (by rw[gz h.1];rfl)).desc;rw[gz h.1]at L;obtain⟨y,Y,U,h2,h3⟩:=wT (s:=s) L h.2 (V.ev x) (V.ev ix);exact SN
 |binOp Q t x y u=>
   obtain⟨X,Y,U,h2,h3⟩:=Aw hT h (V.ev x) (V.ev y) x y;refine⟨X,Y,U,λG bk=>?_,h3⟩;simp only[execOp];rw[Sem.run_bind,h2 G bk];rfl
 |unOp B t x=>
   have h:unA B (s.ev x) (bx λv=>K (s.put dst v)):=h;obtain⟨X,Y,U,h2,h3⟩:=Dv (P:=P) h (V.ev x);exact p8
 |convert t u x=>
   have a1:isSlice (E u).desc=F:=by simpa[ee]using hp
   have h:(bif isSlice (E u).desc then lX E t u ar.base dst s (s.ev x) k else sa s (aR E t).desc (E t).desc (E u).desc (s.ev x) (bx λv=>K (s.put dst v))):=h;rw[a1,Sx]at h;obtain⟨X,Y,U,h2,h3⟩:=yw hT V h (V.ev x);exact p8
 |slice t x H hi mx=>
   cases mx with
   |some _=>simp[ee]at hp
   |none=>
     have e1:wW O β s.gen s.obj w (H.map s.ev) (H.map a.eval):=by cases H;exact .none;exact .some (V.ev _)
     have e2:wW O β s.gen s.obj w (hi.map s.ev) (hi.map a.eval):=by cases hi;exact .none;exact .some (V.ev _)
     have h:(bif na (E t).desc then lu E (E t).desc s (s.ev x) (H.map s.ev) (hi.map s.ev) (bx λv=>K (s.put dst v))else pu s (isStr (E t).desc) (cZ E t) (aR E t).size (s.ev x) (H.map s.ev) (hi.map s.ev) (bx λv=>K (s.put dst v))):=h;cases ha:na (E t).desc with
     |true=>
       rw[ha,Sy]at h
       obtain⟨X,Y,U,h2,h3⟩:=sK hT (λid cs ad U h2 h3 arr el fr h4=>by
        have h5:=V.obj id cs U;rw[h2]at h5;obtain⟨_,bn,r,_,_,h6,_,h7,_⟩:=h5.cells h3;rw[h4]at h6;cases h6;exact h7) h (V.ev x) e1 e2
       exact p8
     |false=>
       rw[ha,Sx]at h;obtain⟨X,Y,U,h2,h3⟩:=wX hT h (V.ev x) e1 e2;exact p8
 |fieldAddr t x f=>
   have h:il E t f s (s.ev x) (bx λv=>K (s.put dst v)):=h;obtain⟨X,Y,U,h2,h3⟩:=rt hT h (V.ev x);exact p8
 |field t x f=>
   have h:qZ E t f (s.ev x) (bx λv=>K (s.put dst v)):=h;obtain⟨X,Y,U,h2,h3⟩:=xb hT h (V.ev x);exact p8
 |lookup t x ix ok=>
   have h:lW E t s (s.ev x) (s.ev ix) ok (bx λv=>K (s.put dst v)):=h;obtain⟨X,Y,U,h2,h3⟩:=vj hT V h (V.ev x) (V.ev ix);exact p8
 |makeFunc fn first q=>
   cases fn with
   |func f=>
     have h:jm f (first.toList.map s.ev) (q.toList.map s.ev) (bx λv=>K (s.put dst v)):=h;obtain⟨X,Y,U,h2,h3⟩:=sI (P:=P) V h;exact p8
   |_=>simp[ee]at hp
 |nilCheck x=>
   have h:jk s (s.ev x) (bx λv=>K (s.put dst v)):=h;exact sN rfl h (V.ev x)
 |extract x i=>
   have h:nb (s.ev x) i (bx λv=>K (s.put dst v)):=h;have I:=V.ev x;unfold nb at h;split at h
   .rename_i ts he
    obtain⟨t,ht,J⟩:=aJ h;rw[he]at I;simp only[ag]at I;obtain⟨vs,hv,b4⟩:=I;obtain⟨v,cx,m⟩:=b4.get ht;exact⟨_,v,J,λG _=>by simp[execOp,hv,Instr.extract,cx],m⟩
   .exact SL
 |build t ps=>
   have h:fe E t (ps.toList.map λp=>(p.1,s.ev p.2)) (bx λv=>K (s.put dst v)):=h;obtain⟨b3,h⟩:=h
   obtain an:(∃fs,(E t).desc=.struct fs/\∀f∈fs.toList,okD (E f.type).desc=T)\/∃n e,(E t).desc=.array n e/\okD (E e).desc=T:=by
    unfold fW at b3;split at b3
    .rename_i fs hq;exact .inl ⟨fs,hq,y8.1 b3⟩
    .rename_i n e hq;exact .inr ⟨n,e,hq,b3⟩
    .cases b3
   have b1:=hT t (by rcases an with⟨_,hd,_⟩|⟨_,_,hd,_⟩<;>rw[hd]<;>rfl);have L:=b1.desc;obtain⟨c2,hi,az,cz,X,hz,cd⟩:=b1.info
   have bd:bw O β s w ((E t).zero.map .d) X.cells.toList:=by
    refine⟨by rw[cd];simp,λj c Z=>?_⟩;rw[cd];rw[x8]at Z|-;cases hq:(E t).zero[j]? with
    |none=>rw[hq]at Z;cases Z
    |some x=>
      exact w5
   obtain⟨cells,g,J,hf,Z⟩:=si V ps.toList bd h;refine⟨_,.agg g,J,λG _=>?_,by simp only[ag];exact⟨_,rfl,by simpa using Z.1,λi c hi=>by simpa using Z.2 i c hi⟩⟩;have bz:(ps.map λx=>(x.1,a.eval x.2))=(ps.toList.map λp=>(p.1,a.eval p.2)).toArray:=Jf a8;simp only[execOp,Sem.run_bind];rw[show (ps.map λ(i,x)=>(i,a.eval x))=(ps.toList.map λp=>(p.1,a.eval p.2)).toArray from bz];unfold Instr.build;rcases an with⟨fs,hd,bs⟩|⟨n,e,hd,A⟩
   .rw[hd]at L
    have cf:∀l:List Field,(∀f∈l,okD (E f.type).desc=T)->(l.mapM λf=>do pure (f.offset,<-sizeOf f.type):Sem (List (Nat×Nat))).run P G=.ok (l.map λf=>(f.offset,(E f.type).size)) G:=by
     intro l
     induction l with
     |nil=>intro _;simp
     |cons f l ih=>
       intro h;have hf:=bB (P:=P) (w:=G) (hT _ (h f a8));simp only[O7,Sem.run_bind,hf,Result.andThen_ok,Sem.run_pure,ih (λf hf=>h f (by simp[hf])),l9]
    have W:(λi=>((fs.toList.map λf=>(f.offset,(E f.type).size)).toArray)[i]?)=placeOf E (E t).desc:=by
     funext i;rw[hd];simp only[placeOf,jX,x7,x8,I4];cases hq:fs[i]? with
     |none=>rfl
     |some fl=>
       have:okD (E fl.type).desc=T:=bs fl (by have:=So hq;simpa using this);simp[this]
    simp only[Sem.run_bind,zeroValue,typeInfo,run_program,Sem.run_pure,Result.andThen_ok,hi,hz,run_underlying L];have hm:=cf fs.toList bs;rw[<-Array.toArray_toList (xs:=fs),R5,Sem.run_map,hm];simp only[Result.andThen_ok];rw[W,hf];simp
   .rw[hd]at L
    have b2:=bB (P:=P) (w:=G) (hT e A)
    have W:(λi=>S (i*(E e).size,(E e).size))=placeOf E (E t).desc:=by
     funext i;rw[hd];rfl
    simp only[Sem.run_bind,zeroValue,typeInfo,run_program,Sem.run_pure,Result.andThen_ok,hi,hz,run_underlying L,b2];rw[W,hf];simp
 |call c=>
   simp only[ee]at hp;split at hp
   .rename_i Z
    obtain⟨callee,av,tys⟩:=c;simp only at Z;subst Z;have h:(av.size=1/\tys.size=1)/\xS s (isStr (E (tys.getD 0 0)).desc) (cZ E (tys.getD 0 0)) (s.ev (av.getD 0 (.const .nilFunc))) (bx λv=>K (s.put dst v)):=h;obtain⟨⟨ha,ht⟩,h⟩:=h;obtain⟨X,Y,U,h2,h3⟩:=Ax (ty:=ty) hT h (V.ev (av.getD 0 (.const .nilFunc)));refine⟨X,Y,U,λG bk=>?_,h3⟩;have h2:=h2 G bk;rw[BY ha (.const .nilFunc),BY ht 0];generalize av.getD 0 (.const .nilFunc)=x0 at *;generalize tys.getD 0 0=t0 at *;simp[execOp,resolve,invoke,builtin,h2]
   .rename_i Z
    obtain⟨callee,av,tys⟩:=c;simp only at Z;subst Z;have h:av.size=2/\mxA T (s.ev (av.getD 0 (.const .nilFunc))) (s.ev (av.getD 1 (.const .nilFunc))) (bx λv=>K (s.put dst v)):=h;obtain⟨ha,h⟩:=h;rw[sV ha (.const .nilFunc)];generalize av.getD 0 (.const .nilFunc)=x0 at *;generalize av.getD 1 (.const .nilFunc)=x1 at *;have e0:=V.ev x0;have e1:=V.ev x1;unfold mxA at h;split at h
    .rename_i k1 n1 k2 n2 a' c4
     rw[a']at e0;rw[c4]at e1;simp only[ag,ay]at e0 e1;have e0:=e0.inv_int;have e1:=e1.inv_int;refine⟨_,.int k1 (max n1 n2),h,λG _=>?_,by simp only[ag,ay];exact .int _ _⟩;simp[execOp,resolve,invoke,builtin,Builtin.max_,Builtin.max2,e0,e1];omega
    .exact SL
   .rename_i Z
    obtain⟨callee,av,tys⟩:=c;simp only at Z;subst Z;have h:av.size=2/\mxA F (s.ev (av.getD 0 (.const .nilFunc))) (s.ev (av.getD 1 (.const .nilFunc))) (bx λv=>K (s.put dst v)):=h;obtain⟨ha,h⟩:=h;rw[sV ha (.const .nilFunc)];generalize av.getD 0 (.const .nilFunc)=x0 at *;generalize av.getD 1 (.const .nilFunc)=x1 at *;have e0:=V.ev x0;have e1:=V.ev x1;unfold mxA at h;split at h
    .rename_i k1 n1 k2 n2 a' c4
     rw[a']at e0;rw[c4]at e1;simp only[ag,ay]at e0 e1;have e0:=e0.inv_int;have e1:=e1.inv_int;refine⟨_,.int k1 (min n1 n2),h,λG _=>?_,by simp only[ag,ay];exact .int _ _⟩;simp[execOp,resolve,invoke,builtin,Builtin.min_,Builtin.min2,e0,e1];omega
    .exact SL
   .cases hp
 |_=>simp[ee]at hp
def lH(hT:bb P E)(V:Rel O al s β a w)(hd:∀d,o.dst=S d->d<al)(h:opA (spB P B) E o s k)
(hn:∀W A a' G,K W->Rel O al W A a' G->Tr O β s w A W G->next a' G):o.wp P a w next Q:=by
 by_cases I:ee E o.op=T
 .obtain⟨y,Y,U,h2,h3⟩:=qs hT V I h
  exact fy (h2 w .refl) (hn _ _ _ _ U (V.put hd h3) (Tr.same (St.put_gen _ _ _) (St.put_obj _ _ _) rfl))
 .have e:bm (spB P B) o s k->o.wp P a w next Q:=λ⟨R,hR,J⟩=>hR O al β a w V hd next Q (λW A a' G hs=>hn W A a' G (J W hs))
  obtain⟨dst,op,ty,ps,af,gd⟩:=o;cases op with
  |store t x y=>
    have h:qY (E t) s (s.ev x) (s.ev y) (bx λW=>K (W.put dst uv)):=h;obtain⟨W,G,U,h2,h3,h4⟩:=xa hT V h (V.ev x) (V.ev y);refine tS (G:=G) (by simp[execOp,h2]) (hn _ _ _ _ U (h3.put hd cI) (h4.trans (Tr.same (St.put_gen _ _ _) (St.put_obj _ _ _) rfl)))
  |buildSlice t n p=>
    cases dst with
    |none=>exact e h
    |some d=>
      have h:cZ E t=T/\jC (aW E t) (aR E t).size (B+d) d n s (p.toList.map λp=>(p.1,s.ev p.2)) k:=h;obtain⟨W,A,G,Y,U,h2,h3,h4⟩:=qr hT V h.1 (hd d rfl) h.2;refine fy ?_ (hn _ _ _ _ U h3 h4);have:(p.map λx=>(x.1,a.eval x.2))=(p.toList.map λp=>(p.1,a.eval p.2)).toArray:=Jf a8;simp only[execOp,Sem.run_bind];rw[show (p.map λ(i,x)=>(i,a.eval x))=(p.toList.map λp=>(p.1,a.eval p.2)).toArray from this,h2];rfl
  |box t x=>
    cases dst with
    |none=>exact e h
    |some d=>
      have h:Jc t (B+d) d s (s.ev x) k:=h;obtain⟨cs,b4,J⟩:=aJ h;obtain⟨vs,e1,e2,e3,e4⟩:=ag.cells b4 (V.ev x);obtain⟨r1,r2⟩:=Fu V (B+d) d (hd d rfl) (el:=t) (cs:=cs) (arr:=vs.toArray) ⟨by simpa using e2,λj c Z=>by simpa using e3 j c Z⟩;exact fy (by simp[execOp,Instr.box,newVar,newRow,e1]) (hn _ _ _ _ J r1 r2)
  |alloc t=>
    cases dst with
    |none=>exact e h
    |some d=>
      have h:wK t (E t) (B+d) d s k:=h;obtain⟨an,J⟩:=h;have b1:=hT t an;obtain⟨c2,hi,az,cz,X,hz,cd⟩:=b1.info
      have bd:bw O β s w ((E t).zero.map .d) X.cells.toList:=by
       refine⟨by rw[cd];simp,λj c Z=>?_⟩;rw[cd];rw[x8]at Z|-;cases hq:(E t).zero[j]? with
       |none=>rw[hq]at Z;cases Z
       |some x=>
         exact w5
      obtain⟨r1,r2⟩:=Fu V (B+d) d (hd d rfl) (el:=t) bd;exact fy (by simp[execOp,Instr.alloc,newVar,newRow,zeroValue,typeInfo,hi,hz]) (hn _ _ _ _ J r1 r2)
  |makeSlice t l c=>
    cases dst with
    |none=>exact e h
    |some d=>
      have h:cZ E t=T/\jl (aW E t) (aR E t) (B+d) d s (s.ev l) (s.ev c) k:=h;obtain⟨W,A,G,Y,U,h2,h3,h4⟩:=rr hT V h.1 (hd d rfl) h.2 (V.ev l) (V.ev c);exact U4
  |call c=>
    obtain⟨callee,L,tys⟩:=c;cases callee with
    |value f=>exact e h
    |invoke r m=>exact e h
    |builtin b=>
      cases b
      case append=>
       cases dst with
       |none=>exact e h
       |some d=>
         have h:(L.size=2/\tys.size=2)/\cZ E (tys.getD 0 0)=T/\lT (aW E (tys.getD 0 0)) (aR E (tys.getD 0 0)) (isStr (E (tys.getD 1 0)).desc) (cZ E (tys.getD 1 0)) (B+d) d s (s.ev (L.getD 0 (.const .nilFunc))) (s.ev (L.getD 1 (.const .nilFunc))) k:=h;obtain⟨⟨ha,ht⟩,av,h⟩:=h;obtain⟨W,A,G,Y,U,h2,h3,h4⟩:=vt hT V av (hd d rfl) h (V.ev _) (V.ev _) ty;refine fy ?_ (hn _ _ _ _ U h3 h4);rw[sV ha (.const .nilFunc),sV ht 0];generalize L.getD 0 (.const .nilFunc)=x0 at *;generalize tys.getD 0 0=t0 at *;generalize L.getD 1 (.const .nilFunc)=x1 at *;generalize tys.getD 1 0=t1 at *;simp[execOp,resolve,invoke,builtin,h2]
      case len=>exact absurd rfl I
      case max=>exact absurd rfl I
      case min=>exact absurd rfl I
      all_goals exact e h
  |slice t x H hi mx=>
    cases mx with
    |none=>exact absurd rfl I
    |some m=>exact e h
  |lookup=>exact absurd rfl I
  |makeFunc fn first q=>
    cases fn with
    |func f=>exact absurd rfl I
    |_=>exact e h
  |makeMap t res=>
    cases res with
    |some _=>exact e h
    |none=>
      cases dst with
      |none=>exact e h
      |some d=>
        have h:lw E t (B+d) d s k:=h;obtain⟨W,A,G,Y,U,h2,h3,h4⟩:=tP (P:=P) V (hd d rfl) h;exact U4
  |mapUpdate t m ix x=>
    have h:ed E t s (s.ev m) (s.ev ix) (s.ev x) (bx λW=>K (W.put dst uv)):=h;obtain⟨W,G,U,h2,h3,h4⟩:=lG hT V h (V.ev m) (V.ev ix) (V.ev x);exact tS (G:=G) (by simp[execOp,h2]) (hn _ _ _ _ U (h3.put hd cI) (h4.trans (Tr.same (St.put_gen _ _ _) (St.put_obj _ _ _) rfl)))
  |move=>exact absurd rfl I
  |assign=>exact absurd rfl I
  |pick=>exact absurd rfl I
  |load=>exact absurd rfl I
  |indexAddr t x ix=>cases x<;>first|exact e h|exact absurd rfl I
  |index=>exact absurd rfl I
  |binOp=>exact absurd rfl I
  |unOp=>exact absurd rfl I
  |convert t u x=>
    have a1:isSlice (E u).desc=T:=by simpa[ee]using I
    have h:(bif isSlice (E u).desc then lX E t u B dst s (s.ev x) k else sa s (aR E t).desc (E t).desc (E u).desc (s.ev x) (bx λv=>K (s.put dst v))):=h;rw[a1,Sy]at h;obtain⟨W,A,G,Y,U,h2,h3,h4⟩:=vq hT V hd h (V.ev x);exact U4
  |fieldAddr=>exact absurd rfl I
  |field=>exact absurd rfl I
  |build=>exact absurd rfl I
  |nilCheck=>exact absurd rfl I
  |extract=>exact absurd rfl I
  |_=>exact e h
def jD(h:fk al (o::l)=T):(∀d,o.dst=S d->d<al)/\fk al l=T:=by
 simp only[fk,E9,s5]at h|-;refine⟨λd hd=>?_,h.2⟩;have:=h.1;rw[hd]at this;exact SV
def ag.inv_bool{g:Nat->Nat}{ob:Obs}{b:Bool}{v:Value}(h:ag O β g ob w (bv b) v):v=.bool b:=by
 simp only[ag,ay]at h;exact h.inv_bool
def ag.inv_uv(h:ag O β g ob w uv v):v=undef:=by
 simp only[ag,aH]at h;obtain⟨vs,rfl,rfl⟩:=h;rfl
def Rel.reput(V:Rel O al s β a w){d:Nat}(I:s.f d=x):Rel O al {s with f:=upd s.f d x} β a w:=by
 have:upd s.f d x=s.f:=by funext j;simp only[upd];split<;>simp_all
 rw[this];exact V
def Rel.yielded{al:Nat}{s:St}{a:Act}(V:Rel O al s β a w){ops:Array Oper}{j d:Nat}(e:(ops[j]?).bind (·.dst)=S d){b:Bool}(I:s.f d=bv b):Go.yielded ops a.tmps j=S b:=by
 have c:=V.f d;rw[I]at c;have c:=c.inv_bool;unfold Go.yielded;rw[e];simp only[J4];rw[z6]at c;cases h:a.tmps[d]? with
 |none=>rw[h]at c;simp[undef]at c
 |some v=>rw[h]at c;simp at c;rw[c]
def Rel.yielded_u(V:Rel O al s β a w){j d:Nat}(c:(ops[j]?).bind (·.dst)=S d)(I:s.f d=uv):Go.yielded ops a.tmps j=N:=by
 have b:=V.f d;rw[I]at b;have b:=b.inv_uv;unfold Go.yielded;rw[c];simp only[J4];rw[z6]at b;cases h:a.tmps[d]? with
 |none=>rfl
 |some v=>rw[h]at b;simp at b;rw[b];rfl
def kq(hT:bb P E){al:Nat}{ops:Array Oper}{Q:Exit->Act->World->Prop}{K:St->Prop}{k:Box K}:∀(l:List Oper){s:St}{β:Loc}{a:Act}{w:World},Rel O al s β a w->fk al l=T->wpO (spB P B) E ops l s k->
  (∀W A e G,K W->Rel O al W A e G->Tr O β s w A W G->Q .normal e G)->wpList P ops Q l a w
 |[],s,β,a,w,V,_,h,hQ=>hQ s β a w h V Tr.refl
 |o::rest,s,β,a,w,V,ar,h,hQ=>by
   obtain⟨hd,g⟩:=jD ar;unfold wpO at h;unfold wpList;cases hg:o.guard with
   |none=>
     rw[hg]at h;simp only at h;rw[l8 (by simp[Region.wanted,hg])];exact .inl (lH hT V hd h (λW A e G U i c=>kq hT rest i g U (λs2 ad a2 w2 k1 k2 k3=>hQ _ _ _ _ k1 k2 (c.trans k3))))
   |some p=>
     obtain⟨j,t⟩:=p;rw[hg]at h;simp only at h;obtain⟨d,m,h⟩:=aJ h;unfold lS at h;split at h
     .rename_i b f
      have hy:=V.yielded m f;have h:=jq h;have q:=V.reput f;by_cases hw:b=t
      .rw[l8 hw]at h
       rw[l8 VX];exact .inl (lH hT q hd h (λW A e G U i c=>kq hT rest i g U (λs2 ad a2 w2 k1 k2 k3=>hQ _ _ _ _ k1 k2 (Tr.trans ⟨c.size,c.old,c.keep,c.os⟩ k3))))
      .rw[j8 hw]at h
       rw[j8 VX];have hp:=q.put hd (x:=uv) (v:=undef) cI;exact SS
     .rename_i f
      have hy:=V.yielded_u m f;rw[j8 WI];have hp:=V.put hd (x:=uv) (v:=undef) cI;exact SS
     .exact SL
def gL(hT:bb P E){al:Nat}{ops:Array Oper}{Q:Act->Prop}{K:St->Prop}{k:Box K}(c:List Oper):∀(l:List Oper){s:St}{a:Act},Rel O al s β a w->fk al l=T->l.all (ee E ·.op)=T->wpO (spB P B) E ops (l++c) s k->
  (∀W e,wpO (spB P B) E ops c W k->Rel O al W β e w->Tr O β s w β W w->Q e)->wpStill P ops w Q l a
 |[],s,a,V,_,_,h,hQ=>hQ s a h V Tr.refl
 |o::rest,s,a,V,ar,hp,h,hQ=>by
   obtain⟨hd,g⟩:=jD ar;simp only[E9,s5]at hp;rw[C3]at h;unfold wpO at h;unfold wpStill
   have u:∀{f:St},Rel O al f β a w->Tr O β s w β f w->opA (spB P B) E o f (bx λW=>wpO (spB P B) E ops (rest++c) W k)->o.still P a w (wpStill P ops w Q rest):=λ{f}bz J q=>by
    obtain⟨y,Y,U,r,A⟩:=qs hT bz hp.1 q;unfold Oper.still;rw[r w .refl];refine⟨rfl,gL hT c rest (bz.put hd A) g hp.2 U (λW e k1 k2 k3=>hQ W e k1 k2 (J.trans (Tr.trans (Tr.same (St.put_gen _ _ _) (St.put_obj _ _ _) rfl) k3)))⟩
   cases hg:o.guard with
   |none=>
     exact UD
   |some p=>
     obtain⟨j,t⟩:=p;rw[hg]at h;simp only at h;obtain⟨d,m,h⟩:=aJ h;unfold lS at h;split at h
     .rename_i b i
      have hy:=V.yielded m i;have h:=jq h;have av:=V.reput i;by_cases hw:b=t
      .exact Uq
      .rw[j8 hw]at h
       rw[j8 VX];have L:=av.put hd (x:=uv) (v:=undef) cI;exact S3
     .rename_i i
      have hy:=V.yielded_u m i;rw[j8 WI];have L:=V.put hd (x:=uv) (v:=undef) cI;exact S3
     .exact SL
def sj(h:fk al l=T)(n:Nat):fk al (l.take n)=T/\fk al (l.drop n)=T:=by
 unfold fk at *;rw[y8]at h;exact⟨y8.2 λx I=>h x (M9 I),y8.2 λx I=>h x (L9 I)⟩
def yy(hT:bb P E)(V:Rel O al s β a w)(hd:fk al l=T)(h:wpO (spB P B) E ops l s k)
 (c:∀W A b G,K W->Rel O al W A b G->Tr O β s w A W G->Q .normal b G):wpList P ops Q l a w:=kq hT l V hd h c
def qt(hT:bb P E)(m:P.follows .mixedOrders=T){al id:Nat}(V:Rel O al s β a w)(hd:fk al ops.toList=T)(p:nd E ops=T)
 (h:wpO (spB P B) E ops ops.toList s k)(q:∀W A d G,K W->Rel O al W A d G->Tr O β s w A W G->Q .normal d G):(Code.region id ops T).wp P Q a w:=by
 have r:Rel O al s β a {w with drawn:=w.drawn+1}:=V.of_heap rfl;have u:Tr O β s w β s {w with drawn:=w.drawn+1}:=Tr.same rfl rfl rfl;simp only[nd,H6,s5,P1]at p;rcases p with⟨e,hB⟩|⟨n,_,e,hB⟩
 .refine wp_region_still m hB (gL hT [] ops.toList r hd e (by rw[s7];exact h) (λW d f i j=>q _ _ _ _ f i (u.trans j)))
 .have hl:=wp_region_still_tail (P:=P) (id:=id) (Q:=Q) (a:=a) (w:=w) (l:=ops.toList) (ops.size-n) m (by simpa using hB) ?_
  .simpa using hl
  .obtain⟨t,y⟩:=sj hd (ops.size-n)
   refine gL hT (ops.toList.drop (ops.size-n)) (ops.toList.take (ops.size-n)) r t e (by rw[H3];simpa using h) (λW d f i j=>?_);exact yy hT i y f (λI J L U b H c=>q _ _ _ _ b H (u.trans (j.trans c)))
def DI(O:Bs)(al:Nat)(β:Loc)(s:St)(w:World)(Q:Exit->St->Prop)(e:Exit)(b:Act)(G:World):Prop:=∃W A,Q e W/\Rel O al W A b G/\Tr O β s w A W G
def DI.of{s b:St}{l:Loc}{c:World}{Q d:Exit->St->Prop}{e:Exit}{f:Act}(i:Tr O β s w l b c)(h:DI O al l b c Q e f G)(j:∀W,Q e W->d e W):DI O al β s w d e f G:=
 let ⟨W,A,U,m,n⟩:=h
 ⟨W,A,j _ U,m,i.trans n⟩
def eA(hT:bb P E)(t:P.follows .mixedOrders=T){al:Nat}:∀(c:Code){Q:Exit->St->Prop}{q:Box Q}{s:St}{β:Loc}{a:Act}{w:World},codeOk al c=T->Rel O al s β a w->wpC (spB P B) E c q s->c.wp P (DI O al β s w Q) a w
 |.skip,_,_,s,β,_,_,_,V,h=>wp_skip ⟨s,β,h,V,Tr.refl⟩
 |.label _,_,_,s,β,_,_,_,V,h=>wp_label ⟨s,β,h,V,Tr.refl⟩
 |.exit _,_,_,s,β,_,_,_,V,h=>wp_exit ⟨s,β,h,V,Tr.refl⟩
 |.goto _,_,_,s,β,_,_,_,V,h=>wp_goto ⟨s,β,h,V,Tr.refl⟩
 |.ret,_,_,s,β,_,_,_,V,h=>wp_ret ⟨s,β,h,V,Tr.refl⟩
 |.region id ops b,Q,q,s,β,a,w,Z,V,h=>by
   cases b with
   |false=>
     have h:wpO (spB P B) E ops ops.toList s (bx λW=>Q .normal W):=h;refine wp_region ?_;have:=wpOps_eq_wpList (P:=P) (ops:=ops) (Q:=DI O al β s w Q) ops.toList 0 a8;rw[<-P5,N1]at this;rw[this];exact kq hT ops.toList V Z h (λW A a' G U h2 h3=>⟨W,A,U,h2,h3⟩)
   |true=>
     rcases h with⟨an,h⟩|⟨R,hR,J⟩
     .exact qt hT t V Z an h (λW A a' G U h2 h3=>⟨W,A,U,h2,h3⟩)
     .exact R2
 |.seq x y,Q,q,s,β,a,w,Z,V,h=>by
   simp only[codeOk,s5]at Z;have h:wpC (spB P B) E x (bx (iQ (bx λW=>wpC (spB P B) E y q W) q)) s:=h;refine wp_seq (wp_mono (eA hT t x Z.1 V h) (λe a' G p=>?_));obtain⟨W,A,U,h2,h3⟩:=p;cases e with
   |normal=>exact wp_mono (eA hT t y Z.2 h2 U) (λe X Y p=>DI.of h3 p (λ_ h=>h))
   |_=>exact⟨W,A,U,h2,h3⟩
 |.cond c x y,Q,q,s,β,a,w,Z,V,h=>by
   simp only[codeOk,s5]at Z;obtain⟨b,hb,h⟩:=px h (V.ev c);refine wp_cond hb ?_;cases b
   .exact eA hT t y Z.2 V h
   .exact eA hT t x Z.1 V h
 |.block id c,Q,q,s,β,a,w,Z,V,h=>by
   have h:wpC (spB P B) E c (bx (iR id q)) s:=h;refine wp_block (wp_mono (eA hT t c Z V h) (λe a' G p=>?_));obtain⟨W,A,U,h2,h3⟩:=p;cases e with
   |exit i=>
     simp only[Exit.inBlock,iR]at U|-;split at U
     .rename_i H;rw[l8 H];exact⟨W,A,U,h2,h3⟩
     .rename_i H;rw[j8 H];exact⟨W,A,U,h2,h3⟩
   |_=>exact⟨W,A,U,h2,h3⟩
 |.scope c,Q,q,s,β,a,w,Z,V,h=>by
   have h:wpC (spB P B) E c (bx (qg q)) s:=h;refine wp_scope_straight (wp_mono (eA hT t c Z V h) (λe a' G p=>?_));obtain⟨W,A,U,h2,h3⟩:=p;cases e with
   |goto l=>exact U.elim
   |_=>exact⟨W,A,U,h2,h3⟩
 |.loop c,Q,q,s,β,a,w,Z,V,h=>by
   obtain⟨I,⟨n,d,b4,h0⟩,g⟩:=h;obtain⟨k,b1,u⟩:=b4 O al β a w V;refine wp_loop_ghost (λn a' G=>∃W A,I n W/\Rel O al W A a' G/\Tr O β s w A W G) n ⟨d,k,h0,b1,u⟩ ?_;rintro n a' G ⟨W,A,U,h2,h3⟩;refine wp_mono (eA hT t c Z h2 (g n W U)) (λe X Y p=>?_);obtain⟨s2,ad,k1,k2,k3⟩:=p;cases e with
   |normal=>
     obtain⟨j,s3,af,m,hI⟩:=k1;obtain⟨r,L,v⟩:=m O al ad X Y k2;exact⟨j,af,s3,r,hI,L,h3.trans (k3.trans v)⟩
   |_=>exact⟨s2,ad,k1,k2,h3.trans k3⟩
 |.rangeFunc f ps x y,Q,q,s,β,a,w,Z,V,h=>by
   obtain⟨R,hR,J⟩:=h;exact R2
 |.refuse y,Q,q,s,β,a,w,Z,V,h=>by
   obtain⟨R,hR,J⟩:=h;exact R2
end
end
end
section
section
def ge:D->D
 |.nsl=>.sl []
 |x=>x
inductive Frz (s:St):C->D->Prop where
 |d (x:D):Frz s (.d x) (ge x)
 |osl {id g sz off len:Nat}{cells:List C}{es:List (List D)} (hg:s.gen id=g) (ho:s.obj id=some cells) (Q:off+len*sz<=cells.length) (bd:es.length=len) (az:∀e∈es,e.length=sz)
    (k:Nat->C) (Z:∀(j:Nat)(x:D),es.flatten[j]?=some x->cells[off+j]?=some (k j)) (hf:∀(j:Nat)(x:D),es.flatten[j]?=some x->Frz s (k j) x):Frz s (.osl id g sz off len) (.sl es)
def RVc(J:Nat->Prop)(w:World)(c:C)(v:Value):Prop:=∃x,c=.d x/\ce J w x v
mutual
def RV(J:Nat->Prop)(w:World):AV->Value->Prop
 |.one c,v=>RVc J w c v
 |.agg cs,v=>∃vs:Array Value,v=.agg vs/\vs.size=z cs/\∀(i:Nat)(c:C),cs[i]?=S c->∃u,vs[i]?=S u/\RVc J w c u
 |.tup b,v=>∃vs:List Value,v=.tuple vs.toArray/\RVs J w b vs
 |.junk,_=>False
 |.exact _,_=>False
def RVs(J:Nat->Prop)(w:World):List AV->List Value->Prop
 |[],vs=>vs=[]
 |t::d,vs=>∃u b,vs=u::b/\RV J w t u/\RVs J w d b
end
def DJ(P:Program)(f:FuncId):Prop:=∃fn,P.funcs[f]?=S fn/\fn.body.isNone=F/\(fn.name == "runtime.NumGoroutine")=F
def ax(P:Program)(f:FuncId)(args:List AV)(R:AV->Prop):Prop:=
 DJ P f/\∀(J:Nat->Prop)(w:World)(vs:List Value),(∀b,J b->b<w.heap.size)->RVs J w args vs->
  Calls P f vs.toArray w λe G=>∃v r,e=.returned v/\R r/\w.heap.size<=G.heap.size/\(∀b,b<w.heap.size->G.heap[b]?=w.heap[b]?)/\(G.os=w.os/\G.output=w.output)/\RV (λb=>b<G.heap.size/\(b<w.heap.size->J b)) G r v
def ax.mono{P:Program}{f:FuncId}{args:List AV}{R t:AV->Prop}(h:ax P f args R)(V:∀r,R r->t r):ax P f args t:=
 ⟨h.1,λJ w vs b d=>(h.2 J w vs b d).mono λ_ _⟨v,r,U,e,i⟩=>⟨v,r,U,V r e,i⟩⟩
variable{s:St}{a:Act}{c:C}{al:Nat}{f:FuncId}{g:Nat->Nat}{args:Array Operand}{tys:Array TypeId}{R:AV->Prop}
section
variable{P:Program}{E:Nat->TI}{O:Bs}{β:Loc}{w:World}
def RVc.mono{J K:Nat->Prop}{w G:World}{c:C}{v:Value}(h:RVc J w c v)(d:∀b,J b->K b/\G.heap[b]?=w.heap[b]?):RVc K G c v:=
 let ⟨x,U,e⟩:=h
 ⟨x,U,e.mono d⟩
mutual
theorem RV.mono{J K:Nat->Prop}{w G:World}(d:∀b,J b->K b/\G.heap[b]?=w.heap[b]?):(x:AV)->{v:Value}->RV J w x v->RV K G x v
 |.one _,_,h=>by simp only[RV]at h|-;exact RVc.mono h d
 |.agg _,_,h=>by
   simp only[RV]at h|-;obtain⟨vs,U,e,j⟩:=h;exact⟨vs,U,e,λi c Z=>let ⟨u,hu,V⟩:=j i c Z;⟨u,hu,V.mono d⟩⟩
 |.tup k,_,h=>by simp only[RV]at h|-;obtain⟨vs,U,e⟩:=h;exact⟨vs,U,RVs.mono d k e⟩
 |.junk,_,h=>by simp only[RV]at h
 |.exact _,_,h=>by simp only[RV]at h
theorem RVs.mono{J K:Nat->Prop}{w G:World}(d:∀b,J b->K b/\G.heap[b]?=w.heap[b]?):(x:List AV)->{v:List Value}->RVs J w x v->RVs K G x v
 |[],_,h=>by simp only[RVs]at h|-;exact h
 |t::e,_,h=>by simp only[RVs]at h|-;obtain⟨u,i,U,j,k⟩:=h;exact⟨u,i,U,RV.mono d t j,RVs.mono d e k⟩
end
def RVc.rep{ob:Obs}{v:Value}(h:RVc (Imm O β ob w) w c v):ay O β g ob w c v:=by
 obtain⟨x,rfl,I⟩:=h;exact I
mutual
theorem RV.rep{g:Nat->Nat}{ob:Obs}:(x:AV)->{v:Value}->RV (Imm O β ob w) w x v->ag O β g ob w x v
 |.one _,_,h=>by simp only[RV]at h;simp only[ag];exact RVc.rep h
 |.agg _,_,h=>by
   simp only[RV]at h;simp only[ag];obtain⟨vs,U,b,d⟩:=h;exact⟨vs,U,b,λi c Z=>let ⟨u,hu,V⟩:=d i c Z;⟨u,hu,V.rep⟩⟩
 |.tup e,_,h=>by simp only[RV]at h;simp only[ag];obtain⟨vs,U,b⟩:=h;exact⟨vs,U,RVs.rep e b⟩
 |.junk,_,h=>by simp only[RV]at h
 |.exact _,_,h=>by simp only[RV]at h
theorem RVs.rep{g:Nat->Nat}{ob:Obs}:(x:List AV)->{v:List Value}->RVs (Imm O β ob w) w x v->aH O β g ob w x v
 |[],_,h=>by simp only[RVs]at h;simp only[aH];exact h
 |t::b,_,h=>by simp only[RVs]at h;simp only[aH];obtain⟨u,d,U,e,i⟩:=h;exact⟨u,d,U,RV.rep t e,RVs.rep b i⟩
end
def Rel.grow(V:Rel O al s β a w){G:World}(l:w.heap.size<=G.heap.size)(j:∀b,b<w.heap.size->G.heap[b]?=w.heap[b]?)(n:G.os=w.os/\G.output=w.output):Rel O al s β a G/\Tr O β s w β s G:=by
 have q:eQ O β s.gen s.obj w β s.gen s.obj G:=⟨λb e=>⟨⟨by have:=e.1;omega,e.2.1,e.2.2⟩,j b e.1⟩,λ_=>l7 _,λid _ ho=>⟨ho,rfl,λm k arr el fr U=>by
  rw[j _ (AH V ho k)]at U;exact⟨arr,el,fr,U,l7 _⟩⟩⟩
 exact⟨⟨V.defers,V.size,λi=>ag.keep q _ (V.f i),λid d ho=>(V.obj id d ho).keep q (λm k=>j _ (AH V Xa k)),V.inj,by have:=V.base;omega⟩,
  l,λb e=>j b (by have:=V.base;omega),q,n⟩
def sW(V:Rel O al s β a w){G:World}{J:Nat->Prop}(e:∀b,J b->Imm O β s.obj w b){b:Nat}(d:b<G.heap.size/\(b<w.heap.size->J b)):Imm O β s.obj G b:=by
 by_cases h:b<w.heap.size
 .obtain⟨U,i,j⟩:=e b (d.2 h)
  exact⟨d.1,i,j⟩
 .refine⟨d.1,λhB=>absurd V.base a7,λid k ho p l=>?_⟩
  have:=AH V ho p;omega
def BZ:C->Bool
 |.d _=>T
 |_=>F
def eH:AV->Bool
 |.one c=>BZ c
 |.agg cs=>cs.all BZ
 |_=>F
def ay.data{ob:Obs}{v:Value}(hd:BZ c=T)(h:ay O β g ob w c v):RVc (Imm O β ob w) w c v:=by
 cases c<;>simp[BZ]at hd;exact⟨_,rfl,h⟩
def ag.data{g:Nat->Nat}{ob:Obs}{x:AV}{v:Value}(hd:eH x=T)(h:ag O β g ob w x v):RV (Imm O β ob w) w x v:=by
 cases x with
 |one c=>simp only[ag]at h;simp only[RV];exact ay.data hd h
 |agg cs=>
   simp only[ag]at h;simp only[RV];obtain⟨vs,U,b,d⟩:=h;refine⟨vs,U,b,λi c Z=>?_⟩;obtain⟨u,L,V⟩:=d i c Z;simp only[eH,y8]at hd;exact⟨u,L,V.data (hd c (l6 Z))⟩
 |tup=>simp[eH]at hd
 |junk=>simp[eH]at hd
 |exact=>simp[eH]at hd
def jE{o:Oper}(ho:o.op=.call ⟨.value (.func f),args,tys⟩)(hf:DJ P f)(w:World):
  (execOp a.eval o).run P w=.ok (.enter f (args.map a.eval)) w:=by
 obtain⟨fn,U,b,d⟩:=hf;have b:¬fn.body=N:=by intro h;rw[h]at b;simp at b
 have d:¬fn.name = "runtime.NumGoroutine":=by simpa using d
 simp[execOp,ho,resolve,Act.eval,Deferred.ofValue,invoke,callFunc,U,b,d]
def vT{o:Oper}(ho:o.op=.call ⟨.value (.func f),args,tys⟩)
 (hp:ax P f (args.toList.map s.ev) R)(hd:(args.toList.map s.ev).all eH=T):tK P o s (λW=>∃r,R r/\W=s.put o.dst r):=by
 intro O al β a w V c next Q hn;unfold Oper.wp;rw[jE ho hp.1 w];exact hV
def cW(args:List AV)(i:Nat):AV:=(args[i]?).getD uv
def kR(s:St):AV->AV->Prop
 |.one c,r=>∃x,Frz s c x/\r=.one (.d x)
 |.agg cs,r=>∃b:List D,z b=z cs/\(∀(i:Nat)(c:C),cs[i]?=S c->∃x,b[i]?=S x/\Frz s c x)/\r=.agg (b.map .d)
 |_,_=>False
def dC(s:St):List AV->List AV->Prop
 |[],rs=>rs=[]
 |t::b,rs=>∃r o,rs=r::o/\kR s t r/\dC s b o
def AI(d:List Nat)(R:AV->Prop):Exit->St->Prop
 |.normal,s|.ret,s=>
   match d with
   |[t]=>∃r,kR s (s.f t) r/\R r
   |e=>∃b,dC s (e.map s.f) b/\R (.tup b)
 |_,_=>False
def Own(O:Bs)(w:World)(b:Nat):Prop:=b<w.heap.size/\(b<O.B->O.I b)
def Frz.rep(V:Rel O al s β a w){x:D}(h:Frz s c x):∀{v:Value},ay O β s.gen s.obj w c v->ce (Own O w) w x v:=by
 induction h with
 |d x=>
   intro v t;have t:ce (Imm O β s.obj w) w x v:=t;have U:ce (Own O w) w x v:=t.mono λb y=>⟨⟨y.1,y.2.1⟩,rfl⟩
   cases x<;>simp only[ge]<;>first|exact U|skip
   cases U;exact .sl0
 |osl B ho Q hlen az k Z W ih=>
   rename_i id g sz off len q es;intro v t;have b4:=fM t B Xa;have bl:=V.obj id q ho;cases p:β id with
   |none=>
     exact Ut
   |some r=>
     rw[p]at b4 bl;obtain⟨G,b4⟩:=b4;obtain⟨hB,arr,el,H,X,a6,ar,b2,ca⟩:=bl.cells G;rcases b4 with⟨J,rfl,Y,_⟩|⟨K,o,rfl⟩
     .rw[<-hlen]
      have l:∀i e,es[i]?=S e->∀j x,e[j]?=S x->es.flatten[i*sz+j]?=S x:=λi e he j x I=>by
       exact hY
      have A:∀m x,es.flatten[m]?=S x->∃u,w.cell? ⟨r.block,r.off+off+m,N⟩=S u/\ce (Own O w) w x u:=λm x I=>by
       exact UN
      refine .sl (b:=r.block) (off:=r.off+off) (sz:=sz) (λi j=>(w.cell? ⟨r.block,r.off+off+(i*sz+j),N⟩).getD undef) a7 (λ_=>⟨(ER.1 a6).1,λh=>absurd hB a7⟩) az (λi e he j x I=>?_) (λi e he j x I=>?_)
      .obtain⟨u,L,_⟩:=A _ x (l i e he j x I)
       rw[C0,L];rfl
      .obtain⟨u,L,f⟩:=A _ x (l i e he j x I)
       rw[L];exact f
     .subst K
      have:es=[]:=y7 hlen;subst this;exact tb
def kR.rep{al:Nat}{s:St}{a:Act}(V:Rel O al s β a w){x r:AV}(h:kR s x r){v:Value}(b:ag O β s.gen s.obj w x v):RV (Own O w) w r v:=by
 cases x with
 |one c=>
   obtain⟨y,l,rfl⟩:=h;simp only[ag]at b;simp only[RV];exact⟨y,rfl,Frz.rep V l b⟩
 |agg cs=>
   obtain⟨m,hl,I,rfl⟩:=h;simp only[ag]at b;simp only[RV];obtain⟨vs,U,n,o⟩:=b;refine⟨vs,U,by rw[n,j6,hl],λi c Z=>?_⟩;rw[x8]at Z;cases j:m[i]? with
   |none=>rw[j]at Z;cases Z
   |some y=>
     rw[j]at Z;simp only[z7,v7]at Z;subst Z;have k:i<z cs:=by rw[<-hl];exact(l5.1 j).1
     obtain⟨u,L,f⟩:=o i _ (v8 k);obtain⟨e,d,p⟩:=I i _ (v8 k);have:e=y:=by simpa[d]using j
     subst this;exact⟨u,L,e,rfl,Frz.rep V p f⟩
 |tup=>exact h.elim
 |junk=>exact h.elim
 |exact=>exact h.elim
def dC.rep{al:Nat}{s:St}{a:Act}(V:Rel O al s β a w):∀(ts:List Nat){rs:List AV},dC s (ts.map s.f) rs->RVs (Own O w) w rs (ts.map λt=>a.tmps.getD t undef)
 |[],rs,h=>by simp only[w9,dC]at h;subst h;simp only[w9,RVs]
 |t::ts,rs,h=>by
   simp only[l9,dC]at h;obtain⟨r,o,rfl,U,b⟩:=h;simp only[l9,RVs];exact⟨_,_,rfl,U.rep V (V.f t),dC.rep V ts b⟩
def mj(a:Array Value):List Nat->Value
 |[t]=>a.getD t undef
 |b=>.tuple (b.map λt=>a.getD t undef).toArray
def nD{fn:Func}(d:List Nat)(e:fn.results=(d.map ResultVar.tmp).toArray)(a:Array Value):(results fn a).run P w=.ok (mj a d) w:=by
 have h:∀(g:ResultVar->Sem Value)(b:∀t,g (.tmp t)=pure (a.getD t undef))(l:List Nat),((l.map ResultVar.tmp).mapM g).run P w=.ok (l.map λt=>a.getD t undef) w:=by
  intro g b l
  induction l with
  |nil=>simp
  |cons t l i=>simp only[l9,O7,Sem.run_bind,b,Sem.run_pure,Result.andThen_ok,i]
 unfold results;simp only[e,R5,Sem.run_bind,Sem.run_map];rw[h _ (λ_=>rfl) d];simp only[Result.andThen_ok,Sem.run_pure]
 match d with
 |[]=>simp[mj]
 |[t]=>simp[mj]
 |t::j::k=>simp[mj]
def AJ(hT:bb P E)(H:P.follows .mixedOrders=T){fn:Func}{c:Code}(hf:P.funcs[f]?=S fn)(hb:fn.body=S c)(Q:(fn.name == "runtime.NumGoroutine")=F)
 (d:List Nat)(X:fn.results=(d.map ResultVar.tmp).toArray)(Y:codeOk fn.ntmps c=T){args:List AV}(m:z args<=fn.ntmps)
 (h:∀g,wpC (sp P) E c (bx (AI d R)) ⟨cW args,g,λ_=>N⟩):ax P f args R:=by
 refine⟨⟨fn,hf,by rw[hb];rfl,Q⟩,λJ w vs hJ hv=>?_⟩;refine calls_of_wp hf hb ?_
 have Z:∀(l:List AV)(vs:List Value),RVs J w l vs->z vs=z l:=by
  intro l
  induction l with
  |nil=>intro vs h;simp only[RVs]at h;subst h;rfl
  |cons x l o=>intro vs h;simp only[RVs]at h;obtain⟨u,p,rfl,_,h⟩:=h;simp[o p h]
 have hl:=Z _ _ hv
 let K:Nat->Prop:=J
 have V:Rel ⟨w.heap.size,K⟩ fn.ntmps ⟨cW args,λ_=>0,λ_=>N⟩ (λ_=>N) {tmps:=vs.toArray++Array.replicate (fn.ntmps-vs.toArray.size) undef,defers:=[]} w:=by
  refine⟨rfl,by simp;omega,λi=>?_,λid q ho=>Xt,λid L a B ho=>Xt,l7 _⟩
  have al:∀(l:List AV)(vs:List Value),RVs J w l vs->∀(i:Nat)(x:AV),l[i]?=S x->∃v,vs[i]?=S v/\RV J w x v:=by
   intro l
   induction l with
   |nil=>intro vs _ i x h;simp at h
   |cons y l o=>
     intro vs h i x I;simp only[RVs]at h;obtain⟨u,p,rfl,U,h2⟩:=h;cases i with
     |zero=>simp at I;subst I;exact⟨u,rfl,U⟩
     |succ i=>simpa using o p h2 i x Wk
  simp only[cW];cases I:args[i]? with
  |some x=>
    exact oc
  |none=>
    exact UI
 refine wp_mono (eA hT H c Y V (h _)) (λe B G hp=>?_);obtain⟨W,A,n,av,ht⟩:=hp
 have k:∀{e},AI d R e W->(e=.normal\/e=.ret)->∃v,(results fn B.tmps).run P G=.ok v G/\∃r,R r/\RV (Own ⟨w.heap.size,K⟩ G) G r v:=by
  intro e n he;refine⟨_,nD d X B.tmps,?_⟩;have j:AI d R .ret W:=by rcases he with rfl|rfl<;>exact n
  unfold AI at j
  match d,j with
  |[t],⟨r,U,h2⟩=>exact⟨r,h2,U.rep av (av.f t)⟩
  |[],⟨rs,U,h2⟩=>exact⟨_,h2,by simp only[RV];exact⟨_,rfl,dC.rep av [] U⟩⟩
  |t::t'::ts,⟨rs,U,h2⟩=>exact⟨_,h2,by simp only[RV];exact⟨_,rfl,dC.rep av (t::t'::ts) U⟩⟩
 cases e with
 |normal=>
   obtain⟨v,U,r,h2,h3⟩:=k n (.inl rfl);exact zs
 |ret=>
   obtain⟨v,U,r,h2,h3⟩:=k n (.inr rfl);exact zs
 |exit id=>exact n.elim
 |goto l=>exact n.elim
 |panic ch=>exact n.elim
 |outgrown=>exact n.elim
end
end
end
end Go.Am
