/- A part of the proof; no conditions. -/
import Derived.Test.YtednjibjomfhfaaGreatDoorPart2
import Derived.Laws.Strings
import Derived.Laws.StructEq
import Derived.ChangeKeysEq
import Derived.Lib.ConvBytes
import Derived.Laws.BytesString
import Derived.Deep.LoopGhost
import Derived.Deep.Upon
import Derived.Scope
set_option linter.all false
open List renaming length -> z
open Option renaming some -> S, none -> N
open Bool renaming true -> T, false -> F
set_option maxHeartbeats 64000000
set_option maxRecDepth 100000
namespace Go.Am
section
section
def lu:D->Bool
 |.sl _|.fn _|.iptr _|.yld _=>F
 |_=>T
variable{K:AV->Prop}{v:Value}{t:Nat}{s:St}{J:Nat->Prop}{d:TypeDesc}{x:AV}{kd:TypeDesc}{b:Bool}{av:Nat}{a:Act}{op:BinOp}{ok:Bool}{c:Option C}{k:Box K}
def cr.of_plain{w:World}{x:D}(h:lu x=T):cr J w x (dV x):=by
 cases x<;>first|(simp[lu]at h;done)|constructor
structure rr (P:Program) (t:Nat) (A:TI):Prop where
 desc:P.underlying t=some A.desc
 info:∃i,P.info? t=some i/\i.size=A.size/\i.bytes=A.bytes/\∃X,i.zero=some X/\X.cells.toList=A.zero.map dV
 plain:A.zero.all lu=true
 zlen:A.zero.length=A.size
 zone:ez A.desc=false->∀i a,P.info? t=some i->i.zero=some a->a=dV (A.zero.headD .nsl)
def bp(P:Program)(G:Nat->TI):Prop:=∀t,okD (G t).desc=T->rr P t (G t)
def Eo(l:List (Nat×TI))(t:Nat):TI:=((l.find? λp=>p.1==t).map (·.2)).getD ⟨.invalid,0,0,[]⟩
def wT{P:Program}{l:List (Nat×TI)}(h:∀p∈l,rr P p.1 p.2):bp P (Eo l):=by
 intro t f;unfold Eo at *;cases e:l.find? λp=>p.1==t with
 |none=>simp[e,okD]at f
 |some p=>
   have U:=List.find?_some e;have Y:=Q7 e;simp only[I5]at U;simpa[U]using h p Y
def yA(h:isSlice d=T):okD d=T:=by cases d<;>simp_all[isSlice,okD]
def HB(h:isSlice d=T):∃e,d=.slice e:=by cases d<;>simp_all[isSlice]
section
variable{P:Program}{G:Nat->TI}{O:Bs}{β:Loc}{g:Nat->Nat}{ob:Obs}{w:World}
def bN{A:TI}(h:rr P t A):(sizeOf t).run P w=.ok A.size w:=by
 obtain⟨i,e,f,_⟩:=h.info;simp[sizeOf,typeInfo,e,f]
def Ah(h:ez d=T):d.isRow=T:=by cases d<;>simp_all[ez]
def pK{A:TI}(h:rr P t A):(isAgg t).run P w=.ok (ez A.desc) w:=by
 unfold isAgg;rw[Sem.run_bind,run_underlying h.desc w];simp only[Result.andThen_ok];cases A.desc<;>rfl
def kT{f:Type}(R:f->Value->Prop)(a:Nat->Option Value):∀(cs:List f)(_:∀(j:Nat) (c:f),cs[j]?=S c->∃v,a j=S v/\R c v),
  ∃vs:List Value,z vs=z cs/\(∀(j:Nat)(v:Value),vs[j]?=S v->a j=S v)/\∀(j:Nat)(c:f),cs[j]?=S c->∃v,vs[j]?=S v/\R c v
 |[],_=>⟨[],rfl,⟨λ_ _ h=>by simp at h,λ_ _ h=>by simp at h⟩⟩
 |c::cs,h=>by
   obtain⟨v,m,V⟩:=h 0 c rfl;obtain⟨vs,U,Y,n⟩:=kT R (λj=>a (j+1)) cs (λj i e=>h (j+1) i (by simpa using e));refine⟨v::vs,by simp[U],λj u l=>?_,λj i e=>?_⟩
   .cases j with
    |zero=>simp at l;subst l;exact m
    |succ j=>exact Y j u (by simpa using l)
   .cases j with
    |zero=>simp at e;subst e;exact⟨v,rfl,V⟩
    |succ j=>simpa using n j i (by simpa using e)
def eJ{b:Nat}{arr:Array Value}{el:TypeId}{fr:Nat×Nat}(h:w.heap[b]?=S (.cells arr el fr))(j:Nat):w.cell? ⟨b,j,N⟩=arr[j]?:=by
 simp[World.cell?,h]
def eb(b o j:Nat):(⟨b,o,N⟩:Addr).add j=⟨b,o+j,N⟩:=Addr.add_mid b o j
def aQ{e:Type}{x:Option e}{K:e->Prop}{k:Box K}(h:bR x k):∃a,x=S a/\K a:=by
 cases x with
 |none=>exact h.elim
 |some a=>exact⟨a,rfl,h⟩
def jQ{K:Bool->Prop}{k:Box K}(h:kA b k):K b:=by
 cases b
 .exact h.2 rfl
 .exact h.1 rfl
def cr.inv_bool(h:cr J w (.bool b) v):v=.bool b:=by cases h;rfl
def cr.inv_int{k:IntKind}{n:Int}(h:cr J w (.int k n) v):v=.int k n:=by cases h;rfl
def cr.inv_str{s:List UInt8}(h:cr J w (.str s) v):v=.string ⟨s.toArray⟩:=by cases h;rfl
def cr.inv_nsl(h:cr J w .nsl v):v=.slice N 0 0:=by cases h;rfl
def qz{K:Bool->Prop}{k:Box K}(h:qw x k)(e:ag O β g ob w x v):∃b,v=.bool b/\K b:=by
 unfold qw at h;split at h
 .rename_i b
  simp only[ag,aD]at e;exact⟨b,e.inv_bool,jQ h⟩
 .exact Ub
def tT(hT:bp P G)(V:Rel O av s β a w)(h:va (G t) s x k)
 (A:ag O β s.gen s.obj w x v):∃y Z,K y/\(∀w',Ext w w'->(Instr.loadAt t v).run P w'=.ok Z w')/\ag O β s.gen s.obj w y Z:=by
 unfold va at h;split at h
 .rename_i id g m
  obtain⟨Q,hg,h⟩:=h;obtain⟨n,ho,h⟩:=aQ h;have o:=hT t Q;simp only[ag,aD]at A;obtain⟨_,_,A⟩:=A;obtain⟨B,H,b2,rfl⟩:=A hg WS;have bs:=V.obj id n ho;rw[H]at bs;obtain⟨_,arr,el,lo,L,q,_,bf,bo⟩:=bs.cells b2;unfold zR at h;split at h
  .rename_i e
   obtain⟨bc,J⟩:=h
   obtain⟨vs,E,U,W⟩:=kT (aD O β s.gen s.obj w) (λj=>arr[B.off+(m+j)]?) ((n.drop m).take (G t).size) (λj c l=>by
    rw[Hl]at l;split at l
    .rw[G6]at l;exact bo (m+j) c l
    .cases l)
   have hl:z vs=(G t).size:=by rw[E];simp;omega
   refine⟨_,.agg vs.toArray,J,λw' r=>?_,?_⟩
   .refine run_loadAt_mid w' B.block (B.off+m) t vs (G t).desc (λj u I=>?_) o.desc (Ah e) ?_
    .rw[eJ (r.cells q)];have:=U j u I;rwa [<-C7]at this
    .obtain⟨i,L,X,_⟩:=o.info;simp[L,X,hl]
   .simp only[ag]
    exact⟨_,rfl,by simp[E],λi c l=>by simpa using W i c l⟩
  .rename_i e
   obtain⟨c,l,J⟩:=aQ h;obtain⟨u,I,f⟩:=bo m c l;refine⟨_,u,J,λw' r=>?_,by simpa only[ag]using f⟩;have:w'.cell? ⟨B.block,B.off+m,N⟩=S u:=by rw[eJ (r.cells q)];exact I
   simp[Instr.loadAt,Instr.sureAddr,loadVar,pK o,e,this]
 .rename_i cs
  obtain⟨Q,h⟩:=h;have o:=hT t Q;simp only[ag,aD]at A;cases A with
  |iptr p hJ b4 an=>
  rename_i b m;unfold Hi at h;split at h
  .rename_i e
   obtain⟨bc,J⟩:=h
   obtain⟨vs,E,U,W⟩:=kT (λ(c:D)v=>aD O β s.gen s.obj w (.d c) v) (λj=>w.cell? ⟨b,m+j,N⟩) (cs.take (G t).size) (λj c l=>by
    rw[Hl]at l;split at l
    .exact⟨_,b4 j c l,an j c l⟩
    .cases l)
   have hl:z vs=(G t).size:=by rw[E];simp;omega
   refine⟨_,.agg vs.toArray,J,λw' r=>?_,?_⟩
   .refine run_loadAt_mid w' b m t vs (G t).desc (λj u I=>r.cell (U j u I)) o.desc (Ah e) ?_
    obtain⟨i,L,X,_⟩:=o.info;simp[L,X,hl]
   .simp only[ag]
    refine⟨_,rfl,by simp[E],λi c l=>?_⟩;rw[y7]at l;cases Y:(cs.take (G t).size)[i]? with
    |none=>rw[Y]at l;cases l
    |some y=>
      rw[Y]at l;simp only[z8,w9]at l;subst l;simpa using W i y Y
  .rename_i e
   obtain⟨c,l,J⟩:=aQ h;refine⟨_,p 0,J,λw' r=>?_,by simp only[ag,aD];exact an 0 c l⟩;have:w'.cell? ⟨b,m,N⟩=S (p 0):=r.cell (b4 0 c l);simp[Instr.loadAt,Instr.sureAddr,loadVar,pK o,e,this]
 .exact Ub
def eV(hT:bp P G)(h:dQ G t=T):∃e,(G t).desc=.slice e/\bq G t=G e/\P.underlying t=S (.slice e)/\rr P e (G e):=by
 simp only[dQ,l4]at h;obtain⟨e,f⟩:=HB h.1;have Y:bq G t=G e:=by simp[bq,f]
 exact⟨e,f,Y,by rw[(hT t (yA h.1)).desc,f],hT e (by rw[<-Y];exact h.2)⟩
def iH{id g' sz off len:Nat}(h:aD O β s.gen s.obj w (.osl id g' sz off len) v)(hg:s.gen id=g')(ho:(s.obj id).isSome=T):oB w sz off len v (β id):=h.2.2 hg ho
def oB.slice{sz off len:Nat}{v:Value}{x:Option Addr}(h:oB w sz off len v x):∃a cap,v=.slice a len cap/\len<=cap:=by
 cases x with
 |none=>exact⟨N,0,by rw[h.2,h.1],by rw[h.1];exact l0 _⟩
 |some a=>
   rcases h.2 with⟨cap,e,hl,_⟩|⟨rfl,o,e⟩
   .exact⟨_,cap,e,hl⟩
   .exact⟨_,0,e,l0 _⟩
def sB(hT:bp P G)(cd:dQ G t=T){x L:AV}{v q:Value}
 (h:iU s (bq G t).size x L k)(hv:ag O β s.gen s.obj w x v)(r:ag O β s.gen s.obj w L q):
  ∃y Z,K y/\(∀w',Ext w w'->(Instr.indexAt t v q).run P w'=.ok Z w')/\ag O β s.gen s.obj w y Z:=by
 obtain⟨e,c6,U,u,B⟩:=eV hT cd;rw[U]at h;unfold iU at h;split at h
 .rename_i kd i
  simp only[ag,aD]at r;obtain rfl:=r.inv_int;split at h
  .rename_i E
   obtain⟨n,h⟩:=h;obtain⟨c,m,bc,J⟩:=aQ h;have Q:i.toNat<z E:=(l8.1 m).1;simp only[ag,aD]at hv;cases hv with
   |sl0=>simp at m
   |sl p V W X Y an=>
   rename_i b l o sz;have a:sz=(G e).size:=by rw[<-bc];exact(X c (l5 m)).symm
   refine⟨_,.pointer (S ⟨b,l+i.toNat*(G e).size,N⟩),J,λw' _=>?_,?_⟩
   .have:i<z E:=a6
    simp[Instr.indexAt,asIntOf,run_underlying u,n,this,bN B,eb]
   .simp only[ag,aD]
    refine .iptr (p i.toNat) (λ_=>W (by rintro rfl;cases m)) (λj x I=>?_) (λj x I=>an _ _ m j x I);rw[<-a];exact Y _ _ m j x I
  .rename_i id g f l len
   obtain⟨hg,ho,n,Q,rfl,J⟩:=h;simp only[ag]at hv;have A:=iH hv hg ho;cases H:β id with
   |none=>
     rw[H]at A;obtain⟨rfl,_⟩:=A;omega
   |some ad=>
     rw[H]at A;obtain⟨b2,A⟩:=A;rcases A with⟨o,rfl,V,_⟩|⟨rfl,_⟩
     .refine⟨_,.pointer (S ⟨ad.block,ad.off+l+i.toNat*(G e).size,N⟩),J,λw' _=>?_,?_⟩
      .simp[Instr.indexAt,asIntOf,run_underlying u,n,Q,bN B,eb]
      .exact T9
     .omega
  .exact Ub
 .exact Ub
def vt(hT:bp P G){x L:AV}{v j:Value}
 (h:mu G (G t).desc s x L k)(hv:ag O β s.gen s.obj w x v)(l:ag O β s.gen s.obj w L j):
  ∃y Z,K y/\(∀w',Ext w w'->(Instr.indexAt t v j).run P w'=.ok Z w')/\ag O β s.gen s.obj w y Z:=by
 unfold mu at h;split at h
 .rename_i n e hd
  have m:=(hT t W6).desc;rw[hd]at m;split at h
  .rename_i kd i
   simp only[ag,aD]at l;obtain rfl:=l.inv_int;split at h
   .rename_i id g f
    obtain⟨o,ho,p,q,r,J⟩:=h;have u:=hT e p;simp only[ag,aD]at hv;obtain⟨ad,H,b2,rfl⟩:=hv.2.2 o ho;refine⟨_,.pointer (S ⟨ad.block,ad.off+f+i.toNat*(G e).size,N⟩),J,λw' _=>?_,?_⟩
    .simp[Instr.indexAt,asIntOf,run_underlying m,q,r,bN u,eb,Instr.sureAddr]
    .exact T9
   .exact Ub
  .exact Ub
 .exact Ub
def size_mk(s:List UInt8):(⟨s.toArray⟩:ByteArray).size=z s:=by show s.toArray.size=z s;simp
def getElem?_mk(s:List UInt8)(i:Nat):(⟨s.toArray⟩:ByteArray)[i]?=s[i]?:=by
 by_cases h:i<z s
 .have this:i<(⟨s.toArray⟩:ByteArray).size:=by simpa[ByteArray.size]using h
  rw[getElem?_pos (⟨s.toArray⟩:ByteArray) i this,y8 h];rfl
 .have this:¬i<(⟨s.toArray⟩:ByteArray).size:=by simpa[ByteArray.size]using h
  rw[getElem?_neg (⟨s.toArray⟩:ByteArray) i this,E0 a6]
def yB(l:P.underlying t=S .string){x L:AV}{v e:Value}
 (h:vb x L k)(f:ag O β s.gen s.obj w x v)(j:ag O β s.gen s.obj w L e):
  ∃y Z,K y/\(∀w',Ext w w'->(Instr.index t v e).run P w'=.ok Z w')/\ag O β s.gen s.obj w y Z:=by
 unfold vb at h;split at h
 .rename_i kd i
  simp only[ag,aD]at j;obtain rfl:=j.inv_int;split at h
  .rename_i I
   obtain⟨m,h⟩:=h;obtain⟨c,n,J⟩:=aQ h;simp only[ag,aD]at f;obtain rfl:=f.inv_str;refine⟨_,.int .u8 c.toNat,J,λw' _=>?_,by simp only[ag,aD];exact .int _ _⟩;have:(⟨I.toArray⟩:ByteArray)[i.toNat]?=S c:=by rw[getElem?_mk];exact n
   simp[Instr.index,asIntOf,run_underlying l,m,this]
  .exact Ub
 .exact Ub
def gk{kd:IntKind}{n:Int}{x:Sem Value}(h:K (iv kd n))(V:∀w,x.run P w=.ok (.int kd n) w):∃X Z,K X/\(∀w',Ext w w'->x.run P w'=.ok Z w')/\ag O β g ob w X Z:=
 ⟨_,_,h,λw' _=>V w',by simp only[ag,aD];exact .int _ _⟩
def gu{x:Sem Value}(h:K (bv b))(V:∀w,x.run P w=.ok (.bool b) w):∃X Z,K X/\(∀w',Ext w w'->x.run P w'=.ok Z w')/\ag O β g ob w X Z:=
 ⟨_,_,h,λw' _=>V w',by simp only[ag,aD];exact .bool _⟩
def CH{s:List UInt8}{x:Sem Value}(h:K (sv s))(V:∀w,x.run P w=.ok (.string ⟨s.toArray⟩) w):∃X Z,K X/\(∀w',Ext w w'->x.run P w'=.ok Z w')/\ag O β g ob w X Z:=
 ⟨_,_,h,λw' _=>V w',by simp only[ag,aD];exact .str _⟩
def HC{kd e:IntKind}{x y:Int}{t:TypeId}(f:sameKind op kd e)(h:nV op kd x y k):
  ∃X Z,K X/\(∀w',Ext w w'->(binOp op t (.int kd x) (.int e y)).run P w'=.ok Z w')/\ag O β g ob w X Z:=by
 cases op<;>simp only[nV,sameKind]at h f<;>(try subst f)
 case quo=>exact gk h.2 (λw=>by simp[binOp,Op.intDiv,h.1])
 case rem=>exact gk h.2 (λw=>by simp[binOp,Op.intDiv,h.1])
 case shl=>have:=Int.not_lt.2 h.1;exact gk h.2 (λw=>by simp[binOp,Op.shift,this])
 case shr=>have:=Int.not_lt.2 h.1;exact gk h.2 (λw=>by simp[binOp,Op.shift,this])
 case add=>exact gk h (λw=>by simp[binOp,Op.intArith])
 case sub=>exact gk h (λw=>by simp[binOp,Op.intArith])
 case mul=>exact gk h (λw=>by simp[binOp,Op.intArith])
 case and=>exact gk h (λw=>by simp[binOp,Op.intBits])
 case or=>exact gk h (λw=>by simp[binOp,Op.intBits])
 case xor=>exact gk h (λw=>by simp[binOp,Op.intBits])
 case andNot=>exact gk h (λw=>by simp[binOp,Op.intBits])
 case eql=>exact gu h (λw=>by simp[binOp,Op.intCmp];rfl)
 case neq=>exact gu h (λw=>by simp[binOp,Op.intCmp];rfl)
 all_goals exact gu h (λw=>by simp[binOp,Op.intCmp])
def uN(x y:List UInt8):(x==y)=decide (x=y):=by rw[N7];simp
def FM(x y:List UInt8):(⟨x.toArray⟩:ByteArray)++(⟨y.toArray⟩:ByteArray)=⟨(x++y).toArray⟩:=by
 apply ByteArray.ext;simp
def HD{x y:List UInt8}{t:TypeId}(h:FE op x y k):
  ∃X Z,K X/\(∀w',Ext w w'->(binOp op t (.string ⟨x.toArray⟩) (.string ⟨y.toArray⟩)).run P w'=.ok Z w')/\ag O β g ob w X Z:=by
 cases op<;>simp only[FE]at h
 case add=>
  refine CH h.2 λw=>?_;have U:=h.1
  have Y:¬(((⟨x.toArray⟩:ByteArray).size+(⟨y.toArray⟩:ByteArray).size:Nat):Int)>IntKind.i64.max:=by
   have e:=size_mk x;have f:=size_mk y;have i:IntKind.i64.max=9223372036854775807:=a7;omega
  simp only[binOp,Op.stringOp,j8 Y,FM];rfl
 case eql=>exact gu h (λw=>by simp[binOp,Op.stringOp,uN])
 case neq=>exact gu h (λw=>by simp[binOp,Op.stringOp,uN])
 case lss=>exact gu h (λw=>by simp[binOp,Op.stringOp])
 case leq=>exact gu h (λw=>by simp[binOp,Op.stringOp,uN])
 case gtr=>exact gu h (λw=>by simp[binOp,Op.stringOp,uN])
 case geq=>exact gu h (λw=>by simp[binOp,Op.stringOp])
def iR(op:BinOp)(t:TypeId)(x y:Operand)(a b:Value)(h:∀cs,a≠.agg cs)(Y:a≠.nilIface):(eqGuard op t x y a b).run P w=.ok () w:=by
 unfold eqGuard;cases op<;>(try rfl)<;>(cases a<;>first|(exfalso;exact h _ rfl)|(exfalso;exact Y rfl)|rfl)
def run_equal_bool{t:TypeId}(e:P.underlying t=S .bool)(a b:Bool):(Op.equal t (.bool a) (.bool b)).run P w=.ok (a==b) w:=by
 obtain⟨d,hd⟩:∃d,Op.maxDepth=d+1:=⟨9999,rfl⟩
 unfold Op.equal;rw[hd];simp[Op.equalIn,run_underlying e]
def qA{g:Nat->Nat}{ob:Obs}{k:IntKind}:∀{cs:List C}{o:List Int}{vs:List Value},xo k cs=S o->z vs=z cs->(∀(i:Nat)(c:C),cs[i]?=S c->∃u,vs[i]?=S u/\aD O β g ob w c u)->vs=o.map (Value.int k)
 |[],o,vs,h,hl,_=>by
   cases h;simpa using hl
 |c::cs,o,vs,h,hl,V=>by
   obtain⟨u,l,j⟩:=V 0 c rfl
   match vs,hl with
   |v::vs,hl=>
     obtain rfl:=E8 l;unfold xo at h;split at h
     .rename_i e;cases e
     .rename_i E n r e
      cases e;split at h
      .rename_i m
       subst m;cases f:xo E cs with
       |none=>rw[f]at h;cases h
       |some ms=>
         rw[f]at h;cases h;simp only[aD]at j;rw[j.inv_int,qA f W8 (λi c h=>V (i+1) c h)];rfl
      .cases h
     .cases h
def ru{e:TypeId}{k:IntKind}(f:P.underlying e=S (.int k)){cs:List Value}{i:Nat}(h:cs[i]?=S v):(part e cs.toArray i).run P w=.ok v w:=by
 simp[part,isAgg,run_underlying f,h]
def nM{e:TypeId}{k:IntKind}(f:P.underlying e=S (.int k))(d:Nat){xs Q:List Int}:∀(m j:Nat)(w:World),z xs=j+m->z Q=j+m->
  (Op.eqItems (d+1) e 1 (xs.map (Value.int k)).toArray (Q.map (Value.int k)).toArray (List.range' j m)).run P w=.ok (decide (xs.drop j=Q.drop j)) w
 |0,j,w,I,i=>by
   rw[y2 a6,y2 a6];simp[Op.eqItems]
 |m+1,j,w,I,i=>by
   have U:j<z xs:=a6;have Y:j<z Q:=a6;rw[List.range'_succ];simp only[Op.eqItems,Sem.run_bind,K9];rw[ru f (v:=.int k xs[j]) (by simp[U])];simp only[Result.andThen_ok];rw[ru f (v:=.int k Q[j]) (by simp[Y])];simp only[Result.andThen_ok];rw[run_equalIn_int w d e k k _ _ f];simp only[Result.andThen_ok]
   have l:decide (xs.drop j=Q.drop j)=(decide (xs[j]=Q[j])&&decide (xs.drop (j+1)=Q.drop (j+1))):=by
    rw[A8 U,A8 Y];simp only[PD,Bool.decide_and]
   rw[l];by_cases h:xs[j]=Q[j]
   .simp only[h,beq_self_eq_true,O8,A3,B8,R1,w7]
    exact nM f d m (j+1) w a6 a6
   .have n:(xs[j]==Q[j])=F:=by simpa using h
    simp[n,h]
def vu(hT:bp P G){g:Nat->Nat}{ob:Obs}{t n e:Nat}{xs Q:List C}{vs f:Array Value}(o:P.underlying t=S (.array n e)){K:Bool->Prop}{k:Box K}(h:Lh (G e) n xs Q k)
 (p:mz O β g ob w xs vs)(q:mz O β g ob w Q f):∃b,K b/\∀w',(Op.equalIn 10000 t (.agg vs) (.agg f)).run P w'=.ok b w'/\P.eqGuardType P.depth t=F:=by
 unfold Lh at h;split at h
 .rename_i kd hd
  obtain⟨y,h⟩:=h;have r:=hT e W6;have j:=r.desc;rw[hd]at j;obtain⟨i,u,bc,_⟩:=r.info;unfold bR at h;split at h
  .rename_i a A
   split at h
   .rename_i b B
    obtain⟨⟨I,m⟩,J⟩:=h;have E:=qA (vs:=vs.toList) A (by simpa using p.1) (λi c l=>by simpa using p.2 i c l);have H:=qA (vs:=f.toList) B (by simpa using q.1) (λi c l=>by simpa using q.2 i c l);refine⟨_,J,λw'=>⟨?_,?_⟩⟩
    .rw[show vs=(a.map (Value.int kd)).toArray from by rw[<-E],show f=(b.map (Value.int kd)).toArray from by rw[<-H]]
     rw[run_equalIn_array w' 9999 _ _ o u,show P.cellsOf e=1 by simp[Program.cellsOf,u,bc,y],PA,nM j 9998 n 0 w' a6 a6];rfl
    .unfold Program.depth
     rw[show 2*(P.types.size+Made.depth)+2=(2*(P.types.size+Made.depth)+1)+1 from rfl];simp[Program.eqGuardType,o,j]
   .exact Ub
  .exact Ub
 .exact Ub
def CI(hT:bp P G){x y:AV}{v u:Value}(h:Cx G (G t).desc op x y k)
 (f:ag O β s.gen s.obj w x v)(i:ag O β s.gen s.obj w y u)(ox c:Operand):
  ∃X Z,K X/\(∀w',Ext w w'->(do eqGuard op t ox c v u;binOp op t v u:Sem Value).run P w'=.ok Z w')/\ag O β s.gen s.obj w X Z:=by
 unfold Cx at h;split at h
 .simp only[ag,aD]at f i
  obtain rfl:=f.inv_int;obtain rfl:=i.inv_int;obtain⟨X,Z,U,Y,h3⟩:=HC (O:=O) (β:=β) (g:=s.gen) (ob:=s.obj) (w:=w) (P:=P) (t:=t) h.1 h.2;exact V3
 .simp only[ag,aD]at f i
  obtain rfl:=f.inv_str;obtain rfl:=i.inv_str;obtain⟨X,Z,U,Y,h3⟩:=HD (O:=O) (β:=β) (g:=s.gen) (ob:=s.obj) (w:=w) (P:=P) (t:=t) h;exact V3
 .rename_i a b
  simp only[ag,aD]at f i;obtain rfl:=f.inv_bool;obtain rfl:=i.inv_bool;unfold Px at h;split at h
  .rename_i hd
   exact u0
  .rename_i hd
   exact u0
  .exact Ub
 .rename_i j Q
  simp only[ag]at f i;obtain⟨vs,rfl,f⟩:=f;obtain⟨l,rfl,i⟩:=i;unfold SY at h;split at h
  .rename_i n e hd
   have bk:=(hT t W6).desc;rw[hd]at bk;obtain⟨b,J,V⟩:=vu hT bk h f i;refine gu J λw=>?_;rw[Sem.run_bind,run_eqGuard_agg w _ _ _ _ _ _ (V w).2];simp only[Result.andThen_ok];rw[run_eql_struct,(V w).1];rfl
  .rename_i n e hd
   have bk:=(hT t W6).desc;rw[hd]at bk;obtain⟨b,J,V⟩:=vu hT bk h f i;refine gu J λw=>?_;rw[Sem.run_bind,run_eqGuard_agg w _ _ _ _ _ _ (V w).2];simp only[Result.andThen_ok];rw[run_neq_struct,(V w).1];rfl
  .exact Ub
 .exact Ub
def FN{op:UnOp}(h:unA op x k)(e:ag O β s.gen s.obj w x v):
  ∃X Z,K X/\(∀w',Ext w w'->(Op.unary op v).run P w'=.ok Z w')/\ag O β s.gen s.obj w X Z:=by
 unfold unA at h;split at h
 .simp only[ag,aD]at e
  obtain rfl:=e.inv_bool;exact gu h (λw=>by simp[Op.unary])
 .simp only[ag,aD]at e
  obtain rfl:=e.inv_int;exact gk h (λw=>by simp[Op.unary,Op.intArith])
 .exact Ub
def xw{a b:D}(e:iF kd a=T)(f:iF kd b=T):kE a b=T↔dV a=dV b:=by
 cases kd<;>cases a<;>cases b<;>simp_all[iF,kE,dV]
def oJ{a:D}(h:iF kd a=T):MapKept.IsKey kd (dV a):=by
 cases kd<;>cases a<;>simp_all[iF,MapKept.IsKey,dV]
def cr.key{a:D}(e:iF kd a=T)(h:cr J w a v):v=dV a:=by
 cases h<;>first|rfl|(cases kd<;>simp[iF]at e;done)
def eI.find{R:C->Value->Prop}{cs:List C}{es:List MapEntry}(h:eI R kd cs es){k:D}(l:iF kd k=T)(i:Nat):
  (Instr.findNow kd (dV k) es i=S N/\mget cs k=N/\∀c v,R c v->∀b,eI R kd (mset cs k c) (es++[{key:=dV k,val:=v,born:=b}]))\/
  ∃j e c,Instr.findNow kd (dV k) es i=S (S (i+j,e.val))/\es[j]?=S e/\e.key=dV k/\mget cs k=S c/\R c e.val/\∀c' v,R c' v->eI R kd (mset cs k c') (es.modify j λe=>{e with key:=dV k,val:=v}):=by
 induction h generalizing i with
 |nil=>exact .inl ⟨rfl,rfl,λc v V b=>.cons l rfl V .nil⟩
 |cons f U Y V q=>
   rename_i E c e cs es;obtain⟨r,m,a⟩:=MapKept.sameNow_of_keys (oJ l) (oJ f);cases r with
   |true=>
     have n:=a.1 rfl;have d:kE E k=T:=(xw f l).2 n.symm;refine .inr ⟨0,e,c,by simp[Instr.findNow,U,m],rfl,by rw[U,n],by simp[mget,d],Y,λc' v bk=>?_⟩;simp only[mset,d,B5,List.modify_cons,ite_true];exact .cons f (by simpa using n) bk V
   |false=>
     have bl:kE E k=F:=by
      cases u:kE E k with
      |false=>rfl
      |true=>have:=a.2 ((xw f l).1 u).symm;cases this
     rcases q (i+1)with⟨o,p,g3⟩|⟨j,B,c',o,p,g3,g4,g5,y⟩
     .exact .inl ⟨by simp[Instr.findNow,U,m,o],by simp[mget,bl,p],λc v bk b=>by
       simp only[mset,bl,u7];exact .cons f U Y (g3 c v bk b)⟩
     .refine .inr ⟨j+1,B,c',by simp[Instr.findNow,U,m,o];omega,by simpa using p,g3,by simp[mget,bl,g4],g5,λc2 v bk=>?_⟩
      simp only[mset,bl,List.modify_succ_cons];exact .cons f U Y (y c2 v bk)
def FO(hT:bp P G){K:D->Prop}{k:Box K}(h:zU (G t) k):∃X,K X/\lu X=T/\(∀w,(zeroValue t).run P w=.ok (dV X) w)/\okD (G t).desc=T:=by
 unfold zU at h;split at h
 .rename_i X e
  have f:=hT t h.1.1;obtain⟨i,j,n,o,a,b,l⟩:=f.info;have m:lu X=T:=by have:=f.plain;rw[e]at this;simpa using this
  refine⟨X,h.2,m,λw=>?_,h.1.1⟩;rw[e]at l;have c:a=dV X:=by have:=f.zone h.1.2 i a j b;rwa [e]at this
  simp[zeroValue,typeInfo,j,b,c]
 .exact Ub
def sC{g:Nat->Nat}{ob:Obs}{X:D}(J:K (tQ ok X c))(e:aD O β g ob w (c.getD (.d X)) v):
  ∃y Z,K y/\(∀w',Ext w w'->(pure (if ok then .tuple #[v,.bool c.isSome]else v):Sem Value).run P w'=.ok Z w')/\ag O β g ob w y Z:=by
 refine⟨_,_,J,λw' _=>by rw[Sem.run_pure],?_⟩;cases ok
 .simp only[tQ,ag];exact e
 .simp only[tQ,B5,ag,aO]
  exact⟨[v,.bool c.isSome],rfl,_,_,rfl,e,_,_,rfl,by simp only[aD];exact .bool _,rfl⟩
def OK{kd:Nat}(h:er kd=d){k:D}(e:iF d k=T):kd<200:=by
 refine Nat.lt_of_not_le λf=>?_
 have:er kd=.invalid:=by
  unfold er;split<;>first|omega|rfl
 rw[this]at h;subst h;simp[iF]at e
def FP(hT:bp P G){K:List D->Prop}{k:Box K}(h:zW (G t) k):∃m vs,K m/\(∀w,(zeroValue t).run P w=.ok (.agg vs) w)/\vs.size=z m/\∀(i:Nat)(x:D),m[i]?=S x->vs[i]?=S (dV x)/\lu x=T:=by
 unfold zW at h;obtain⟨⟨n,Y⟩,J⟩:=h;have e:=hT t n;obtain⟨i,o,p,q,a,b,f⟩:=e.info
 have c:∃vs,a=.agg vs:=by
  cases a with
  |agg vs=>exact⟨vs,rfl⟩
  |_=>exfalso;have:=congrArg z f;simp[Value.cells]at this;omega
 obtain⟨vs,rfl⟩:=c;have l:vs.toList=(G t).zero.map dV:=by simpa[Value.cells]using f
 refine⟨_,vs,J,λw=>by simp[zeroValue,typeInfo,o,b],by rw[<-N6,l,j5],λj x I=>⟨?_,?_⟩⟩
 .rw[<-G8,l,y7,I];rfl
 .exact x7.1 e.plain x (l5 I)
def qB{g:Nat->Nat}{ob:Obs}{X:List D}{vs:Array Value}(J:K (mY ok X c))(h:vs.size=z (zV X c))(j:∀(i:Nat)(x:D),(zV X c)[i]?=S x->∃u,vs[i]?=S u/\cr (Imm O β ob w) w x u):
  ∃y Z,K y/\(∀w',Ext w w'->(pure (if ok then .tuple #[.agg vs,.bool c.isSome]else .agg vs):Sem Value).run P w'=.ok Z w')/\ag O β g ob w y Z:=by
 have b:mz O β g ob w ((zV X c).map .d) vs:=by
  refine⟨by rw[h,j5],λi l e=>?_⟩;rw[y7]at e;cases f:(zV X c)[i]? with
  |none=>rw[f]at e;cases e
  |some x=>
    rw[f]at e;cases e;exact j i x f
 refine⟨_,_,J,λw' _=>by rw[Sem.run_pure],?_⟩;cases ok
 .simp only[mY,ag];exact⟨vs,rfl,b⟩
 .simp only[mY,B5,ag,aO]
  exact⟨[.agg vs,.bool c.isSome],rfl,_,_,rfl,⟨vs,rfl,b⟩,_,_,rfl,by simp only[aD];exact .bool _,rfl⟩
def wU(hT:bp P G)(V:Rel O av s β a w){x L:AV}{v vi:Value}(h:mZ G t s x L ok k)
 (U:ag O β s.gen s.obj w x v)(hi:ag O β s.gen s.obj w L vi):∃y Z,K y/\(∀w',Ext w w'->(Instr.lookup t v vi ok).run P w'=.ok Z w')/\ag O β s.gen s.obj w y Z:=by
 unfold mZ at h;split at h
 .rename_i n et k0 hd
  obtain⟨⟨bd,o⟩,h⟩:=h;have hu:=(hT t W6).desc;rw[hd]at hu;have hk:=(hT n bd).desc;simp only[ag,aD]at hi;obtain rfl:=hi.key o;have E:∀e w,(Instr.checkKey e 10000 n (dV k0)).run P w=.ok () w:=λe w=>MapKept.run_checkKey hk (oJ o) e 9999;split at h
  .obtain⟨X,h,d,b,_⟩:=FO hT h
   split at h
   .rename_i id g kd _
    obtain⟨hg,B,h⟩:=h;have af:=OK B o;obtain⟨cells,ho,J⟩:=aQ h;simp only[ag,aD]at U;obtain⟨ad,H,W,rfl⟩:=U.2.2 hg WS;have Y:=V.obj id cells ho;rw[H]at Y;obtain⟨es,Q,q,hm⟩:=(Y.map W.1).2.resolve_right (λh=>W.2 h.1);rw[yy af,show my kd=er kd from l7 af,B]at hm;rcases hm.find o 0 with⟨g1,g2,_⟩|⟨j,e,c,g1,_,_,g4,g5,_⟩
    .obtain⟨y,Z,q1,q2,q3⟩:=sC (P:=P) (w:=w) (O:=O) (β:=β) (g:=s.gen) (ob:=s.obj) J (v:=dV X) (by rw[g2];simp only[R9,aD];exact .of_plain d)
     exact s8
    .obtain⟨y,Z,q1,q2,q3⟩:=sC (P:=P) (w:=w) (O:=O) (β:=β) (g:=s.gen) (ob:=s.obj) J (v:=e.val) (by rw[g4];simpa using g5)
     refine⟨y,Z,q1,λw' b0=>?_,q3⟩;have q2:=q2 w' b0;rw[g4]at q2;simp only[Sem.run_pure,Result.ok.injEq,LB]at q2;subst q2;simp[Instr.lookup,run_underlying hu,MapKept.run_getObj_map (b0.cells q),E,MapKept.run_findKey hk g1]
   .simp only[ag,aD]at U
    cases U;obtain⟨y,Z,q1,q2,q3⟩:=sC (P:=P) (w:=w) (O:=O) (β:=β) (g:=s.gen) (ob:=s.obj) h (v:=dV X) (by simp only[R9,aD];exact .of_plain d);exact sT
   .exact Ub
  .obtain⟨X,m,h,b,f,p⟩:=FP hT h
   have r:∀(i:Nat)(x:D),X[i]?=S x->∃u,m[i]?=S u/\cr (Imm O β s.obj w) w x u:=λi x I=>⟨_,(p i x I).1,.of_plain (p i x I).2⟩
   split at h
   .rename_i id g kd _
    obtain⟨hg,⟨b8,B⟩,h⟩:=h;obtain⟨cells,ho,J⟩:=aQ h;simp only[ag,aD]at U;obtain⟨ad,H,W,rfl⟩:=U.2.2 hg WS;have Y:=V.obj id cells ho;rw[H]at Y;obtain⟨es,Q,q,hm⟩:=(Y.map W.1).2.resolve_right (λh=>W.2 h.1);rw[show my kd=er (kd-200)from j8 a6,B]at hm;rcases hm.find o 0 with⟨g1,g2,_⟩|⟨j,e,c,g1,_,_,g4,g5,_⟩
    .obtain⟨y,Z,q1,q2,q3⟩:=qB (P:=P) (w:=w) (O:=O) (β:=β) (g:=s.gen) (ob:=s.obj) J (vs:=m) (by rw[g2];exact f) (by rw[g2];exact r)
     exact s8
    .unfold jB at g5
     rw[j8 a6]at g5;obtain⟨ds,vs,rfl,l,hs,A⟩:=g5;obtain⟨y,Z,q1,q2,q3⟩:=qB (P:=P) (w:=w) (O:=O) (β:=β) (g:=s.gen) (ob:=s.obj) J (vs:=vs) (by rw[g4];exact hs) (by rw[g4];exact A);refine⟨y,Z,q1,λw' b0=>?_,q3⟩;have q2:=q2 w' b0;rw[g4]at q2;simp only[Sem.run_pure,Result.ok.injEq,LB]at q2;subst q2;simp[Instr.lookup,run_underlying hu,MapKept.run_getObj_map (b0.cells q),E,MapKept.run_findKey hk g1,l]
   .simp only[ag,aD]at U
    cases U;obtain⟨y,Z,q1,q2,q3⟩:=qB (P:=P) (w:=w) (O:=O) (β:=β) (g:=s.gen) (ob:=s.obj) h (vs:=m) f r;exact sT
   .exact Ub
 .exact Ub
def HE{g:Nat->Nat}{ob:Obs}{p:PC}(e:Hj x=S p)(f:ag O β g ob w x v):kF O β g ob w p v:=by
 unfold Hj at e;split at e
 .cases e;simpa only[ag,aD,kF]using f
 .cases e;simpa only[ag,aD,kF]using f
 .cases e
def xx{av:Nat}{s:St}{a:Act}(V:Rel O av s β a w):∀(xs:List Operand){ps:List PC},ou (xs.map s.ev)=S ps->z ps=z xs/\∀(i:Nat)(pc:PC),ps[i]?=S pc->∃x,xs[i]?=S x/\kF O β s.gen s.obj w pc (a.eval x)
 |[],ps,h=>by simp[ou]at h;subst h;exact⟨rfl,λi pc h=>by simp at h⟩
 |x::xs,ps,h=>by
   simp only[l9,ou]at h;cases U:Hj (s.ev x)with
   |none=>rw[U]at h;cases h
   |some p=>
     rw[U]at h;cases Y:ou (xs.map s.ev)with
     |none=>rw[Y]at h;cases h
     |some b=>
       rw[Y]at h;simp only[I8,w9]at h;subst h;obtain⟨e,f⟩:=xx V xs Y;refine⟨by simp[e],λi pc hi=>?_⟩;cases i with
       |zero=>simp at hi;subst hi;exact⟨x,rfl,HE U (V.ev x)⟩
       |succ i=>simpa using f i pc Xv
def uA(V:Rel O av s β a w){f:FuncId}{first bf:Array Operand}(h:jM f (first.toList.map s.ev) (bf.toList.map s.ev) k):
  ∃y Z,K y/\(∀w',Ext w w'->(Instr.makeFunc (.func f) (first.map a.eval) (bf.map a.eval)).run P w'=.ok Z w')/\ag O β s.gen s.obj w y Z:=by
 have n:∀(e:Array Operand){l:List PC},ou (e.toList.map s.ev)=S l->(e.map a.eval).size=z l/\∀(i:Nat)(pc:PC),l[i]?=S pc->∃u,(e.map a.eval)[i]?=S u/\kF O β s.gen s.obj w pc u:=λe l hl=>by
  obtain⟨o,p⟩:=xx V e.toList hl;refine⟨by simp[o],λi pc q=>?_⟩;obtain⟨x,I,bk⟩:=p i pc q;have I:e[i]?=S x:=by simpa using I
  exact⟨a.eval x,by simp[I],bk⟩
 unfold jM at h;split at h
 .rename_i j
  obtain⟨m,h⟩:=h;obtain⟨l,hl,J⟩:=aQ h
  have j:first = #[]:=by
   have:=congrArg z j;exact O7 (by simpa using this)
  subst j;refine⟨_,.func (.func f) #[] (bf.map a.eval),J,λw' _=>by simp[Instr.makeFunc],?_⟩;simp only[ag,aD];exact⟨_,(uL m _).symm,n bf hl⟩
 .rename_i x r j
  obtain⟨m,h⟩:=h;obtain⟨l,hl,J⟩:=aQ h;rw[<-j]at hl
  have A:bf = #[]:=by
   have:=congrArg z m;exact O7 (by simpa using this)
  subst A;refine⟨_,.func (.func f) (first.map a.eval) #[],J,λw' _=>by simp[Instr.makeFunc],?_⟩;simp only[ag,aD];exact⟨_,(Ab f _).symm,n first hl⟩
def iI(h:isStr d=T):d=.string:=by cases d<;>simp_all[isStr]
def CJ(hT:bp P G){ty:TypeId}(h:zS s (isStr (G t).desc) (dQ G t) x k)(f:ag O β s.gen s.obj w x v):
  ∃X Z,K X/\(∀w',Ext w w'->(Builtin.len_ #[t] ty #[v]).run P w'=.ok Z w')/\ag O β s.gen s.obj w X Z:=by
 unfold zS at h;split at h
 .obtain⟨i,h⟩:=h
  obtain⟨e,_,_,hu,_⟩:=eV hT i;simp only[ag,aD]at f;obtain rfl:=f.inv_nsl;exact UC
 .obtain⟨i,h⟩:=h
  obtain⟨e,_,_,hu,_⟩:=eV hT i;simp only[ag,aD]at f;refine gk h λw=>?_;cases f<;>simp[Builtin.len_,run_underlying hu,goInt]
 .obtain⟨i,h⟩:=h
  have hu:=(hT t (by rw[iI i];rfl)).desc;rw[iI i]at hu;simp only[ag,aD]at f;obtain rfl:=f.inv_str;exact gk h (λw=>by simp[Builtin.len_,run_underlying hu,goInt,size_mk])
 .obtain⟨i,l,ho,h⟩:=h
  obtain⟨e,_,_,hu,_⟩:=eV hT i;simp only[ag]at f;obtain⟨a,j,rfl,_⟩:=(iH f l ho).slice;exact UC
 .obtain⟨i,h⟩:=h
  obtain⟨e,_,_,hu,_⟩:=eV hT i;simp only[ag,aD]at f;obtain⟨a,j,rfl⟩:=f;exact UC
 .exact Ub
end
end
section
variable{lo B:Option AV}{q r:Option Value}{K:AV->Prop}{k:Box K}
section
variable{P:Program}{G:Nat->TI}{O:Bs}{β:Loc}{g:Nat->Nat}{ob:Obs}{w:World}
inductive yF (O:Bs) (β:Loc) (g:Nat->Nat) (ob:Obs) (w:World):Option AV->Option Value->Prop where
 |none:yF O β g ob w none none
 |some {x:AV}{v:Value} (h:ag O β g ob w x v):yF O β g ob w (some x) (some v)
def run_sliceBound{kd:IntKind}{i:Int}{y:Nat}{c:BoundsCode}(a:0<=i)(U:i.toNat<=y):(Instr.sliceBound (.int kd i) y c).run P w=.ok i.toNat w:=by
 have:i<=y:=a6;simp[Instr.sliceBound,asIntOf,a,this]
def fL{o:Option AV}{a:Option Value}{u:Nat}{K:Nat->Prop}{k:Box K}(h:jJ o u k)(ho:yF O β g ob w o a):
  ∃n,K n/\((a=N/\n=u)\/∃kd i,a=S (.int kd i)/\0<=i/\n=i.toNat):=by
 unfold jJ at h;split at h
 .cases ho
  exact⟨_,h,.inl ⟨rfl,rfl⟩⟩
 .cases ho with
  |some b=>
    simp only[ag,aD]at b;obtain rfl:=b.inv_int;exact⟨_,h.2,.inr ⟨_,_,rfl,h.1,rfl⟩⟩
 .exact Ub
def dK{b:Bool}{len cap h l:Nat}{ho lo:Option Value}
 (c:(ho=N/\h=len)\/∃kd i,ho=S (.int kd i)/\0<=i/\h=i.toNat)(hl:(lo=N/\l=0)\/∃kd i,lo=S (.int kd i)/\0<=i/\l=i.toNat)
 (U:l<=h)(Y:h<=cap):(Instr.sliceBounds b len cap lo ho N).run P w=.ok (l,h,cap) w:=by
 rcases c with⟨rfl,rfl⟩|⟨kd,i,rfl,B,rfl⟩<;>rcases hl with⟨rfl,rfl⟩|⟨a,d,rfl,e,rfl⟩<;>
  simp[Instr.sliceBounds,run_sliceBound, *]
def extract_mk(s:List UInt8)(l h:Nat):(⟨s.toArray⟩:ByteArray).extract l h=⟨((s.take h).drop l).toArray⟩:=by
 apply ByteArray.ext;apply H6;rw[ByteArray.data_extract];simp[List.drop_take]
def yG(hT:bp P G){s:St}{t:Nat}{x:AV}{v:Value}
 (h:oh s (isStr (G t).desc) (dQ G t) (bq G t).size x lo B k)(V:ag O β s.gen s.obj w x v)
 (m:yF O β s.gen s.obj w lo q)(c:yF O β s.gen s.obj w B r):
  ∃y Z,K y/\(∀w',Ext w w'->(Instr.sliceAt t v q r N).run P w'=.ok Z w')/\ag O β s.gen s.obj w y Z:=by
 unfold oh at h;split at h
 .rename_i I
  obtain⟨hs,h⟩:=h;obtain⟨n,h,W⟩:=fL h c;obtain⟨ln,⟨U,Y,J⟩,hl⟩:=fL h m;have E:=(hT t (by rw[iI hs];rfl)).desc;rw[iI hs]at E;simp only[ag,aD]at V;obtain rfl:=V.inv_str;refine CH J λw=>?_;have this:=λw=>dK (P:=P) (w:=w) (b:=F) (len:=z I) (cap:=z I) W hl U Y;simp[Instr.sliceAt,run_underlying E,Instr.slice,size_mk,this,extract_mk]
 .rename_i es
  obtain⟨hs,h⟩:=h;obtain⟨n,h,W⟩:=fL h c;obtain⟨ln,⟨U,Y,bc,J⟩,hl⟩:=fL h m;obtain⟨e,c6,ca,E,b3⟩:=eV hT hs;rw[ca]at bc;simp only[ag,aD]at V;have bf:z ((es.take n).drop ln)=n-ln:=by simp;omega
  cases V with
  |@sl0 a cap=>
    have h0:n=0:=by simpa using Y
    subst h0;have d:ln=0:=a6;subst d;have this:=λw=>dK (P:=P) (w:=w) (b:=T) (len:=0) (cap:=cap) W hl U (L5 _);refine⟨_,.slice a 0 cap,J,λw' _=>?_,?_⟩
    .have ha:a.map (λx=>x.add 0)=a:=by cases a<;>simp[Addr.add]
     simp[Instr.sliceAt,run_underlying E,Instr.slice,this,bN b3,ha]
    .simp only[ag,aD];exact .sl0
  |sl p cc hJ g b4 an=>
    rename_i b L cap sz;have hb:=λw=>dK (P:=P) (w:=w) (b:=T) (len:=z es) (cap:=cap) W hl U a6;by_cases hc:cap=ln
    .subst hc
     refine⟨_,.slice (S ⟨b,L,N⟩) (n-cap) (cap-cap),J,λw' _=>by simp[Instr.sliceAt,run_underlying E,Instr.slice,hb,bN b3],?_⟩;simp only[ag,aD];have l:(es.take n).drop cap=[]:=r0 (by rw[bf];omega);rw[l,<-bf,l];exact tz
    .refine⟨_,.slice (S ⟨b,L+ln*(G e).size,N⟩) (n-ln) (cap-ln),J,λw' _=>by simp[Instr.sliceAt,run_underlying E,Instr.slice,hb,bN b3,hc,eb],?_⟩
     simp only[ag,aD];rw[<-bf]
     have av:∀(i:Nat)(y:List D),((es.take n).drop ln)[i]?=S y->es[ln+i]?=S y:=λi y Q=>by
      rw[G6,Hl]at Q;split at Q
      .exact Q
      .cases Q
     by_cases bl:es=[]
     .subst bl
      simp only[List.take_nil,List.drop_nil];exact tz
     .have b7:(G e).size=sz:=by
       obtain⟨y,Q⟩:=List.exists_mem_of_ne_nil es bl;rw[<-bc y Q,g y Q]
      rw[b7];refine .sl (λi j=>p (ln+i) j) (by rw[bf];omega) (λ_=>hJ bl) (λy Q=>g y (N0 (J7 Q))) (λi y Q j X hz=>?_) (λi y Q j X hz=>an _ _ (av i y Q) j X hz);have:=b4 _ _ (av i y Q) j X hz;rw[F2]at this
      rwa [<-C7]at this
 .obtain⟨hs,h⟩:=h
  obtain⟨n,h,W⟩:=fL h c;obtain⟨ln,⟨rfl,rfl,J⟩,hl⟩:=fL h m;obtain⟨e,c6,ca,E,b3⟩:=eV hT hs;simp only[ag,aD]at V;obtain rfl:=V.inv_nsl;have this:=λw=>dK (P:=P) (w:=w) (b:=T) (len:=0) (cap:=0) W hl (l0 _) (l0 _);refine⟨_,.slice N 0 0,J,λw' _=>by simp[Instr.sliceAt,run_underlying E,Instr.slice,this,bN b3],?_⟩;simp only[ag,aD];exact .nsl
 .rename_i id g' f L len
  obtain⟨hs,hg,ho,h⟩:=h;obtain⟨n,h,W⟩:=fL h c;obtain⟨ln,⟨U,Y,bo,J⟩,hl⟩:=fL h m;obtain⟨e,c6,ca,E,b3⟩:=eV hT hs;rw[ca]at bo J;subst bo;clear h;simp only[ag]at V;have A:=iH V hg ho;cases H:β id with
  |none=>
    rw[H]at A;obtain⟨rfl,rfl⟩:=A;have e1:n=0:=a6;have e2:ln=0:=a6;subst e1;subst e2;have this:=λw=>dK (P:=P) (w:=w) (b:=T) (len:=0) (cap:=0) W hl (l0 _) (l0 _);refine⟨_,.slice N 0 0,J,λw' _=>by simp[Instr.sliceAt,run_underlying E,Instr.slice,this,bN b3],?_⟩;simp only[ag,aD];exact⟨rfl,V.2.1,λ_ _=>by rw[H];exact⟨a8,rfl⟩⟩
  |some ad=>
    rw[H]at A;obtain⟨b2,A⟩:=A;rcases A with⟨cap,rfl,cc,b5⟩|⟨rfl,o,rfl⟩
    .have hb:=λw=>dK (P:=P) (w:=w) (b:=T) (len:=len) (cap:=cap) W hl U a6
     by_cases hc:cap=ln
     .subst hc
      refine⟨_,.slice (S ⟨ad.block,ad.off+L,N⟩) (n-cap) (cap-cap),J,λw' _=>by simp[Instr.sliceAt,run_underlying E,Instr.slice,hb,bN b3],?_⟩;simp only[ag,aD];have e1:n-cap=0:=a6;refine⟨rfl,V.2.1,λ_ _=>?_⟩;rw[H,e1,J4];exact⟨b2,.inr ⟨rfl,ad.off+L,rfl⟩⟩
     .refine⟨_,.slice (S ⟨ad.block,ad.off+L+ln*(G e).size,N⟩) (n-ln) (cap-ln),J,λw' _=>by simp[Instr.sliceAt,run_underlying E,Instr.slice,hb,bN b3,hc,eb],?_⟩
      simp only[ag,aD];refine⟨rfl,V.2.1,λ_ _=>?_⟩;rw[H];refine⟨b2,.inl ⟨cap-ln,by simp[C7],a6,λarr el fr u=>?_⟩⟩;have:=b5 arr el fr u;have e3:cap=ln+(cap-ln):=a6;rw[e3,F2]at this;omega
    .have e1:n=0:=a6
     have e2:ln=0:=a6;subst e1;subst e2;have this:=λw=>dK (P:=P) (w:=w) (b:=T) (len:=0) (cap:=0) W hl (l0 _) (l0 _);refine⟨_,.slice (S ⟨ad.block,o,N⟩) 0 0,J,λw' _=>by simp[Instr.sliceAt,run_underlying E,Instr.slice,this,bN b3],?_⟩;simp only[ag,aD];exact⟨rfl,V.2.1,λ_ _=>by rw[H];exact⟨b2,.inr ⟨a8,o,rfl⟩⟩⟩
 .exact Ub
def uB(hT:bp P G){s:St}(L:∀id cs ad,s.obj id=S cs->β id=S ad->ad.spot=N->∀arr el fr,w.heap[ad.block]?=S (.cells arr el fr)->ad.off+z cs<=arr.size){t:Nat}{x:AV}{v:Value}
 (h:mv G (G t).desc s x lo B k)(a:ag O β s.gen s.obj w x v)
 (m:yF O β s.gen s.obj w lo q)(c:yF O β s.gen s.obj w B r):
  ∃y Z,K y/\(∀w',Ext w w'->(Instr.sliceAt t v q r N).run P w'=.ok Z w')/\ag O β s.gen s.obj w y Z:=by
 unfold mv at h;split at h
 .rename_i n e hd
  have d:=(hT t W6).desc;rw[hd]at d;split at h
  .rename_i id g off
   split at h
   .obtain⟨A,E,⟨cs,f,Q⟩,h⟩:=h
    obtain⟨i,⟨Y,J⟩,I⟩:=fL h c;cases m;have j:=hT e E;simp only[ag,aD]at a;obtain⟨ad,H,l,rfl⟩:=a.2.2 A (by rw[f];rfl);have o:=λw=>dK (P:=P) (w:=w) (b:=F) (len:=n) (cap:=n) I (.inl ⟨rfl,rfl⟩) (L5 _) Y;refine⟨_,.slice (S ⟨ad.block,ad.off+off,N⟩) i n,J,λw' _=>?_,?_⟩
    .by_cases p:n=0
     .subst p
      obtain rfl:i=0:=a6;simp[Instr.sliceAt,run_underlying d,Instr.slice,o,bN j,Instr.sureAddr]
     .simp[Instr.sliceAt,run_underlying d,Instr.slice,o,bN j,Instr.sureAddr,p,eb]
    .simp only[ag,aD]
     refine⟨rfl,a.2.1,λ_ _=>?_⟩;rw[H];exact⟨l,.inl ⟨n,rfl,Y,λarr el fr u=>by have:=L id cs ad f H l arr el fr u;omega⟩⟩
   .exact Ub
  .exact Ub
 .exact Ub
end
end
section
def setCells_size(b:Nat):∀(vs:List Value)(o:Nat)(w:World),(w.setCells b o vs).heap.size=w.heap.size
 |[],_,_=>rfl
 |v::r,o,w=>by rw[World.setCells,setCells_size b r];simp
def lO(b:Nat):∀(vs:List Value)(o:Nat)(w:World),(w.setCells b o vs).os=w.os/\(w.setCells b o vs).output=w.output
 |[],_,_=>⟨rfl,rfl⟩
 |v::r,o,w=>by rw[World.setCells];exact lO b r _ _
def heap_setCell(w:World)(b o:Nat)(v:Value)(c:Nat):(w.setCell ⟨b,o,N⟩ v).heap[c]? =
  if c=b then(match w.heap[c]? with|some (.cells arr el fr)=>S (.cells (arr.setIfInBounds o v) el fr)|x=>x)else w.heap[c]?:=by
 simp only[World.setCell];by_cases h:c=b
 .subst h
  simp only[B5];rw[O2];simp only[B5];cases hw:w.heap[c]? with
  |none=>rfl
  |some l=>cases l<;>simp
 .simp only[h,B8]
  rw[O2];simp[A9 h]
def heap_setCells_other(b:Nat):∀(vs:List Value)(o:Nat)(w:World)(c:Nat),c≠b->(w.setCells b o vs).heap[c]?=w.heap[c]?
 |[],_,_,_,_=>rfl
 |v::r,o,w,c,h=>by rw[World.setCells,heap_setCells_other b r _ _ c h,heap_setCell];simp[h]
def fO(b:Nat):∀(vs:List Value)(o:Nat)(w:World)(arr:Array Value)(el:TypeId)(fr:Nat×Nat),w.heap[b]?=S (.cells arr el fr)->
  ∃b1,(w.setCells b o vs).heap[b]?=S (.cells b1 el fr)/\b1.size=arr.size/\∀j,b1[j]?=if o<=j/\j<o+z vs/\j<arr.size then vs[j-o]? else arr[j]?
 |[],o,w,arr,el,fr,h=>⟨arr,h,rfl,λj=>by rw[j8 Wk]⟩
 |v::r,o,w,arr,el,fr,h=>by
   have U:(w.setCell ⟨b,o,N⟩ v).heap[b]?=S (.cells (arr.setIfInBounds o v) el fr):=by rw[heap_setCell];simp[h]
   obtain⟨b1,f,g,i⟩:=fO b r (o+1) _ _ el fr U;refine⟨b1,f,by simpa using g,λj=>?_⟩;rw[i j];simp only[R7,j6];by_cases c:j=o
   .subst c
    rw[j8 a6];by_cases d:j<arr.size
    .rw[l7 a6,M7 d];simp
    .rw[j8 a6];simp[d]
   .by_cases e:o+1<=j/\j<o+1+z r/\j<arr.size
    .rw[l7 e,l7 a6]
     have:j-o=(j-(o+1))+1:=a6;rw[this,v7]
    .rw[j8 e,j8 a6,L0 (A9 c)]
def ni:∀(cs:List C)(off:Nat)(cells:List C),z (setAt cells off cs)=z cells
 |[],_,_=>rfl
 |c::cs,off,cells=>by rw[setAt,ni cs];simp
def sG:∀(cs:List C)(off:Nat)(cells:List C)(j:Nat),(setAt cells off cs)[j]?=if off<=j/\j<off+z cs/\j<z cells then cs[j-off]? else cells[j]?
 |[],off,cells,j=>by rw[setAt,j8 Wk]
 |c::cs,off,cells,j=>by
   rw[setAt,sG cs];simp only[D1,j6];by_cases b:j=off
   .subst b
    rw[j8 a6];by_cases d:j<z cells
    .rw[l7 a6];simp[d]
    .rw[j8 a6];simp[d]
   .by_cases e:off+1<=j/\j<off+1+z cs/\j<z cells
    .rw[l7 e,l7 a6]
     have:j-off=(j-(off+1))+1:=a6;rw[this,v7]
    .rw[j8 e,j8 a6,M9 (A9 b)]
variable{s:St}{a:Act}{av:Nat}{arr:Array Value}{el:TypeId}{t:Nat}{K:St->Prop}{cs:List C}{v vi u:Value}{k:Box K}
section
variable{P:Program}{G:Nat->TI}{O:Bs}{β:Loc}{w:World}
def ag.cells{g:Nat->Nat}{ob:Obs}{x:AV}{v:Value}{cs:List C}(I:cellsOf x=S cs)(b:ag O β g ob w x v):
  ∃vs:List Value,v.cells=vs.toArray/\z vs=z cs/\(∀(j:Nat)(c:C),cs[j]?=S c->∃u,vs[j]?=S u/\aD O β g ob w c u)/\∀u∈vs,u.oneCell'=T:=by
 cases x with
 |one c=>
   simp only[cellsOf,w9]at I;subst I;simp only[ag]at b;have U:=b.one;refine⟨[v],by cases v<;>first|rfl|(simp[Value.oneCell']at U),rfl,λj n d=>?_,λu e=>by simpa using(C6.1 e▸U)⟩;cases j with
   |zero=>simp at d;subst d;exact⟨v,rfl,b⟩
   |succ j=>simp at d
 |agg h=>
   simp only[cellsOf,w9]at I;subst I;simp only[ag]at b;obtain⟨vs,rfl,U,Y⟩:=b;refine⟨vs.toList,by simp[Value.cells],by simpa using U,λj c d=>by simpa using Y j c d,λu e=>?_⟩;obtain⟨i,f⟩:=C9 e
   have l:i<z h:=by
    have:=(l8.1 f).1;simp at this;omega
   obtain⟨m,p,V⟩:=Y i _ (y8 l);have:m=u:=by simpa[p]using f
   subst this;exact V.one
 |tup=>simp[cellsOf]at I
 |junk=>simp[cellsOf]at I
 |exact=>simp[cellsOf]at I
def pN{lo c b j:Nat}(h:w.heap[b]?=S (.cells arr el (lo,c)))(hf:c<=lo\/arr.size<=lo)(d:j<arr.size):
  w.frozen? ⟨b,j,N⟩=F:=by
 simp only[World.frozen?,h,S9,Sk];omega
def nO{A:TI}(e:rr P t A){b o:Nat}{v:Value}{vs:List Value}(f:v.cells=vs.toArray)(hl:z vs=A.size)(U:∀u∈vs,u.oneCell'=T)
{lo c:Nat}(d:w.heap[b]?=S (.cells arr el (lo,c)))(hf:c<=lo\/arr.size<=lo)(i:o+z vs<=arr.size):
  (Instr.storeAt t (.pointer (S ⟨b,o,N⟩)) v).run P w=.ok () (w.setCells b o vs):=by
 have:=run_storeCells_cells (P:=P) b o vs 0 w (λj g=>by
   rw[eJ d,A5 a6];rfl) (λj g=>pN d hf a6) U
 simp only[I3]at this;simp[Instr.storeAt,Instr.sureAddr,storeVar,bN e,f,hl,this]
def rz(hT:bp P G)(V:Rel O av s β a w){x y:AV}{v u:Value}(h:qx (G t) s x y k)
 (hv:ag O β s.gen s.obj w x v)(hu:ag O β s.gen s.obj w y u):
  ∃B w',K B/\(Instr.storeAt t v u).run P w=.ok () w'/\Rel O av B β a w'/\Tr O β s w β B w':=by
 unfold qx at h;split at h
 .rename_i id g e
  obtain⟨bd,hg,h⟩:=h;obtain⟨cs,ca,bc,h⟩:=aQ h;obtain⟨d,ho,b5,J⟩:=aQ h;have ht:=hT t bd;simp only[ag,aD]at hv;obtain⟨ad,H,b2,rfl⟩:=hv.2.2 hg WS;have bs:=V.obj id d ho;rw[H]at bs;obtain⟨hB,arr,el,lo,hi,q,L,bf,bo⟩:=bs.cells b2;obtain⟨vs,e1,e2,e3,e4⟩:=ag.cells ca hu;have hw:=nO (w:=w) ht (b:=ad.block) (o:=ad.off+e) e1 (by rw[e2,bc]) e4 q L.1 a6;obtain⟨b1,f1,f2,f3⟩:=fO ad.block vs (ad.off+e) w arr el (lo,hi) q
  have A:∀i,(upd s.obj id (S (setAt d e cs)) i).isSome=(s.obj i).isSome:=λi=>by
   simp only[upd];split
   .rename_i I;rw[I,ho];rfl
   .rfl
  have m:ft O β s.gen s.obj w β s.gen (upd s.obj id (S (setAt d e cs))) (w.setCells ad.block (ad.off+e) vs):=by
   refine⟨λb hb=>?_,λ_=>l0 _,λi _ b4=>?_⟩
   .have bl:b≠ad.block:=λI=>hb.2.2 id ad WS H I.symm
    exact Ui
   .exact ra
  refine⟨_,_,J,hw,⟨V.defers,V.size,λi=>ag.keep m _ (V.f i),λi l r=>?_,λi i' a1 a2 U Y=>V.inj i i' a1 a2 (by rw[<-A i];exact U) (by rw[<-A i'];exact Y),by rw[setCells_size];exact V.base⟩,
   by rw[setCells_size];exact l0 _,λb hb=>heap_setCells_other _ _ _ _ _ a6,m,lO _ _ _ _⟩
  by_cases Q:i=id
  .subst Q
   simp only[upd,B5,w9]at r;subst r;rw[H];refine .ofCells b2 ⟨hB,b1,el,lo,hi,f1,by rw[f2];exact L,by rw[ni,f2];exact bf,λj c n=>?_⟩;rw[sG]at n;rw[f3];split at n
   .rename_i E
    obtain⟨Z,p,bk⟩:=e3 _ c n;refine⟨Z,?_,bk.keep m⟩;rw[l7 a6,show ad.off+j-(ad.off+e)=j-e by omega];exact p
   .rename_i E
    obtain⟨Z,p,bk⟩:=bo j c n;have dz:j<z d:=(l8.1 n).1;refine⟨Z,?_,bk.keep m⟩;rw[j8 a6];exact p
  .have X:s.obj i=S l:=by simpa[upd,Q]using r
   refine(V.obj i l X).keep m (λW an=>heap_setCells_other _ _ _ _ _ (λhb=>Q (V.inj i id W ad (by simp[X]) WS an H hb)))
 .exact Ub
def Rel.newAny{av c:Nat}(V:Rel O av s β a w)(d:Nat){w':World}{o:Obj}{ad:Addr}(e:ad.block=w.heap.size)(x:w'.heap=w.heap.push o)(q:w'.os=w.os/\w'.output=w.output)
 (y:ft O β s.gen s.obj w (upd β d (S ad)) (s.newC c d cs).gen (s.newC c d cs).obj w'->dX O (upd β d (S ad)) (s.newC c d cs).gen (s.newC c d cs).obj w' (nxC c (s.gen d)) cs (S ad)):
  Rel O av (s.newC c d cs) (upd β d (S ad)) a w'/\Tr O β s w (upd β d (S ad)) (s.newC c d cs) w':=by
 have p:∀b,b<w.heap.size->w'.heap[b]?=w.heap[b]?:=λb g=>by rw[x,P3,j8 a6]
 have m:ft O β s.gen s.obj w (upd β d (S ad)) (s.newC c d cs).gen (s.newC c d cs).obj w':=by
  refine⟨λb g=>⟨⟨by rw[x];simp;have:=g.1;omega,g.2.1,λi W hi B=>?_⟩,p b g.1⟩,λi=>?_,λi H hi=>?_⟩
  .simp only[St.newC,upd]at hi B
   split at B
   .cases B;have:=g.1;omega
   .rename_i bl
    simp only[bl,B8]at hi;exact g.2.2 i W hi B
  .exact S5
  .simp only[St.newC,upd]at H hi|-
   by_cases bl:i=d
   .subst bl;simp at H;exact absurd H (yq _ _)
   .simp only[bl,B8]at hi|-
    refine⟨hi,trivial,λW an X c0 Z U=>?_⟩
    have A:W.block<w.heap.size:=by
     exact U5
    rw[p _ A]at U;exact⟨X,c0,Z,U,l0 _⟩
 refine⟨⟨V.defers,V.size,λi=>ag.keep m _ (V.f i),λi l r=>?_,λi I J L U Y j n g=>?_,?_⟩,?_,?_,m,q⟩
 .simp only[St.newC,upd]at r|-
  by_cases Q:i=d
  .subst Q
   simp only[B5,w9]at r|-;subst r;exact y m
  .simp only[Q,B8]at r|-
   refine(V.obj i l r).keep m (λW an=>p _ ?_);have:=V.obj i l r;rw[an]at this;exact this.block.2
 .have A:∀(i:Nat)(W:Addr),(s.obj i).isSome=T->β i=S W->W.block<w.heap.size:=λi W hi an=>by
   exact U5
  simp only[St.newC,upd]at U Y j n;by_cases hi:i=d<;>by_cases E:I=d
  .rw[hi,E]
  .simp only[hi,E,B5,B8]at U Y j n
   cases j;have:=A I L Y n;omega
  .simp only[hi,E,B5,B8]at U Y j n
   cases n;have:=A i J U j;omega
  .simp only[hi,E,B8]at U Y j n
   exact V.inj i I J L U Y j n g
 .rw[x];simp;have:=V.base;omega
 .rw[x];simp
 .intro b g;exact p b (by have:=V.base;omega)
def Rel.new(c:Nat)(V:Rel O av s β a w)(d:Nat){w':World}(e:w'.heap=w.heap.push (.cells arr el (0,0)))(q:w'.os=w.os/\w'.output=w.output)(bf:z cs<=arr.size)
 (l:c≠0->c<1000000->el+1=c)(g:∀(j:Nat)c,cs[j]?=S c->∃v,arr[j]?=S v/\aD O β s.gen s.obj w c v):
  Rel O av (s.newC c d cs) (upd β d (S ⟨w.heap.size,0,N⟩)) a w'/\Tr O β s w (upd β d (S ⟨w.heap.size,0,N⟩)) (s.newC c d cs) w':=
 V.newAny d rfl e q λm=>.ofCells rfl ⟨V.base,arr,el,0,0,by rw[e];simp,⟨.inl (l0 _),λh=>⟨by rw[lh]at h|-;split at h<;>rename_i f<;>simp_all,rfl⟩⟩,by simpa using bf,λj c f=>
  let ⟨v,i,b⟩:=g j c f
  ⟨v,by simpa using i,b.keep m⟩⟩
def CT(d:TypeDesc):mX d<=9:=by unfold mX;split<;>simp
def vy(V:Rel O av s β a w){t i d:Nat}(hd:d<av)(h:mw G t i d s k):
  ∃s' E w' Z,K s'/\(Instr.makeMap t N).run P w=.ok Z w'/\Rel O av s' E (a.put (S d) Z) w'/\Tr O β s w E s' w':=by
 unfold mw at h;split at h
 .rename_i n e b
  obtain⟨B,J⟩:=h
  obtain⟨f,g⟩:=V.newAny (c:=0) i (w':=w.alloc (.map #[] 0)) (o:=.map #[] 0) (ad:=⟨w.heap.size,0,S (zT (ez (G e).desc) (mX (G n).desc))⟩) (cs:=[]) rfl rfl ⟨rfl,rfl⟩
   (λm=>.ofMap rfl ⟨V.base,.inl ⟨#[],0,(MapKept.heap_alloc w _).1,.nil⟩⟩)
  refine⟨_,_,_,.map (S w.heap.size),J,by simp[Instr.makeMap],f.put (λl j=>by cases j;exact hd) ?_,g.trans (Tr.same (St.put_gen _ _ _) (St.put_obj _ _ _) rfl)⟩;simp only[ag,aD];exact⟨rfl,by simp[St.newC,upd],λ_ _=>⟨_,by simp[upd];rfl,⟨rfl,by have:=CT (G n).desc;unfold zT;split<;>omega⟩,rfl⟩⟩
 .exact Ub
def rA(hT:bp P G)(V:Rel O av s β a w){t n et id g kd:Nat}{k0:D}{c:C}{cells:List C}(hd:(G t).desc=.map n et)(bd:okD (G n).desc=T)(o:iF (G n).desc k0=T)(hg:s.gen id=g)(B:my kd=(G n).desc)(ho:s.obj id=S cells)
 (hv:ag O β s.gen s.obj w (.one (.mp id g kd)) v)(hi:ag O β s.gen s.obj w (.one (.d k0)) vi)(hu:jB O β s.gen s.obj w kd c u):
  ∃w',(Instr.mapUpdate t v vi u).run P w=.ok () w'/\Rel O av {s with obj:=upd s.obj id (S (mset cells k0 c))} β a w'/\Tr O β s w β {s with obj:=upd s.obj id (S (mset cells k0 c))} w':=by
  have bk:=(hT t W6).desc;rw[hd]at bk;have hk:=(hT n bd).desc;simp only[ag,aD]at hi hv;obtain rfl:=hi.key o;have E:∀e,(Instr.checkKey e 10000 n (dV k0)).run P w=.ok () w:=λe=>MapKept.run_checkKey hk (oJ o) e 9999;obtain⟨J,H,L,rfl⟩:=hv.2.2 hg WS;have bs:=V.obj id cells ho;rw[H]at bs;have hB:=(bs.map L.1).1;obtain⟨es,Q,q,hm⟩:=(bs.map L.1).2.resolve_right (λh=>L.2 h.1);rw[B]at hm;have af:=(C8.1 q).1
  obtain⟨x,p,bz,y⟩:∃x p,(Instr.mapUpdate t (.map (S J.block)) (dV k0) u).run P w=.ok () {w with heap:=w.heap.setIfInBounds J.block (.map x p)}/\
    ∀R:C->Value->Prop,(∀c v,jB O β s.gen s.obj w kd c v->R c v)->eI R (G n).desc (mset cells k0 c) x.toList:=by
   rcases hm.find o 0 with⟨g1,g2,g3⟩|⟨j,e,c',g1,g2,g3,_,_,g6⟩
   .refine⟨es.push {key:=dV k0,val:=u,born:=Q},Q+1,?_,λR hR=>?_⟩
    .simp[Instr.mapUpdate,run_underlying bk,MapKept.run_getObj_map q,E,MapKept.run_findKey hk g1,MapKept.run_setObj_map _ q]
    .have:=(g3 c u hu Q).mono hR
     exact Um
   .refine⟨es.modify j λe=>{e with key:=dV k0,val:=u},Q,?_,λR hR=>?_⟩
    .have hj:es[j]?=S e:=by simpa using g2
     simp[Instr.mapUpdate,run_underlying bk,MapKept.run_getObj_map q,E,MapKept.run_findKey hk g1,hj,g3,MapKept.run_keyThatStays (oJ o),MapKept.run_setObj_map _ q]
    .have:=(g6 c u hu).mono hR
     exact Um
  have k:∀b,b≠J.block->(w.heap.setIfInBounds J.block (.map x p))[b]?=w.heap[b]?:=λb I=>by simp[A9 I]
  have A:∀i,(upd s.obj id (S (mset cells k0 c)) i).isSome=(s.obj i).isSome:=λi=>by
   simp only[upd];split
   .rename_i he;rw[he,ho];rfl
   .rfl
  have m:ft O β s.gen s.obj w β s.gen (upd s.obj id (S (mset cells k0 c))) {w with heap:=w.heap.setIfInBounds J.block (.map x p)}:=by
   refine⟨λb I=>?_,λ_=>l0 _,λi _ Z=>?_⟩
   .have bl:b≠J.block:=λhe=>I.2.2 id J WS H he.symm
    exact⟨⟨by simpa using I.1,I.2.1,λi W Z=>I.2.2 i W (by rw[<-A i];exact Z)⟩,k b bl⟩
   .rw[A i]at Z
    refine⟨Z,rfl,λW an cb c0 ch U=>?_⟩;by_cases I:W.block=J.block
    .rw[I]at U
     simp[af]at U
    .simp only[k _ I]at U
     exact⟨cb,c0,ch,U,l0 _⟩
  refine⟨_,bz,⟨V.defers,V.size,λi=>ag.keep m _ (V.f i),λi l r=>?_,λi i' a1 a2 U Y=>V.inj i i' a1 a2 (by rw[<-A i];exact U) (by rw[<-A i'];exact Y),by simpa using V.base⟩,
   by simp,λb I=>k b a6,m,rfl,rfl⟩
  by_cases b':i=id
  .subst b'
   simp only[upd,B5,w9]at r;subst r;rw[H];refine .ofMap L.1 ⟨hB,.inl ⟨x,p,by simp[af],?_⟩⟩;rw[B];exact y _ (λ_ _=>jB.keep m)
  .have X:s.obj i=S l:=by simpa[upd,b']using r
   exact(V.obj i l X).keep m (λW an=>k _ (λI=>b' (V.inj i id W J (by simp[X]) WS an H I)))
def xB:∀{cs:List C}{ds:List D},datas cs=S ds->cs=ds.map .d
 |[],ds,h=>by simp only[datas,w9]at h;subst h;rfl
 |.d x::r,ds,h=>by
   simp only[datas]at h;cases b:datas r with
   |none=>rw[b]at h;cases h
   |some l=>
     rw[b]at h;simp only[z8,w9]at h;subst h;rw[xB b];rfl
def mH(hT:bp P G)(V:Rel O av s β a w){m L x:AV}(h:eR G t s m L x k)
 (r:ag O β s.gen s.obj w m v)(y:ag O β s.gen s.obj w L vi)(e:ag O β s.gen s.obj w x u):
  ∃j w',K j/\(Instr.mapUpdate t v vi u).run P w=.ok () w'/\Rel O av j β a w'/\Tr O β s w β j w':=by
 unfold eR at h;split at h
 .rename_i n E H id g f c hd
  obtain⟨⟨l,o⟩,p,B,h⟩:=h;obtain⟨b,ho,J⟩:=aQ h;have A:=OK B o;simp only[ag]at e;obtain⟨w',U,Y,q⟩:=rA hT V hd l o p (by rw[show my f=er f from l7 A];exact B) ho r y (by rw[yy A];exact e);exact⟨_,w',J,U,Y,q⟩
 .rename_i n E H id g f cs hd
  obtain⟨⟨l,o⟩,p,⟨Z,B⟩,h⟩:=h;obtain⟨ds,Q,h⟩:=aQ h;obtain⟨b,ho,J⟩:=aQ h;have W:=xB Q;subst W;simp only[ag]at e;obtain⟨vs,rfl,X,e⟩:=e
  obtain⟨w',U,Y,q⟩:=rA (c:=.d (.iptr ds)) (u:=.agg vs) hT V hd l o p (by rw[show my f=er (f-200)from j8 a6];exact B) ho r y (by
   unfold jB;rw[j8 a6];refine⟨ds,vs,rfl,rfl,by rw[X,j5],λi x I=>?_⟩;exact e i (.d x) (by rw[y7,I];rfl))
  exact⟨_,w',J,U,Y,q⟩
 .exact Ub
end
end
section
def xD(n:Nat):∀k c,Builtin.growBy n k c<=max c (n+(n+768)/4)
 |0,c=>by simp[Builtin.growBy];omega
 |k+1,c=>by
   simp only[Builtin.growBy];split
   .omega
   .have:=xD n k (c+(c+768)/4)
    omega
def nextslicecap_le(n c:Nat)(h:c<n):Builtin.nextslicecap n c<=2*n+1024:=by
 unfold Builtin.nextslicecap;split
 .omega
 .split
  .omega
  .have:=xD n 4 c
   omega
def lQ{b:Type}{sz:Nat}:∀(es:List (List b))(_:∀e∈es,z e=sz)(m:Nat)(c:b),es.flatten[m]?=S c->∃i e j,es[i]?=S e/\e[j]?=S c/\m=i*sz+j
 |[],_,m,c,h=>by simp at h
 |e::es,d,m,c,h=>by
   rw[D8,J6]at h;have g:=d e a8;split at h
   .exact⟨0,e,m,rfl,h,a8⟩
   .rename_i l
    obtain⟨i,B,j,U,Y,n⟩:=lQ es (λB f=>d B (by simp[f])) _ c h;exact⟨i+1,B,j,by simpa using U,Y,by rw[F2];omega⟩
def oS{c:Type}{sz:Nat}:∀(es:List (List c))(_:∀e∈es,z e=sz),z es.flatten=z es*sz
 |[],_=>by simp
 |e::es,b=>by
   rw[D8,j4,oS es (λB d=>b B (by simp[d])),b e a8,j6,F2];omega
variable{s:St}{av:Nat}{a:Act}{v:Value}{A:TI}{cs b6:List C}{K:Nat->List C->Prop}{t tx e:Nat}{k:Box K}
section
variable{P:Program}{G:Nat->TI}{O:Bs}{β:Loc}{w:World}
def bL(O:Bs)(β:Loc)(s:St)(w:World)(cs:List C)(vs:List Value):Prop:=
 (z vs)=z cs/\∀(j:Nat)(c:C),cs[j]?=S c->∃u,vs[j]?=S u/\aD O β s.gen s.obj w c u
def bL.one{s:St}{cs:List C}{vs:List Value}(h:bL O β s w cs vs):∀u∈vs,u.oneCell'=T:=λu c=>by
 obtain⟨i,b⟩:=C9 c;have d:i<z cs:=by rw[<-h.1];exact(l8.1 b).1
 obtain⟨f,p,V⟩:=h.2 i _ (y8 d);have:f=u:=by simpa[p]using b
 exact this▸V.one
def bL.append{vs k:List Value}(h:bL O β s w cs vs)(f:bL O β s w b6 k):bL O β s w (cs++b6) (vs++k):=by
 refine⟨by simp[h.1,f.1],λj c b=>?_⟩;rw[J6]at b|-;rw[h.1];split at b
 .rename_i d;rw[l7 d];exact h.2 j c b
 .rename_i d;rw[j8 d];exact f.2 _ c b
def oB.spot{sz off len:Nat}{v:Value}{x:Option Addr}(h:oB w sz off len v x):∀ad,x=S ad->ad.spot=N:=λad I=>by subst I;exact h.1
def pO(V:Rel O av s β a w){id off n:Nat}{cells:List C}(g:∀ad,β id=S ad->ad.spot=N)(ho:s.obj id=S cells)(o:off+n<=z cells):
  (∃ad,β id=S ad/\∃vs,bL O β s w ((cells.drop off).take n) vs/\z vs=n/\∀(j:Nat)(u:Value),vs[j]?=S u->w.cell? ⟨ad.block,ad.off+off+j,N⟩=S u)\/(β id=N/\cells=[]):=by
 have d:=V.obj id cells ho;cases H:β id with
 |none=>rw[H]at d;exact .inr ⟨rfl,d⟩
 |some ad=>
   rw[H]at d;obtain⟨_,arr,el,p,r,q,_,x,h⟩:=d.cells (g ad H)
   obtain⟨vs,f,i,l⟩:=kT (aD O β s.gen s.obj w) (λj=>arr[ad.off+(off+j)]?) ((cells.drop off).take n) (λj c b=>by
     rw[Hl]at b;split at b
     .rw[G6]at b;exact h (off+j) c b
     .cases b)
   refine .inl ⟨ad,rfl,vs,⟨f,l⟩,by rw[f];simp;omega,λj u m=>?_⟩;rw[eJ q,C7];exact i j u m
def oT(hT:bp P G)(V:Rel O av s β a w){tx sz:Nat}{y:AV}{u:Value}
 (h:contents s (isStr (G tx).desc) (dQ G tx) sz y k)(l:ag O β s.gen s.obj w y u):
  ∃n cs news,K n cs/\Src P sz tx u n news w/\bL O β s w cs news:=by
 unfold contents at h;split at h
 .obtain⟨L,h⟩:=h
  obtain⟨e,_,_,bk,_⟩:=eV hT L;simp only[ag,aD]at l;obtain rfl:=l.inv_nsl;exact⟨0,[],[],h,Src.ofNil w bk 0,rfl,λ_ _ hc=>by simp at hc⟩
 .rename_i q
  obtain⟨L,bc,h⟩:=h;obtain⟨e,_,_,bk,_⟩:=eV hT L;simp only[ag,aD]at l;cases l with
  |sl0=>
    rename_i a g;refine⟨0,[],[],by simpa using h,?_,rfl,λ_ _ hc=>by simp at hc⟩;cases a with
    |none=>exact Src.ofNil w bk g
    |some a=>exact Src.ofSlice w bk a 0 g [] a8 (λ_ _ h=>by simp at h) (λ_ h=>by cases h)
  |sl p cc hJ hs b4 an=>
    rename_i b r g f
    obtain⟨vs,X,e2,e3⟩:=kT (λ(c:D)v=>aD O β s.gen s.obj w (.d c) v) (λj=>w.cell? ⟨b,r+j,N⟩) q.flatten (λm c hc=>by
     obtain⟨i,B,j,U,Y,rfl⟩:=lQ q hs m c hc;refine⟨p i j,?_,an i B U j c Y⟩;rw[<-C7];exact b4 i B U j c Y)
    have hl:z vs=z q*sz:=by rw[X,oS q bc]
    have E:bL O β s w (q.flatten.map .d) vs:=by
     refine⟨by rw[j5,X],λj c hc=>?_⟩;rw[y7]at hc;cases hq:q.flatten[j]? with
     |none=>rw[hq]at hc;cases hc
     |some x=>
       exact VH
    exact⟨_,_,vs,h,Src.ofSlice w bk ⟨b,r,N⟩ (z q) g vs hl (λj v Q=>by rw[eb];exact e2 j v Q) E.one,E⟩
 .rename_i I
  obtain⟨Z,rfl,h⟩:=h;have bk:=(hT tx (by rw[iI Z];rfl)).desc;rw[iI Z]at bk;simp only[ag,aD]at l;obtain rfl:=l.inv_str;have:=Src.ofString (P:=P) w bk ⟨I.toArray⟩;rw[size_mk]at this;refine⟨_,_,_,h,this,by simp[byteCells],λj c hc=>?_⟩;rw[y7]at hc;cases hq:I[j]? with
  |none=>rw[hq]at hc;cases hc
  |some x=>
    rw[hq]at hc;simp only[z8,w9]at hc;subst hc;refine⟨.int .u8 x.toNat,by simp[byteCells,hq],?_⟩;simp only[aD,tO];exact .int _ _
 .rename_i id g' f r len
  obtain⟨L,hg,rfl,h⟩:=h;obtain⟨e,_,_,bk,_⟩:=eV hT L;obtain⟨W,ho,b5,J⟩:=aQ h;simp only[ag]at l;have A:=iH l hg WS;rcases pO V (A.spot) ho b5 with⟨ad,H,vs,E,hl,bd⟩|⟨H,rfl⟩
  .rw[H]at A
   rcases A.2 with⟨g,rfl,_,_⟩|⟨rfl,o,rfl⟩
   .exact⟨_,_,vs,J,Src.ofSlice w bk _ len g vs hl (λj v Q=>by rw[eb];exact bd j v Q) E.one,E⟩
   .refine⟨_,_,vs,J,?_,E⟩
    have:vs=[]:=r0 W8;subst this;exact Src.ofSlice w bk _ 0 0 [] a8 (λj v Q=>by simp at Q) (λ_ h=>by cases h)
  .rw[H]at A
   obtain⟨rfl,rfl⟩:=A;exact⟨_,_,[],J,Src.ofNil w bk 0,a8,λj c hc=>by simp at hc⟩
 .exact Ub
def Aq(hT:bp P G)(V:Rel O av s β a w){y:AV}{u:Value}(h:contents s F T 1 y k)(q:ag O β s.gen s.obj w y u):
  ∃n cs news,K n cs/\bL O β s w cs news/\z news=n/\((∃l c,u=.slice N l c/\n=0)\/∃ad cap,u=.slice (S ad) n cap/\∀(j:Nat)v,news[j]?=S v->w.cell? (ad.add j)=S v):=by
 unfold contents at h;split at h
 .obtain⟨_,h⟩:=h
  simp only[ag,aD]at q;obtain rfl:=q.inv_nsl;exact⟨0,[],[],h,⟨rfl,λ_ _ hc=>by simp at hc⟩,rfl,.inl ⟨_,_,rfl,rfl⟩⟩
 .rename_i r
  obtain⟨_,bc,h⟩:=h;simp only[ag,aD]at q;cases q with
  |sl0=>
    rename_i a cap;refine⟨0,[],[],by simpa using h,⟨rfl,λ_ _ hc=>by simp at hc⟩,rfl,?_⟩;cases a with
    |none=>exact .inl ⟨_,_,rfl,rfl⟩
    |some a=>exact .inr ⟨_,_,rfl,λ_ _ h=>by simp at h⟩
  |sl p cc hJ W X an=>
    rename_i b g cap f
    obtain⟨vs,Q,Z,e3⟩:=kT (λ(c:D)v=>aD O β s.gen s.obj w (.d c) v) (λj=>w.cell? ⟨b,g+j,N⟩) r.flatten (λm c hc=>by
     obtain⟨i,B,j,U,Y,rfl⟩:=lQ r W m c hc;refine⟨p i j,?_,an i B U j c Y⟩;rw[<-C7];exact X i B U j c Y)
    have hl:z vs=z r:=by rw[Q,oS r bc,K9]
    have I:bL O β s w (r.flatten.map .d) vs:=by
     refine⟨by rw[j5,Q],λj c hc=>?_⟩;rw[y7]at hc;cases hq:r.flatten[j]? with
     |none=>rw[hq]at hc;cases hc
     |some x=>
       exact VH
    exact⟨_,_,vs,h,I,hl,.inr ⟨⟨b,g,N⟩,cap,rfl,λj v E=>by rw[eb];exact Z j v E⟩⟩
 .exact absurd h.1 a8
 .rename_i id g' f g len
  obtain⟨_,hg,rfl,h⟩:=h;obtain⟨L,ho,b5,J⟩:=aQ h;simp only[ag]at q;have A:=iH q hg WS;rcases pO V (A.spot) ho b5 with⟨ad,H,vs,I,hl,bd⟩|⟨H,rfl⟩
  .rw[H]at A
   rw[K9]at hl;rcases A.2 with⟨cap,rfl,_,_⟩|⟨rfl,o,rfl⟩
   .exact⟨_,_,vs,J,I,hl,.inr ⟨_,cap,rfl,λj v E=>by rw[eb];exact bd j v E⟩⟩
   .have:vs=[]:=r0 W8
    subst this;exact⟨_,_,[],J,I,rfl,.inr ⟨_,_,rfl,λj v E=>by simp at E⟩⟩
  .rw[H]at A
   obtain⟨rfl,rfl⟩:=A;exact⟨_,_,[],J,⟨a8,λj c hc=>by simp at hc⟩,rfl,.inl ⟨_,_,rfl,rfl⟩⟩
 .exact Ub
def Ar{s:St}:∀{cs:List C}{o:List Int}{vs:List Value},u8s cs=S o->bL O β s w cs vs->vs=o.map (.int .u8)
 |[],o,vs,h,b=>by
   simp only[u8s]at h;cases h;exact r0 b.1
 |c::cs,o,vs,h,b=>by
   match vs,b with
   |[],b=>exact absurd b.1 a8
   |v::vs,b=>
     cases c with
     |d x=>
       cases x with
       |int k n=>
         cases k with
         |u8=>
           simp only[u8s]at h;obtain⟨a,U,rfl⟩:=H4.1 h;have g:=b.2 0 _ rfl;obtain⟨u,i,f⟩:∃u,(v::vs)[0]?=S u/\_:=g;cases i;simp only[aD]at f;obtain rfl:=f.inv_int;have l:bL O β s w cs vs:=⟨by simpa using b.1,λj m r=>by simpa using b.2 (j+1) m (by simpa using r)⟩
           rw[l9,Ar U l]
         |_=>simp[u8s]at h
       |_=>simp[u8s]at h
     |_=>simp[u8s]at h
def Au(hT:bp P G)(V:Rel O av s β a w){src dst:Nat}{x:AV}{K:AV->Prop}{k:Box K}(h:tP s (bq G src).desc (G src).desc (G dst).desc x k)(g:ag O β s.gen s.obj w x v):
  ∃X Z,K X/\(∀w',Ext w w'->(convert src dst v).run P w'=.ok Z w')/\ag O β s.gen s.obj w X Z:=by
 unfold tP at h;split at h
 .rename_i hd
  simp only[ag,aD]at g;obtain rfl:=g.inv_int;have U:=(hT src h.1).desc;have Y:=(hT dst W6).desc;rw[hd]at Y;refine gk h.2 λw=>?_;simp[convert,run_underlying U,run_underlying Y,Conv.intToInt]
 .rename_i d hd
  simp only[ag,aD]at g;obtain rfl:=g.inv_str;have U:=(hT src (by rw[d];rfl)).desc;rw[d]at U;have Y:=(hT dst W6).desc;rw[hd]at Y;refine CH h λw=>?_;simp[convert,run_underlying U,run_underlying Y]
 .rename_i y e d hd
  obtain⟨f,h⟩:=h;have U:=(hT src (by rw[d];rfl)).desc;rw[d]at U;have Y:=(hT dst W6).desc;rw[hd]at Y;have I:bq G src=G e:=by simp[bq,d]
  rw[I]at f;have i:(G e).desc=.int .u8:=by cases L:(G e).desc<;>rw[L]at f<;>simp[Cy]at f;rename_i kk;cases kk<;>simp[Cy]at f;rfl
  have u:=(hT e (by rw[i];rfl)).desc;rw[i]at u;obtain⟨n,cs,H,J,Q,hl,b⟩:=Aq hT V h g;obtain⟨o,q,J⟩:=aQ J;obtain rfl:=Ar q Q;refine⟨_,.string ⟨(o.map λn=>UInt8.ofNat n.toNat).toArray⟩,J,λw' W=>?_,by simp only[ag,aD];exact .str _⟩;rcases b with⟨l,c,rfl,hn⟩|⟨B,p,rfl,bd⟩
  .have:o=[]:=r0 (by rw[<-hn,<-hl];simp)
   subst this;simp[convert,run_underlying U,run_underlying Y,run_underlying u,Conv.bytesToString];rfl
  .rw[run_convert_bytes_string w' src dst e (S B) n p U u Y]
   have m:=run_loadCells_list (P:=P) w' B (o.map (Value.int .u8)) (λj v hj=>W.cell (bd j v hj));rw[j5]at hl;simp only[j5,hl]at m;rw[run_bytesToString w' B n p _ m]
   have hf:∀(l:List Int)(r:ByteArray),l.foldl (λr n=>r.push (UInt8.ofNat n.toNat)) r=⟨r.data++(l.map λn=>UInt8.ofNat n.toNat).toArray⟩:=by
    intro l
    induction l with
    |nil=>intro r;simp
    |cons n l ih=>intro r;rw[L9,ih];simp[ByteArray.push]
   rw[hf];have E:ByteArray.empty.data = #[]:=rfl;rw[E];simp
 .exact Ub
def vz(c:Nat)(V:Rel O av s β a w)(i d:Nat)(hd:d<av){w':World}{arr:Array Value}{el:TypeId}(hw:w'.heap=w.heap.push (.cells arr el (0,0)))(q:w'.os=w.os/\w'.output=w.output){cs:List C}{vs:List Value}
 (b:bL O β s w cs vs)(g:∀(j:Nat)v,vs[j]?=S v->arr[j]?=S v)(bf:z cs<=arr.size)(f:c≠0->c<1000000->el+1=c)(sz len cap:Nat)(l:len<=cap)(m:cap*sz<=arr.size):
  Rel O av ((s.newC c i cs).put (S d) (.one (.osl i (nxC c (s.gen i)) sz 0 len))) (upd β i (S ⟨w.heap.size,0,N⟩)) (a.put (S d) (.slice (S ⟨w.heap.size,0,N⟩) len cap)) w'/\
   Tr O β s w (upd β i (S ⟨w.heap.size,0,N⟩)) ((s.newC c i cs).put (S d) (.one (.osl i (nxC c (s.gen i)) sz 0 len))) w':=by
 obtain⟨U,Y⟩:=Rel.new c V i hw q bf f (λj c n=>let ⟨u,hu,bk⟩:=b.2 j c n;⟨u,g j u hu,bk⟩);refine⟨U.put (λx o=>by cases o;exact hd) ?_,Y.trans (Tr.same (St.put_gen _ _ _) (St.put_obj _ _ _) rfl)⟩;simp only[ag,aD];refine⟨rfl,by simp[St.newC,upd],λ_ _=>?_⟩;simp only[upd,B5];refine⟨rfl,.inl ⟨cap,a8,l,λb1 r p h=>?_⟩⟩;rw[hw]at h;simp at h;obtain⟨rfl,_⟩:=h;simpa using m
def grownCap_ge(w:World)(a old:Nat)(e:TypeId):a<=grownCap w a old e:=by simp[grownCap,Question.cut]
def xa(hT:bp P G)(V:Rel O av s β a w){src d base:Nat}{dst:Option Nat}(hd:∀j,dst=S j->j<av){x:AV}{K:St->Prop}{k:Box K}(h:na G src d base dst s x k)(H:ag O β s.gen s.obj w x v):
  ∃s' E w' Z,K s'/\(convert src d v).run P w=.ok Z w'/\Rel O av s' E (a.put dst Z) w'/\Tr O β s w E s' w':=by
 unfold na at h;split at h
 .rename_i l I
  obtain⟨J,f,h⟩:=h;have L:=(hT src (by rw[iI J];rfl)).desc;rw[iI J]at L
  obtain⟨e,n,X⟩:∃e,(G d).desc=.slice e/\bq G d=G e:=by
   unfold bq at f|-;cases u:(G d).desc with
   |slice e=>exact⟨e,rfl,rfl⟩
   |_=>rw[u]at f;exact absurd (show F=T from f) a7
  have o:=(hT d (by rw[n];rfl)).desc;rw[n]at o;rw[X]at f;have i:(G e).desc=.int .u8:=by cases u:(G e).desc<;>rw[u]at f<;>simp[Cy]at f;rename_i kk;cases kk<;>simp[Cy]at f;rfl
  have Q:=(hT e (by rw[i];rfl)).desc;rw[i]at Q;have bk:aZ G d=e:=by simp[aZ,n]
  simp only[ag,aD]at H;obtain rfl:=H.inv_str;have bz:=Lib.run_convert_string_bytes (P:=P) w src d e ⟨I.toArray⟩ L o Q;have hz:(⟨I.toArray⟩:ByteArray).size=z I:=by simp[ByteArray.size]
  have g:(Lib.bytesWorld w e ⟨I.toArray⟩).heap=w.heap.push (.cells (Lib.bytesCells w e ⟨I.toArray⟩) e ((Lib.bytesCells w e ⟨I.toArray⟩).size,(Lib.bytesCells w e ⟨I.toArray⟩).size+1)):=by
   apply Array.ext_getElem?;intro j;rcases Nat.lt_trichotomy j w.heap.size with B|B|B
   .rw[Lib.bytesWorld_at_old w e _ j B,P3,j8 a6]
   .subst B;rw[Lib.bytesWorld_at_new,P3,l7 rfl]
   .rw[J0 (by rw[Lib.bytesWorld_size];omega),J0 Wk]
  have W:=grownCap_ge w (z I) 0 e
  have bc:(Lib.bytesCells w e ⟨I.toArray⟩).size=grownCap w (z I) 0 e:=by
   simp[Lib.bytesCells,hz];omega
  rw[bk]at h;refine⟨_,upd β (base+l) (S ⟨w.heap.size,0,N⟩),_,_,h,bz,?_⟩
  obtain⟨U,Y⟩:=V.newAny (c:=e+1) (base+l) (w':=Lib.bytesWorld w e ⟨I.toArray⟩) (ad:=⟨w.heap.size,0,N⟩) (cs:=I.map λb=>.d (tO b)) rfl g ⟨rfl,rfl⟩ λm=>
   .ofCells rfl ⟨V.base,Lib.bytesCells w e ⟨I.toArray⟩,e,(Lib.bytesCells w e ⟨I.toArray⟩).size,(Lib.bytesCells w e ⟨I.toArray⟩).size+1,by rw[g];simp,⟨.inr (l0 _),λh=>⟨by rw[lh]at h|-;split at h<;>rename_i y<;>simp_all,rfl⟩⟩,by rw[bc];simpa using W,λj c y=>by
    rw[y7]at y;cases u:I[j]? with
    |none=>rw[u]at y;cases y
    |some b=>
      rw[u]at y;simp only[z8,w9]at y;subst y;have B:j<z I:=(l8.1 u).1;refine⟨.int .u8 b.toNat,?_,by simp only[aD,tO];exact .int _ _⟩;rw[B9,Lib.bytesCells,E9 (by simpa using B)];simp[u]⟩
  refine⟨U.put hd ?_,Y.trans (Tr.same (St.put_gen _ _ _) (St.put_obj _ _ _) rfl)⟩;simp only[ag,aD];refine⟨rfl,by simp[St.newC,upd],λ_ _=>?_⟩;simp only[upd,B5];refine⟨rfl,.inl ⟨grownCap w (z I) 0 e,rfl,W,λb1 r p h=>?_⟩⟩;rw[g]at h;simp at h;obtain⟨rfl,_⟩:=h;rw[bc];simp
 .exact Ub
def rr.zsize{t:Nat}(h:rr P t A){i:TypeInfo}{X:Value}(c:P.info? t=S i)(d:i.zero=S X):X.cells.size=A.size:=by
 obtain⟨g,b,_,_,a,W,f⟩:=h.info;rw[c]at b;cases b;rw[d]at W;cases W;rw[<-N6,f,j5,h.zlen]
def LN{e g g' off:Nat}(h:code (nxC (apC e g off) g')≠0):code g=e+1/\off=0/\code (nxC (apC e g off) g')=e+1:=by
 unfold apC at h|-;by_cases b:code g=e+1/\off=0
 .rw[l7 b]at h|-
  refine⟨b.1,b.2,?_⟩;rw[lh]at h|-;split
  .rfl
  .rename_i c;rw[j8 c]at h;exact absurd rfl h
 .rw[j8 b,lh]at h
  exact absurd rfl h
def PW(e g off:Nat):apC e g off=e+1\/apC e g off=0:=by unfold apC;split<;>simp
def HO{e g off:Nat}(h:apC e g off≠0):code g=apC e g off/\off=0:=by
 unfold apC at h|-;by_cases b:code g=e+1/\off=0
 .rw[l7 b];exact b
 .rw[j8 b]at h;exact absurd rfl h
def tV(c:Nat)(V:Rel O av s β a w)(I:P.underlying t=S (.slice e))(h:rr P e A)(i d:Nat)(hd:d<av){base:Option Addr}{g Q n:Nat}{x:Value}{olds news:List Value}
 (p:(Builtin.firstCells A.size g (.slice base g Q)).run P w.drew=.ok olds.toArray w.drew)(m:z olds=g*A.size)(f:Src P A.size tx x n news w)
 (q:bL O β s w cs olds)(r:bL O β s w b6 news)(hg:Q<g+n)(l:Cz (g+n) A.bytes)(o:c=e+1\/c=0)(ty:TypeId):
  ∃E w' Z,(Builtin.append_ #[t,tx] ty #[.slice base g Q,x]).run P w=.ok Z w'/\
   Rel O av ((s.newC c i (cs++b6)).put (S d) (.one (.osl i (nxC c (s.gen i)) A.size 0 (g+n)))) E (a.put (S d) Z) w'/\
   Tr O β s w E ((s.newC c i (cs++b6)).put (S d) (.one (.osl i (nxC c (s.gen i)) A.size 0 (g+n)))) w':=by
 obtain⟨c2,u,bc,J,X,y,cx⟩:=h.info;have H:=h.zsize u y;have b:=nextslicecap_le (g+n) Q hg;obtain⟨L,l⟩:=l
 have G:((g+n:Nat):Int)<=9223372036854775807:=by
  have:(2*(g+n)+1024)*1<=(2*(g+n)+1024)*A.bytes:=Nat.mul_le_mul_left _ L;omega
 have W:Builtin.nextslicecap (g+n) Q*c2.bytes<=281474976710656:=by
  rw[J];exact C1 (LD _ b) l
 rw[<-bc]at p f;have bz:=run_append_grow_src (P:=P) w t tx ty e c2 X I u y base g Q olds p x n news f hg G W;have Y:=grownCap_ge w (g+n) Q e;have c4:z news=n*A.size:=by rw[<-bc];exact f.newsLen
 have bf:z (olds++news)=(g+n)*A.size:=by rw[j4,m,c4,F2]
 refine⟨upd β i (S ⟨w.heap.size,0,N⟩),_,_,bz,?_⟩;refine vz c V i d hd (el:=e) rfl (by exact⟨rfl,rfl⟩) (q.append r) (λj v B=>?_) ?_ (λU _=>(o.resolve_right U).symm) _ _ _ Y ?_
 .rw[E9]
  .simpa using B
  .simpa using(l8.1 B).1
 .have:=(q.append r).1
  simp at this|-;omega
 .have b0:(Builtin.zeroCells X.cells (grownCap w (g+n) Q e-(g+n))).size=(grownCap w (g+n) Q e-(g+n))*A.size:=by
   simp[Builtin.zeroCells,H]
  rw[Array.size_append,b0];have U:(olds++news).toArray.size=(g+n)*A.size:=by simpa using bf
  rw[U,<-F2];exact Nat.le_of_eq (by congr 1;omega)
def lx(c:Nat)(V:Rel O av s β a w)(i d:Nat)(hd:d<av)(sz:Nat){x:Option Addr}(I:oB w sz 0 0 v x)(U:v.oneCell'=T)
 (Z:dX O β s.gen s.obj w (nxC c (s.gen i)) [] x)(c':∀g W b0,g≠i->(s.obj g).isSome=T->β g=S W->x=S b0->W.block≠b0.block)(bc:∀b b0,x=S b0->Imm O β s.obj w b->b0.block≠b):
  Rel O av ((s.newC c i []).put (S d) (.one (.osl i (nxC c (s.gen i)) sz 0 0))) (upd β i x) (a.put (S d) v) w/\Tr O β s w (upd β i x) ((s.newC c i []).put (S d) (.one (.osl i (nxC c (s.gen i)) sz 0 0))) w:=by
 have m:ft O β s.gen s.obj w (upd β i x) (s.newC c i []).gen (s.newC c i []).obj w:=by
  refine⟨λb j=>⟨⟨j.1,j.2.1,λg W n B=>?_⟩,rfl⟩,λg=>?_,λg E n=>?_⟩
  .simp only[St.newC,upd]at n B
   split at B
   .exact bc b W B j
   .rename_i bl
    simp only[bl,B8]at n;exact j.2.2 g W n B
  .exact S5
  .simp only[St.newC,upd]at E n|-
   by_cases bl:g=i
   .subst bl;simp at E;exact absurd E (yq _ _)
   .simp only[bl,B8]at n|-
    exact⟨n,trivial,λW an cb c0 ch U=>⟨cb,c0,ch,U,l0 _⟩⟩
 have J:Rel O av (s.newC c i []) (upd β i x) a w:=by
  refine⟨V.defers,V.size,λi=>ag.keep m _ (V.f i),λg l r=>?_,λH u L Q U Y o p j=>?_,V.base⟩
  .simp only[St.newC,upd]at r|-
   by_cases X:g=i
   .subst X
    simp only[B5,w9]at r|-;subst r;exact Z.keep m (λ_ _=>rfl)
   .simp only[X,B8]at r|-
    exact(V.obj g l r).keep m (λ_ _=>rfl)
  .simp only[St.newC,upd]at U Y o p
   by_cases q:H=i<;>by_cases y:u=i
   .rw[q,y]
   .simp only[q,y,B5,B8]at U Y o p
    exact absurd j.symm (c' u Q L y Y p o)
   .simp only[q,y,B5,B8]at U Y o p
    exact absurd j (c' H L Q q U o p)
   .simp only[q,y,B8]at U Y o p
    exact V.inj H u L Q U Y o p j
 refine⟨J.put (λd' bd=>by cases bd;exact hd) ?_,⟨l0 _,λ_ _=>rfl,?_,rfl,rfl⟩⟩
 .simp only[ag,aD]
  refine⟨U,by simp[St.newC,upd],λ_ _=>?_⟩;simp only[upd,B5];exact I
 .rw[St.put_obj,St.put_gen];exact m
def Av(c:Nat)(V:Rel O av s β a w)(hu:P.underlying t=S (.slice e))(b3:rr P e A)(i d:Nat)(hd:d<av){ad:Addr}{off g Q n:Nat}{x:Value}{cells b6:List C}{news:List Value}
 (H:β i=S ad)(b2:ad.spot=N)(ho:s.obj i=S cells)(b5:off+g*A.size<=z cells)(cc:∀arr el fr,w.heap[ad.block]?=S (.cells arr el fr)->ad.off+off+Q*A.size<=arr.size)
 (hs:Src P A.size tx x n news w)(r:bL O β s w b6 news)(hg:g+n<=Q)(o:c≠0->code (s.gen i)=c/\off=0)(ty:TypeId):
  ∃E w' Z,(Builtin.append_ #[t,tx] ty #[.slice (S ⟨ad.block,ad.off+off,N⟩) g Q,x]).run P w=.ok Z w'/\
   Rel O av ((s.newC c i ((cells.drop off).take (g*A.size)++b6)).put (S d) (.one (.osl i (nxC c (s.gen i)) A.size 0 (g+n)))) E (a.put (S d) Z) w'/\
   Tr O β s w E ((s.newC c i ((cells.drop off).take (g*A.size)++b6)).put (S d) (.one (.osl i (nxC c (s.gen i)) A.size 0 (g+n)))) w':=by
 obtain⟨c2,hi,bc,cy,X,hz,cx⟩:=b3.info;have bs:=V.obj i cells ho;rw[H]at bs;obtain⟨hB,arr,el,lo,b4,q,L,bf,bo⟩:=bs.cells b2;have cz:=cc _ _ _ q;have c4:z news=n*A.size:=hs.newsLen;have cd:g*A.size+n*A.size<=Q*A.size:=by rw[<-F2];exact LD _ hg
 rw[<-bc]at hs
 have bz:=run_append_room_src (P:=P) w t tx ty e c2 hu hi ad.block (ad.off+off) g Q x n news hs hg (λj hj=>by
   rw[bc,eJ q,A5 a6];rfl) (λj hj=>by rw[bc];exact pN q L.1 a6)
 rw[bc]at bz;obtain⟨b1,f1,f2,f3⟩:=fO ad.block news (ad.off+off+g*A.size) w arr el (lo,b4) q;have k:∀b,b≠ad.block->(w.setCells ad.block (ad.off+off+g*A.size) news).heap[b]?=w.heap[b]?:=λb hb=>heap_setCells_other _ _ _ _ _ hb;generalize b0:w.setCells ad.block (ad.off+off+g*A.size) news=w' at *;have v:w'.heap.size=w.heap.size:=by rw[<-b0];exact setCells_size _ _ _ _
 have c1:w'.os=w.os/\w'.output=w.output:=by rw[<-b0];exact lO _ _ _ _
 generalize ca:(cells.drop off).take (g*A.size)=front at *;have b7:z front=g*A.size:=by rw[<-ca];simp;omega
 have m:ft O β s.gen s.obj w (upd β i (S ⟨ad.block,ad.off+off,N⟩)) (s.newC c i (front++b6)).gen (s.newC c i (front++b6)).obj w':=by
  refine⟨λb hb=>?_,λi'=>?_,λi' hg b4=>?_⟩
  .have bl:b≠ad.block:=λhe=>hb.2.2 i ad WS H he.symm
   refine⟨⟨by rw[v];exact hb.1,hb.2.1,λi' W b4 B=>?_⟩,k b bl⟩;simp only[St.newC,upd]at b4 B;split at B
   .cases B;exact A9 bl
   .rename_i I
    simp only[I,B8]at b4;exact hb.2.2 i' W b4 B
  .exact S5
  .simp only[St.newC,upd]at hg b4|-
   by_cases bl:i'=i
   .subst bl;simp at hg;exact absurd hg (yq _ _)
   .simp only[bl,B8]at b4|-
    refine⟨b4,trivial,λW an cb c0 ch U=>?_⟩;rw[k _ (λhb=>bl (V.inj i' i W ad b4 WS an H hb))]at U;exact⟨cb,c0,ch,U,l0 _⟩
 have J:Rel O av (s.newC c i (front++b6)) (upd β i (S ⟨ad.block,ad.off+off,N⟩)) a w':=by
  refine⟨V.defers,V.size,λi=>ag.keep m _ (V.f i),λi' l r=>?_,λi1 u a1 a2 U Y cu cf hb=>?_,by rw[v];exact V.base⟩
  .simp only[St.newC,upd]at r|-
   by_cases b':i'=i
   .subst b'
    simp only[B5,w9]at r|-;subst r;have G:z b6=z news:=r.1.symm
    have K:code (nxC c (s.gen i'))≠0->el+1=code (nxC c (s.gen i'))/\(⟨ad.block,ad.off+off,N⟩:Addr).off=0:=λcm=>by
     have U:code (nxC c (s.gen i'))=c:=by
      rw[lh]at cm|-;split
      .rfl
      .rename_i h;rw[j8 h]at cm;exact absurd rfl cm
     rw[U]at cm|-;obtain⟨q1,q2⟩:=o cm;obtain⟨q3,q4⟩:=L.2 (by rw[q1];exact cm);exact⟨by rw[q3,q1],by simp[q4,q2]⟩
    refine .ofCells rfl ⟨hB,b1,el,lo,b4,f1,⟨by rw[f2];exact L.1,K⟩,by rw[j4,b7,f2,G];simp only;omega,λj c hc=>?_⟩;rw[f3];simp only at *;rw[J6]at hc;split at hc
    .rename_i hj
     rw[b7]at hj;rw[<-ca,Hl,l7 hj,G6]at hc;obtain⟨u',p,bk⟩:=bo _ c hc;refine⟨u',?_,bk.keep m⟩;rw[j8 a6,C7];exact p
    .rename_i hj
     rw[b7]at hj hc;obtain⟨u',p,bk⟩:=r.2 _ c hc;have af:j-g*A.size<z news:=by rw[<-G];exact(l8.1 hc).1
     refine⟨u',?_,bk.keep m⟩;rw[l7 a6,show ad.off+off+j-(ad.off+off+g*A.size)=j-g*A.size by omega];exact p
   .simp only[b',B8]at r|-
    exact(V.obj i' l r).keep m (λW an=>k _ (λhb=>b' (V.inj i' i W ad (by simp[r]) WS an H hb)))
  .simp only[St.newC,upd]at U Y cu cf
   by_cases b8:i1=i<;>by_cases y:u=i
   .rw[b8,y]
   .simp only[b8,y,B5,B8]at U Y cu cf
    cases cu;exact absurd (V.inj u i a2 ad Y WS cf H hb.symm) y
   .simp only[b8,y,B5,B8]at U Y cu cf
    cases cf;exact absurd (V.inj i1 i a1 ad U WS cu H hb) b8
   .simp only[b8,y,B8]at U Y cu cf
    exact V.inj i1 u a1 a2 U Y cu cf hb
 refine⟨_,_,_,bz,J.put (λd' bd=>by cases bd;exact hd) ?_,⟨by rw[v];exact l0 _,λb hb=>k b a6,?_,c1⟩⟩
 .simp only[ag,aD]
  refine⟨rfl,by simp[St.newC,upd],λ_ _=>?_⟩;simp only[upd,B5];refine⟨rfl,.inl ⟨Q,a8,hg,λcb c0 ch U=>?_⟩⟩;rw[f1]at U;cases U;rw[f2];simpa using cz
 .rw[St.put_obj,St.put_gen];exact m
end
end
section
variable{s:St}{av:Nat}{a:Act}{K:St->Prop}{cs:List C}{v u:Value}{k:Box K}
section
variable{P:Program}{G:Nat->TI}{O:Bs}{β:Loc}{w:World}
def Src.eq_nil{size:Nat}{tx:TypeId}{x:Value}{news:List Value}(b:Src P size tx x 0 news w):news=[]:=r0 (by rw[b.newsLen];simp)
def bL.nil_of(h:bL O β s w cs []):cs=[]:=r0 (by rw[<-h.1];rfl)
def CU(V:Rel O av s β a w){i:Nat}{ad:Addr}(ho:(s.obj i).isSome=T)(H:β i=S ad):ad.block<w.heap.size:=by
 obtain⟨b,c⟩:=J5.1 ho;have:=V.obj i b c;rw[H]at this;exact this.block.2
def xb(hT:bp P G)(V:Rel O av s β a w){t tx f d:Nat}(cd:dQ G t=T)(hd:d<av){x y:AV}
 (h:mW (aZ G t) (bq G t) (isStr (G tx).desc) (dQ G tx) f d s x y k)(hv:ag O β s.gen s.obj w x v)(hu:ag O β s.gen s.obj w y u)(ty:TypeId):
  ∃s' E w' Z,K s'/\(Builtin.append_ #[t,tx] ty #[v,u]).run P w=.ok Z w'/\Rel O av s' E (a.put (S d) Z) w'/\Tr O β s w E s' w':=by
 obtain⟨e,c6,ca,bk,b3⟩:=eV hT cd;rw[ca,show aZ G t=e from by simp[aZ,c6]]at h;unfold mW at h;split at h
 .simp only[ag,aD]at hv
  obtain rfl:=hv.inv_nsl;obtain⟨n,cs,news,⟨l,J⟩,hs,cy⟩:=oT hT V h hu;obtain⟨c2,hi,bc,_⟩:=b3.info;by_cases hn:n=0
  .subst hn
   obtain rfl:=Src.eq_nil hs;obtain rfl:=cy.nil_of;have bz:=run_append_nothing (P:=P) w t tx ty e c2 bk hi N 0 0 (l0 _) u (by rw[bc];exact hs);obtain⟨r1,r2⟩:=lx (e+1) V f d hd (G e).size (x:=N) (v:=.slice N 0 0) ⟨rfl,rfl⟩ rfl rfl (λ_ _ _ _ _ _ I=>by cases I) (λ_ _ I=>by cases I);exact⟨_,_,_,_,J,bz,r1,r2⟩
  .obtain⟨E,w',Z,g1,g2,g3⟩:=tV (e+1) V bk b3 f d hd (base:=N) (g:=0) (Q:=0) (n:=n) (x:=u) (cs:=[]) (b6:=cs) (olds:=[]) (news:=news)
    (run_firstCells_none w.drew _ _ _ _) a8 hs ⟨rfl,λ_ _ hc=>by simp at hc⟩ cy a6 (by simpa using l) (.inl rfl) ty (tx:=tx)
   simp only[x9,B9]at g2 g3;exact⟨_,_,_,_,J,g1,g2,g3⟩
 .rename_i id g' sz a' len
  obtain⟨hg,rfl,h⟩:=h;obtain⟨b',ho,b5,h⟩:=aQ h;simp only[ag]at hv;have A:=iH hv hg WS;obtain⟨n,cs,news,⟨l,J⟩,hs,cy⟩:=oT hT V h hu;obtain⟨c2,hi,bc,_⟩:=b3.info;have bs:=V.obj id b' ho
  -- an empty handle,to c4 nothing is r
  have m:len=0->n=0->v.oneCell'=T->∀(cz:∃b,v=.slice b 0 0),∃s' E w' Z,K s'/\(Builtin.append_ #[t,tx] ty #[v,u]).run P w=.ok Z w'/\Rel O av s' E (a.put (S d) Z) w'/\Tr O β s w E s' w':=by
   rintro rfl rfl b7 ⟨b,rfl⟩;obtain rfl:=Src.eq_nil hs;obtain rfl:=cy.nil_of;have bz:=run_append_nothing (P:=P) w t tx ty e c2 bk hi b 0 0 (l0 _) u (by rw[bc];exact hs);simp only[Nat.zero_mul,F6,s5,I3]at J;cases H:β id with
   |none=>
     rw[H]at A bs;obtain⟨r1,r2⟩:=lx (apC e (s.gen id) a') V id d hd (G e).size (x:=N) (v:=.slice b 0 0) ⟨rfl,A.2⟩ b7 rfl (λ_ _ _ _ _ _ I=>by cases I) (λ_ _ I=>by cases I);exact⟨_,_,_,_,J,bz,r1,r2⟩
   |some ad=>
     rw[H]at A bs;obtain⟨b2,A⟩:=A;obtain⟨hB,arr,el,lo,b4,q,L,bf,bo⟩:=bs.cells b2
     have I:oB w (G e).size 0 0 (.slice b 0 0) (S ⟨ad.block,ad.off+a',N⟩):=by
      rcases A with⟨cap,c1,_,hc⟩|⟨_,o,a1⟩
      .cases c1
       exact⟨rfl,.inl ⟨0,a8,l0 _,λcb c0 ch U=>by have:=hc _ _ _ U;simpa using this⟩⟩
      .exact⟨rfl,.inr ⟨rfl,o,a1⟩⟩
     obtain⟨r1,r2⟩:=lx (apC e (s.gen id) a') V id d hd (G e).size (x:=S ⟨ad.block,ad.off+a',N⟩) (v:=.slice b 0 0) I b7
      (.ofCells rfl ⟨hB,arr,el,lo,b4,q,⟨L.1,λcm=>by obtain⟨q1,q2,q3⟩:=LN cm;obtain⟨q4,q5⟩:=L.2 (by rw[q1];omega);exact⟨by rw[q3,q4,q1],by simp[q5,q2]⟩⟩,by simp at b5|-;omega,λ_ _ hc=>by simp at hc⟩)
      (λi' W b0 bl b8 cu cf hb=>by cases cf;exact bl (V.inj i' id W ad b8 WS cu H hb)) (λX b0 cf hb=>by cases cf;exact hb.2.2 id ad WS H)
     exact⟨_,_,_,_,J,bz,r1,r2⟩
  -- et b' c7 e0 there Y
  have c:∀base Q,v=.slice base len Q->len*(G e).size=0\/(∃ad,β id=S ad/\base=S ⟨ad.block,ad.off+a',N⟩)->Q<len+n->
    ∃s' E w' Z,K s'/\(Builtin.append_ #[t,tx] ty #[v,u]).run P w=.ok Z w'/\Rel O av s' E (a.put (S d) Z) w'/\Tr O β s w E s' w':=by
   rintro base Q rfl i af
   have p:∃olds,(Builtin.firstCells (G e).size len (.slice base len Q)).run P w.drew=.ok olds.toArray w.drew/\z olds=len*(G e).size/\bL O β s w ((b'.drop a').take (len*(G e).size)) olds:=by
    rcases i with h0|⟨ad,H,rfl⟩
    .refine⟨[],?_,by simp[h0],by simp[h0],λ_ _ hc=>by rw[h0]at hc;simp at hc⟩
     cases base with
     |none=>exact run_firstCells_none w.drew _ _ _ _
     |some b=>exact run_firstCells_some w.drew _ _ b _ _ [] (by simp[h0]) (λ_ _ hc=>by simp at hc)
    .rcases pO V (A.spot) ho b5 with⟨c',B,vs,b1,hl,bd⟩|⟨B,rfl⟩
     .rw[H]at B;cases B
      exact⟨vs,run_firstCells_some w.drew _ _ _ _ _ vs hl (λj u hu=>by rw[eb];simpa using bd j u hu),hl,b1⟩
     .rw[H]at B;cases B
   obtain⟨olds,o1,o2,o3⟩:=p;obtain⟨E,w',Z,g1,g2,g3⟩:=tV (apC e (s.gen id) a') V bk b3 id d hd (base:=base) (g:=len) (Q:=Q) (n:=n) (x:=u) o1 o2 hs o3 cy af l (PW _ _ _) ty (tx:=tx);exact⟨_,_,_,_,J,g1,g2,g3⟩
  cases H:β id with
  |none=>
    rw[H]at A;obtain⟨cx,rfl⟩:=A;by_cases hn:n=0
    .exact m cx hn rfl ⟨N,rfl⟩
    .subst cx
     exact c N 0 rfl (.inl a8) a6
  |some ad=>
    rw[H]at A;obtain⟨b2,A⟩:=A;rcases A with⟨cap,rfl,cc,hc⟩|⟨cx,o,rfl⟩
    .by_cases af:cap<len+n
     .exact c _ cap rfl (.inr ⟨ad,H,rfl⟩) af
     .obtain⟨E,w',Z,g1,g2,g3⟩:=Av (apC e (s.gen id) a') V bk b3 id d hd H b2 ho b5 hc hs cy a6 HO ty
      exact⟨_,_,_,_,J,g1,g2,g3⟩
    .by_cases hn:n=0
     .exact m cx hn rfl ⟨_,rfl⟩
     .subst cx
      exact c _ 0 rfl (.inl a8) a6
 .exact Ub
def sH(hT:bp P G)(V:Rel O av s β a w){t f d:Nat}(cd:dQ G t=T)(hd:d<av){x y:AV}
 (h:jL (aZ G t) (bq G t) f d s x y k)(r:ag O β s.gen s.obj w x v)(Q:ag O β s.gen s.obj w y u):
  ∃A E w' Z,K A/\(Instr.makeSlice t v u).run P w=.ok Z w'/\Rel O av A E (a.put (S d) Z) w'/\Tr O β s w E A w':=by
 obtain⟨e,c6,ca,bk,l⟩:=eV hT cd;rw[ca,show aZ G t=e from by simp[aZ,c6]]at h;unfold jL at h;split at h
 .rename_i k1 n k2 m
  obtain⟨h0,U,Y,h3,J⟩:=h;simp only[ag,aD]at r Q;obtain rfl:=r.inv_int;obtain rfl:=Q.inv_int;obtain⟨c2,W,bc,cy,X,hz,cx⟩:=l.info;have bz:=run_make (P:=P) w t e c2 X bk W hz k1 k2 n m h0 U (by rw[cy,Int.mul_comm];exact h3) a6;have H:=l.zsize W hz
  have I:z ((List.replicate m.toNat ((G e).zero.map C.d)).flatten)=m.toNat*(G e).size:=by
   simp[l.zlen]
  refine⟨_,upd β f (S ⟨w.heap.size,0,N⟩),_,_,J,bz,?_⟩;refine vz (e+1) V f d hd rfl (by exact⟨rfl,rfl⟩) (vs:=(madeCells X.cells (m.toNat*c2.size)).toList) ⟨?_,λj c hc=>?_⟩ (λj v r=>by simpa using r) ?_ (λ_ _=>rfl) _ _ _ a6 ?_
  .rw[I,N6,size_madeCells,bc]
  .have af:j<m.toNat*(G e).size:=by rw[<-I];exact(l8.1 hc).1
   obtain⟨i,B,b,q1,p,q3⟩:=lQ (sz:=(G e).size) _ (λB L=>by rw[H0 L,j5,l.zlen]) j c hc;have L:B=(G e).zero.map C.d:=H0 (l5 q1);subst L;rw[y7]at p;cases q:(G e).zero[b]? with
   |none=>rw[q]at p;cases p
   |some x=>
     rw[q]at p;simp only[z8,w9]at p;subst p;have cb:b<(G e).size:=by rw[<-l.zlen];exact(l8.1 q).1
     have o:j%X.cells.size=b:=by rw[H,q3,SJ,Nat.mul_add_mod,L2 cb]
     have g:X.cells[b]?=S (dV x):=by rw[<-G8,cx,y7,q];rfl
     refine⟨dV x,?_,?_⟩
     .rw[G8]
      have:j<m.toNat*c2.size:=by rw[bc];exact af
      simp only[madeCells,Array.getElem?_map,Array.getElem?_range,this,B5,z8,o];rw[getElem!_def,g]
     .simp only[aD]
      exact cr.of_plain (by have:=l.plain;rw[x7]at this;exact this x (l5 q))
  .rw[I,size_madeCells,bc];exact l0 _
  .rw[size_madeCells,bc];exact l0 _
 .exact Ub
def xE(off:Nat):∀(l:List Value)(k:Nat)(c:Array Value),((l.zipIdx k).foldl (λcs(p:Value×Nat)=>cs.setIfInBounds (off+p.2) p.1) c).size=c.size/\
  ∀j,((l.zipIdx k).foldl (λcs(p:Value×Nat)=>cs.setIfInBounds (off+p.2) p.1) c)[j]?=if off+k<=j/\j<off+k+z l/\j<c.size then l[j-(off+k)]? else c[j]?
 |[],k,c=>⟨rfl,λj=>by rw[j8 Wk];rfl⟩
 |v::l,k,c=>by
   simp only[List.zipIdx_cons,L9];obtain⟨U,Y⟩:=xE off l (k+1) (c.setIfInBounds (off+k) v);refine⟨by rw[U];simp,λj=>?_⟩;rw[Y j];simp only[R7,j6];by_cases b:j=off+k
   .subst b
    rw[j8 a6];by_cases d:off+k<c.size
    .rw[l7 a6,M7 d];simp
    .rw[j8 a6];simp[d]
   .by_cases e:off+(k+1)<=j/\j<off+(k+1)+z l/\j<c.size
    .rw[l7 e,l7 a6]
     have:j-(off+k)=(j-(off+(k+1)))+1:=a6;rw[this,v7]
    .rw[j8 e,j8 a6,L0 (A9 b)]
def xF{pl:Nat->Option (Nat×Nat)}{i off sz:Nat}{v:Value}{vs:List Value}{cells:Array Value}{rest:List (Nat×Value)}(c:pl i=S (off,sz))(b:v.cells=vs.toArray)(hl:z vs=sz)(d:off+sz<=cells.size):
  ∃l:Array Value,Instr.fill pl cells ((i,v)::rest)=Instr.fill pl l rest/\l.size=cells.size/\∀j,l[j]?=if off<=j/\j<off+sz/\j<cells.size then vs[j-off]? else cells[j]?:=by
 obtain⟨U,Y⟩:=xE off vs 0 cells;have bc:v.cells.size=sz:=by rw[b];simpa using hl
 refine⟨_,?_,U,λj=>?_⟩
 .simp only[Instr.fill,c,bc,ne_eq,Oz,K7,R6,gt_iff_lt,s7,j8 (Nat.not_lt.2 d)]
  rw[b];congr 1;simp
 .have:=Y j
  simp only[I3,hl]at this;exact this
def tX{av:Nat}{s:St}{a:Act}(V:Rel O av s β a w){pl:Nat->Option (Nat×Nat)}:∀(ps:List (Nat×Operand)){cells:List C}{g:Array Value}{K:List C->Prop}{k:Box K},bL O β s w cells g.toList->
  vc pl cells (ps.map λp=>(p.1,s.ev p.2)) k->∃l b,K l/\Instr.fill pl g (ps.map λp=>(p.1,a.eval p.2))=S b/\bL O β s w l b.toList
 |[],cells,g,K,k,f,h=>⟨cells,g,h,rfl,f⟩
 |p::ps,cells,g,K,k,f,h=>by
   simp only[l9,vc]at h;obtain⟨q,m,h⟩:=aQ h;obtain⟨cs,n,hl,I,h⟩:=aQ h;obtain⟨vs,o,t,x,J⟩:=ag.cells n (V.ev p.2);have y:g.size=z cells:=by simpa using f.1
   obtain⟨b,A,B,g3⟩:=xF (rest:=ps.map λp=>(p.1,a.eval p.2)) (cells:=g) m o (by rw[t,hl]) a6
   have r:bL O β s w (setAt cells q.1 cs) b.toList:=by
    refine⟨by simp[ni,B,y],λj c i=>?_⟩;rw[sG]at i;rw[G8,g3];split at i
    .rename_i E
     rw[l7 a6];exact x _ c i
    .rename_i E
     rw[j8 a6];simpa using f.2 j c i
   obtain⟨d,e,f1,H,f3⟩:=tX V ps r h;exact⟨d,e,f1,by simp only[l9];rw[A];exact H,f3⟩
def vA{av:Nat}{s:St}{a:Act}(V:Rel O av s β a w){sz:Nat}:∀(ps:List (Nat×Operand)){k:Nat}{arr:Array Value}{K:List C->Prop}{b:Box K},arr.size=(k+z ps)*sz->
  CA sz k (ps.map λp=>(p.1,s.ev p.2)) b->∃cs vs b1,K cs/\Instr.fill (λi=>S (i*sz,sz)) arr (ps.map λp=>(p.1,a.eval p.2))=S b1/\b1.size=arr.size/\bL O β s w cs vs/\z vs=z ps*sz/\
   (∀j,j<k*sz->b1[j]?=arr[j]?)/\∀(j:Nat)v,vs[j]?=S v->b1[k*sz+j]?=S v
 |[],k,arr,K,b,bc,h=>⟨[],[],arr,h,rfl,rfl,⟨rfl,λ_ _ h=>by simp at h⟩,a8,λ_ _=>rfl,λ_ _ h=>by simp at h⟩
 |p::ps,k,arr,K,b,bc,h=>by
   simp only[l9,CA]at h;obtain⟨n,h⟩:=h;obtain⟨cs,o,hl,h⟩:=aQ h;obtain⟨vs,q,g,r,B⟩:=ag.cells o (V.ev p.2);have cd:(k+(z ps+1))*sz=k*sz+sz+z ps*sz:=by rw[F2,F2];omega
   simp only[j6]at bc;rw[cd]at bc;obtain⟨t,x,m,g3⟩:=xF (pl:=λi=>S (i*sz,sz)) (i:=p.1) (v:=a.eval p.2) (rest:=ps.map λp=>(p.1,a.eval p.2)) (cells:=arr) (by rw[n]) q (by rw[g,hl]) a6;have c:(k+1)*sz=k*sz+sz:=by rw[F2];omega
   obtain⟨rest,e,d,f1,y,f3,f4,f5,f6,A⟩:=vA V ps (k:=k+1) (arr:=t) (by rw[m,bc,F2,c]) h;have u:z vs=sz:=by rw[g,hl]
   refine⟨cs++rest,vs++e,d,f1,by simp only[l9];rw[x];exact y,by rw[f3,m],bL.append ⟨g,r⟩ f4,by simp[u,f5,F2];omega,λj f=>?_,λj v f=>?_⟩
   .rw[f6 j a6,g3,j8 a6]
   .rw[J6]at f
    split at f
    .rename_i l
     rw[u]at l;rw[f6 _ a6,g3,l7 a6,show k*sz+j-k*sz=j by omega];exact f
    .rename_i l
     have:=A _ v f;rw[u]at this l;rw[c,show k*sz+sz+(j-sz)=k*sz+j by omega]at this;exact this
def rB(hT:bp P G)(V:Rel O av s β a w){t f d n:Nat}(cd:dQ G t=T)(hd:d<av){ps:List (Nat×Operand)}
 (h:kf (aZ G t) (bq G t).size f d n s (ps.map λp=>(p.1,s.ev p.2)) k):
  ∃m E w' Z,K m/\(Instr.buildSlice t n (ps.map λp=>(p.1,a.eval p.2)).toArray).run P w=.ok Z w'/\Rel O av m E (a.put (S d) Z) w'/\Tr O β s w E m w':=by
 obtain⟨e,Q,U,bk,o⟩:=eV hT cd;rw[U,show aZ G t=e from by simp[aZ,Q]]at h;obtain⟨c2,B,bc,cy,X,I,cx⟩:=o.info;have H:=o.zsize B I;obtain⟨r,c,h⟩:=h;rw[j5]at r;have q:¬n*(G e).size>2^24:=a6
 have J:∀arr:Array Value,arr.size=n*(G e).size->∃cs b1,K ((s.newC (e+1) f cs).put (S d) (.one (.osl f (nxC (e+1) (s.gen f)) (G e).size 0 n)))/\Instr.fill (λi=>S (i*(G e).size,(G e).size)) arr (ps.map λp=>(p.1,a.eval p.2))=S b1/\bL O β s w cs b1.toList/\b1.size=n*(G e).size:=λarr g=>by
  obtain⟨cs,vs,b1,f1,l,f3,f4,f5,f6,W⟩:=vA V ps (k:=0) (arr:=arr) (by rw[g,B9,r]) h
  have y:vs=b1.toList:=by
   apply M5;intro j;have Y:b1.toList[j]?=b1[j]?:=G8;rw[Y];by_cases L:j<z vs
   .have:=W j _ (y8 L)
    rw[y8 L,<-this];simp
   .rw[E0 a6,J0 (by rw[f3,g,<-r,<-f5];omega)]
  exact⟨cs,b1,f1,l,y▸f4,by rw[f3,g]⟩
 have b:∃cs b1,K ((s.newC (e+1) f cs).put (S d) (.one (.osl f (nxC (e+1) (s.gen f)) (G e).size 0 n)))/\(Instr.buildSlice t n (ps.map λp=>(p.1,a.eval p.2)).toArray).run P w=.ok (.slice (S ⟨w.heap.size,0,N⟩) n n) (w.alloc (.cells b1 e))/\bL O β s w cs b1.toList/\b1.size=n*(G e).size:=by
  unfold Instr.buildSlice;simp only[Sem.run_bind,run_underlying bk,bN o,Result.andThen_ok,q,B8];by_cases A:n*(G e).size=0
  .obtain⟨cs,b1,f1,l,f3,f4⟩:=J ((Array.range (n*(G e).size)).map (λx=>(#[]:Array Value)[x%(#[]:Array Value).size]!)) a8
   refine⟨cs,b1,f1,?_,f3,f4⟩;simp only[A,B5,Sem.run_bind,Sem.run_pure,Result.andThen_ok];rw[A]at l;simp only[l];simp[newRow]
  .obtain⟨cs,b1,f1,l,f3,f4⟩:=J ((Array.range (n*(G e).size)).map (λx=>X.cells[x%X.cells.size]!)) a8
   refine⟨cs,b1,f1,?_,f3,f4⟩;simp only[A,B8,Sem.run_bind,zeroValue,typeInfo,Sem.run_pure,run_program,Result.andThen_ok,B,I];simp only[l];simp[newRow]
 obtain⟨cs,b1,f1,l,f3,f4⟩:=b;have b4:z cs=b1.size:=by have:=f3.1;simpa using this.symm
 refine⟨_,upd β f (S ⟨w.heap.size,0,N⟩),_,_,f1,l,?_⟩;exact vz (e+1) V f d hd (arr:=b1) (el:=e) rfl (by exact⟨rfl,rfl⟩) f3 (λj v y=>by simpa using y) a6 (λ_ _=>rfl) _ _ _ (l0 _) a6
def HP(V:Rel O av s β a w)(i d:Nat)(hd:d<av){el:TypeId}{arr:Array Value}(b:bL O β s w cs arr.toList):
  Rel O av ((s.newC (el+1) i cs).put (S d) (.one (.ptr i (nxC (el+1) (s.gen i)) 0))) (upd β i (S ⟨w.heap.size,0,N⟩)) (a.put (S d) (.pointer (S ⟨w.heap.size,0,N⟩))) (w.alloc (.cells arr el))/\
   Tr O β s w (upd β i (S ⟨w.heap.size,0,N⟩)) ((s.newC (el+1) i cs).put (S d) (.one (.ptr i (nxC (el+1) (s.gen i)) 0))) (w.alloc (.cells arr el)):=by
 have g:z cs=arr.size:=by have:=b.1;simpa using this.symm
 obtain⟨U,Y⟩:=Rel.new (w':=w.alloc (.cells arr el)) (el+1) V i rfl ⟨rfl,rfl⟩ (cs:=cs) a6 (λ_ _=>rfl) (λj c e=>by simpa using b.2 j c e);refine⟨U.put (λl f=>by cases f;exact hd) ?_,Y.trans (Tr.same (St.put_gen _ _ _) (St.put_obj _ _ _) rfl)⟩;simp only[ag,aD];refine⟨rfl,by simp[St.newC,upd],λ_ _=>⟨⟨w.heap.size,0,N⟩,by simp[upd],rfl,a8⟩⟩
end
end
end
section
attribute[local congr]ite_cc
section
def fP(av:Nat)(l:List Oper):Bool:=l.all λo=>match o.dst with|some d=>decide (d<av)|none=>T
def codeOk(av:Nat):Code->Bool
 |.region _ ops _=>fP av ops.toList
 |.seq x y=>codeOk av x&&codeOk av y
 |.cond _ x y=>codeOk av x&&codeOk av y
 |.block _ c=>codeOk av c
 |.loop c=>codeOk av c
 |.scope c=>codeOk av c
 |.rangeFunc _ b x y=>b.toList.all (λp=>decide (p<av))&&codeOk av x&&codeOk av y
 |_=>T
def vq(P:Program)(o:Oper)(s:St)(R:St->Prop):Prop:=∀(O:Bs)(av:Nat)(β:Loc)(a:Act)(w:World),Rel O av s β a w->(∀d,o.dst=S d->d<av)->∀(next:Act->World->Prop)(Q:Exit->Act->World->Prop),
 (∀b E W w',R b->Rel O av b E W w'->Tr O β s w E b w'->next W w')->o.wp P a w next Q
def LO(P:Program)(c:Code)(s:St)(R:Exit->St->Prop):Prop:=∀(O:Bs)(av:Nat)(β:Loc)(a:Act)(w:World),codeOk av c=T->Rel O av s β a w->
 c.wp P (λe W w'=>∃b E,R e b/\Rel O av b E W w'/\Tr O β s w E b w') a w
def ae(s d:St):Prop:=∀(O:Bs)(av:Nat)(β:Loc)(a:Act)(w:World),Rel O av s β a w->∃E,Rel O av d E a w/\Tr O β s w E d w
def ae.refl(s:St):ae s s:=λ_ _ β _ _ h=>⟨β,h,Tr.refl⟩
def spB(P:Program)(B:Nat):Sp:=⟨vq P,LO P,ae,B⟩
def sp(P:Program):Sp:=spB P 0
@[go_sem]def VR(P:Program):(sp P).base=0:=A6 rfl rfl
@[go_sem]def TJ(P:Program)(B:Nat):(spB P B).base=B:=A6 rfl rfl
variable{a:Act}{s:St}{av:Nat}{o:Oper}{Q:Exit->Act->World->Prop}{x:AV}{K:St->Prop}{next:Act->World->Prop}{w':World}{g:Nat->Nat}{ob:Obs}{v:Value}{l:List Oper}{ops:Array Oper}{k:Box K}
section
variable{P:Program}{G:Nat->TI}{O:Bs}{β:Loc}{w:World}{B:Nat}
def fh{Z:Value}(bz:(execOp a.eval o).run P w=.ok (.value Z) w')(b:next (a.put o.dst Z) w'):o.wp P a w next Q:=by
 unfold Oper.wp;rw[bz];exact b
def vB(bz:(execOp a.eval o).run P w=.ok .skip w')(b:next (a.put o.dst undef) w'):o.wp P a w next Q:=by
 unfold Oper.wp;rw[bz];exact b
def cL:ag O β g ob w uv undef:=by
 simp only[ag,aO];exact⟨[],rfl,rfl⟩
def Ep{b:Type}{xs:Array b}(h:xs.size=1)(d:b):xs = #[xs.getD 0 d]:=by
 apply Array.ext
 .simp[h]
 .intro i U Y
  have:i=0:=a6;subst this;simp[Array.getD,h]
def uO{b:Type}{xs:Array b}(h:xs.size=2)(d:b):xs = #[xs.getD 0 d,xs.getD 1 d]:=by
 apply Array.ext
 .simp[h]
 .intro i U Y
  have:i=0\/i=1:=a6;rcases this with rfl|rfl<;>simp[Array.getD,h]
def oU{d:TypeDesc}{f:Nat}{fl:Field}(h:kI d f=S fl):∃fs,d=.struct fs/\fs[f]?=S fl:=by
 cases d<;>simp[kI]at h;exact⟨_,rfl,by simpa using h⟩
def oV(hT:bp P G){fl:Field}(U:okD (G fl.type).desc=T)(Y:(G fl.type).size≠0)(b o:Nat):(fieldPlace ⟨b,o,N⟩ fl).run P w=.ok ⟨b,o+fl.offset,N⟩ w:=by
 unfold fieldPlace;rw[Sem.run_bind,bN (hT _ U)];simp[Y,eb]
def sI(hT:bp P G){t f:Nat}{K:AV->Prop}{k:Box K}(h:iV G t f s x k)(hv:ag O β s.gen s.obj w x v):
  ∃y Z,K y/\(∀w',Ext w w'->(Instr.fieldAt t v f).run P w'=.ok Z w')/\ag O β s.gen s.obj w y Z:=by
 unfold iV at h;split at h
 .rename_i id g c
  obtain⟨m,ho,h⟩:=h;obtain⟨fl,e,⟨U,Y⟩,J⟩:=aQ h;obtain⟨fs,hd,i⟩:=oU e;have d:=(hT t W6).desc;rw[hd]at d;simp only[ag,aD]at hv;obtain⟨ad,H,b2,rfl⟩:=hv.2.2 m ho;refine⟨_,.pointer (S ⟨ad.block,ad.off+c+fl.offset,N⟩),J,λw' _=>?_,?_⟩
  .simp[Instr.fieldAt,run_underlying d,i,Instr.sureAddr,oV hT U Y]
  .exact T9
 .rename_i r
  obtain⟨fl,e,⟨U,Y⟩,J⟩:=aQ h;obtain⟨fs,hd,i⟩:=oU e;have d:=(hT t W6).desc;rw[hd]at d;simp only[ag,aD]at hv;cases hv with
  |iptr p n q an=>
    rename_i b c;refine⟨_,.pointer (S ⟨b,c+fl.offset,N⟩),J,λw' _=>?_,?_⟩
    .simp[Instr.fieldAt,run_underlying d,i,Instr.sureAddr,oV hT U Y]
    .simp only[ag,aD]
     refine .iptr (λj=>p (fl.offset+j)) (λbl=>n (by rintro rfl;simp at bl)) (λj x I=>?_) (λj x I=>an _ x (by rw[G6]at I;exact I));rw[G6]at I;rw[C7];exact q _ x I
 .exact Ub
def mz.part{cs:List C}{vs:Array Value}(h:mz O β g ob w cs vs){o n:Nat}(e:o+n<=z cs):ag O β g ob w (.agg ((cs.drop o).take n)) (.agg (vs.extract o (o+n))):=by
 simp only[ag];refine⟨_,rfl,by simp[h.1];omega,λi c b=>?_⟩;rw[Hl]at b;split at b
 .rename_i f
  rw[G6]at b;obtain⟨u,d,V⟩:=h.2 _ c b;refine⟨u,?_,V⟩;rw[Array.getElem?_extract];have:i<min (o+n) vs.size-o:=by rw[h.1];omega
  rw[l7 this];exact d
 .cases b
def yJ(hT:bp P G){t f:Nat}{K:AV->Prop}{k:Box K}(h:sw G t f x k)(d:ag O β s.gen s.obj w x v):
  ∃y Z,K y/\(∀w',Ext w w'->(Instr.field t v f).run P w'=.ok Z w')/\ag O β s.gen s.obj w y Z:=by
 unfold sw at h;split at h
 .rename_i n
  obtain⟨fl,j,U,h⟩:=aQ h;obtain⟨fs,hd,i⟩:=oU j;have b:=(hT t W6).desc;rw[hd]at b;have bk:=hT _ U;simp only[ag]at d;obtain⟨vs,rfl,bz⟩:=d;unfold zR at h;split at h
  .rename_i e
   refine⟨_,_,h.2,λw' _=>?_,mz.part bz h.1⟩;simp[Instr.field,run_underlying b,i,asAgg,part,pK bk,e,bN bk]
  .rename_i e
   obtain⟨c,m,J⟩:=aQ h;obtain⟨u,p,V⟩:=bz.2 _ c m;refine⟨_,u,J,λw' _=>?_,by simpa only[ag]using V⟩;simp[Instr.field,run_underlying b,i,asAgg,part,pK bk,e,p]
 .exact Ub
def uD{ox:Operand}(ho:o.op=.nilCheck ox){K:AV->Prop}{k:Box K}(h:jK s x k)(b:ag O β s.gen s.obj w x (a.eval ox)):
  ∃y Z,K y/\(∀w',Ext w w'->(execOp a.eval o).run P w'=.ok (.value Z) w')/\ag O β s.gen s.obj w y Z:=by
 have d:=b;unfold jK at h;split at h
 .obtain⟨c,e,J⟩:=h
  simp only[ag,aD]at b;obtain⟨i,H,j,f⟩:=b.2.2 c e;exact⟨_,_,J,λw' _=>by simp[execOp,ho,f],d⟩
 .simp only[ag,aD]at b
  generalize c:a.eval ox=v at b;cases b with
  |iptr p m n an=>exact⟨_,.pointer (S ⟨_,_,N⟩),h,λw' _=>by simp[execOp,ho,c];exact⟨rfl,rfl⟩,by rw[c]at d;exact d⟩
 .exact Ub
def aO.get{g:Nat->Nat}{ob:Obs}:∀{A:List AV}{vs:List Value}{i:Nat}{t:AV},aO O β g ob w A vs->A[i]?=S t->∃v,vs[i]?=S v/\ag O β g ob w t v
 |[],_,_,_,_,h=>by simp at h
 |x::A,vs,i,t,h,hi=>by
   simp only[aO]at h;obtain⟨u,b,rfl,U,Y⟩:=h;cases i with
   |zero=>simp at hi;subst hi;exact⟨u,rfl,U⟩
   |succ i=>simpa using aO.get Y Xv
def rC(hT:bp P G){an:Sp}(V:Rel O av s β a w)(hp:eS G o.op=T)(h:opA an G o s k):
  ∃y Z,K (s.put o.dst y)/\(∀w',Ext w w'->(execOp a.eval o).run P w'=.ok (.value Z) w')/\ag O β s.gen s.obj w y Z:=by
 obtain⟨dst,op,ty,ps,H,gd⟩:=o;cases op with
 |move x=>exact⟨_,_,h,λ_ _=>rfl,V.ev x⟩
 |assign x=>exact⟨_,_,h,λ_ _=>rfl,V.ev x⟩
 |pick c x y=>
   obtain⟨b,hb,J⟩:=qz h (V.ev c);refine⟨_,if b then a.eval x else a.eval y,J,λw' _=>?_,?_⟩
   .simp[execOp,hb,asBool]
   .cases b
    .exact V.ev y
    .exact V.ev x
 |load t x=>
   obtain⟨y,Z,U,Y,h3⟩:=tT hT V h (V.ev x);exact Uf
 |indexAddr t x L=>
   have h:(bif og (G t).desc then mu G (G t).desc s (s.ev x) (s.ev L) (bx λv=>K (s.put dst v))else dQ G t=T/\iU s (bq G t).size (s.ev x) (s.ev L) (bx λv=>K (s.put dst v))):=by cases x<;>first|exact h|(simp[eS]at hp;done)
   cases ha:og (G t).desc with
   |true=>
     rw[ha,T1]at h;obtain⟨y,Z,U,Y,h3⟩:=vt hT h (V.ev x) (V.ev L);exact Uf
   |false=>
     rw[ha,TZ]at h;obtain⟨y,Z,U,Y,h3⟩:=sB hT h.1 h.2 (V.ev x) (V.ev L);exact Uf
 |index t x L=>
   have hu:=(hT t (by rw[iI h.1];rfl)).desc;rw[iI h.1]at hu;obtain⟨y,Z,U,Y,h3⟩:=yB (s:=s) hu h.2 (V.ev x) (V.ev L);exact Uf
 |binOp bo t x y u=>
   obtain⟨X,Z,U,Y,h3⟩:=CI hT h (V.ev x) (V.ev y) x y;refine⟨X,Z,U,λw' b0=>?_,h3⟩;simp only[execOp];rw[Sem.run_bind,Y w' b0];rfl
 |unOp uo t x=>
   have h:unA uo (s.ev x) (bx λv=>K (s.put dst v)):=h;obtain⟨X,Z,U,Y,h3⟩:=FN (P:=P) h (V.ev x);exact p9
 |convert t u x=>
   have q:isSlice (G u).desc=F:=by simpa[eS]using hp
   have h:(bif isSlice (G u).desc then na G t u an.base dst s (s.ev x) k else tP s (bq G t).desc (G t).desc (G u).desc (s.ev x) (bx λv=>K (s.put dst v))):=h;rw[q,TZ]at h;obtain⟨X,Z,U,Y,h3⟩:=Au hT V h (V.ev x);exact p9
 |slice t x lo hi mx=>
   cases mx with
   |some _=>simp[eS]at hp
   |none=>
     have e1:yF O β s.gen s.obj w (lo.map s.ev) (lo.map a.eval):=by cases lo;exact .none;exact .some (V.ev _)
     have e2:yF O β s.gen s.obj w (hi.map s.ev) (hi.map a.eval):=by cases hi;exact .none;exact .some (V.ev _)
     have h:(bif og (G t).desc then mv G (G t).desc s (s.ev x) (lo.map s.ev) (hi.map s.ev) (bx λv=>K (s.put dst v))else oh s (isStr (G t).desc) (dQ G t) (bq G t).size (s.ev x) (lo.map s.ev) (hi.map s.ev) (bx λv=>K (s.put dst v))):=h;cases ha:og (G t).desc with
     |true=>
       rw[ha,T1]at h
       obtain⟨X,Z,U,Y,h3⟩:=uB hT (λid cs ad U Y h3 arr el fr h4=>by
        have h5:=V.obj id cs U;rw[Y]at h5;obtain⟨_,b1,r,_,_,h6,_,h7,_⟩:=h5.cells h3;rw[h4]at h6;cases h6;exact h7) h (V.ev x) e1 e2
       exact p9
     |false=>
       rw[ha,TZ]at h;obtain⟨X,Z,U,Y,h3⟩:=yG hT h (V.ev x) e1 e2;exact p9
 |fieldAddr t x f=>
   have h:iV G t f s (s.ev x) (bx λv=>K (s.put dst v)):=h;obtain⟨X,Z,U,Y,h3⟩:=sI hT h (V.ev x);exact p9
 |field t x f=>
   have h:sw G t f (s.ev x) (bx λv=>K (s.put dst v)):=h;obtain⟨X,Z,U,Y,h3⟩:=yJ hT h (V.ev x);exact p9
 |lookup t x L ok=>
   have h:mZ G t s (s.ev x) (s.ev L) ok (bx λv=>K (s.put dst v)):=h;obtain⟨X,Z,U,Y,h3⟩:=wU hT V h (V.ev x) (V.ev L);exact p9
 |makeFunc fn first bf=>
   cases fn with
   |func f=>
     have h:jM f (first.toList.map s.ev) (bf.toList.map s.ev) (bx λv=>K (s.put dst v)):=h;obtain⟨X,Z,U,Y,h3⟩:=uA (P:=P) V h;exact p9
   |_=>simp[eS]at hp
 |nilCheck x=>
   have h:jK s (s.ev x) (bx λv=>K (s.put dst v)):=h;exact uD rfl h (V.ev x)
 |extract x i=>
   have h:oq (s.ev x) i (bx λv=>K (s.put dst v)):=h;have I:=V.ev x;unfold oq at h;split at h
   .rename_i A he
    obtain⟨t,ht,J⟩:=aQ h;rw[he]at I;simp only[ag]at I;obtain⟨vs,hv,bz⟩:=I;obtain⟨v,c1,m⟩:=bz.get ht;exact⟨_,v,J,λw' _=>by simp[execOp,hv,Instr.extract,c1],m⟩
   .exact Ub
 |build t ps=>
   have h:fK G t (ps.toList.map λp=>(p.1,s.ev p.2)) (bx λv=>K (s.put dst v)):=h;obtain⟨b7,h⟩:=h
   obtain bd:(∃fs,(G t).desc=.struct fs/\∀f∈fs.toList,okD (G f.type).desc=T)\/∃n e,(G t).desc=.array n e/\okD (G e).desc=T:=by
    unfold iz at b7;split at b7
    .rename_i fs hq;exact .inl ⟨fs,hq,x7.1 b7⟩
    .rename_i n e hq;exact .inr ⟨n,e,hq,b7⟩
    .cases b7
   have bk:=hT t (by rcases bd with⟨_,hd,_⟩|⟨_,_,hd,_⟩<;>rw[hd]<;>rfl);have hu:=bk.desc;obtain⟨c2,hi,bc,cy,X,hz,cx⟩:=bk.info
   have bl:bL O β s w ((G t).zero.map .d) X.cells.toList:=by
    refine⟨by rw[cx];simp,λj c hc=>?_⟩;rw[cx];rw[y7]at hc|-;cases hq:(G t).zero[j]? with
    |none=>rw[hq]at hc;cases hc
    |some x=>
      exact w5
   obtain⟨cells,g,J,hf,hc⟩:=tX V ps.toList bl h;refine⟨_,.agg g,J,λw' _=>?_,by simp only[ag];exact⟨_,rfl,by simpa using hc.1,λi c hi=>by simpa using hc.2 i c hi⟩⟩;have b2:(ps.map λx=>(x.1,a.eval x.2))=(ps.toList.map λp=>(p.1,a.eval p.2)).toArray:=H6 a8;simp only[execOp,Sem.run_bind];rw[show (ps.map λ(i,x)=>(i,a.eval x))=(ps.toList.map λp=>(p.1,a.eval p.2)).toArray from b2];unfold Instr.build;rcases bd with⟨fs,hd,bs⟩|⟨n,e,hd,B⟩
   .rw[hd]at hu
    have dk:∀l:List Field,(∀f∈l,okD (G f.type).desc=T)->(l.mapM λf=>do pure (f.offset,<-sizeOf f.type):Sem (List (Nat×Nat))).run P w'=.ok (l.map λf=>(f.offset,(G f.type).size)) w':=by
     intro l
     induction l with
     |nil=>intro _;simp
     |cons f l ih=>
       intro h;have hf:=bN (P:=P) (w:=w') (hT _ (h f a8));simp only[OA,Sem.run_bind,hf,Result.andThen_ok,Sem.run_pure,ih (λf hf=>h f (by simp[hf])),l9]
    have a1:(λi=>((fs.toList.map λf=>(f.offset,(G f.type).size)).toArray)[i]?)=placeOf G (G t).desc:=by
     funext i;rw[hd];simp only[placeOf,kI,z6,y7,G8];cases hq:fs[i]? with
     |none=>rfl
     |some fl=>
       have:okD (G fl.type).desc=T:=bs fl (by have:=Ta hq;simpa using this);simp[this]
    simp only[Sem.run_bind,zeroValue,typeInfo,run_program,Sem.run_pure,Result.andThen_ok,hi,hz,run_underlying hu];have hm:=dk fs.toList bs;rw[<-Array.toArray_toList (xs:=fs),R3,Sem.run_map,hm];simp only[Result.andThen_ok];rw[a1,hf];simp
   .rw[hd]at hu
    have b3:=bN (P:=P) (w:=w') (hT e B)
    have a1:(λi=>S (i*(G e).size,(G e).size))=placeOf G (G t).desc:=by
     funext i;rw[hd];rfl
    simp only[Sem.run_bind,zeroValue,typeInfo,run_program,Sem.run_pure,Result.andThen_ok,hi,hz,run_underlying hu,b3];rw[a1,hf];simp
 |call c=>
   simp only[eS]at hp;split at hp
   .rename_i hc
    obtain⟨callee,args,tys⟩:=c;simp only at hc;subst hc;have h:(args.size=1/\tys.size=1)/\zS s (isStr (G (tys.getD 0 0)).desc) (dQ G (tys.getD 0 0)) (s.ev (args.getD 0 (.const .nilFunc))) (bx λv=>K (s.put dst v)):=h;obtain⟨⟨ha,ht⟩,h⟩:=h;obtain⟨X,Z,U,Y,h3⟩:=CJ (ty:=ty) hT h (V.ev (args.getD 0 (.const .nilFunc)));refine⟨X,Z,U,λw' b0=>?_,h3⟩;have Y:=Y w' b0;rw[Ep ha (.const .nilFunc),Ep ht 0];generalize args.getD 0 (.const .nilFunc)=x0 at *;generalize tys.getD 0 0=t0 at *;simp[execOp,resolve,invoke,builtin,Y]
   .rename_i hc
    obtain⟨callee,args,tys⟩:=c;simp only at hc;subst hc;have h:args.size=2/\mxA T (s.ev (args.getD 0 (.const .nilFunc))) (s.ev (args.getD 1 (.const .nilFunc))) (bx λv=>K (s.put dst v)):=h;obtain⟨ha,h⟩:=h;rw[uO ha (.const .nilFunc)];generalize args.getD 0 (.const .nilFunc)=x0 at *;generalize args.getD 1 (.const .nilFunc)=x1 at *;have W:=V.ev x0;have e1:=V.ev x1;unfold mxA at h;split at h
    .rename_i k1 Q k2 n2 E c6
     rw[E]at W;rw[c6]at e1;simp only[ag,aD]at W e1;have W:=W.inv_int;have e1:=e1.inv_int;refine⟨_,.int k1 (max Q n2),h,λw' _=>?_,by simp only[ag,aD];exact .int _ _⟩;simp[execOp,resolve,invoke,builtin,Builtin.max_,Builtin.max2,W,e1];omega
    .exact Ub
   .rename_i hc
    obtain⟨callee,args,tys⟩:=c;simp only at hc;subst hc;have h:args.size=2/\mxA F (s.ev (args.getD 0 (.const .nilFunc))) (s.ev (args.getD 1 (.const .nilFunc))) (bx λv=>K (s.put dst v)):=h;obtain⟨ha,h⟩:=h;rw[uO ha (.const .nilFunc)];generalize args.getD 0 (.const .nilFunc)=x0 at *;generalize args.getD 1 (.const .nilFunc)=x1 at *;have W:=V.ev x0;have e1:=V.ev x1;unfold mxA at h;split at h
    .rename_i k1 Q k2 n2 E c6
     rw[E]at W;rw[c6]at e1;simp only[ag,aD]at W e1;have W:=W.inv_int;have e1:=e1.inv_int;refine⟨_,.int k1 (min Q n2),h,λw' _=>?_,by simp only[ag,aD];exact .int _ _⟩;simp[execOp,resolve,invoke,builtin,Builtin.min_,Builtin.min2,W,e1];omega
    .exact Ub
   .cases hp
 |_=>simp[eS]at hp
def mI(hT:bp P G)(V:Rel O av s β a w)(hd:∀d,o.dst=S d->d<av)(h:opA (spB P B) G o s k)
(hn:∀s' E W w',K s'->Rel O av s' E W w'->Tr O β s w E s' w'->next W w'):o.wp P a w next Q:=by
 by_cases A:eS G o.op=T
 .obtain⟨y,Z,U,Y,h3⟩:=rC hT V A h
  exact fh (Y w .refl) (hn _ _ _ _ U (V.put hd h3) (Tr.same (St.put_gen _ _ _) (St.put_obj _ _ _) rfl))
 .have e:bu (spB P B) o s k->o.wp P a w next Q:=λ⟨R,hR,J⟩=>hR O av β a w V hd next Q (λs' E W w' hs=>hn s' E W w' (J s' hs))
  obtain⟨dst,op,ty,ps,H,gd⟩:=o;cases op with
  |store t x y=>
    have h:qx (G t) s (s.ev x) (s.ev y) (bx λs'=>K (s'.put dst uv)):=h;obtain⟨s',w',U,Y,h3,h4⟩:=rz hT V h (V.ev x) (V.ev y);refine vB (w':=w') (by simp[execOp,Y]) (hn _ _ _ _ U (h3.put hd cL) (h4.trans (Tr.same (St.put_gen _ _ _) (St.put_obj _ _ _) rfl)))
  |buildSlice t n p=>
    cases dst with
    |none=>exact e h
    |some d=>
      have h:dQ G t=T/\kf (aZ G t) (bq G t).size (B+d) d n s (p.toList.map λp=>(p.1,s.ev p.2)) k:=h;obtain⟨s',E,w',Z,U,Y,h3,h4⟩:=rB hT V h.1 (hd d rfl) h.2;refine fh ?_ (hn _ _ _ _ U h3 h4);have:(p.map λx=>(x.1,a.eval x.2))=(p.toList.map λp=>(p.1,a.eval p.2)).toArray:=H6 a8;simp only[execOp,Sem.run_bind];rw[show (p.map λ(i,x)=>(i,a.eval x))=(p.toList.map λp=>(p.1,a.eval p.2)).toArray from this,Y];rfl
  |box t x=>
    cases dst with
    |none=>exact e h
    |some d=>
      have h:Lj t (B+d) d s (s.ev x) k:=h;obtain⟨cs,ca,J⟩:=aQ h;obtain⟨vs,e1,e2,e3,e4⟩:=ag.cells ca (V.ev x);obtain⟨I,r2⟩:=HP V (B+d) d (hd d rfl) (el:=t) (cs:=cs) (arr:=vs.toArray) ⟨by simpa using e2,λj c hc=>by simpa using e3 j c hc⟩;exact fh (by simp[execOp,Instr.box,newVar,newRow,e1]) (hn _ _ _ _ J I r2)
  |alloc t=>
    cases dst with
    |none=>exact e h
    |some d=>
      have h:yr t (G t) (B+d) d s k:=h;obtain⟨bd,J⟩:=h;have bk:=hT t bd;obtain⟨c2,hi,bc,cy,X,hz,cx⟩:=bk.info
      have bl:bL O β s w ((G t).zero.map .d) X.cells.toList:=by
       refine⟨by rw[cx];simp,λj c hc=>?_⟩;rw[cx];rw[y7]at hc|-;cases hq:(G t).zero[j]? with
       |none=>rw[hq]at hc;cases hc
       |some x=>
         exact w5
      obtain⟨I,r2⟩:=HP V (B+d) d (hd d rfl) (el:=t) bl;exact fh (by simp[execOp,Instr.alloc,newVar,newRow,zeroValue,typeInfo,hi,hz]) (hn _ _ _ _ J I r2)
  |makeSlice t l c=>
    cases dst with
    |none=>exact e h
    |some d=>
      have h:dQ G t=T/\jL (aZ G t) (bq G t) (B+d) d s (s.ev l) (s.ev c) k:=h;obtain⟨s',E,w',Z,U,Y,h3,h4⟩:=sH hT V h.1 (hd d rfl) h.2 (V.ev l) (V.ev c);exact V8
  |call c=>
    obtain⟨callee,args,tys⟩:=c;cases callee with
    |value f=>exact e h
    |invoke r m=>exact e h
    |builtin b=>
      cases b
      case append=>
       cases dst with
       |none=>exact e h
       |some d=>
         have h:(args.size=2/\tys.size=2)/\dQ G (tys.getD 0 0)=T/\mW (aZ G (tys.getD 0 0)) (bq G (tys.getD 0 0)) (isStr (G (tys.getD 1 0)).desc) (dQ G (tys.getD 1 0)) (B+d) d s (s.ev (args.getD 0 (.const .nilFunc))) (s.ev (args.getD 1 (.const .nilFunc))) k:=h;obtain⟨⟨ha,ht⟩,cd,h⟩:=h;obtain⟨s',E,w',Z,U,Y,h3,h4⟩:=xb hT V cd (hd d rfl) h (V.ev _) (V.ev _) ty;refine fh ?_ (hn _ _ _ _ U h3 h4);rw[uO ha (.const .nilFunc),uO ht 0];generalize args.getD 0 (.const .nilFunc)=x0 at *;generalize tys.getD 0 0=t0 at *;generalize args.getD 1 (.const .nilFunc)=x1 at *;generalize tys.getD 1 0=t1 at *;simp[execOp,resolve,invoke,builtin,Y]
      case len=>exact absurd rfl A
      case max=>exact absurd rfl A
      case min=>exact absurd rfl A
      all_goals exact e h
  |slice t x lo hi mx=>
    cases mx with
    |none=>exact absurd rfl A
    |some m=>exact e h
  |lookup=>exact absurd rfl A
  |makeFunc fn first bf=>
    cases fn with
    |func f=>exact absurd rfl A
    |_=>exact e h
  |makeMap t res=>
    cases res with
    |some _=>exact e h
    |none=>
      cases dst with
      |none=>exact e h
      |some d=>
        have h:mw G t (B+d) d s k:=h;obtain⟨s',E,w',Z,U,Y,h3,h4⟩:=vy (P:=P) V (hd d rfl) h;exact V8
  |mapUpdate t m L x=>
    have h:eR G t s (s.ev m) (s.ev L) (s.ev x) (bx λs'=>K (s'.put dst uv)):=h;obtain⟨s',w',U,Y,h3,h4⟩:=mH hT V h (V.ev m) (V.ev L) (V.ev x);exact vB (w':=w') (by simp[execOp,Y]) (hn _ _ _ _ U (h3.put hd cL) (h4.trans (Tr.same (St.put_gen _ _ _) (St.put_obj _ _ _) rfl)))
  |move=>exact absurd rfl A
  |assign=>exact absurd rfl A
  |pick=>exact absurd rfl A
  |load=>exact absurd rfl A
  |indexAddr t x L=>cases x<;>first|exact e h|exact absurd rfl A
  |index=>exact absurd rfl A
  |binOp=>exact absurd rfl A
  |unOp=>exact absurd rfl A
  |convert t u x=>
    have q:isSlice (G u).desc=T:=by simpa[eS]using A
    have h:(bif isSlice (G u).desc then na G t u B dst s (s.ev x) k else tP s (bq G t).desc (G t).desc (G u).desc (s.ev x) (bx λv=>K (s.put dst v))):=h;rw[q,T1]at h;obtain⟨s',E,w',Z,U,Y,h3,h4⟩:=xa hT V hd h (V.ev x);exact V8
  |fieldAddr=>exact absurd rfl A
  |field=>exact absurd rfl A
  |build=>exact absurd rfl A
  |nilCheck=>exact absurd rfl A
  |extract=>exact absurd rfl A
  |_=>exact e h
def kh(h:fP av (o::l)=T):(∀d,o.dst=S d->d<av)/\fP av l=T:=by
 simp only[fP,C4,l4]at h|-;refine⟨λd hd=>?_,h.2⟩;have:=h.1;rw[hd]at this;exact Um
def ag.inv_bool{g:Nat->Nat}{ob:Obs}{b:Bool}{v:Value}(h:ag O β g ob w (bv b) v):v=.bool b:=by
 simp only[ag,aD]at h;exact h.inv_bool
def ag.inv_uv(h:ag O β g ob w uv v):v=undef:=by
 simp only[ag,aO]at h;obtain⟨vs,rfl,rfl⟩:=h;rfl
def Rel.reput(V:Rel O av s β a w){d:Nat}(I:s.f d=x):Rel O av {s with f:=upd s.f d x} β a w:=by
 have:upd s.f d x=s.f:=by funext j;simp only[upd];split<;>simp_all
 rw[this];exact V
def Rel.yielded{av:Nat}{s:St}{a:Act}(V:Rel O av s β a w){ops:Array Oper}{j d:Nat}(e:(ops[j]?).bind (·.dst)=S d){b:Bool}(I:s.f d=bv b):Go.yielded ops a.tmps j=S b:=by
 have c:=V.f d;rw[I]at c;have c:=c.inv_bool;unfold Go.yielded;rw[e];simp only[I8];rw[x8]at c;cases h:a.tmps[d]? with
 |none=>rw[h]at c;simp[undef]at c
 |some v=>rw[h]at c;simp at c;rw[c]
def Rel.yielded_u(V:Rel O av s β a w){j d:Nat}(c:(ops[j]?).bind (·.dst)=S d)(I:s.f d=uv):Go.yielded ops a.tmps j=N:=by
 have b:=V.f d;rw[I]at b;have b:=b.inv_uv;unfold Go.yielded;rw[c];simp only[I8];rw[x8]at b;cases h:a.tmps[d]? with
 |none=>rfl
 |some v=>rw[h]at b;simp at b;rw[b];rfl
def kX(hT:bp P G){av:Nat}{ops:Array Oper}{Q:Exit->Act->World->Prop}{K:St->Prop}{k:Box K}:∀(l:List Oper){s:St}{β:Loc}{a:Act}{w:World},Rel O av s β a w->fP av l=T->wpO (spB P B) G ops l s k->
  (∀s' E W w',K s'->Rel O av s' E W w'->Tr O β s w E s' w'->Q .normal W w')->wpList P ops Q l a w
 |[],s,β,a,w,V,_,h,hQ=>hQ s β a w h V Tr.refl
 |o::rest,s,β,a,w,V,i,h,hQ=>by
   obtain⟨hd,g⟩:=kh i;unfold wpO at h;unfold wpList;cases hg:o.guard with
   |none=>
     rw[hg]at h;simp only at h;rw[l7 (by simp[Region.wanted,hg])];exact .inl (mI hT V hd h (λs' E W w' U Y c=>kX hT rest Y g U (λs2 bl a2 w2 k1 k2 k3=>hQ _ _ _ _ k1 k2 (c.trans k3))))
   |some p=>
     obtain⟨j,t⟩:=p;rw[hg]at h;simp only at h;obtain⟨d,f,h⟩:=aQ h;unfold mV at h;split at h
     .rename_i b e
      have hy:=V.yielded f e;have h:=jQ h;have bk:=V.reput e;by_cases hw:b=t
      .rw[l7 hw]at h
       rw[l7 WT];exact .inl (mI hT bk hd h (λs' E W w' U Y c=>kX hT rest Y g U (λs2 bl a2 w2 k1 k2 k3=>hQ _ _ _ _ k1 k2 (Tr.trans ⟨c.size,c.old,c.keep,c.os⟩ k3))))
      .rw[j8 hw]at h
       rw[j8 WT];have hp:=bk.put hd (x:=uv) (v:=undef) cL;exact Uj
     .rename_i e
      have hy:=V.yielded_u f e;rw[j8 Xo];have hp:=V.put hd (x:=uv) (v:=undef) cL;exact Uj
     .exact Ub
def iJ(hT:bp P G){av:Nat}{ops:Array Oper}{Q:Act->Prop}{K:St->Prop}{k:Box K}(c:List Oper):∀(l:List Oper){s:St}{a:Act},Rel O av s β a w->fP av l=T->l.all (eS G ·.op)=T->wpO (spB P B) G ops (l++c) s k->
  (∀s' W,wpO (spB P B) G ops c s' k->Rel O av s' β W w->Tr O β s w β s' w->Q W)->wpStill P ops w Q l a
 |[],s,a,V,_,_,h,hQ=>hQ s a h V Tr.refl
 |o::rest,s,a,V,n,hp,h,hQ=>by
   obtain⟨hd,g⟩:=kh n;simp only[C4,l4]at hp;rw[u7]at h;unfold wpO at h;unfold wpStill
   have u:∀{e:St},Rel O av e β a w->Tr O β s w β e w->opA (spB P B) G o e (bx λs'=>wpO (spB P B) G ops (rest++c) s' k)->o.still P a w (wpStill P ops w Q rest):=λ{e}i r A=>by
    obtain⟨y,Z,U,Y,E⟩:=rC hT i hp.1 A;unfold Oper.still;rw[Y w .refl];refine⟨rfl,iJ hT c rest (i.put hd E) g hp.2 U (λs' W k1 k2 k3=>hQ s' W k1 k2 (r.trans (Tr.trans (Tr.same (St.put_gen _ _ _) (St.put_obj _ _ _) rfl) k3)))⟩
   cases hg:o.guard with
   |none=>
     exact U3
   |some p=>
     obtain⟨j,t⟩:=p;rw[hg]at h;simp only at h;obtain⟨d,m,h⟩:=aQ h;unfold mV at h;split at h
     .rename_i b f
      have hy:=V.yielded m f;have h:=jQ h;have bk:=V.reput f;by_cases hw:b=t
      .exact UH
      .rw[j8 hw]at h
       rw[j8 WT];have L:=bk.put hd (x:=uv) (v:=undef) cL;exact Uq
     .rename_i f
      have hy:=V.yielded_u m f;rw[j8 Xo];have L:=V.put hd (x:=uv) (v:=undef) cL;exact Uq
     .exact Ub
def tY(h:fP av l=T)(n:Nat):fP av (l.take n)=T/\fP av (l.drop n)=T:=by
 unfold fP at *;rw[x7]at h;exact⟨x7.2 λx I=>h x (N0 I),x7.2 λx I=>h x (J7 I)⟩
def Aw(hT:bp P G)(V:Rel O av s β a w)(hd:fP av l=T)(h:wpO (spB P B) G ops l s k)
 (c:∀b E W w',K b->Rel O av b E W w'->Tr O β s w E b w'->Q .normal W w'):wpList P ops Q l a w:=kX hT l V hd h c
def rD(hT:bp P G)(m:P.follows .mixedOrders=T){av id:Nat}(V:Rel O av s β a w)(hd:fP av ops.toList=T)(p:ow G ops=T)
 (h:wpO (spB P B) G ops ops.toList s k)(r:∀s' E W w',K s'->Rel O av s' E W w'->Tr O β s w E s' w'->Q .normal W w'):(Code.region id ops T).wp P Q a w:=by
 have t:Rel O av s β a {w with drawn:=w.drawn+1}:=V.of_heap rfl;have u:Tr O β s w β s {w with drawn:=w.drawn+1}:=Tr.same rfl rfl rfl;simp only[ow,F3,l4,O6]at p;rcases p with⟨e,hB⟩|⟨n,_,e,hB⟩
 .refine wp_region_still m hB (iJ hT [] ops.toList t hd e (by rw[s5];exact h) (λs' W f i j=>r _ _ _ _ f i (u.trans j)))
 .have hl:=wp_region_still_tail (P:=P) (id:=id) (Q:=Q) (a:=a) (w:=w) (l:=ops.toList) (ops.size-n) m (by simpa using hB) ?_
  .simpa using hl
  .obtain⟨d1,y⟩:=tY hd (ops.size-n)
   refine iJ hT (ops.toList.drop (ops.size-n)) (ops.toList.take (ops.size-n)) t d1 e (by rw[F9];simpa using h) (λs' W f i j=>?_);exact Aw hT i y f (λA bl H I b c d=>r _ _ _ _ b c (u.trans (j.trans d)))
def Ga(O:Bs)(av:Nat)(β:Loc)(s:St)(w:World)(Q:Exit->St->Prop)(e:Exit)(W:Act)(w':World):Prop:=∃b E,Q e b/\Rel O av b E W w'/\Tr O β s w E b w'
def Ga.of{s d:St}{j:Loc}{P:World}{Q c:Exit->St->Prop}{e:Exit}{W:Act}(f:Tr O β s w j d P)(h:Ga O av j d P Q e W w')(i:∀b,Q e b->c e b):Ga O av β s w c e W w':=
 let ⟨b,E,U,Y,m⟩:=h
 ⟨b,E,i _ U,Y,f.trans m⟩
def fe(hT:bp P G)(r:P.follows .mixedOrders=T){av:Nat}:∀(c:Code){Q:Exit->St->Prop}{q:Box Q}{s:St}{β:Loc}{a:Act}{w:World},codeOk av c=T->Rel O av s β a w->wpC (spB P B) G c q s->c.wp P (Ga O av β s w Q) a w
 |.skip,_,_,s,β,_,_,_,V,h=>wp_skip ⟨s,β,h,V,Tr.refl⟩
 |.label _,_,_,s,β,_,_,_,V,h=>wp_label ⟨s,β,h,V,Tr.refl⟩
 |.exit _,_,_,s,β,_,_,_,V,h=>wp_exit ⟨s,β,h,V,Tr.refl⟩
 |.goto _,_,_,s,β,_,_,_,V,h=>wp_goto ⟨s,β,h,V,Tr.refl⟩
 |.ret,_,_,s,β,_,_,_,V,h=>wp_ret ⟨s,β,h,V,Tr.refl⟩
 |.region id ops b,Q,q,s,β,a,w,hc,V,h=>by
   cases b with
   |false=>
     have h:wpO (spB P B) G ops ops.toList s (bx λs'=>Q .normal s'):=h;refine wp_region ?_;have:=wpOps_eq_wpList (P:=P) (ops:=ops) (Q:=Ga O av β s w Q) ops.toList 0 a8;rw[<-PA,N6]at this;rw[this];exact kX hT ops.toList V hc h (λs' E W w' U Y h3=>⟨s',E,U,Y,h3⟩)
   |true=>
     rcases h with⟨bd,h⟩|⟨R,hR,J⟩
     .exact rD hT r V hc bd h (λs' E W w' U Y h3=>⟨s',E,U,Y,h3⟩)
     .exact S6
 |.seq x y,Q,q,s,β,a,w,hc,V,h=>by
   simp only[codeOk,l4]at hc;have h:wpC (spB P B) G x (bx (lj (bx λs'=>wpC (spB P B) G y q s') q)) s:=h;refine wp_seq (wp_mono (fe hT r x hc.1 V h) (λe W w' j=>?_));obtain⟨s',E,U,Y,h3⟩:=j;cases e with
   |normal=>exact wp_mono (fe hT r y hc.2 Y U) (λe A L j=>Ga.of h3 j (λ_ h=>h))
   |_=>exact⟨s',E,U,Y,h3⟩
 |.cond c x y,Q,q,s,β,a,w,hc,V,h=>by
   simp only[codeOk,l4]at hc;obtain⟨b,hb,h⟩:=qz h (V.ev c);refine wp_cond hb ?_;cases b
   .exact fe hT r y hc.2 V h
   .exact fe hT r x hc.1 V h
 |.block id c,Q,q,s,β,a,w,hc,V,h=>by
   have h:wpC (spB P B) G c (bx (jn id q)) s:=h;refine wp_block (wp_mono (fe hT r c hc V h) (λe W w' j=>?_));obtain⟨s',E,U,Y,h3⟩:=j;cases e with
   |exit i=>
     simp only[Exit.inBlock,jn]at U|-;split at U
     .rename_i t;rw[l7 t];exact⟨s',E,U,Y,h3⟩
     .rename_i t;rw[j8 t];exact⟨s',E,U,Y,h3⟩
   |_=>exact⟨s',E,U,Y,h3⟩
 |.scope c,Q,q,s,β,a,w,hc,V,h=>by
   have h:wpC (spB P B) G c (bx (rk q)) s:=h;refine wp_scope_straight (wp_mono (fe hT r c hc V h) (λe W w' j=>?_));obtain⟨s',E,U,Y,h3⟩:=j;cases e with
   |goto l=>exact U.elim
   |_=>exact⟨s',E,U,Y,h3⟩
 |.loop c,Q,q,s,β,a,w,hc,V,h=>by
   obtain⟨I,⟨n,d,bz,h0⟩,g⟩:=h;obtain⟨k,b2,u⟩:=bz O av β a w V;refine wp_loop_ghost (λn W w'=>∃s' E,I n s'/\Rel O av s' E W w'/\Tr O β s w E s' w') n ⟨d,k,h0,b2,u⟩ ?_;rintro n W w' ⟨s',E,U,Y,h3⟩;refine wp_mono (fe hT r c hc Y (g n s' U)) (λe A L j=>?_);obtain⟨s2,bl,X,Z,k3⟩:=j;cases e with
   |normal=>
     obtain⟨H,s3,af,m,hI⟩:=X;obtain⟨b0,bk,p⟩:=m O av bl A L Z;exact⟨H,af,s3,b0,hI,bk,h3.trans (k3.trans p)⟩
   |_=>exact⟨s2,bl,X,Z,h3.trans k3⟩
 |.rangeFunc f ps x y,Q,q,s,β,a,w,hc,V,h=>by
   obtain⟨R,hR,J⟩:=h;exact S6
 |.refuse y,Q,q,s,β,a,w,hc,V,h=>by
   obtain⟨R,hR,J⟩:=h;exact S6
end
end
end
section
section
def ir:D->D
 |.nsl=>.sl []
 |x=>x
inductive Frz (s:St):C->D->Prop where
 |d (x:D):Frz s (.d x) (ir x)
 |osl {id g sz off len:Nat}{cells:List C}{es:List (List D)} (hg:s.gen id=g) (ho:s.obj id=some cells) (b5:off+len*sz<=cells.length) (bf:es.length=len) (bc:∀e∈es,e.length=sz)
    (k:Nat->C) (hc:∀(j:Nat)(x:D),es.flatten[j]?=some x->cells[off+j]?=some (k j)) (hf:∀(j:Nat)(x:D),es.flatten[j]?=some x->Frz s (k j) x):Frz s (.osl id g sz off len) (.sl es)
def RVc(J:Nat->Prop)(w:World)(c:C)(v:Value):Prop:=∃x,c=.d x/\cr J w x v
mutual
def RV(J:Nat->Prop)(w:World):AV->Value->Prop
 |.one c,v=>RVc J w c v
 |.agg cs,v=>∃vs:Array Value,v=.agg vs/\vs.size=z cs/\∀(i:Nat)(c:C),cs[i]?=S c->∃u,vs[i]?=S u/\RVc J w c u
 |.tup A,v=>∃vs:List Value,v=.tuple vs.toArray/\RVs J w A vs
 |.junk,_=>False
 |.exact _,_=>False
def RVs(J:Nat->Prop)(w:World):List AV->List Value->Prop
 |[],vs=>vs=[]
 |t::A,vs=>∃u b,vs=u::b/\RV J w t u/\RVs J w A b
end
def yK(P:Program)(f:FuncId):Prop:=∃fn,P.funcs[f]?=S fn/\fn.body.isNone=F/\(fn.name == "runtime.NumGoroutine")=F
def aF(P:Program)(f:FuncId)(args:List AV)(R:AV->Prop):Prop:=
 yK P f/\∀(J:Nat->Prop)(w:World)(vs:List Value),(∀b,J b->b<w.heap.size)->RVs J w args vs->
  Calls P f vs.toArray w λe d=>∃v r,e=.returned v/\R r/\w.heap.size<=d.heap.size/\(∀b,b<w.heap.size->d.heap[b]?=w.heap[b]?)/\(d.os=w.os/\d.output=w.output)/\RV (λb=>b<d.heap.size/\(b<w.heap.size->J b)) d r v
def aF.mono{P:Program}{f:FuncId}{args:List AV}{R n:AV->Prop}(h:aF P f args R)(V:∀r,R r->n r):aF P f args n:=
 ⟨h.1,λJ w vs b d=>(h.2 J w vs b d).mono λ_ _⟨v,r,U,Y,e⟩=>⟨v,r,U,V r Y,e⟩⟩
variable{s:St}{a:Act}{c:C}{av:Nat}{f:FuncId}{g:Nat->Nat}{args:Array Operand}{tys:Array TypeId}{R:AV->Prop}
section
variable{P:Program}{G:Nat->TI}{O:Bs}{β:Loc}{w:World}
def RVc.mono{J m:Nat->Prop}{w w':World}{c:C}{v:Value}(h:RVc J w c v)(d:∀b,J b->m b/\w'.heap[b]?=w.heap[b]?):RVc m w' c v:=
 let ⟨x,U,Y⟩:=h
 ⟨x,U,Y.mono d⟩
mutual
theorem RV.mono{J m:Nat->Prop}{w w':World}(d:∀b,J b->m b/\w'.heap[b]?=w.heap[b]?):(x:AV)->{v:Value}->RV J w x v->RV m w' x v
 |.one _,_,h=>by simp only[RV]at h|-;exact RVc.mono h d
 |.agg _,_,h=>by
   simp only[RV]at h|-;obtain⟨vs,U,Y,e⟩:=h;exact⟨vs,U,Y,λi c j=>let ⟨u,hu,V⟩:=e i c j;⟨u,hu,V.mono d⟩⟩
 |.tup A,_,h=>by simp only[RV]at h|-;obtain⟨vs,U,Y⟩:=h;exact⟨vs,U,RVs.mono d A Y⟩
 |.junk,_,h=>by simp only[RV]at h
 |.exact _,_,h=>by simp only[RV]at h
theorem RVs.mono{J m:Nat->Prop}{w w':World}(d:∀b,J b->m b/\w'.heap[b]?=w.heap[b]?):(x:List AV)->{v:List Value}->RVs J w x v->RVs m w' x v
 |[],_,h=>by simp only[RVs]at h|-;exact h
 |t::A,_,h=>by simp only[RVs]at h|-;obtain⟨u,e,U,Y,i⟩:=h;exact⟨u,e,U,RV.mono d t Y,RVs.mono d A i⟩
end
def RVc.rep{ob:Obs}{v:Value}(h:RVc (Imm O β ob w) w c v):aD O β g ob w c v:=by
 obtain⟨x,rfl,I⟩:=h;exact I
mutual
theorem RV.rep{g:Nat->Nat}{ob:Obs}:(x:AV)->{v:Value}->RV (Imm O β ob w) w x v->ag O β g ob w x v
 |.one _,_,h=>by simp only[RV]at h;simp only[ag];exact RVc.rep h
 |.agg _,_,h=>by
   simp only[RV]at h;simp only[ag];obtain⟨vs,U,Y,b⟩:=h;exact⟨vs,U,Y,λi c d=>let ⟨u,hu,V⟩:=b i c d;⟨u,hu,V.rep⟩⟩
 |.tup A,_,h=>by simp only[RV]at h;simp only[ag];obtain⟨vs,U,Y⟩:=h;exact⟨vs,U,RVs.rep A Y⟩
 |.junk,_,h=>by simp only[RV]at h
 |.exact _,_,h=>by simp only[RV]at h
theorem RVs.rep{g:Nat->Nat}{ob:Obs}:(x:List AV)->{v:List Value}->RVs (Imm O β ob w) w x v->aO O β g ob w x v
 |[],_,h=>by simp only[RVs]at h;simp only[aO];exact h
 |t::A,_,h=>by simp only[RVs]at h;simp only[aO];obtain⟨u,b,U,Y,d⟩:=h;exact⟨u,b,U,RV.rep t Y,RVs.rep A d⟩
end
def Rel.grow(V:Rel O av s β a w){w':World}(k:w.heap.size<=w'.heap.size)(j:∀b,b<w.heap.size->w'.heap[b]?=w.heap[b]?)(q:w'.os=w.os/\w'.output=w.output):Rel O av s β a w'/\Tr O β s w β s w':=by
 have m:ft O β s.gen s.obj w β s.gen s.obj w':=⟨λb e=>⟨⟨by have:=e.1;omega,e.2.1,e.2.2⟩,j b e.1⟩,λ_=>l0 _,λid _ ho=>⟨ho,rfl,λW an arr el fr U=>by
  rw[j _ (CU V ho an)]at U;exact⟨arr,el,fr,U,l0 _⟩⟩⟩
 exact⟨⟨V.defers,V.size,λi=>ag.keep m _ (V.f i),λid d ho=>(V.obj id d ho).keep m (λW an=>j _ (CU V Yp an)),V.inj,by have:=V.base;omega⟩,
  k,λb e=>j b (by have:=V.base;omega),m,q⟩
def uP(V:Rel O av s β a w){w':World}{J:Nat->Prop}(e:∀b,J b->Imm O β s.obj w b){b:Nat}(d:b<w'.heap.size/\(b<w.heap.size->J b)):Imm O β s.obj w' b:=by
 by_cases h:b<w.heap.size
 .obtain⟨U,Y,i⟩:=e b (d.2 h)
  exact⟨d.1,Y,i⟩
 .refine⟨d.1,λhB=>absurd V.base a6,λid W ho H j=>?_⟩
  have:=CU V ho H;omega
def Er:C->Bool
 |.d _=>T
 |_=>F
def fk:AV->Bool
 |.one c=>Er c
 |.agg cs=>cs.all Er
 |_=>F
def aD.data{ob:Obs}{v:Value}(hd:Er c=T)(h:aD O β g ob w c v):RVc (Imm O β ob w) w c v:=by
 cases c<;>simp[Er]at hd;exact⟨_,rfl,h⟩
def ag.data{g:Nat->Nat}{ob:Obs}{x:AV}{v:Value}(hd:fk x=T)(h:ag O β g ob w x v):RV (Imm O β ob w) w x v:=by
 cases x with
 |one c=>simp only[ag]at h;simp only[RV];exact aD.data hd h
 |agg cs=>
   simp only[ag]at h;simp only[RV];obtain⟨vs,U,Y,d⟩:=h;refine⟨vs,U,Y,λi c b=>?_⟩;obtain⟨u,e,V⟩:=d i c b;simp only[fk,x7]at hd;exact⟨u,e,V.data (hd c (l5 b))⟩
 |tup=>simp[fk]at hd
 |junk=>simp[fk]at hd
 |exact=>simp[fk]at hd
def ki{o:Oper}(ho:o.op=.call ⟨.value (.func f),args,tys⟩)(hf:yK P f)(w:World):
  (execOp a.eval o).run P w=.ok (.enter f (args.map a.eval)) w:=by
 obtain⟨fn,U,Y,b⟩:=hf;have Y:¬fn.body=N:=by intro h;rw[h]at Y;simp at Y
 have b:¬fn.name = "runtime.NumGoroutine":=by simpa using b
 simp[execOp,ho,resolve,Act.eval,Deferred.ofValue,invoke,callFunc,U,Y,b]
def xG{o:Oper}(ho:o.op=.call ⟨.value (.func f),args,tys⟩)
 (hp:aF P f (args.toList.map s.ev) R)(hd:(args.toList.map s.ev).all fk=T):vq P o s (λs'=>∃r,R r/\s'=s.put o.dst r):=by
 intro O av β a w V c next Q hn;unfold Oper.wp;rw[ki ho hp.1 w];exact hM
def dA(args:List AV)(i:Nat):AV:=(args[i]?).getD uv
def mf(s:St):AV->AV->Prop
 |.one c,r=>∃x,Frz s c x/\r=.one (.d x)
 |.agg cs,r=>∃b:List D,z b=z cs/\(∀(i:Nat)(c:C),cs[i]?=S c->∃x,b[i]?=S x/\Frz s c x)/\r=.agg (b.map .d)
 |_,_=>False
def eu(s:St):List AV->List AV->Prop
 |[],rs=>rs=[]
 |t::A,rs=>∃r q,rs=r::q/\mf s t r/\eu s A q
def CV(k:List Nat)(R:AV->Prop):Exit->St->Prop
 |.normal,s|.ret,s=>
   match k with
   |[t]=>∃r,mf s (s.f t) r/\R r
   |A=>∃b,eu s (A.map s.f) b/\R (.tup b)
 |_,_=>False
def Own(O:Bs)(w:World)(b:Nat):Prop:=b<w.heap.size/\(b<O.B->O.I b)
def Frz.rep(V:Rel O av s β a w){x:D}(h:Frz s c x):∀{v:Value},aD O β s.gen s.obj w c v->cr (Own O w) w x v:=by
 induction h with
 |d x=>
   intro v t;have t:cr (Imm O β s.obj w) w x v:=t;have U:cr (Own O w) w x v:=t.mono λb y=>⟨⟨y.1,y.2.1⟩,rfl⟩
   cases x<;>simp only[ir]<;>first|exact U|skip
   cases U;exact .sl0
 |osl K ho Y hlen bc k hc Z ih=>
   rename_i id g sz off len p es;intro v t;have A:=iH t K Yp;have E:=V.obj id p ho;cases H:β id with
   |none=>
     exact UL
   |some r=>
     rw[H]at A E;obtain⟨Q,A⟩:=A;obtain⟨hB,arr,el,lo,hi,q,L,c2,bo⟩:=E.cells Q;rcases A with⟨W,rfl,cc,_⟩|⟨X,o,rfl⟩
     .rw[<-hlen]
      have l:∀i e,es[i]?=S e->∀j x,e[j]?=S x->es.flatten[i*sz+j]?=S x:=λi e he j x I=>by
       exact hO
      have J:∀m x,es.flatten[m]?=S x->∃u,w.cell? ⟨r.block,r.off+off+m,N⟩=S u/\cr (Own O w) w x u:=λm x I=>by
       exact VS
      refine .sl (b:=r.block) (off:=r.off+off) (sz:=sz) (λi j=>(w.cell? ⟨r.block,r.off+off+(i*sz+j),N⟩).getD undef) a6 (λ_=>⟨(C8.1 q).1,λh=>absurd hB a6⟩) bc (λi e he j x I=>?_) (λi e he j x I=>?_)
      .obtain⟨u,hu,_⟩:=J _ x (l i e he j x I)
       rw[C7,hu];rfl
      .obtain⟨u,hu,f⟩:=J _ x (l i e he j x I)
       rw[hu];exact f
     .subst X
      have:es=[]:=r0 hlen;subst this;exact tz
def mf.rep{av:Nat}{s:St}{a:Act}(V:Rel O av s β a w){x r:AV}(h:mf s x r){v:Value}(j:ag O β s.gen s.obj w x v):RV (Own O w) w r v:=by
 cases x with
 |one c=>
   obtain⟨y,m,rfl⟩:=h;simp only[ag]at j;simp only[RV];exact⟨y,rfl,Frz.rep V m j⟩
 |agg cs=>
   obtain⟨n,hl,I,rfl⟩:=h;simp only[ag]at j;simp only[RV];obtain⟨vs,U,Y,o⟩:=j;refine⟨vs,U,by rw[Y,j5,hl],λi c b=>?_⟩;rw[y7]at b;cases k:n[i]? with
   |none=>rw[k]at b;cases b
   |some y=>
     rw[k]at b;simp only[z8,w9]at b;subst b;have l:i<z cs:=by rw[<-hl];exact(l8.1 k).1
     obtain⟨u,p,f⟩:=o i _ (y8 l);obtain⟨e,d,q⟩:=I i _ (y8 l);have:e=y:=by simpa[d]using k
     subst this;exact⟨u,p,e,rfl,Frz.rep V q f⟩
 |tup=>exact h.elim
 |junk=>exact h.elim
 |exact=>exact h.elim
def eu.rep{av:Nat}{s:St}{a:Act}(V:Rel O av s β a w):∀(A:List Nat){rs:List AV},eu s (A.map s.f) rs->RVs (Own O w) w rs (A.map λt=>a.tmps.getD t undef)
 |[],rs,h=>by simp only[v8,eu]at h;subst h;simp only[v8,RVs]
 |t::A,rs,h=>by
   simp only[l9,eu]at h;obtain⟨r,q,rfl,U,Y⟩:=h;simp only[l9,RVs];exact⟨_,_,rfl,U.rep V (V.f t),eu.rep V A Y⟩
def nj(a:Array Value):List Nat->Value
 |[t]=>a.getD t undef
 |A=>.tuple (A.map λt=>a.getD t undef).toArray
def oW{fn:Func}(k:List Nat)(L:fn.results=(k.map ResultVar.tmp).toArray)(a:Array Value):(results fn a).run P w=.ok (nj a k) w:=by
 have h:∀(g:ResultVar->Sem Value)(b:∀t,g (.tmp t)=pure (a.getD t undef))(l:List Nat),((l.map ResultVar.tmp).mapM g).run P w=.ok (l.map λt=>a.getD t undef) w:=by
  intro g b l
  induction l with
  |nil=>simp
  |cons t l d=>simp only[l9,OA,Sem.run_bind,b,Sem.run_pure,Result.andThen_ok,d]
 unfold results;simp only[L,R3,Sem.run_bind,Sem.run_map];rw[h _ (λ_=>rfl) k];simp only[Result.andThen_ok,Sem.run_pure]
 match k with
 |[]=>simp[nj]
 |[t]=>simp[nj]
 |t::e::A=>simp[nj]
def CW(hT:bp P G)(X:P.follows .mixedOrders=T){fn:Func}{c:Code}(hf:P.funcs[f]?=S fn)(hb:fn.body=S c)(Z:(fn.name == "runtime.NumGoroutine")=F)
 (k:List Nat)(L:fn.results=(k.map ResultVar.tmp).toArray)(bd:codeOk fn.ntmps c=T){args:List AV}(p:z args<=fn.ntmps)
 (h:∀g,wpC (sp P) G c (bx (CV k R)) ⟨dA args,g,λ_=>N⟩):aF P f args R:=by
 refine⟨⟨fn,hf,by rw[hb];rfl,Z⟩,λJ w vs hJ hv=>?_⟩;refine calls_of_wp hf hb ?_
 have bf:∀(l:List AV)(vs:List Value),RVs J w l vs->z vs=z l:=by
  intro l
  induction l with
  |nil=>intro vs h;simp only[RVs]at h;subst h;rfl
  |cons x l q=>intro vs h;simp only[RVs]at h;obtain⟨u,B,rfl,_,h⟩:=h;simp[q B h]
 have hl:=bf _ _ hv
 let m:Nat->Prop:=J
 have V:Rel ⟨w.heap.size,m⟩ fn.ntmps ⟨dA args,λ_=>0,λ_=>N⟩ (λ_=>N) {tmps:=vs.toArray++Array.replicate (fn.ntmps-vs.toArray.size) undef,defers:=[]} w:=by
  refine⟨rfl,by simp;omega,λi=>?_,λid H ho=>YC,λid K a W ho=>YC,l0 _⟩
  have av:∀(l:List AV)(vs:List Value),RVs J w l vs->∀(i:Nat)(x:AV),l[i]?=S x->∃v,vs[i]?=S v/\RV J w x v:=by
   intro l
   induction l with
   |nil=>intro vs _ i x h;simp at h
   |cons y l q=>
     intro vs h i x I;simp only[RVs]at h;obtain⟨u,B,rfl,U,Y⟩:=h;cases i with
     |zero=>simp at I;subst I;exact⟨u,rfl,U⟩
     |succ i=>simpa using q B Y i x Xl
  simp only[dA];cases I:args[i]? with
  |some x=>
    exact oo
  |none=>
    exact U9
 refine wp_mono (fe hT X c bd V (h _)) (λe W o hp=>?_);obtain⟨Q,E,n,bk,ht⟩:=hp
 have d:∀{e},CV k R e Q->(e=.normal\/e=.ret)->∃v,(results fn W.tmps).run P o=.ok v o/\∃r,R r/\RV (Own ⟨w.heap.size,m⟩ o) o r v:=by
  intro e n he;refine⟨_,oW k L W.tmps,?_⟩;have j:CV k R .ret Q:=by rcases he with rfl|rfl<;>exact n
  unfold CV at j
  match k,j with
  |[t],⟨r,U,Y⟩=>exact⟨r,Y,U.rep bk (bk.f t)⟩
  |[],⟨rs,U,Y⟩=>exact⟨_,Y,by simp only[RV];exact⟨_,rfl,eu.rep bk [] U⟩⟩
  |t::t'::A,⟨rs,U,Y⟩=>exact⟨_,Y,by simp only[RV];exact⟨_,rfl,eu.rep bk (t::t'::A) U⟩⟩
 cases e with
 |normal=>
   obtain⟨v,U,r,Y,h3⟩:=d n (.inl rfl);exact K1
 |ret=>
   obtain⟨v,U,r,Y,h3⟩:=d n (.inr rfl);exact K1
 |exit id=>exact n.elim
 |goto l=>exact n.elim
 |panic ch=>exact n.elim
 |outgrown=>exact n.elim
end
end
end
end Go.Am
