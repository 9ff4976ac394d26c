/- A part of the proof; no conditions. -/
import Derived.KernelRfl
import Derived.StillTail
import Derived.Deep.Quiet
set_option linter.unusedSimpArgs false
set_option linter.unusedVariables false
namespace Go
section
theorem a6 {P:Prop} (h:P:=by omega):P:=h
theorem a7 {P:Prop} (h:P:=by simp):P:=h
theorem a8 {P:Prop} (h:P:=by decide):P:=h
theorem b9 {P:Prop} (h:P:=by rfl):P:=h
theorem c8 {P:Prop} (h:P:=by kernel_rfl):P:=h
theorem c9 {P:Prop} (h:P:=by decide +kernel):P:=h
theorem j0 {P:Prop} (h:P:=by assumption):P:=h
abbrev j4:=@List.length_append
abbrev j5:=@List.length_map
abbrev j6:=@List.length_cons
abbrev j7:=@List.length_nil
abbrev j8:=@Eq.trans
abbrev j9:=@Nat.le_refl
abbrev l0:=@List.getElem?_eq_some_iff
abbrev l4:=@List.mem_of_getElem?
abbrev l5:=@List.map_cons
abbrev l6:=@List.take_of_length_le
abbrev l7:=@Bool.and_eq_true
abbrev l8:=@List.getElem?_cons_succ
abbrev l9:=@List.append_nil
abbrev r0:=@List.all_eq_true
abbrev s5:=@eq_true
abbrev s6:=@List.append_assoc
abbrev s7:=@List.getElem?_eq_getElem
abbrev s9:=@True.intro
abbrev u7:=@Option.some.injEq
abbrev v7:=@Array.getD_eq_getD_getElem?
abbrev v8:=@List.getElem?_cons_zero
abbrev w7:=@List.map_nil
abbrev w8:=@Option.map_some
abbrev w9:=@Bool.true_and
abbrev x6:=@List.getElem?_toArray
abbrev x7:=@List.getElem?_map
abbrev x8:=@Option.getD_some
abbrev x9:=@List.mem_cons
abbrev y1:=@List.eq_nil_of_length_eq_zero
abbrev y2:=@List.nil_append
abbrev y7:=@Array.getElem?_eq_getElem
abbrev y8:=@Bool.false_and
abbrev y9:=@decide_eq_false
abbrev z6:=@Ne.symm
abbrev z7:=@List.drop_eq_getElem_cons
abbrev z8:=@decide_eq_true_eq
abbrev A0:=@List.cons_append
abbrev A1:=@List.not_mem_nil
abbrev A2:=@List.mem_range
abbrev A3:=@List.map_append
abbrev A4:=@List.take_add_one
abbrev A5:=@Int.toNat_natCast
abbrev A6:=@if_false
abbrev A7:=@Array.getElem?_eq_some_iff
abbrev A8:=@List.getD_eq_getElem?_getD
abbrev A9:=@if_true
abbrev B1:=@Nat.le_trans
abbrev B3:=@Option.isSome_some
abbrev B4:=@Nat.add_assoc
abbrev B5:=@Bool.false_eq_true
abbrev B6:=@List.drop_zero
abbrev B7:=@List.length_take
abbrev B8:=@List.getElem?_append_right
abbrev B9:=@List.getElem?_of_mem
abbrev C0:=@Bool.and_false
abbrev C1:=@Array.getElem?_replicate
abbrev C2:=@Nat.zero_add
abbrev C3:=@Bool.or_eq_true
abbrev C4:=@List.length_set
abbrev C5:=@List.mem_singleton
abbrev C6:=@Option.isSome_none
abbrev C7:=@List.getElem?_eq_none
abbrev C8:=@List.mem_append
abbrev C9:=@And.intro
abbrev D0:=@List.getElem?_set
abbrev D1:=@List.flatMap_cons
abbrev D2:=@List.contains_iff_mem
abbrev D3:=@List.flatten_cons
abbrev D4:=@Bool.and_assoc
abbrev D5:=@Option.bind_some
abbrev D6:=@List.replicate_succ
abbrev D7:=@List.all_cons
abbrev D8:=@List.length_drop
abbrev D9:=@List.drop_of_length_le
abbrev E0:=@Array.getElem?_append_left
abbrev E3:=@Bool.not_eq_true'
abbrev E4:=@or_false
abbrev E5:=@List.drop_length
abbrev E6:=@Nat.lt_of_le_of_lt
abbrev E7:=@Nat.add_mul
abbrev E8:=@decide_eq_true
abbrev E9:=@beq_iff_eq
abbrev F0:=@Option.some.inj
abbrev F1:=@Nat.lt_of_lt_of_le
abbrev F2:=@List.take_succ_cons
abbrev F3:=@List.sum_cons
abbrev F6:=@List.getElem?_append_left
abbrev F7:=@List.set_cons_zero
abbrev F8:=@Array.getElem_mem_toList
abbrev F9:=@List.getElem?_drop
abbrev G0:=@Array.getElem?_append_right
abbrev G1:=@List.take_append_drop
abbrev G2:=@Int.le_refl
abbrev G3:=@Option.map_none
abbrev G4:=@List.take_length
abbrev G5:=@Array.getElem?_toList
abbrev G6:=@Array.ext'
abbrev G7:=@List.getElem?_take
abbrev G8:=@List.mem_map
abbrev G9:=@of_decide_eq_true
abbrev H0:=@List.singleton_append
abbrev H2:=@List.length_replicate
abbrev H3:=@Prod.mk.injEq
abbrev H4:=@List.eq_of_mem_replicate
abbrev H5:=@List.all_append
abbrev H6:=@List.mem_mapIdx
abbrev H7:=@Option.toList_some
abbrev H8:=@Bool.and_true
abbrev H9:=@Bool.not_false
abbrev I0:=@Option.map_eq_some_iff
abbrev I1:=@Array.getElem?_eq_none
abbrev I2:=@List.set_append_right
abbrev I3:=@List.mem_cons_self
abbrev I4:=@List.take_zero
abbrev I5:=@List.getElem?_append
abbrev I6:=@List.length_eq_zero_iff
abbrev I7:=@Nat.add_sub_cancel_left
abbrev I8:=@List.takeWhile_cons
abbrev I9:=@Nat.sub_self
abbrev J0:=@Nat.add_zero
abbrev J1:=@Nat.mul_one
abbrev J2:=@List.sum_append
abbrev J3:=@and_true
abbrev J4:=@decide_false
abbrev J5:=@Nat.mul_le_mul_right
abbrev J6:=@Option.isSome_iff_exists
abbrev J7:=@Array.getElem?_setIfInBounds_ne
abbrev J8:=@List.replicate_zero
abbrev J9:=@Nat.mod_eq_of_lt
abbrev K7:=@Nat.zero_le
abbrev K8:=@List.filter_eq_nil_iff
abbrev K9:=@Nat.lt_or_ge
abbrev L0:=@Array.getElem?_setIfInBounds
abbrev L1:=@List.foldl_cons
abbrev L2:=@Int.natCast_mul
abbrev L3:=@List.dropLast_concat_getLast
abbrev L4:=@Bool.not_true
abbrev L5:=@Bool.false_or
abbrev L6:=@List.length_singleton
abbrev L7:=@not_false_eq_true
abbrev L8:=@List.ext_getElem?
abbrev L9:=@List.reverse_cons
abbrev M0:=@Array.getElem?_setIfInBounds_self_of_lt
abbrev M1:=@List.mem_of_mem_drop
abbrev M3:=@List.isPrefixOf_iff_prefix
abbrev M4:=@List.getElem?_mapIdx
abbrev M5:=@List.getElem_mem
abbrev M6:=@List.mapIdx_cons
abbrev M7:=@Option.isNone_iff_eq_none
abbrev M8:=@List.mem_or_eq_of_mem_set
abbrev M9:=@Array.length_toList
abbrev N0:=@List.flatMap_append
abbrev N1:=@List.range_succ
abbrev N2:=@List.set_cons_succ
abbrev N3:=@Array.all_eq_true'
abbrev N4:=@BitVec.toNat_ofInt
abbrev N5:=@List.map_replicate
abbrev N6:=@List.getElem?_replicate
abbrev N7:=@not_true_eq_false
abbrev N8:=@List.mapM_cons
abbrev N9:=@List.takeWhile_sublist
abbrev O0:=@Array.mem_of_getElem?
abbrev O2:=@List.any_eq_true
abbrev O6:=@Array.eq_empty_of_size_eq_zero
abbrev O7:=@true_and
abbrev O8:=@Array.mem_toList_iff
abbrev O9:=@List.getElem?_set_ne
abbrev P0:=@List.mem_of_mem_take
abbrev P1:=@List.cons.injEq
abbrev P2:=@Nat.le_antisymm
abbrev P3:=@Array.getElem?_push
abbrev P4:=@List.length_pos_iff
abbrev P5:=@List.reverse_append
abbrev P6:=@List.sum_nil
abbrev P7:=@List.count_pos_iff
abbrev P8:=@Int.fdiv_eq_ediv_of_nonneg
abbrev P9:=@Classical.byContradiction
abbrev Q0:=@List.mem_of_find?_eq_some
abbrev Q1:=@Array.getElem_mem
abbrev Q2:=@List.mapM_toArray
abbrev Q3:=@Array.size_setIfInBounds
abbrev Q4:=@Option.getD_none
abbrev Q5:=@List.getElem_inj
abbrev Q6:=@List.countP_cons
abbrev Q7:=@List.map_map
abbrev Q8:=@Nat.le_of_lt
abbrev Q9:=@List.mem_filter
abbrev RX:=@List.nodup_cons
abbrev RY:=@Array.getElem?_modify
abbrev RZ:=@List.countP_replicate
abbrev R1:=@List.nodup_nil
abbrev R2:=@Bool.or_false
abbrev R3:=@cond_false
abbrev R4:=@cond_true
set_option maxHeartbeats 64000000
set_option maxRecDepth 100000
end
end Go
namespace Go.Am
section
theorem ite_cc {α:Sort _} {b c:Prop} [Decidable b] [Decidable c] {x y:α} (h:b=c):ite b x y=ite c x y:=by subst h;congr
attribute [go_sem] reduceIte
end
section
attribute [local congr] Go.Am.ite_cc
section
inductive D where
 |bool (b:Bool)
 |int (k:IntKind) (n:Int)
 |str (s:List UInt8)
 |sl (es:List (List D))
 |nsl
 |nilp
 |nilf
 |nili
 |nilm
 |fn (f:FuncId)
 |iptr (cs:List D)
 |yld (l:Nat)
 deriving Inhabited
inductive PC where
 |d (x:D)
 |ptr (id g off:Nat)
 deriving Inhabited
inductive C where
 |d (x:D)
 |osl (id g sz off len:Nat)
 |ptr (id g off:Nat)
 |clo (f:FuncId) (caps:List PC)
 |mp (id g kd:Nat)
 |lsl (n:Nat)
 |raw (o:Obj)
 deriving Inhabited
inductive AV where
 |one (c:C)
 |agg (cs:List C)
 |tup (vs:List AV)
 |junk
 |exact(v:Value)
 deriving Inhabited
structure St where
 f:Nat→AV
 gen:Nat→Nat
 obj:Nat→Option (List C)
inductive Box {α:Type} (a:α):Type where
 |mk
@[reducible] def bx {α:Type} (a:α):Box a:=.mk
def upd {α:Type} (f:Nat→α) (i:Nat) (v:α):Nat→α:=fun j=>if j=i then v else f j
structure TI where
 desc:TypeDesc
 size:Nat
 bytes:Nat
 zero:List D
 deriving Inhabited
abbrev iv (k:IntKind) (n:Int):AV:=.one (.d (.int k n))
abbrev bv (b:Bool):AV:=.one (.d (.bool b))
abbrev sv (s:List UInt8):AV:=.one (.d (.str s))
abbrev uv:AV:=.tup []
def RR:Value→C
 |.bool b=>.d (.bool b)
 |.int k n=>.d (.int k n)
 |.string s=>.d (.str s.data.toList)
 |.slice none 0 0=>.d .nsl
 |.pointer none=>.d .nilp
 |.nilFunc=>.d .nilf
 |.nilIface=>.d .nili
 |.map none=>.d .nilm
 |_=>.osl 0 0 0 0 0
def ul:Value→AV
 |.bool b=>.one (.d (.bool b))
 |.int k n=>.one (.d (.int k n))
 |.string s=>.one (.d (.str s.data.toList))
 |.slice none 0 0=>.one (.d .nsl)
 |.pointer none=>.one (.d .nilp)
 |.nilFunc=>.one (.d .nilf)
 |.nilIface=>.one (.d .nili)
 |.map none=>.one (.d .nilm)
 |_=>.junk
def St.ev (s:St):Operand→AV
 |.tmp t=>s.f t
 |.const v=>ul v
 |.global _=>.junk
 |.func f=>.one (.d (.fn f))
def St.put (s:St) (dst:Option Nat) (v:AV):St:=
 match dst with
 |none=>s
 |some d=>{ s with f:=upd s.f d v }
def nxC (c g:Nat):Nat:=1000000*(g+1)+(if c<1000000 then c else 0)
def code (g:Nat):Nat:=g%1000000
theorem um (c g:Nat):g<nxC c g:=by unfold nxC;omega
theorem xt (c g:Nat):nxC c g≠g:=Nat.ne_of_gt (um c g)
theorem lI (c g:Nat):code (nxC c g)=if c<1000000 then c else 0:=by
 unfold code nxC;rw[Nat.mul_add_mod];split
 ·rename_i h;exact J9 h
 ·rfl
def apC (e g off:Nat):Nat:=if code g=e+1∧off=0 then e+1 else 0
def St.newC (c:Nat) (s:St) (d:Nat) (cs:List C):St:={ s with gen:=upd s.gen d (nxC c (s.gen d)),obj:=upd s.obj d (some cs)}
def cL:TypeDesc→Bool
 |.struct _|.array _ _=>true
 |_=>false
def cellsOf:AV→Option (List C)
 |.one c=>some [c]
 |.agg cs=>some cs
 |_=>none
def setAt (cells:List C) (off:Nat):List C→List C
 |[]=>cells
 |c::cs=>setAt (cells.set off c) (off+1) cs
def sZ (b:UInt8):D:=.int .u8 b.toNat
def gt (b:Bool) {K:Bool→Prop} (_:Box K):Prop:=(b=true→K true)∧(b=false→K false)
def aN {α:Type} (x:Option α) {K:α→Prop} (_:Box K):Prop:=
 match x with
 |some a=>K a
 |none=>False
def ng (v:AV) {K:Bool→Prop} (k:Box K):Prop:=
 match v with
 |.one (.d (.bool b))=>gt b k
 |_=>False
def kG (v:AV) {K:Bool→Prop} (k:Box K) {U:Prop} (_:Box U):Prop:=
 match v with
 |.one (.d (.bool b))=>gt b k
 |.tup []=>U
 |_=>False
def qP (ti:TI) (cells:List C) (off:Nat) {K:AV→Prop} (_:Box K):Prop:=
 match cL ti.desc with
 |true=>off+ti.size≤cells.length∧K (.agg ((cells.drop off).take ti.size))
 |false=>aN (cells[off]?) (bx fun c=>K (.one c))
def yP (ti:TI) (cs:List D) {K:AV→Prop} (_:Box K):Prop:=
 match cL ti.desc with
 |true=>ti.size≤cs.length∧K (.agg ((cs.take ti.size).map .d))
 |false=>aN (cs[0]?) (bx fun c=>K (.one (.d c)))
def okD:TypeDesc→Bool
 |.invalid=>false
 |_=>true
def pP (ti:TI) (s:St) (a:AV) {K:AV→Prop} (k:Box K):Prop:=
 match a with
 |.one (.ptr id g off)=>okD ti.desc=true∧s.gen id=g∧aN (s.obj id) (bx fun cells=>qP ti cells off k)
 |.one (.d (.iptr cs))=>okD ti.desc=true∧yP ti cs k
 |_=>False
def oK (ti:TI) (s:St) (a x:AV) {K:St→Prop} (_:Box K):Prop:=
 match a with
 | .one (.ptr id g off)=>okD ti.desc=true∧s.gen id=g∧aN (cellsOf x) (bx fun cs=>cs.length=ti.size∧aN (s.obj id) (bx fun cells=>off+cs.length≤cells.length∧
     K { s with obj:=upd s.obj id (some (setAt cells off cs))}))
 |_=>False
def fN (s:St) (sz:Nat) (x ix:AV) {K:AV→Prop} (_:Box K):Prop:=
 match ix with
 |.one (.d (.int _ i))=>
   match x with
   |.one (.d (.sl es))=>0≤i∧aN (es[i.toNat]?) (bx fun c=>c.length=sz∧K (.one (.d (.iptr c))))
   |.one (.osl id g sz' off len)=>s.gen id=g∧(s.obj id).isSome=true∧0≤i∧i<len∧sz'=sz∧K (.one (.ptr id g (off+i.toNat*sz)))
   |_=>False
 |_=>False
def ka (T:Nat→TI) (d:TypeDesc) (s:St) (x ix:AV) {K:AV→Prop} (_:Box K):Prop:=
 match d with
 |.array n e=>
   match ix with
   |.one (.d (.int _ i))=>
     match x with
     |.one (.ptr id g off)=>s.gen id=g∧(s.obj id).isSome=true∧okD (T e).desc=true∧0≤i∧i<n∧K (.one (.ptr id g (off+i.toNat*(T e).size)))
     |_=>False
   |_=>False
 |_=>False
def lJ (d:TypeDesc):Bool:=match d with|.array _ _=>true|_=>false
def qQ (x ix:AV) {K:AV→Prop} (_:Box K):Prop:=
 match ix with
 |.one (.d (.int _ i))=>
   match x with
   |.one (.d (.str s))=>0≤i∧aN (s[i.toNat]?) (bx fun c=>K (iv .u8 c.toNat))
   |_=>False
 |_=>False
def kc (op:BinOp) (k:IntKind) (x y:Int) {K:AV→Prop} (_:Box K):Prop:=
 match op with
 |.add=>K (iv k (k.wrap (x+y)))
 |.sub=>K (iv k (k.wrap (x-y)))
 |.mul=>K (iv k (k.wrap (x*y)))
 |.quo=>y≠0∧K (iv k (k.wrap (x.tdiv y)))
 |.rem=>y≠0∧K (iv k (x.tmod y))
 |.eql=>K (bv (decide (x=y)))
 |.neq=>K (bv (decide (x≠y)))
 |.lss=>K (bv (decide (x<y)))
 |.leq=>K (bv (decide (x≤y)))
 |.gtr=>K (bv (decide (y<x)))
 |.geq=>K (bv (decide (y≤x)))
 |.and=>K (iv k (k.wrap (BitVec.ofInt k.bits x &&&BitVec.ofInt k.bits y).toNat))
 |.or=>K (iv k (k.wrap (BitVec.ofInt k.bits x |||BitVec.ofInt k.bits y).toNat))
 |.xor=>K (iv k (k.wrap (BitVec.ofInt k.bits x ^^^ BitVec.ofInt k.bits y).toNat))
 |.andNot=>K (iv k (k.wrap (BitVec.ofInt k.bits x &&& ~~~ BitVec.ofInt k.bits y).toNat))
 |.shl=>0≤y∧K (iv k (k.wrap (x*2^(min y.toNat k.bits))))
 |.shr=>0≤y∧K (iv k (x.fdiv (2^(min y.toNat k.bits))))
def xu (op:BinOp) (x y:List UInt8) {K:AV→Prop} (_:Box K):Prop:=
 match op with
 |.add=>((x.length+y.length:Nat):Int)≤9223372036854775807∧K (sv (x++y))
 |.eql=>K (bv (decide (x=y)))
 |.neq=>K (bv (decide (x≠y)))
 |.lss=>K (bv (Op.bytesLess x y))
 |.leq=>K (bv (Op.bytesLess x y||decide (x=y)))
 |.gtr=>K (bv (!(Op.bytesLess x y||decide (x=y))))
 |.geq=>K (bv (!Op.bytesLess x y))
 |_=>False
def sameKind (op:BinOp) (k k':IntKind):Prop:=
 match op with
 |.shl|.shr=>True
 |_=>k=k'
def Mb (d:TypeDesc) (op:BinOp) (x y:Bool) {K:AV→Prop} (_:Box K):Prop:=
 match d,op with
 |.bool,.eql=>K (bv (decide (x=y)))
 |.bool,.neq=>K (bv (decide (x≠y)))
 |_,_=>False
def ta (k:IntKind):List C→Option (List Int)
 |[]=>some []
 |.d (.int k' n)::r=>if k'=k then(ta k r).map (n :: ·) else none
 |_=>none
def EW (ti:TI) (n:Nat) (xs ys:List C) {K:Bool→Prop} (_:Box K):Prop:=
 match ti.desc with
 |.int k=>ti.size=1∧aN (ta k xs) (bx fun a=>aN (ta k ys) (bx fun b=>(a.length=n∧b.length=n)∧K (decide (a=b))))
 |_=>False
def Mc (T:Nat→TI) (d:TypeDesc) (op:BinOp) (xs ys:List C) {K:AV→Prop} (_:Box K):Prop:=
 match d,op with
 |.array n e,.eql=>EW (T e) n xs ys (bx fun b=>K (bv b))
 |.array n e,.neq=>EW (T e) n xs ys (bx fun b=>K (bv (!b)))
 |_,_=>False
def zX (T:Nat→TI) (d:TypeDesc) (op:BinOp) (x y:AV) {K:AV→Prop} (k:Box K):Prop:=
 match x,y with
 |.one (.d (.int k1 a)),.one (.d (.int k2 b))=>sameKind op k1 k2∧kc op k1 a b k
 |.one (.d (.str a)),.one (.d (.str b))=>xu op a b k
 |.one (.d (.bool a)),.one (.d (.bool b))=>Mb d op a b k
 |.agg xs,.agg ys=>Mc T d op xs ys k
 |_,_=>False
def unA (op:UnOp) (x:AV) {K:AV→Prop} (_:Box K):Prop:=
 match op,x with
 |.not,.one (.d (.bool b))=>K (bv (!b))
 |.neg,.one (.d (.int k n))=>K (iv k (k.wrap (0-n)))
 |_,_=>False
def contents (s:St) (str sl:Bool) (sz:Nat) (x:AV) {K:Nat→List C→Prop} (_:Box K):Prop:=
 match x with
 |.one (.d .nsl)=>sl=true∧K 0 []
 |.one (.d (.sl es))=>sl=true∧(∀e∈es,e.length=sz)∧K es.length (es.flatten.map .d)
 |.one (.d (.str bs))=>str=true∧sz=1∧K bs.length (bs.map fun b=>.d (sZ b))
 |.one (.osl id g sz' off len)=>sl=true∧s.gen id=g∧sz'=sz∧aN (s.obj id) (bx fun cells=>off+len*sz≤cells.length∧K len ((cells.drop off).take (len*sz)))
 |_=>False
def u8s:List C→Option (List Int)
 |[]=>some []
 |.d (.int .u8 n)::r=>(u8s r).map (n :: ·)
 |_=>none
def un:TypeDesc→Bool
 |.int .u8=>true
 |_=>false
def pQ (s:St) (el:TypeDesc) (src dst:TypeDesc) (x:AV) {K:AV→Prop} (_:Box K):Prop:=
 match src,dst,x with
 |sr,.int k,.one (.d (.int _ n))=>okD sr=true∧K (iv k (k.wrap n))
 |.string,.string,.one (.d (.str b))=>K (sv b)
 |.slice _,.string,y=>un el=true∧contents s false true 1 y (bx fun _ cs=>aN (u8s cs) (bx fun ns=>K (sv (ns.map fun n=>UInt8.ofNat n.toNat))))
 |_,_,_=>False
def qR (n bytes:Nat):Prop:=0<bytes∧(2*n+1024)*bytes≤281474976710656
def kH (e:Nat) (ti:TI) (str sl:Bool) (i d:Nat) (s:St) (x y:AV) {K:St→Prop} (_:Box K):Prop:=
 match x with
 |.one (.d .nsl)=>contents s str sl ti.size y (bx fun n cs=>qR n ti.bytes∧K ((s.newC (e+1) i cs).put (some d) (.one (.osl i (nxC (e+1) (s.gen i)) ti.size 0 n))))
 | .one (.osl id g sz off len)=>s.gen id=g∧sz=ti.size∧aN (s.obj id) (bx fun cells=>off+len*sz≤cells.length∧
    contents s str sl ti.size y (bx fun n cs=>qR (len+n) ti.bytes∧
     K ((s.newC (apC e (s.gen id) off) id ((cells.drop off).take (len*sz)++cs)).put (some d) (.one (.osl id (nxC (apC e (s.gen id) off) (s.gen id)) ti.size 0 (len+n))))))
 |_=>False
def vp (s:St) (str sl:Bool) (x:AV) {K:AV→Prop} (_:Box K):Prop:=
 match x with
 |.one (.d .nsl)=>sl=true∧K (iv .i64 0)
 |.one (.d (.sl es))=>sl=true∧K (iv .i64 es.length)
 |.one (.d (.str bs))=>str=true∧K (iv .i64 bs.length)
 |.one (.osl id g _ _ len)=>sl=true∧s.gen id=g∧(s.obj id).isSome=true∧K (iv .i64 len)
 |.one (.lsl n)=>sl=true∧K (iv .i64 n)
 |_=>False
def eV (o:Option AV) (els:Nat) {K:Nat→Prop} (_:Box K):Prop:=
 match o with
 |none=>K els
 |some (.one (.d (.int _ n)))=>0≤n∧K n.toNat
 |_=>False
def nh (s:St) (str sl:Bool) (sz:Nat) (x:AV) (lo hi:Option AV) {K:AV→Prop} (_:Box K):Prop:=
 match x with
 |.one (.d (.str bs))=>str=true∧eV hi bs.length (bx fun h=>eV lo 0 (bx fun l=>l≤h∧h≤bs.length∧K (sv ((bs.take h).drop l))))
 |.one (.d (.sl es))=>sl=true∧eV hi es.length (bx fun h=>eV lo 0 (bx fun l=>l≤h∧h≤es.length∧(∀x∈es,x.length=sz)∧K (.one (.d (.sl ((es.take h).drop l))))))
 |.one (.d .nsl)=>sl=true∧eV hi 0 (bx fun h=>eV lo 0 (bx fun l=>l=0∧h=0∧K (.one (.d .nsl))))
 |.one (.osl id g sz' off len)=>sl=true∧s.gen id=g∧(s.obj id).isSome=true∧eV hi len (bx fun h=>eV lo 0 (bx fun l=>l≤h∧h≤len∧sz'=sz∧K (.one (.osl id g sz (off+l*sz) (h-l)))))
 |_=>False
def EX (o:Option (List C)) (n:Nat):Prop:=∃l,o=some l∧n≤l.length
def ke (T:Nat→TI) (d:TypeDesc) (s:St) (x:AV) (lo hi:Option AV) {K:AV→Prop} (_:Box K):Prop:=
 match d with
 |.array n e=>
   match x with
   |.one (.ptr id g off)=>
     match lo with
     |none=>s.gen id=g∧okD (T e).desc=true∧EX (s.obj id) (off+n*(T e).size)∧eV hi n (bx fun h=>h≤n∧K (.one (.osl id g (T e).size off h)))
     |_=>False
   |_=>False
 |_=>False
def vq (sz:Nat):(k:Nat)→(ps:List (Nat×AV))→{K:List C→Prop}→Box K→Prop
 |_,[],K,_=>K []
 |k,p::r,K,_=>p.1=k∧aN (cellsOf p.2) (bx fun cs=>cs.length=sz∧vq sz (k+1) r (bx fun rest=>K (cs++rest)))
def iA (e sz i d n:Nat) (s:St) (ps:List (Nat×AV)) {K:St→Prop} (_:Box K):Prop:=
 ps.length=n∧n*sz≤16777216∧vq sz 0 ps (bx fun cs=>K ((s.newC (e+1) i cs).put (some d) (.one (.osl i (nxC (e+1) (s.gen i)) sz 0 n))))
def fH (d:TypeDesc) (f:Nat):Option Field:=
 match d with
 |.struct fs=>fs[f]?
 |_=>none
def fO (T:Nat→TI) (t f:Nat) (s:St) (x:AV) {K:AV→Prop} (_:Box K):Prop:=
 match x with
 |.one (.ptr id g off)=>s.gen id=g∧(s.obj id).isSome=true∧aN (fH (T t).desc f) (bx fun fl=>(okD (T fl.type).desc=true∧(T fl.type).size≠0)∧K (.one (.ptr id g (off+fl.offset))))
 |.one (.d (.iptr cs))=>aN (fH (T t).desc f) (bx fun fl=>(okD (T fl.type).desc=true∧(T fl.type).size≠0)∧K (.one (.d (.iptr (cs.drop fl.offset)))))
 |_=>False
def oN (T:Nat→TI) (t f:Nat) (x:AV) {K:AV→Prop} (k:Box K):Prop:=
 match x with
 |.agg cs=>aN (fH (T t).desc f) (bx fun fl=>okD (T fl.type).desc=true∧qP (T fl.type) cs fl.offset k)
 |_=>False
def pR (pl:Nat→Option (Nat×Nat)):(cells:List C)→(ps:List (Nat×AV))→{K:List C→Prop}→Box K→Prop
 |cells,[],K,_=>K cells
 |cells,p::r,_,k=>aN (pl p.1) (bx fun q=>aN (cellsOf p.2) (bx fun cs=>cs.length=q.2∧q.1+q.2≤cells.length∧pR pl (setAt cells q.1 cs) r k))
def placeOf (T:Nat→TI) (d:TypeDesc) (i:Nat):Option (Nat×Nat):=
 match d with
 |.array _ e=>some (i*(T e).size,(T e).size)
 |d=>(fH d i).bind fun fl=>bif okD (T fl.type).desc then some (fl.offset,(T fl.type).size) else none
def fe (T:Nat→TI) (t:Nat):Bool:=match (T t).desc with|.struct fs=>fs.toList.all fun f=>okD (T f.type).desc|.array _ e=>okD (T e).desc|_=>false
def ew (T:Nat→TI) (t:Nat) (ps:List (Nat×AV)) {K:AV→Prop} (_:Box K):Prop:=
 fe T t=true∧pR (placeOf T (T t).desc) ((T t).zero.map .d) ps (bx fun cs=>K (.agg cs))
def EY (t i d:Nat) (s:St) (x:AV) {K:St→Prop} (_:Box K):Prop:=
 aN (cellsOf x) (bx fun cs=>K ((s.newC (t+1) i cs).put (some d) (.one (.ptr i (nxC (t+1) (s.gen i)) 0))))
def uq (t:Nat) (ti:TI) (i d:Nat) (s:St) {K:St→Prop} (_:Box K):Prop:=
 okD ti.desc=true∧K ((s.newC (t+1) i (ti.zero.map .d)).put (some d) (.one (.ptr i (nxC (t+1) (s.gen i)) 0)))
def gZ (s:St) (x:AV) {K:AV→Prop} (_:Box K):Prop:=
 match x with
 |.one (.ptr id g off)=>s.gen id=g∧(s.obj id).isSome=true∧K (.one (.ptr id g off))
 |.one (.d (.iptr cs))=>K (.one (.d (.iptr cs)))
 |_=>False
def lK (x:AV) (i:Nat) {K:AV→Prop} (k:Box K):Prop:=
 match x with
 |.tup ts=>aN (ts[i]?) k
 |_=>False
def mxA (mx:Bool) (x y:AV) {K:AV→Prop} (_:Box K):Prop:=
 match x,y with
 |.one (.d (.int k a)),.one (.d (.int _ b))=>K (iv k (if mx then max a b else min a b))
 |_,_=>False
def hY (e:Nat) (ti:TI) (i d:Nat) (s:St) (l c:AV) {K:St→Prop} (_:Box K):Prop:=
 match l,c with
 |.one (.d (.int _ n)),.one (.d (.int _ m))=>0≤n∧n≤m∧m≤4611686018427387904∧m*ti.bytes≤281474976710656∧
    K ((s.newC (e+1) i (List.replicate m.toNat (ti.zero.map C.d)).flatten).put (some d) (.one (.osl i (nxC (e+1) (s.gen i)) ti.size 0 n.toNat)))
 |_,_=>False
def cI:Nat→TypeDesc
 |0=>.int .i8|1=>.int .i16|2=>.int .i32|3=>.int .i64|4=>.int .u8|5=>.int .u16|6=>.int .u32|7=>.int .u64
 |8=>.string
 |9=>.bool
 |_=>.invalid
def ja:TypeDesc→Nat
 |.int .i8=>0|.int .i16=>1|.int .i32=>2|.int .i64=>3|.int .u8=>4|.int .u16=>5|.int .u32=>6|.int .u64=>7
 |.string=>8
 |_=>9
def fv:TypeDesc→D→Bool
 |.int k,.int k' _=>k'=k
 |.string,.str _=>true
 |.bool,.bool _=>true
 |_,_=>false
def iV:D→D→Bool
 |.int k n,.int k' n'=>k=k'&&n=n'
 |.str s,.str s'=>s=s'
 |.bool b,.bool b'=>b=b'
 |_,_=>false
def mget:List C→D→Option C
 |.d k'::c::r,k=>if iV k' k then some c else mget r k
 |_,_=>none
def mset:List C→D→C→List C
 |.d k'::c::r,k,x=>if iV k' k then .d k'::x::r else .d k'::c::mset r k x
 |_,k,x=>[.d k,x]
def tc (agg:Bool) (n:Nat):Nat:=match agg with|true=>200+n|false=>n
def kf (T:Nat→TI) (t i d:Nat) (s:St) {K:St→Prop} (_:Box K):Prop:=
 match (T t).desc with
 |.map kt et=>cI (ja (T kt).desc)=(T kt).desc∧K ((s.newC 0 i []).put (some d) (.one (.mp i (nxC 0 (s.gen i)) (tc (cL (T et).desc) (ja (T kt).desc)))))
 |_=>False
def pS (ok:Bool) (z:D) (c:Option C):AV:=if ok then .tup [.one (c.getD (.d z)),bv c.isSome] else .one (c.getD (.d z))
def vt (ti:TI) {K:D→Prop} (_:Box K):Prop:=
 match ti.zero with
 |[z]=>(okD ti.desc=true∧cL ti.desc=false)∧K z
 |_=>False
def sG (z:List D):Option C→List D
 |some (.d (.iptr ds))=>ds
 |_=>z
def kI (ok:Bool) (z:List D) (c:Option C):AV:=match ok with|true=>.tup [.agg ((sG z c).map .d),bv c.isSome]|false=>.agg ((sG z c).map .d)
def vu (ti:TI) {K:List D→Prop} (_:Box K):Prop:=(okD ti.desc=true∧2≤ti.zero.length)∧K ti.zero
def kJ (T:Nat→TI) (t:Nat) (s:St) (x ix:AV) (ok:Bool) {K:AV→Prop} (_:Box K):Prop:=
 match (T t).desc,ix with
 |.map kt et,.one (.d k)=>(okD (T kt).desc=true∧fv (T kt).desc k=true)∧
   match cL (T et).desc with
   | false=>vt (T et) (bx fun z=>
     match x with
     |.one (.mp id g kd)=>s.gen id=g∧cI kd=(T kt).desc∧aN (s.obj id) (bx fun cells=>K (pS ok z (mget cells k)))
     |.one (.d .nilm)=>K (pS ok z none)
     | _=>False)
   | true=>vu (T et) (bx fun z=>
     match x with
     |.one (.mp id g kd)=>s.gen id=g∧(200≤kd∧cI (kd-200)=(T kt).desc)∧aN (s.obj id) (bx fun cells=>K (kI ok z (mget cells k)))
     |.one (.d .nilm)=>K (kI ok z none)
     | _=>False)
 |_,_=>False
def datas:List C→Option (List D)
 |[]=>some []
 |.d x::r=>(datas r).map (x :: ·)
 |_=>none
def dw (T:Nat→TI) (t:Nat) (s:St) (m ix x:AV) {K:St→Prop} (_:Box K):Prop:=
 match (T t).desc,ix,m,x with
 |.map kt _,.one (.d k),.one (.mp id g kd),.one c=>(okD (T kt).desc=true∧fv (T kt).desc k=true)∧s.gen id=g∧cI kd=(T kt).desc∧aN (s.obj id) (bx fun cells=>K { s with obj:=upd s.obj id (some (mset cells k c))})
 |.map kt _,.one (.d k),.one (.mp id g kd),.agg cs=>(okD (T kt).desc=true∧fv (T kt).desc k=true)∧s.gen id=g∧(200≤kd∧cI (kd-200)=(T kt).desc)∧aN (datas cs) (bx fun ds=>aN (s.obj id) (bx fun cells=>K { s with obj:=upd s.obj id (some (mset cells k (.d (.iptr ds))))}))
 |_,_,_,_=>False
def zY:AV→Option PC
 |.one (.d x)=>some (.d x)
 |.one (.ptr id g off)=>some (.ptr id g off)
 |_=>none
def kg:List AV→Option (List PC)
 |[]=>some []
 |x::xs=>(zY x).bind fun p=>(kg xs).bind fun ps=>some (p::ps)
def ie (f:FuncId) (first caps:List AV) {K:AV→Prop} (_:Box K):Prop:=
 match first with
 |[]=>f<1000000∧aN (kg caps) (bx fun l=>K (.one (.clo f l)))
 |x::r=>caps=[]∧aN (kg (x::r)) (bx fun l=>K (.one (.clo (f+1000000) l)))
def aH (T:Nat→TI) (t:Nat):Nat:=
 match (T t).desc with
 |.slice e=>e
 |_=>0
def aP (T:Nat→TI) (t:Nat):TI:=
 match (T t).desc with
 |.slice e=>T e
 |_=>default
def qS (s:St) (c:Call) (i:Nat):AV:=s.ev (c.args.getD i (.const .nilFunc))
structure Sp where
 op:Oper→St→(St→Prop)→Prop
 code:Code→St→(Exit→St→Prop)→Prop
 vs:St→St→Prop
 base:Nat
def bi (S:Sp) (o:Oper) (s:St) {K:St→Prop} (_:Box K):Prop:=∃R,S.op o s R∧∀s',R s'→K s'
def HG (S:Sp) (c:Code) (s:St) {Q:Exit→St→Prop} (_:Box Q):Prop:=∃R,S.code c s R∧∀e s',R e s'→Q e s'
def isSlice (d:TypeDesc):Bool:=match d with|.slice _=>true|_=>false
def dy (T:Nat→TI):Op→Bool
 |.indexAddr _ x _=>match x with|.global _=>false|_=>true
 |.move _|.assign _|.pick .. | .load .. | .index .. | .binOp .. | .unOp .. | .slice _ _ _ _ none|.fieldAddr .. | .field .. | .build .. | .nilCheck _|.extract .. | .lookup .. | .makeFunc (.func _) _ _=>true
 |.convert _ d _=>!isSlice (T d).desc
 |.call c=>match c.callee with|.builtin .len|.builtin .max|.builtin .min=>true|_=>false
 |_=>false
def lL (T:Nat→TI) (ops:Array Oper):Bool:=
 (ops.toList.all (dy T ·.op)&&Region.lexB .any ops) ||
 [1,2,3,4].any fun k=>(ops.toList.take (ops.size-k)).all (dy T ·.op)&&Region.lexTailB .any ops (ops.size-k)
def isStr (d:TypeDesc):Bool:=match d with|.string=>true|_=>false
def cJ (T:Nat→TI) (t:Nat):Bool:=isSlice (T t).desc&&okD (aP T t).desc
def kK (T:Nat→TI) (src d base:Nat) (dst:Option Nat) (s:St) (x:AV) {K:St→Prop} (_:Box K):Prop:=
 match dst,x with
 |some dd,.one (.d (.str bs))=>isStr (T src).desc=true∧un (aP T d).desc=true∧K ((s.newC (aH T d+1) (base+dd) (bs.map fun b=>.d (sZ b))).put (some dd) (.one (.osl (base+dd) (nxC (aH T d+1) (s.gen (base+dd))) 1 0 bs.length)))
 |_,_=>False
def Md (S:Sp) (T:Nat→TI) (o:Oper) (c:Call) (s:St) {K:St→Prop} (k:Box K):Prop:=
 match c.callee,o.dst with
 |.builtin .len,dst=>(c.args.size=1∧c.argTypes.size=1)∧vp s (isStr (T (c.argTypes.getD 0 0)).desc) (cJ T (c.argTypes.getD 0 0)) (qS s c 0) (bx fun v=>K (s.put dst v))
 |.builtin .max,dst=>c.args.size=2∧mxA true (qS s c 0) (qS s c 1) (bx fun v=>K (s.put dst v))
 |.builtin .min,dst=>c.args.size=2∧mxA false (qS s c 0) (qS s c 1) (bx fun v=>K (s.put dst v))
 |.builtin .append,some d=>(c.args.size=2∧c.argTypes.size=2)∧cJ T (c.argTypes.getD 0 0)=true∧kH (aH T (c.argTypes.getD 0 0)) (aP T (c.argTypes.getD 0 0)) (isStr (T (c.argTypes.getD 1 0)).desc) (cJ T (c.argTypes.getD 1 0)) (S.base+d) d s (qS s c 0) (qS s c 1) k
 |_,_=>bi S o s k
def opA (S:Sp) (T:Nat→TI) (o:Oper) (s:St) {K:St→Prop} (k:Box K):Prop:=
 match o.op,o.dst with
 |.move x,dst=>K (s.put dst (s.ev x))
 |.assign x,dst=>K (s.put dst (s.ev x))
 |.pick c a b,dst=>ng (s.ev c) (bx fun t=>K (s.put dst (if t then s.ev a else s.ev b)))
 |.load t a,dst=>pP (T t) s (s.ev a) (bx fun v=>K (s.put dst v))
 |.store t a x,dst=>oK (T t) s (s.ev a) (s.ev x) (bx fun s'=>K (s'.put dst uv))
 |.indexAddr t x ix,dst=>match x with
   |.global _=>bi S o s k
   |x=>bif lJ (T t).desc then ka T (T t).desc s (s.ev x) (s.ev ix) (bx fun v=>K (s.put dst v)) else cJ T t=true∧fN s (aP T t).size (s.ev x) (s.ev ix) (bx fun v=>K (s.put dst v))
 |.index t x ix,dst=>isStr (T t).desc=true∧qQ (s.ev x) (s.ev ix) (bx fun v=>K (s.put dst v))
 |.binOp op t x y _,dst=>zX T (T t).desc op (s.ev x) (s.ev y) (bx fun v=>K (s.put dst v))
 |.unOp op _ x,dst=>unA op (s.ev x) (bx fun v=>K (s.put dst v))
 |.convert src d x,dst=>bif isSlice (T d).desc then kK T src d S.base dst s (s.ev x) k else pQ s (aP T src).desc (T src).desc (T d).desc (s.ev x) (bx fun v=>K (s.put dst v))
 |.slice t x lo hi none,dst=>bif lJ (T t).desc then ke T (T t).desc s (s.ev x) (lo.map s.ev) (hi.map s.ev) (bx fun v=>K (s.put dst v)) else nh s (isStr (T t).desc) (cJ T t) (aP T t).size (s.ev x) (lo.map s.ev) (hi.map s.ev) (bx fun v=>K (s.put dst v))
 |.buildSlice t n ps,some d=>cJ T t=true∧iA (aH T t) (aP T t).size (S.base+d) d n s (ps.toList.map fun p=>(p.1,s.ev p.2)) k
 |.makeSlice t l c,some d=>cJ T t=true∧hY (aH T t) (aP T t) (S.base+d) d s (s.ev l) (s.ev c) k
 |.fieldAddr t x f,dst=>fO T t f s (s.ev x) (bx fun v=>K (s.put dst v))
 |.field t x f,dst=>oN T t f (s.ev x) (bx fun v=>K (s.put dst v))
 |.build t ps,dst=>ew T t (ps.toList.map fun p=>(p.1,s.ev p.2)) (bx fun v=>K (s.put dst v))
 |.nilCheck x,dst=>gZ s (s.ev x) (bx fun v=>K (s.put dst v))
 |.extract x i,dst=>lK (s.ev x) i (bx fun v=>K (s.put dst v))
 |.box t x,some d=>EY t (S.base+d) d s (s.ev x) k
 |.alloc t,some d=>uq t (T t) (S.base+d) d s k
 |.makeMap t none,some d=>kf T t (S.base+d) d s k
 |.lookup t x ix ok,dst=>kJ T t s (s.ev x) (s.ev ix) ok (bx fun v=>K (s.put dst v))
 |.mapUpdate t m ix x,dst=>dw T t s (s.ev m) (s.ev ix) (s.ev x) (bx fun s'=>K (s'.put dst uv))
 |.makeFunc (.func f) first caps,dst=>ie f (first.toList.map s.ev) (caps.toList.map s.ev) (bx fun v=>K (s.put dst v))
 |.call c,_=>Md S T o c s k
 |_,_=>bi S o s k
def wpO (S:Sp) (T:Nat→TI) (ops:Array Oper):List Oper→(s:St)→{K:St→Prop}→(k:Box K)→Prop
 |[],s,K,_=>K s
 |o::rest,s,K,k=>
   match o.guard with
   |none=>opA S T o s (bx fun s'=>wpO S T ops rest s' k)
   |some (j,want)=>
     aN ((ops[j]?).bind (·.dst)) (bx fun d=>
      kG (s.f d) (bx fun b=>if b=want then opA S T o { s with f:=upd s.f d (bv b)} (bx fun s'=>wpO S T ops rest s' k)
       else wpO S T ops rest ({ s with f:=upd s.f d (bv b)}.put o.dst uv) k) (bx (wpO S T ops rest (s.put o.dst uv) k)))
def kh {next:St→Prop} (_:Box next) {Q:Exit→St→Prop} (_:Box Q):Exit→St→Prop
 |.normal,s=>next s
 |e,s=>Q e s
def gu (id:Nat) {Q:Exit→St→Prop} (_:Box Q):Exit→St→Prop
 |.exit id',s=>if id'=id then Q .normal s else Q (.exit id') s
 |e,s=>Q e s
def qT (S:Sp) {B:(Exit→St→Prop)→St→Prop} (_:Box B) {Q:Exit→St→Prop} (q:Box Q) (s:St):Prop:=
 ∃I:Nat→St→Prop,(∃n s₁,S.vs s s₁∧I n s₁)∧∀n s,I n s→B (kh (bx fun s'=>∃n' s₁,n'<n∧S.vs s' s₁∧I n' s₁) q) s
def nH {Q:Exit→St→Prop} (_:Box Q):Exit→St→Prop
 |.goto _,_=>False
 |e,s=>Q e s
def js (S:Sp) (T:Nat→TI) (id:Nat) (ops:Array Oper) (s:St) {Q:Exit→St→Prop} (q:Box Q):Prop:=
 (lL T ops=true∧wpO S T ops ops.toList s (bx fun s'=>Q .normal s'))∨HG S (.region id ops true) s q
def wpC (S:Sp) (T:Nat→TI):Code→{Q:Exit→St→Prop}→(q:Box Q)→St→Prop
 |.skip,Q,_,s=>Q .normal s
 |.label _,Q,_,s=>Q .normal s
 |.region id ops b,Q,q,s=>match b with|true=>js S T id ops s q|false=>wpO S T ops ops.toList s (bx fun s'=>Q .normal s')
 |.seq x y,Q,q,s=>wpC S T x (bx (kh (bx fun s'=>wpC S T y q s') q)) s
 |.cond c x y,Q,q,s=>ng (s.ev c) (bx fun b=>if b then wpC S T x q s else wpC S T y q s)
 |.block id c,Q,q,s=>wpC S T c (bx (gu id q)) s
 |.loop c,Q,q,s=>qT S (bx fun Q s=>wpC S T c (bx Q) s) q s
 |.exit id,Q,_,s=>Q (.exit id) s
 |.ret,Q,_,s=>Q .ret s
 |.scope c,_,q,s=>wpC S T c (bx (nH q)) s
 |.goto l,Q,_,s=>Q (.goto l) s
 |c,_,q,s=>HG S c s q
variable {K:AV→Prop}{s:St}{ty:TypeId}{ps:String}{af:Array Edge}{gd:Option (Nat×Bool)}{dst:Option Tmp}{x:Operand}{t:TypeId}{n:Nat}{Q:Exit→St→Prop}{d:Tmp}{a:Array Operand}{ts:Array TypeId}{next:St→Prop}{c:Code}{ix:Operand}{p:Array (Nat×Operand)}{l:List Oper}{q:Box Q}{b:Box next}
section equations
variable {S:Sp}{T:Nat→TI}
@[go_sem] theorem HH {K:Bool→Prop} (k:Box K):gt true k=K true:=by simp[gt]
@[go_sem] theorem EZ {K:Bool→Prop} (k:Box K):gt false k=K false:=by simp[gt]
@[go_sem] theorem EI (p:Prop) [Decidable p] {K:Bool→Prop} (k:Box K):gt (decide p) k=((p→K true)∧(¬p→K false)):=by simp[gt]
@[go_sem] theorem IP (b:Bool) {K:Bool→Prop} (k:Box K):gt (!b) k=gt b (bx fun t=>K (!t)):=by cases b <;> simp[gt]
@[go_sem] theorem HI {α:Type} (a:α) {K:α→Prop} (k:Box K):aN (some a) k=K a:=j8 rfl rfl
@[go_sem] theorem Lb (b:Bool) {K:Bool→Prop} (k:Box K):ng (.one (.d (.bool b))) k=gt b k:=j8 rfl rfl
@[go_sem] theorem Lc (b:Bool) {K:Bool→Prop} (k:Box K) {U:Prop} (u:Box U):kG (.one (.d (.bool b))) k u=gt b k:=j8 rfl rfl
@[go_sem] theorem Me {K:Bool→Prop} (k:Box K) {U:Prop} (u:Box U):kG (.tup []) k u=U:=j8 rfl rfl
@[go_sem] theorem HJ :cL .bool=false:=j8 rfl rfl
@[go_sem] theorem Mf :okD .bool=true:=j8 rfl rfl
@[go_sem] theorem IQ (kd:IntKind):cL (.int kd)=false:=j8 rfl rfl
@[go_sem] theorem HK (kd:IntKind):isSlice (.int kd)=false:=j8 rfl rfl
@[go_sem] theorem Pe (kd:IntKind):okD (.int kd)=true:=j8 rfl rfl
@[go_sem] theorem EJ :cL .string=false:=j8 rfl rfl
@[go_sem] theorem BE :isSlice .string=false:=j8 rfl rfl
@[go_sem] theorem Fa :lJ .string=false:=j8 rfl rfl
@[go_sem] theorem IR :okD .string=true:=j8 rfl rfl
@[go_sem] theorem Fb :isStr .string=true:=j8 rfl rfl
@[go_sem] theorem BF (e:TypeId):cL (.pointer e)=false:=j8 rfl rfl
@[go_sem] theorem HL (e:TypeId):okD (.pointer e)=true:=j8 rfl rfl
@[go_sem] theorem Fc (e:TypeId):cL (.slice e)=false:=j8 rfl rfl
@[go_sem] theorem EK (e:TypeId):isSlice (.slice e)=true:=j8 rfl rfl
@[go_sem] theorem HM (e:TypeId):lJ (.slice e)=false:=j8 rfl rfl
@[go_sem] theorem Ld (e:TypeId):okD (.slice e)=true:=j8 rfl rfl
@[go_sem] theorem HN (e:TypeId):isStr (.slice e)=false:=j8 rfl rfl
@[go_sem] theorem Fd (n:Nat) (e:TypeId):cL (.array n e)=true:=j8 rfl rfl
@[go_sem] theorem HO (n:Nat) (e:TypeId):lJ (.array n e)=true:=j8 rfl rfl
@[go_sem] theorem Le (n:Nat) (e:TypeId):okD (.array n e)=true:=j8 rfl rfl
@[go_sem] theorem IS (a b:TypeId):cL (.map a b)=false:=j8 rfl rfl
@[go_sem] theorem Pf (a b:TypeId):okD (.map a b)=true:=j8 rfl rfl
@[go_sem] theorem EL (fs:Array Field):cL (.struct fs)=true:=j8 rfl rfl
@[go_sem] theorem IT (fs:Array Field):okD (.struct fs)=true:=j8 rfl rfl
@[go_sem] theorem HP (ps rs:Array TypeId) (v:Bool):cL (.func ps rs v)=false:=j8 rfl rfl
@[go_sem] theorem Mg (ps rs:Array TypeId) (v:Bool):okD (.func ps rs v)=true:=j8 rfl rfl
@[go_sem] theorem Lf (d:TypeDesc) (n b:Nat) (z:List D) (cells:List C) (off:Nat) (k:Box K):qP ⟨d,n,b,z⟩ cells off k=(match cL d with|true=>off+n≤cells.length∧K (.agg ((cells.drop off).take n))|false=>aN (cells[off]?) (bx fun c=>K (.one c))):=j8 rfl rfl
@[go_sem] theorem Lg (d:TypeDesc) (n b:Nat) (z:List D) (cs:List D) (k:Box K):yP ⟨d,n,b,z⟩ cs k=(match cL d with|true=>n≤cs.length∧K (.agg ((cs.take n).map .d))|false=>aN (cs[0]?) (bx fun c=>K (.one (.d c)))):=j8 rfl rfl
@[go_sem] theorem Lh (ti:TI) (s:St) (id g off:Nat) (k:Box K):pP ti s (.one (.ptr id g off)) k=(okD ti.desc=true∧s.gen id=g∧aN (s.obj id) (bx fun cells=>qP ti cells off k)):=j8 rfl rfl
@[go_sem] theorem IU (ti:TI) (s:St) (cs:List D) (k:Box K):pP ti s (.one (.d (.iptr cs))) k=(okD ti.desc=true∧yP ti cs k):=j8 rfl rfl
@[go_sem] theorem IV (ti:TI) (s:St) (id g off:Nat) (x:AV) {K:St→Prop} (k:Box K):oK ti s (.one (.ptr id g off)) x k=(okD ti.desc=true∧s.gen id=g∧aN (cellsOf x) (bx fun cs=>cs.length=ti.size∧aN (s.obj id) (bx fun cells=>off+cs.length≤cells.length∧K { s with obj:=upd s.obj id (some (setAt cells off cs))}))):=j8 rfl rfl
@[go_sem] theorem HQ (c:C):cellsOf (.one c)=some [c]:=j8 rfl rfl
@[go_sem] theorem HR (cs:List C):cellsOf (.agg cs)=some cs:=j8 rfl rfl
@[go_sem] theorem Li (cells:List C) (off:Nat):setAt cells off []=cells:=j8 rfl rfl
@[go_sem] theorem IW (cells:List C) (off:Nat) (c:C) (cs:List C):setAt cells off (c::cs)=setAt (cells.set off c) (off+1) cs:=j8 rfl rfl
@[go_sem] theorem Fe (T:Nat→TI) (n:Nat) (e:TypeId) (s:St) (id g off:Nat) (kd:IntKind) (i:Int) (k:Box K):ka T (.array n e) s (.one (.ptr id g off)) (.one (.d (.int kd i))) k=(s.gen id=g∧(s.obj id).isSome=true∧okD (T e).desc=true∧0≤i∧i<n∧K (.one (.ptr id g (off+i.toNat*(T e).size)))):=j8 rfl rfl
@[go_sem] theorem EM (s:St) (sz:Nat) (es:List (List D)) (kd:IntKind) (i:Int) (k:Box K):fN s sz (.one (.d (.sl es))) (.one (.d (.int kd i))) k=(0≤i∧aN (es[i.toNat]?) (bx fun c=>c.length=sz∧K (.one (.d (.iptr c))))):=j8 rfl rfl
@[go_sem] theorem BG (s:St) (sz id g sz' off len:Nat) (kd:IntKind) (i:Int) (k:Box K):fN s sz (.one (.osl id g sz' off len)) (.one (.d (.int kd i))) k=(s.gen id=g∧(s.obj id).isSome=true∧0≤i∧i<len∧sz'=sz∧K (.one (.ptr id g (off+i.toNat*sz)))):=j8 rfl rfl
@[go_sem] theorem IX (s:List UInt8) (kd:IntKind) (i:Int) (k:Box K):qQ (.one (.d (.str s))) (.one (.d (.int kd i))) k=(0≤i∧aN (s[i.toNat]?) (bx fun c=>K (iv .u8 c.toNat))):=j8 rfl rfl
@[go_sem] theorem Mh (kd:IntKind) (x y:Int) (k:Box K):kc .add kd x y k=K (iv kd (kd.wrap (x+y))):=j8 rfl rfl
@[go_sem] theorem Ff (a b:IntKind):sameKind .add a b=(a=b):=j8 rfl rfl
@[go_sem] theorem Mj (kd:IntKind) (x y:Int) (k:Box K):kc .sub kd x y k=K (iv kd (kd.wrap (x-y))):=j8 rfl rfl
@[go_sem] theorem Fg (a b:IntKind):sameKind .sub a b=(a=b):=j8 rfl rfl
@[go_sem] theorem Ml (kd:IntKind) (x y:Int) (k:Box K):kc .mul kd x y k=K (iv kd (kd.wrap (x*y))):=j8 rfl rfl
@[go_sem] theorem Fh (a b:IntKind):sameKind .mul a b=(a=b):=j8 rfl rfl
@[go_sem] theorem Mm (kd:IntKind) (x y:Int) (k:Box K):kc .quo kd x y k=(y≠0∧K (iv kd (kd.wrap (x.tdiv y)))):=j8 rfl rfl
@[go_sem] theorem Fi (a b:IntKind):sameKind .quo a b=(a=b):=j8 rfl rfl
@[go_sem] theorem Mn (kd:IntKind) (x y:Int) (k:Box K):kc .rem kd x y k=(y≠0∧K (iv kd (x.tmod y))):=j8 rfl rfl
@[go_sem] theorem Fj (a b:IntKind):sameKind .rem a b=(a=b):=j8 rfl rfl
@[go_sem] theorem Mp (kd:IntKind) (x y:Int) (k:Box K):kc .eql kd x y k=K (bv (decide (x=y))):=j8 rfl rfl
@[go_sem] theorem Fk (a b:IntKind):sameKind .eql a b=(a=b):=j8 rfl rfl
@[go_sem] theorem Mq (kd:IntKind) (x y:Int) (k:Box K):kc .neq kd x y k=K (bv (decide (x≠y))):=j8 rfl rfl
@[go_sem] theorem Fl (a b:IntKind):sameKind .neq a b=(a=b):=j8 rfl rfl
@[go_sem] theorem Mr (kd:IntKind) (x y:Int) (k:Box K):kc .lss kd x y k=K (bv (decide (x<y))):=j8 rfl rfl
@[go_sem] theorem Fm (a b:IntKind):sameKind .lss a b=(a=b):=j8 rfl rfl
@[go_sem] theorem Ms (kd:IntKind) (x y:Int) (k:Box K):kc .leq kd x y k=K (bv (decide (x≤y))):=j8 rfl rfl
@[go_sem] theorem Fo (a b:IntKind):sameKind .leq a b=(a=b):=j8 rfl rfl
@[go_sem] theorem Mt (kd:IntKind) (x y:Int) (k:Box K):kc .gtr kd x y k=K (bv (decide (y<x))):=j8 rfl rfl
@[go_sem] theorem Fp (a b:IntKind):sameKind .gtr a b=(a=b):=j8 rfl rfl
@[go_sem] theorem Mu (kd:IntKind) (x y:Int) (k:Box K):kc .geq kd x y k=K (bv (decide (y≤x))):=j8 rfl rfl
@[go_sem] theorem Fq (a b:IntKind):sameKind .geq a b=(a=b):=j8 rfl rfl
@[go_sem] theorem Mv (kd:IntKind) (x y:Int) (k:Box K):kc .and kd x y k=K (iv kd (kd.wrap (BitVec.ofInt kd.bits x &&&BitVec.ofInt kd.bits y).toNat)):=j8 rfl rfl
@[go_sem] theorem Fr (a b:IntKind):sameKind .and a b=(a=b):=j8 rfl rfl
@[go_sem] theorem Pg (kd:IntKind) (x y:Int) (k:Box K):kc .or kd x y k=K (iv kd (kd.wrap (BitVec.ofInt kd.bits x |||BitVec.ofInt kd.bits y).toNat)):=j8 rfl rfl
@[go_sem] theorem HS (a b:IntKind):sameKind .or a b=(a=b):=j8 rfl rfl
@[go_sem] theorem Mw (kd:IntKind) (x y:Int) (k:Box K):kc .xor kd x y k=K (iv kd (kd.wrap (BitVec.ofInt kd.bits x ^^^ BitVec.ofInt kd.bits y).toNat)):=j8 rfl rfl
@[go_sem] theorem Fs (a b:IntKind):sameKind .xor a b=(a=b):=j8 rfl rfl
@[go_sem] theorem Mx (kd:IntKind) (x y:Int) (k:Box K):kc .shl kd x y k=(0≤y∧K (iv kd (kd.wrap (x*2^(min y.toNat kd.bits))))):=j8 rfl rfl
@[go_sem] theorem Ft (a b:IntKind):sameKind .shl a b=True:=j8 rfl rfl
@[go_sem] theorem My (kd:IntKind) (x y:Int) (k:Box K):kc .shr kd x y k=(0≤y∧K (iv kd (x.fdiv (2^(min y.toNat kd.bits))))):=j8 rfl rfl
@[go_sem] theorem Fu (a b:IntKind):sameKind .shr a b=True:=j8 rfl rfl
@[go_sem] theorem Mz (x y:List UInt8) (k:Box K):xu .add x y k=(((x.length+y.length:Nat):Int)≤9223372036854775807∧K (sv (x++y))):=j8 rfl rfl
@[go_sem] theorem MA (x y:List UInt8) (k:Box K):xu .eql x y k=K (bv (decide (x=y))):=j8 rfl rfl
@[go_sem] theorem MB (x y:List UInt8) (k:Box K):xu .neq x y k=K (bv (decide (x≠y))):=j8 rfl rfl
@[go_sem] theorem MC (d:TypeDesc) (op:BinOp) (k1 k2:IntKind) (a b:Int) (k:Box K):zX T d op (.one (.d (.int k1 a))) (.one (.d (.int k2 b))) k=(sameKind op k1 k2∧kc op k1 a b k):=j8 rfl rfl
@[go_sem] theorem MD (d:TypeDesc) (op:BinOp) (a b:List UInt8) (k:Box K):zX T d op (.one (.d (.str a))) (.one (.d (.str b))) k=xu op a b k:=j8 rfl rfl
@[go_sem] theorem Ph (b:Bool) (k:Box K):unA .not (.one (.d (.bool b))) k=K (bv (!b)):=j8 rfl rfl
@[go_sem] theorem Lj (st:St) (el:TypeDesc) (src:TypeDesc) (kd k2:IntKind) (n:Int) (k:Box K):pQ st el src (.int kd) (.one (.d (.int k2 n))) k=(okD src=true∧K (iv kd (kd.wrap n))):=by cases src <;> rfl
@[go_sem] theorem HT (st:St) (el:TypeDesc) (e:TypeId) (y:AV) (k:Box K):pQ st el (.slice e) .string y k=(un el=true∧contents st false true 1 y (bx fun _ cs=>aN (u8s cs) (bx fun ns=>K (sv (ns.map fun n=>UInt8.ofNat n.toNat))))):=by cases y <;> rfl
@[go_sem] theorem Pi:un (.int .u8)=true:=j8 rfl rfl
@[go_sem] theorem HU (s:St) (bs bl:Bool) (sz:Nat) (es:List (List D)) {K:Nat→List C→Prop} (k:Box K):contents s bs bl sz (.one (.d (.sl es))) k=(bl=true∧(∀e∈es,e.length=sz)∧K es.length (es.flatten.map .d)):=j8 rfl rfl
@[go_sem] theorem Fv (s:St) (bs bl:Bool) (sz id g sz' off len:Nat) {K:Nat→List C→Prop} (k:Box K):contents s bs bl sz (.one (.osl id g sz' off len)) k=(bl=true∧s.gen id=g∧sz'=sz∧aN (s.obj id) (bx fun cells=>off+len*sz≤cells.length∧K len ((cells.drop off).take (len*sz)))):=j8 rfl rfl
@[go_sem] theorem HV (e:Nat) (ti:TI) (bs bl:Bool) (i d:Nat) (s:St) (y:AV) {K:St→Prop} (k:Box K):kH e ti bs bl i d s (.one (.d .nsl)) y k=contents s bs bl ti.size y (bx fun n cs=>qR n ti.bytes∧K ((s.newC (e+1) i cs).put (some d) (.one (.osl i (nxC (e+1) (s.gen i)) ti.size 0 n)))):=j8 rfl rfl
@[go_sem] theorem HW (e:Nat) (ti:TI) (bs bl:Bool) (i d:Nat) (s:St) (id g sz off len:Nat) (y:AV) {K:St→Prop} (k:Box K):kH e ti bs bl i d s (.one (.osl id g sz off len)) y k=(s.gen id=g∧sz=ti.size∧aN (s.obj id) (bx fun cells=>off+len*sz≤cells.length∧
   contents s bs bl ti.size y (bx fun n cs=>qR (len+n) ti.bytes∧
    K ((s.newC (apC e (s.gen id) off) id ((cells.drop off).take (len*sz)++cs)).put (some d) (.one (.osl id (nxC (apC e (s.gen id) off) (s.gen id)) ti.size 0 (len+n))))))):=j8 rfl rfl
@[go_sem] theorem Pj (s:St) (bs bl:Bool) (es:List (List D)) (k:Box K):vp s bs bl (.one (.d (.sl es))) k=(bl=true∧K (iv .i64 es.length)):=j8 rfl rfl
@[go_sem] theorem ME (s:St) (bs bl:Bool) (es:List UInt8) (k:Box K):vp s bs bl (.one (.d (.str es))) k=(bs=true∧K (iv .i64 es.length)):=j8 rfl rfl
@[go_sem] theorem MF (s:St) (bs bl:Bool) (id g sz off len:Nat) (k:Box K):vp s bs bl (.one (.osl id g sz off len)) k=(bl=true∧s.gen id=g∧(s.obj id).isSome=true∧K (iv .i64 len)):=j8 rfl rfl
@[go_sem] theorem HX (n:Nat) {K:Nat→Prop} (k:Box K):eV none n k=K n:=j8 rfl rfl
@[go_sem] theorem HY (n:Nat) (kd:IntKind) (i:Int) {K:Nat→Prop} (k:Box K):eV (some (.one (.d (.int kd i)))) n k=(0≤i∧K i.toNat):=j8 rfl rfl
@[go_sem] theorem IY (st:St) (bs bl:Bool) (sz:Nat) (s:List UInt8) (lo hi:Option AV) (k:Box K):nh st bs bl sz (.one (.d (.str s))) lo hi k=(bs=true∧eV hi s.length (bx fun h=>eV lo 0 (bx fun l=>l≤h∧h≤s.length∧K (sv ((s.take h).drop l))))):=j8 rfl rfl
@[go_sem] theorem IZ (s:St) (bs bl:Bool) (sz id g sz' off len:Nat) (lo hi:Option AV) (k:Box K):nh s bs bl sz (.one (.osl id g sz' off len)) lo hi k=(bl=true∧s.gen id=g∧(s.obj id).isSome=true∧eV hi len (bx fun h=>eV lo 0 (bx fun l=>l≤h∧h≤len∧sz'=sz∧K (.one (.osl id g sz (off+l*sz) (h-l)))))):=j8 rfl rfl
@[go_sem] theorem MG (sz n:Nat) {K:List C→Prop} (k:Box K):vq sz n [] k=K []:=j8 rfl rfl
@[go_sem] theorem Lk (sz n i:Nat) (x:AV) (r:List (Nat×AV)) {K:List C→Prop} (k:Box K):vq sz n ((i,x)::r) k=(i=n∧aN (cellsOf x) (bx fun cs=>cs.length=sz∧vq sz (n+1) r (bx fun rest=>K (cs++rest)))):=j8 rfl rfl
@[go_sem] theorem BH (e sz i d n:Nat) (s:St) (ps:List (Nat×AV)) {K:St→Prop} (k:Box K):iA e sz i d n s ps k=(ps.length=n∧n*sz≤16777216∧vq sz 0 ps (bx fun cs=>K ((s.newC (e+1) i cs).put (some d) (.one (.osl i (nxC (e+1) (s.gen i)) sz 0 n))))):=j8 rfl rfl
@[go_sem] theorem BI (fs:Array Field) (f:Nat):fH (.struct fs) f=fs[f]?:=j8 rfl rfl
@[go_sem] theorem BJ (t f:Nat) (s:St) (id g off:Nat) (k:Box K):fO T t f s (.one (.ptr id g off)) k=(s.gen id=g∧(s.obj id).isSome=true∧aN (fH (T t).desc f) (bx fun fl=>(okD (T fl.type).desc=true∧(T fl.type).size≠0)∧K (.one (.ptr id g (off+fl.offset))))):=j8 rfl rfl
@[go_sem] theorem BB (t f:Nat) (s:St) (cs:List D) (k:Box K):fO T t f s (.one (.d (.iptr cs))) k=aN (fH (T t).desc f) (bx fun fl=>(okD (T fl.type).desc=true∧(T fl.type).size≠0)∧K (.one (.d (.iptr (cs.drop fl.offset))))):=j8 rfl rfl
@[go_sem] theorem Ja (t f:Nat) (cs:List C) (k:Box K):oN T t f (.agg cs) k=aN (fH (T t).desc f) (bx fun fl=>okD (T fl.type).desc=true∧qP (T fl.type) cs fl.offset k):=j8 rfl rfl
@[go_sem] theorem Ll (pl:Nat→Option (Nat×Nat)) (cells:List C) {K:List C→Prop} (k:Box K):pR pl cells [] k=K cells:=j8 rfl rfl
@[go_sem] theorem Jb (pl:Nat→Option (Nat×Nat)) (cells:List C) (i:Nat) (x:AV) (r:List (Nat×AV)) {K:List C→Prop} (k:Box K):pR pl cells ((i,x)::r) k=aN (pl i) (bx fun q=>aN (cellsOf x) (bx fun cs=>cs.length=q.2∧q.1+q.2≤cells.length∧pR pl (setAt cells q.1 cs) r k)):=j8 rfl rfl
@[go_sem] theorem Jc (fs:Array Field) (i:Nat):placeOf T (.struct fs) i=(fH (.struct fs) i).bind fun fl=>bif okD (T fl.type).desc then some (fl.offset,(T fl.type).size) else none:=j8 rfl rfl
@[go_sem] theorem Ln (t:Nat) (ps:List (Nat×AV)) (k:Box K):ew T t ps k=(fe T t=true∧pR (placeOf T (T t).desc) ((T t).zero.map .d) ps (bx fun cs=>K (.agg cs))):=j8 rfl rfl
@[go_sem] theorem Pk (t i d:Nat) (s:St) (x:AV) {K:St→Prop} (k:Box K):EY t i d s x k=aN (cellsOf x) (bx fun cs=>K ((s.newC (t+1) i cs).put (some d) (.one (.ptr i (nxC (t+1) (s.gen i)) 0)))):=j8 rfl rfl
@[go_sem] theorem Lo (t:Nat) (ti:TI) (i d:Nat) (s:St) {K:St→Prop} (k:Box K):uq t ti i d s k=(okD ti.desc=true∧K ((s.newC (t+1) i (ti.zero.map .d)).put (some d) (.one (.ptr i (nxC (t+1) (s.gen i)) 0)))):=j8 rfl rfl
@[go_sem] theorem EN (s:St) (id g off:Nat) (k:Box K):gZ s (.one (.ptr id g off)) k=(s.gen id=g∧(s.obj id).isSome=true∧K (.one (.ptr id g off))):=j8 rfl rfl
@[go_sem] theorem BK (s:St) (cs:List D) (k:Box K):gZ s (.one (.d (.iptr cs))) k=K (.one (.d (.iptr cs))):=j8 rfl rfl
@[go_sem] theorem Fw (ts:List AV) (i:Nat) (k:Box K):lK (.tup ts) i k=aN (ts[i]?) k:=j8 rfl rfl
@[go_sem] theorem Pm (k1 k2:IntKind) (a b:Int) (k:Box K):mxA true (.one (.d (.int k1 a))) (.one (.d (.int k2 b))) k=K (iv k1 (max a b)):=j8 rfl rfl
@[go_sem] theorem EO (e:Nat) (ti:TI) (i d:Nat) (s:St) (k1 k2:IntKind) (n m:Int) {K:St→Prop} (k:Box K):hY e ti i d s (.one (.d (.int k1 n))) (.one (.d (.int k2 m))) k=(0≤n∧n≤m∧m≤4611686018427387904∧m*ti.bytes≤281474976710656∧
   K ((s.newC (e+1) i (List.replicate m.toNat (ti.zero.map C.d)).flatten).put (some d) (.one (.osl i (nxC (e+1) (s.gen i)) ti.size 0 n.toNat)))):=j8 rfl rfl
@[go_sem] theorem Lp (k k':IntKind) (n:Int):fv (.int k) (.int k' n)=decide (k'=k):=j8 rfl rfl
@[go_sem] theorem Lq (s:List UInt8):fv .string (.str s)=true:=j8 rfl rfl
@[go_sem] theorem HZ:ja (.int .i64)=3:=j8 rfl rfl
@[go_sem] theorem Ia:ja .string=8:=j8 rfl rfl
@[go_sem] theorem Lr:cI 3=.int .i64:=j8 rfl rfl
@[go_sem] theorem Ls:cI 8=.string:=j8 rfl rfl
@[go_sem] theorem Pn (n:Nat):tc true n=200+n:=j8 rfl rfl
@[go_sem] theorem Po (n:Nat):tc false n=n:=j8 rfl rfl
@[go_sem] theorem MH (d:TypeDesc) (a b:Nat) (z:List D) {K:List D→Prop} (k:Box K):vu ⟨d,a,b,z⟩ k=((okD d=true∧2≤z.length)∧K z):=j8 rfl rfl
@[go_sem] theorem MJ (z:List D) (c:Option C):kI true z c=.tup [.agg ((sG z c).map .d),bv c.isSome]:=j8 rfl rfl
@[go_sem] theorem MK (z:List D) (c:Option C):kI false z c=.agg ((sG z c).map .d):=j8 rfl rfl
@[go_sem] theorem Lt (z:List D):sG z none=z:=j8 rfl rfl
@[go_sem] theorem Lu (z ds:List D):sG z (some (.d (.iptr ds)))=ds:=j8 rfl rfl
@[go_sem] theorem Lv:datas []=some []:=j8 rfl rfl
@[go_sem] theorem Jd (x:D) (r:List C):datas (.d x::r)=(datas r).map (x :: ·):=j8 rfl rfl
@[go_sem] theorem Ib (t i d:Nat) (s:St) {K:St→Prop} (k:Box K):kf T t i d s k=(match (T t).desc with
 |.map kt et=>cI (ja (T kt).desc)=(T kt).desc∧K ((s.newC 0 i []).put (some d) (.one (.mp i (nxC 0 (s.gen i)) (tc (cL (T et).desc) (ja (T kt).desc)))))
 | _=>False):=j8 rfl rfl
@[go_sem] theorem ML (d:TypeDesc) (a b:Nat) (z:D) {K:D→Prop} (k:Box K):vt ⟨d,a,b,[z]⟩ k=((okD d=true∧cL d=false)∧K z):=j8 rfl rfl
@[go_sem] theorem Je (t:Nat) (s:St) (x:AV) (k:D) (ok:Bool) (b:Box K):kJ T t s x (.one (.d k)) ok b=(match (T t).desc with
 |.map kt et=>(okD (T kt).desc=true∧fv (T kt).desc k=true)∧
   match cL (T et).desc with
   | false=>vt (T et) (bx fun z=>
     match x with
     |.one (.mp id g kd)=>s.gen id=g∧cI kd=(T kt).desc∧aN (s.obj id) (bx fun cells=>K (pS ok z (mget cells k)))
     |.one (.d .nilm)=>K (pS ok z none)
     | _=>False)
   | true=>vu (T et) (bx fun z=>
     match x with
     |.one (.mp id g kd)=>s.gen id=g∧(200≤kd∧cI (kd-200)=(T kt).desc)∧aN (s.obj id) (bx fun cells=>K (kI ok z (mget cells k)))
     |.one (.d .nilm)=>K (kI ok z none)
     | _=>False)
 | _=>False):=by unfold kJ;cases (T t).desc <;> rfl
@[go_sem] theorem BL (t:Nat) (s:St) (id g kd:Nat) (k:D) (cs:List C) {K:St→Prop} (b:Box K):dw T t s (.one (.mp id g kd)) (.one (.d k)) (.agg cs) b=(match (T t).desc with
 |.map kt _=>(okD (T kt).desc=true∧fv (T kt).desc k=true)∧s.gen id=g∧(200≤kd∧cI (kd-200)=(T kt).desc)∧aN (datas cs) (bx fun ds=>aN (s.obj id) (bx fun cells=>K { s with obj:=upd s.obj id (some (mset cells k (.d (.iptr ds))))}))
 | _=>False):=by unfold dw;cases (T t).desc <;> rfl
@[go_sem] theorem EP (t:Nat) (s:St) (id g kd:Nat) (k:D) (c:C) {K:St→Prop} (b:Box K):dw T t s (.one (.mp id g kd)) (.one (.d k)) (.one c) b=(match (T t).desc with
 |.map kt _=>(okD (T kt).desc=true∧fv (T kt).desc k=true)∧s.gen id=g∧cI kd=(T kt).desc∧aN (s.obj id) (bx fun cells=>K { s with obj:=upd s.obj id (some (mset cells k c))})
 | _=>False):=by unfold dw;cases (T t).desc <;> rfl
@[go_sem] theorem MM (id g off:Nat):zY (.one (.ptr id g off))=some (.ptr id g off):=j8 rfl rfl
@[go_sem] theorem Lx:kg []=some []:=j8 rfl rfl
@[go_sem] theorem Jf (x:AV) (xs:List AV):kg (x::xs)=(zY x).bind fun p=>(kg xs).bind fun ps=>some (p::ps):=j8 rfl rfl
@[go_sem] theorem EQ (f:FuncId) (caps:List AV) (k:Box K):ie f [] caps k=(f<1000000∧aN (kg caps) (bx fun l=>K (.one (.clo f l)))):=j8 rfl rfl
@[go_sem] theorem BM (f:FuncId) (x:AV) (r:List AV) (k:Box K):ie f (x::r) [] k=aN (kg (x::r)) (bx fun l=>K (.one (.clo (f+1000000) l))):=propext ⟨fun h=>h.2,fun h=>⟨rfl,h⟩⟩
@[go_sem] theorem MN{K:St→Prop}{k:Box K}:opA S T ⟨dst,.move x,ty,ps,af,gd⟩ s k=K (s.put dst (s.ev x)):=j8 rfl rfl
@[go_sem] theorem Jg{K:St→Prop}{k:Box K}:opA S T ⟨dst,.assign x,ty,ps,af,gd⟩ s k=K (s.put dst (s.ev x)):=j8 rfl rfl
@[go_sem] theorem MO{K:St→Prop}{k:Box K}{c a b:Operand}:opA S T ⟨dst,.pick c a b,ty,ps,af,gd⟩ s k=ng (s.ev c) (bx fun t=>K (s.put dst (if t then s.ev a else s.ev b))):=j8 rfl rfl
@[go_sem] theorem MP{K:St→Prop}{k:Box K}{a:Operand}:opA S T ⟨dst,.load t a,ty,ps,af,gd⟩ s k=pP (T t) s (s.ev a) (bx fun v=>K (s.put dst v)):=j8 rfl rfl
@[go_sem] theorem Ly{K:St→Prop}{k:Box K}{a x:Operand}:opA S T ⟨dst,.store t a x,ty,ps,af,gd⟩ s k=oK (T t) s (s.ev a) (s.ev x) (bx fun s'=>K (s'.put dst uv)):=j8 rfl rfl
@[go_sem] theorem ER{K:St→Prop}{k:Box K}{x:Nat}:opA S T ⟨dst,.indexAddr t (.tmp x) ix,ty,ps,af,gd⟩ s k=(bif lJ (T t).desc then ka T (T t).desc s (s.f x) (s.ev ix) (bx fun v=>K (s.put dst v)) else cJ T t=true∧fN s (aP T t).size (s.f x) (s.ev ix) (bx fun v=>K (s.put dst v))):=j8 rfl rfl
@[go_sem] theorem MQ{K:St→Prop}{k:Box K}{t g:Nat}:opA S T ⟨dst,.indexAddr t (.global g) ix,ty,ps,af,gd⟩ s k=bi S ⟨dst,.indexAddr t (.global g) ix,ty,ps,af,gd⟩ s k:=j8 rfl rfl
@[go_sem] theorem Lz{K:St→Prop}{k:Box K}{x ix:Operand}:opA S T ⟨dst,.index t x ix,ty,ps,af,gd⟩ s k=(isStr (T t).desc=true∧qQ (s.ev x) (s.ev ix) (bx fun v=>K (s.put dst v))):=j8 rfl rfl
@[go_sem] theorem LA{K:St→Prop}{k:Box K}{o:BinOp}{t u:TypeId}{x y:Operand}:opA S T ⟨dst,.binOp o t x y u,ty,ps,af,gd⟩ s k=zX T (T t).desc o (s.ev x) (s.ev y) (bx fun v=>K (s.put dst v)):=j8 rfl rfl
@[go_sem] theorem MR{K:St→Prop}{k:Box K}{o:UnOp}:opA S T ⟨dst,.unOp o t x,ty,ps,af,gd⟩ s k=unA o (s.ev x) (bx fun v=>K (s.put dst v)):=j8 rfl rfl
@[go_sem] theorem Ic{K:St→Prop}{k:Box K}{t u:TypeId}:opA S T ⟨dst,.convert t u x,ty,ps,af,gd⟩ s k=(bif isSlice (T u).desc then kK T t u S.base dst s (s.ev x) k else pQ s (aP T t).desc (T t).desc (T u).desc (s.ev x) (bx fun v=>K (s.put dst v))):=j8 rfl rfl
@[go_sem] theorem Ie (T:Nat→TI) (src d base dd:Nat) (s:St) (bs:List UInt8) {K:St→Prop} (k:Box K):kK T src d base (some dd) s (.one (.d (.str bs))) k=(isStr (T src).desc=true∧un (aP T d).desc=true∧K ((s.newC (aH T d+1) (base+dd) (bs.map fun b=>.d (sZ b))).put (some dd) (.one (.osl (base+dd) (nxC (aH T d+1) (s.gen (base+dd))) 1 0 bs.length)))):=j8 rfl rfl
@[go_sem] theorem LB{K:St→Prop}{k:Box K}{lo hi:Option Operand}:opA S T ⟨dst,.slice t x lo hi none,ty,ps,af,gd⟩ s k=(bif lJ (T t).desc then ke T (T t).desc s (s.ev x) (lo.map s.ev) (hi.map s.ev) (bx fun v=>K (s.put dst v)) else nh s (isStr (T t).desc) (cJ T t) (aP T t).size (s.ev x) (lo.map s.ev) (hi.map s.ev) (bx fun v=>K (s.put dst v))):=j8 rfl rfl
@[go_sem] theorem BN{K:St→Prop}{k:Box K}{t n:Nat}:opA S T ⟨(some d),.buildSlice t n p,ty,ps,af,gd⟩ s k=(cJ T t=true∧iA (aH T t) (aP T t).size (S.base+d) d n s (p.toList.map fun p=>(p.1,s.ev p.2)) k):=j8 rfl rfl
@[go_sem] theorem ES{K:St→Prop}{k:Box K}{l c:Operand}:opA S T ⟨(some d),.makeSlice t l c,ty,ps,af,gd⟩ s k=(cJ T t=true∧hY (aH T t) (aP T t) (S.base+d) d s (s.ev l) (s.ev c) k):=j8 rfl rfl
@[go_sem] theorem Pp{K:St→Prop}{k:Box K}:opA S T ⟨dst,.call ⟨.builtin .len,a,ts⟩,ty,ps,af,gd⟩ s k=((a.size=1∧ts.size=1)∧vp s (isStr (T (ts.getD 0 0)).desc) (cJ T (ts.getD 0 0)) (s.ev (a.getD 0 (.const .nilFunc))) (bx fun v=>K (s.put dst v))):=j8 rfl rfl
@[go_sem] theorem Jh{K:St→Prop}{k:Box K}:opA S T ⟨(some d),.call ⟨.builtin .append,a,ts⟩,ty,ps,af,gd⟩ s k=((a.size=2∧ts.size=2)∧cJ T (ts.getD 0 0)=true∧kH (aH T (ts.getD 0 0)) (aP T (ts.getD 0 0)) (isStr (T (ts.getD 1 0)).desc) (cJ T (ts.getD 1 0)) (S.base+d) d s (s.ev (a.getD 0 (.const .nilFunc))) (s.ev (a.getD 1 (.const .nilFunc))) k):=j8 rfl rfl
@[go_sem] theorem ET{K:St→Prop}{k:Box K}{t f:Nat}:opA S T ⟨dst,.fieldAddr t x f,ty,ps,af,gd⟩ s k=fO T t f s (s.ev x) (bx fun v=>K (s.put dst v)):=j8 rfl rfl
@[go_sem] theorem LC{K:St→Prop}{k:Box K}{t f:Nat}:opA S T ⟨dst,.field t x f,ty,ps,af,gd⟩ s k=oN T t f (s.ev x) (bx fun v=>K (s.put dst v)):=j8 rfl rfl
@[go_sem] theorem LD{K:St→Prop}{k:Box K}{t:Nat}:opA S T ⟨dst,.build t p,ty,ps,af,gd⟩ s k=ew T t (p.toList.map fun p=>(p.1,s.ev p.2)) (bx fun v=>K (s.put dst v)):=j8 rfl rfl
@[go_sem] theorem Fx{K:St→Prop}{k:Box K}:opA S T ⟨dst,.nilCheck x,ty,ps,af,gd⟩ s k=gZ s (s.ev x) (bx fun v=>K (s.put dst v)):=j8 rfl rfl
@[go_sem] theorem If{K:St→Prop}{k:Box K}{i:Nat}:opA S T ⟨dst,.extract x i,ty,ps,af,gd⟩ s k=lK (s.ev x) i (bx fun v=>K (s.put dst v)):=j8 rfl rfl
@[go_sem] theorem Pq{K:St→Prop}{k:Box K}{t:Nat}:opA S T ⟨(some d),.box t x,ty,ps,af,gd⟩ s k=EY t (S.base+d) d s (s.ev x) k:=j8 rfl rfl
@[go_sem] theorem LE{K:St→Prop}{k:Box K}{t:Nat}:opA S T ⟨(some d),.alloc t,ty,ps,af,gd⟩ s k=uq t (T t) (S.base+d) d s k:=j8 rfl rfl
@[go_sem] theorem Ig{K:St→Prop}{k:Box K}:opA S T ⟨(some d),.makeMap t none,ty,ps,af,gd⟩ s k=kf T t (S.base+d) d s k:=j8 rfl rfl
@[go_sem] theorem Ji{K:St→Prop}{k:Box K}{x ix:Operand}{ok:Bool}:opA S T ⟨dst,.lookup t x ix ok,ty,ps,af,gd⟩ s k=kJ T t s (s.ev x) (s.ev ix) ok (bx fun v=>K (s.put dst v)):=j8 rfl rfl
@[go_sem] theorem EU{K:St→Prop}{k:Box K}{m ix x:Operand}:opA S T ⟨dst,.mapUpdate t m ix x,ty,ps,af,gd⟩ s k=dw T t s (s.ev m) (s.ev ix) (s.ev x) (bx fun s'=>K (s'.put dst uv)):=j8 rfl rfl
@[go_sem] theorem Fy{K:St→Prop}{k:Box K}{f:FuncId}{first caps:Array Operand}:opA S T ⟨dst,.makeFunc (.func f) first caps,ty,ps,af,gd⟩ s k=ie f (first.toList.map s.ev) (caps.toList.map s.ev) (bx fun v=>K (s.put dst v)):=j8 rfl rfl
@[go_sem] theorem Pr{K:St→Prop}{k:Box K}:opA S T ⟨dst,.call ⟨.builtin .max,a,ts⟩,ty,ps,af,gd⟩ s k=(a.size=2∧mxA true (s.ev (a.getD 0 (.const .nilFunc))) (s.ev (a.getD 1 (.const .nilFunc))) (bx fun v=>K (s.put dst v))):=j8 rfl rfl
@[go_sem] theorem MS{K:St→Prop}{k:Box K}{f:Operand}:opA S T ⟨dst,.call ⟨.value f,a,ts⟩,ty,ps,af,gd⟩ s k=bi S ⟨dst,.call ⟨.value f,a,ts⟩,ty,ps,af,gd⟩ s k:=j8 rfl rfl
@[go_sem] theorem Qh (s:St) (t:Nat):s.ev (.tmp t)=s.f t:=j8 rfl rfl
@[go_sem] theorem MT (s:St) (v:Value):s.ev (.const v)=ul v:=j8 rfl rfl
@[go_sem] theorem Ps (s:St) (f:Nat):s.ev (.func f)=.one (.d (.fn f)):=j8 rfl rfl
@[go_sem] theorem LF (b:Bool):ul (.bool b)=bv b:=j8 rfl rfl
@[go_sem] theorem MU (k:IntKind) (n:Int):ul (.int k n)=iv k n:=j8 rfl rfl
@[go_sem] theorem Ih (s:ByteArray):ul (.string s)=sv s.data.toList:=j8 rfl rfl
@[go_sem] theorem MV :ul (.slice none 0 0)=.one (.d .nsl):=j8 rfl rfl
@[go_sem] theorem LG :ul (.pointer none)=.one (.d .nilp):=j8 rfl rfl
@[go_sem] theorem Fz:kh b q .normal s=next s:=j8 rfl rfl
@[go_sem] theorem LH:kh b q .ret s=Q .ret s:=j8 rfl rfl
@[go_sem] theorem Jj:kh b q (.exit n) s=Q (.exit n) s:=j8 rfl rfl
@[go_sem] theorem BC:gu n q .normal s=Q .normal s:=j8 rfl rfl
@[go_sem] theorem FA:gu n q .ret s=Q .ret s:=j8 rfl rfl
@[go_sem] theorem EV {n m:Nat}:gu n q (.exit m) s=(if m=n then Q .normal s else Q (.exit m) s):=j8 rfl rfl
@[go_sem] theorem Ii:nH q .ret s=Q .ret s:=j8 rfl rfl
@[go_sem] theorem Pt (c:Nat) (s:St) (d:Nat) (cs:List C):s.newC c d cs = { s with gen:=upd s.gen d (nxC c (s.gen d)),obj:=upd s.obj d (some cs)}:=j8 rfl rfl
section steps
variable {f:Nat→AV}{g:Nat→Nat}{ob:Nat→Option (List C)}{Q:Exit→St→Prop}{q:Box Q}{K:St→Prop}{k:Box K}{ops:Array Oper}{rest:List Oper}
@[go_sem] theorem MW:wpC S T .skip q ⟨f,g,ob⟩=Q .normal ⟨f,g,ob⟩:=j8 rfl rfl
@[go_sem] theorem LI:wpC S T (.label n) q ⟨f,g,ob⟩=Q .normal ⟨f,g,ob⟩:=j8 rfl rfl
@[go_sem] theorem LJ:wpC S T (.scope c) q ⟨f,g,ob⟩=wpC S T c (bx (nH q)) ⟨f,g,ob⟩:=j8 rfl rfl
@[go_sem] theorem MX:wpC S T (.region n l.toArray true) q ⟨f,g,ob⟩=js S T n l.toArray ⟨f,g,ob⟩ q:=j8 rfl rfl
@[go_sem] theorem Jk:wpC S T (.region n l.toArray false) q ⟨f,g,ob⟩=wpO S T l.toArray l ⟨f,g,ob⟩ (bx fun s'=>Q .normal s'):=by simp[wpC]
@[go_sem] theorem Pu {x y:Code}:wpC S T (.seq x y) q ⟨f,g,ob⟩=wpC S T x (bx (kh (bx fun s'=>wpC S T y q s') q)) ⟨f,g,ob⟩:=j8 rfl rfl
@[go_sem] theorem MY {c:Operand}{x y:Code}:wpC S T (.cond c x y) q ⟨f,g,ob⟩=ng (St.ev ⟨f,g,ob⟩ c) (bx fun b=>if b then wpC S T x q ⟨f,g,ob⟩ else wpC S T y q ⟨f,g,ob⟩):=j8 rfl rfl
@[go_sem] theorem LK:wpC S T (.block n c) q ⟨f,g,ob⟩=wpC S T c (bx (gu n q)) ⟨f,g,ob⟩:=j8 rfl rfl
@[go_sem] theorem MZ:wpC S T (.loop c) q ⟨f,g,ob⟩=qT S (bx fun Q s=>wpC S T c (bx Q) s) q ⟨f,g,ob⟩:=j8 rfl rfl
@[go_sem] theorem Na:wpC S T (.exit n) q ⟨f,g,ob⟩=Q (.exit n) ⟨f,g,ob⟩:=j8 rfl rfl
@[go_sem] theorem Pv:wpC S T .ret q ⟨f,g,ob⟩=Q .ret ⟨f,g,ob⟩:=j8 rfl rfl
@[go_sem] theorem Pw:wpO S T ops [] ⟨f,g,ob⟩ k=K ⟨f,g,ob⟩:=j8 rfl rfl
@[go_sem] theorem Nb{op:Op} :
  wpO S T ops (⟨dst,op,ty,ps,af,none⟩::rest) ⟨f,g,ob⟩ k=opA S T ⟨dst,op,ty,ps,af,none⟩ ⟨f,g,ob⟩ (bx fun s'=>wpO S T ops rest s' k):=j8 rfl rfl
@[go_sem] theorem Nc{op:Op}{j:Nat}{want:Bool} :
  wpO S T ops (⟨dst,op,ty,ps,af,some (j,want)⟩::rest) ⟨f,g,ob⟩ k =
   aN ((ops[j]?).bind (·.dst)) (bx fun d=>
    kG (f d) (bx fun b=>if b=want then opA S T ⟨dst,op,ty,ps,af,some (j,want)⟩ ⟨upd f d (bv b),g,ob⟩ (bx fun s'=>wpO S T ops rest s' k)
     else wpO S T ops rest (St.put ⟨upd f d (bv b),g,ob⟩ dst uv) k) (bx (wpO S T ops rest (St.put ⟨f,g,ob⟩ dst uv) k))):=j8 rfl rfl
end steps
@[go_sem] theorem LL {α:Type} (f:Nat→α) (i j:Nat) (v:α):upd f i v j=if j=i then v else f j:=j8 rfl rfl
@[go_sem] theorem St.put_some (s:St) (d:Nat) (v:AV):s.put (some d) v = { s with f:=upd s.f d v }:=j8 rfl rfl
@[go_sem] theorem St.put_none (s:St) (v:AV):s.put none v=s:=j8 rfl rfl
attribute [go_sem] Nat.reduceEqDiff Nat.reduceAdd Nat.reduceMul Nat.reduceSub Nat.reduceLT Nat.reduceLeDiff Int.reduceLT Int.reduceLE Int.reduceEq Int.reduceNe Int.reduceAdd Int.reduceNeg Int.reduceToNat
attribute [go_sem] if_true if_false ite_true ite_false and_true true_and List.length_map List.length_cons List.length_nil List.size_toArray Option.bind_some Option.map_some Option.map_none Option.bind_none cond_true cond_false List.append_nil List.cons_append List.set_cons_zero List.set_cons_succ List.set_nil List.drop_succ_cons List.take_succ_cons List.take_zero
attribute [go_sem] Array.getD_eq_getD_getElem? List.getElem?_toArray List.getElem?_cons_zero List.getElem?_cons_succ List.getElem?_nil Option.getD_some Option.getD_none List.getElem?_map
attribute [go_sem] List.drop_zero List.take_length Nat.mul_one Nat.zero_add List.map_cons List.map_nil List.nil_append reduceCtorEq not_true_eq_false not_false_eq_true implies_true Bool.not_true Bool.not_false Bool.true_eq_false Bool.false_eq_true
attribute [go_sem] Option.some.injEq Option.isSome_some decide_true decide_false ne_eq Int.toNat_natCast
end equations
end
end
end Go.Am
