/- A part of the proof; no conditions. -/
import Derived.KernelRfl
import Derived.Shelf.Strconv.Itoa3
import Derived.Test.YtlglgadejgdpcaaGreatDoorProg
import Derived.StillTail
import Derived.Deep.Quiet
set_option linter.unusedSimpArgs false
set_option linter.unusedVariables false
namespace Go
section
theorem a7 {P:Prop} (h:P:=by omega):P:=h
theorem a8 {P:Prop} (h:P:=by simp):P:=h
theorem b9 {P:Prop} (h:P:=by rfl):P:=h
theorem c8 {P:Prop} (h:P:=by decide):P:=h
theorem c9 {P:Prop} (h:P:=by kernel_rfl):P:=h
theorem j0 {P:Prop} (h:P:=by decide +kernel):P:=h
theorem j4 {P:Prop} (h:P:=by assumption):P:=h
abbrev j5:=@List.length_append
abbrev j6:=@List.length_map
abbrev j7:=@List.length_cons
abbrev j8:=@List.length_nil
abbrev l0:=@Eq.trans
abbrev l4:=@Nat.le_refl
abbrev l5:=@List.getElem?_eq_some_iff
abbrev l6:=@List.take_of_length_le
abbrev l7:=@List.map_cons
abbrev l8:=@List.mem_of_getElem?
abbrev l9:=@Bool.and_eq_true
abbrev n0:=@List.append_nil
abbrev r0:=@eq_true
abbrev s6:=@List.append_assoc
abbrev s7:=@List.all_eq_true
abbrev s9:=@List.getElem?_cons_succ
abbrev u1:=@Array.getD_eq_getD_getElem?
abbrev u2:=@Option.some.injEq
abbrev u3:=@List.getElem?_eq_getElem
abbrev u7:=@List.getElem?_cons_zero
abbrev v7:=@List.map_nil
abbrev v8:=@Bool.true_and
abbrev w7:=@Option.map_some
abbrev w8:=@List.getElem?_toArray
abbrev w9:=@True.intro
abbrev x6:=@Option.getD_some
abbrev x7:=@List.getElem?_map
abbrev x8:=@List.mem_cons
abbrev x9:=@List.nil_append
abbrev y1:=@Array.getElem?_eq_getElem
abbrev y2:=@List.eq_nil_of_length_eq_zero
abbrev y7:=@decide_eq_false
abbrev y8:=@Bool.false_and
abbrev y9:=@Ne.symm
abbrev z6:=@List.cons_append
abbrev z7:=@List.not_mem_nil
abbrev z8:=@List.mem_range
abbrev A0:=@List.drop_eq_getElem_cons
abbrev A1:=@Array.getElem?_eq_some_iff
abbrev A2:=@List.map_append
abbrev A3:=@if_false
abbrev A4:=@if_true
abbrev A5:=@decide_eq_true_eq
abbrev A6:=@Int.toNat_natCast
abbrev A7:=@List.take_add_one
abbrev A8:=@Option.isSome_some
abbrev A9:=@Nat.le_trans
abbrev B1:=@Array.getElem?_replicate
abbrev B3:=@List.drop_zero
abbrev B4:=@List.flatMap_cons
abbrev B5:=@Bool.or_eq_true
abbrev B6:=@Nat.add_assoc
abbrev B7:=@Bool.false_eq_true
abbrev B8:=@Bool.and_false
abbrev B9:=@List.length_take
abbrev C0:=@Option.isSome_none
abbrev C1:=@And.intro
abbrev C2:=@List.getElem?_of_mem
abbrev C3:=@Option.some.inj
abbrev C4:=@Array.getElem?_append_left
abbrev C5:=@List.getElem?_set
abbrev C6:=@Bool.and_assoc
abbrev C7:=@Option.bind_some
abbrev C8:=@List.mem_append
abbrev C9:=@Nat.zero_add
abbrev D0:=@List.mem_singleton
abbrev D1:=@List.all_cons
abbrev D2:=@List.getD_eq_getElem?_getD
abbrev D3:=@decide_eq_true
abbrev D4:=@Bool.not_eq_true'
abbrev D5:=@List.drop_length
abbrev D6:=@List.length_drop
abbrev D7:=@List.getElem?_eq_none
abbrev D8:=@Nat.add_mul
abbrev D9:=@List.replicate_succ
abbrev E0:=@Array.getElem?_append_right
abbrev E3:=@List.length_set
abbrev E4:=@or_false
abbrev E5:=@List.take_succ_cons
abbrev E6:=@List.sum_cons
abbrev E7:=@beq_iff_eq
abbrev E8:=@List.drop_of_length_le
abbrev E9:=@Array.getElem_mem_toList
abbrev F0:=@Nat.lt_of_lt_of_le
abbrev F1:=@List.contains_iff_mem
abbrev F2:=@Array.getElem?_toList
abbrev F3:=@Int.le_refl
abbrev F6:=@Option.map_none
abbrev F7:=@Array.ext'
abbrev F8:=@List.getElem?_append_right
abbrev F9:=@List.set_cons_zero
abbrev G0:=@List.getElem?_take
abbrev G1:=@List.getElem?_drop
abbrev G2:=@List.take_append_drop
abbrev G3:=@of_decide_eq_true
abbrev G4:=@List.take_length
abbrev G5:=@List.getElem?_append_left
abbrev G6:=@List.flatten_cons
abbrev G7:=@List.singleton_append
abbrev G8:=@Option.isSome_iff_exists
abbrev G9:=@List.eq_of_mem_replicate
abbrev H0:=@List.mem_mapIdx
abbrev H2:=@BitVec.toNat_ofInt
abbrev H3:=@Option.toList_some
abbrev H4:=@List.take_zero
abbrev H5:=@Bool.not_false
abbrev H6:=@Option.map_eq_some_iff
abbrev H7:=@Array.getElem?_eq_none
abbrev H8:=@Array.getElem?_setIfInBounds_ne
abbrev H9:=@List.length_replicate
abbrev I0:=@Nat.and_two_pow_sub_one_eq_mod
abbrev I1:=@Prod.mk.injEq
abbrev I2:=@List.mem_map
abbrev I3:=@Nat.add_zero
abbrev I4:=@List.getElem?_append
abbrev I5:=@List.length_eq_zero_iff
abbrev I6:=@and_true
abbrev I7:=@List.takeWhile_cons
abbrev I8:=@Bool.and_true
abbrev I9:=@Int.fdiv_eq_ediv_of_nonneg
abbrev J0:=@List.mem_cons_self
abbrev J2:=@Array.getElem?_modify
abbrev J3:=@List.set_append_right
abbrev J4:=@List.length_singleton
abbrev J5:=@List.sum_append
abbrev J6:=@Nat.mul_le_mul_right
abbrev J7:=@Nat.lt_or_ge
abbrev J8:=@List.mem_of_mem_take
abbrev J9:=@getElem!_pos
abbrev K7:=@Array.length_toList
abbrev K8:=@List.flatMap_append
abbrev K9:=@Nat.zero_le
abbrev L0:=@decide_false
abbrev L1:=@List.filter_eq_nil_iff
abbrev L2:=@Nat.lt_of_le_of_lt
abbrev L3:=@Array.getElem?_setIfInBounds
abbrev L4:=@List.foldl_cons
abbrev L5:=@List.dropLast_concat_getLast
abbrev L6:=@Bool.not_true
abbrev L7:=@List.ext_getElem?
abbrev L8:=@List.reverse_cons
abbrev L9:=@Array.getElem?_setIfInBounds_self_of_lt
abbrev M0:=@List.isPrefixOf_iff_prefix
abbrev M1:=@Array.size_replicate
abbrev M3:=@List.getElem?_mapIdx
abbrev M4:=@Nat.sub_self
abbrev M5:=@List.getElem_mem
abbrev M6:=@List.any_eq_true
abbrev M7:=@List.mapIdx_cons
abbrev M8:=@Option.isNone_iff_eq_none
abbrev M9:=@List.mem_or_eq_of_mem_set
abbrev N0:=@List.length_pos_iff
abbrev N1:=@List.replicate_zero
abbrev N3:=@Bool.false_or
abbrev N4:=@List.cons.injEq
abbrev N5:=@List.all_append
abbrev N6:=@List.set_cons_succ
abbrev N7:=@Array.all_eq_true'
abbrev N8:=@List.map_replicate
abbrev N9:=@List.getElem?_replicate
abbrev O0:=@not_false_eq_true
abbrev O2:=@List.mapM_cons
abbrev O6:=@List.takeWhile_sublist
abbrev O7:=@Nat.le_add_right
abbrev O8:=@Array.eq_empty_of_size_eq_zero
abbrev O9:=@List.flatMap_nil
abbrev P0:=@Nat.mul_one
abbrev P1:=@Array.mem_toList_iff
abbrev P2:=@List.getElem?_set_ne
abbrev P3:=@List.mem_of_mem_drop
abbrev P4:=@Nat.le_antisymm
abbrev P5:=@List.range_succ
abbrev P6:=@List.getD_cons_zero
abbrev P7:=@Array.getElem?_push
abbrev P8:=@List.reverse_append
abbrev P9:=@List.sum_nil
abbrev Q0:=@List.count_pos_iff
abbrev Q1:=@Classical.byContradiction
abbrev Q2:=@List.mem_of_find?_eq_some
abbrev Q3:=@not_true_eq_false
abbrev Q4:=@Array.getElem_mem
abbrev Q5:=@List.mapM_toArray
abbrev Q6:=@Array.size_setIfInBounds
abbrev Q7:=@Nat.mod_eq_of_lt
abbrev Q8:=@true_and
abbrev Q9:=@Option.getD_none
abbrev RA:=@List.getElem_inj
abbrev RB:=@List.countP_cons
abbrev RD:=@BitVec.toNat_and
abbrev RE:=@Nat.add_sub_cancel_left
abbrev RF:=@List.map_map
abbrev RG:=@Nat.le_of_lt
abbrev RH:=@List.mem_filter
abbrev RI:=@Int.natCast_mul
abbrev RJ:=@List.nodup_cons
abbrev RL:=@Array.mem_of_getElem?
abbrev RM:=@List.countP_replicate
abbrev RN:=@List.nodup_nil
abbrev RO:=@Bool.or_false
abbrev RP:=@cond_false
abbrev RQ:=@cond_true
set_option maxHeartbeats 64000000
set_option maxRecDepth 100000
end
end Go
namespace Go.Proofs.YtlglgadejgdpcaaGreatDoor
section
open Go Go.Shelf
def kO:Ren:=⟨fun|171=>41|243=>69|246=>100|283=>101|284=>102|285=>103|286=>104|129=>157|317=>156|318=>158|319=>159|320=>160|337=>181|338=>182|n=>n,fun|3=>3|9=>9|2=>2|4=>4|171=>206|0=>0|53=>97|37=>56|5=>5|173=>209|212=>258|51=>32|20=>20|213=>259|46=>94|232=>287|233=>288|n=>n,fun|17=>2|18=>4|19=>5|n=>n⟩
theorem bw:LaysM.n171 Tryz.prog kO where
 mixed:=c9
 f129:=Tryz.func157.trans (congrArg some c9)
 f171:=Tryz.func41.trans (congrArg some c9)
 f243:=Tryz.func69.trans (congrArg some c9)
 f246:=Tryz.func100.trans (congrArg some c9)
 f283:=Tryz.func101.trans (congrArg some c9)
 f284:=Tryz.func102.trans (congrArg some c9)
 f285:=Tryz.func103.trans (congrArg some c9)
 f286:=Tryz.func104.trans (congrArg some c9)
 f317:=Tryz.func156.trans (congrArg some c9)
 f318:=Tryz.func158.trans (congrArg some c9)
 f319:=Tryz.func159.trans (congrArg some c9)
 f320:=Tryz.func160.trans (congrArg some c9)
 f337:=Tryz.func181.trans (congrArg some c9)
 f338:=Tryz.func182.trans (congrArg some c9)
 t0:=Tryz.underlying0
 a0:=Tryz.isAgg0
 z0:=Tryz.sizeOf0
 v0:=Tryz.zeroValue0
 t2:=Tryz.underlying2
 a2:=Tryz.isAgg2
 z2:=Tryz.sizeOf2
 v2:=Tryz.zeroValue2
 t3:=Tryz.underlying3
 a3:=Tryz.isAgg3
 z3:=Tryz.sizeOf3
 v3:=Tryz.zeroValue3
 t4:=Tryz.underlying4
 a4:=Tryz.isAgg4
 z4:=Tryz.sizeOf4
 v4:=Tryz.zeroValue4
 t5:=Tryz.underlying5
 a5:=Tryz.isAgg5
 z5:=Tryz.sizeOf5
 v5:=Tryz.zeroValue5
 t9:=Tryz.underlying9
 a9:=Tryz.isAgg9
 z9:=Tryz.sizeOf9
 v9:=Tryz.zeroValue9
 t20:=Tryz.underlying20
 a20:=Tryz.isAgg20
 z20:=Tryz.sizeOf20
 v20:=Tryz.zeroValue20
 t37:=Tryz.underlying56
 a37:=Tryz.isAgg56
 z37:=Tryz.sizeOf56
 v37:=Tryz.zeroValue56
 t46:=Tryz.underlying94
 a46:=Tryz.isAgg94
 z46:=Tryz.sizeOf94
 v46:=Tryz.zeroValue94
 t51:=Tryz.underlying32
 a51:=Tryz.isAgg32
 z51:=Tryz.sizeOf32
 v51:=Tryz.zeroValue32
 t53:=Tryz.underlying97
 a53:=Tryz.isAgg97
 z53:=Tryz.sizeOf97
 v53:=Tryz.zeroValue97
 t171:=Tryz.underlying206
 a171:=Tryz.isAgg206
 z171:=Tryz.sizeOf206
 v171:=Tryz.zeroValue206
 t173:=Tryz.underlying209
 a173:=Tryz.isAgg209
 z173:=Tryz.sizeOf209
 v173:=Tryz.zeroValue209
 t212:=Tryz.underlying258
 a212:=Tryz.isAgg258
 z212:=Tryz.sizeOf258
 v212:=Tryz.zeroValue258
 t213:=Tryz.underlying259
 a213:=Tryz.isAgg259
 z213:=Tryz.sizeOf259
 t232:=Tryz.underlying287
 a232:=Tryz.isAgg287
 z232:=Tryz.sizeOf287
 v232:=Tryz.zeroValue287
 t233:=Tryz.underlying288
 a233:=Tryz.isAgg288
 z233:=Tryz.sizeOf288
 v233:=Tryz.zeroValue288
 g17:=c9
 g18:=c9
 g19:=c9
 i0:=c9
 i2:=c9
 i3:=c9
 i4:=c9
 i5:=c9
 i9:=c9
 i20:=c9
 i37:=c9
 i46:=c9
 i51:=c9
 i53:=c9
 i171:=c9
 i173:=c9
 i212:=c9
 i232:=c9
 i233:=c9
 m17:=c9
 m18:=c9
 m19:=c9
end
end Go.Proofs.YtlglgadejgdpcaaGreatDoor
namespace Go.Am
section
theorem ite_cc {α:Sort _} {b c:Prop} [Decidable b] [Decidable c] {x y:α} (h:b=c):ite b x y=ite c x y:=by subst h;congr
attribute [go_sem] reduceIte
end
section
attribute [local congr] Go.Am.ite_cc
section
inductive D where
 |bool (b:Bool)
 |int (k:IntKind) (n:Int)
 |str (s:List UInt8)
 |sl (es:List (List D))
 |nsl
 |nilp
 |nilf
 |nili
 |nilm
 |fn (f:FuncId)
 |iptr (cs:List D)
 |yld (l:Nat)
 deriving Inhabited
inductive PC where
 |d (x:D)
 |ptr (id g off:Nat)
 deriving Inhabited
inductive C where
 |d (x:D)
 |osl (id g sz off len:Nat)
 |ptr (id g off:Nat)
 |clo (f:FuncId) (caps:List PC)
 |mp (id g kd:Nat)
 |lsl (n:Nat)
 |raw (o:Obj)
 deriving Inhabited
inductive AV where
 |one (c:C)
 |agg (cs:List C)
 |tup (vs:List AV)
 |junk
 |exact(v:Value)
 deriving Inhabited
structure St where
 f:Nat→AV
 gen:Nat→Nat
 obj:Nat→Option (List C)
inductive Box {α:Type} (a:α):Type where
 |mk
@[reducible] def bx {α:Type} (a:α):Box a:=.mk
def upd {α:Type} (f:Nat→α) (i:Nat) (v:α):Nat→α:=fun j=>if j=i then v else f j
structure TI where
 desc:TypeDesc
 size:Nat
 bytes:Nat
 zero:List D
 deriving Inhabited
abbrev iv (k:IntKind) (n:Int):AV:=.one (.d (.int k n))
abbrev bv (b:Bool):AV:=.one (.d (.bool b))
abbrev sv (s:List UInt8):AV:=.one (.d (.str s))
abbrev uv:AV:=.tup []
def Ru:Value→C
 |.bool b=>.d (.bool b)
 |.int k n=>.d (.int k n)
 |.string s=>.d (.str s.data.toList)
 |.slice none 0 0=>.d .nsl
 |.pointer none=>.d .nilp
 |.nilFunc=>.d .nilf
 |.nilIface=>.d .nili
 |.map none=>.d .nilm
 |_=>.osl 0 0 0 0 0
def rY:Value→AV
 |.bool b=>.one (.d (.bool b))
 |.int k n=>.one (.d (.int k n))
 |.string s=>.one (.d (.str s.data.toList))
 |.slice none 0 0=>.one (.d .nsl)
 |.pointer none=>.one (.d .nilp)
 |.nilFunc=>.one (.d .nilf)
 |.nilIface=>.one (.d .nili)
 |.map none=>.one (.d .nilm)
 |_=>.junk
def St.ev (s:St):Operand→AV
 |.tmp t=>s.f t
 |.const v=>rY v
 |.global _=>.junk
 |.func f=>.one (.d (.fn f))
def St.put (s:St) (dst:Option Nat) (v:AV):St:=
 match dst with
 |none=>s
 |some d=>{ s with f:=upd s.f d v }
def nxC (c g:Nat):Nat:=1000000*(g+1)+(if c<1000000 then c else 0)
def code (g:Nat):Nat:=g%1000000
theorem tV (c g:Nat):g<nxC c g:=by unfold nxC;omega
theorem xk (c g:Nat):nxC c g≠g:=Nat.ne_of_gt (tV c g)
theorem fY (c g:Nat):code (nxC c g)=if c<1000000 then c else 0:=by
 unfold code nxC;rw[Nat.mul_add_mod];split
 ·rename_i h;exact Q7 h
 ·rfl
def apC (e g off:Nat):Nat:=if code g=e+1∧off=0 then e+1 else 0
def St.newC (c:Nat) (s:St) (d:Nat) (cs:List C):St:={ s with gen:=upd s.gen d (nxC c (s.gen d)),obj:=upd s.obj d (some cs)}
def cG:TypeDesc→Bool
 |.struct _|.array _ _=>true
 |_=>false
def cellsOf:AV→Option (List C)
 |.one c=>some [c]
 |.agg cs=>some cs
 |_=>none
def setAt (cells:List C) (off:Nat):List C→List C
 |[]=>cells
 |c::cs=>setAt (cells.set off c) (off+1) cs
def iI (b:UInt8):D:=.int .u8 b.toNat
def fZ (b:Bool) {K:Bool→Prop} (_:Box K):Prop:=(b=true→K true)∧(b=false→K false)
def aJ {α:Type} (x:Option α) {K:α→Prop} (_:Box K):Prop:=
 match x with
 |some a=>K a
 |none=>False
def mQ (v:AV) {K:Bool→Prop} (k:Box K):Prop:=
 match v with
 |.one (.d (.bool b))=>fZ b k
 |_=>False
def ks (v:AV) {K:Bool→Prop} (k:Box K) {U:Prop} (_:Box U):Prop:=
 match v with
 |.one (.d (.bool b))=>fZ b k
 |.tup []=>U
 |_=>False
def qz (ti:TI) (cells:List C) (off:Nat) {K:AV→Prop} (_:Box K):Prop:=
 match cG ti.desc with
 |true=>off+ti.size≤cells.length∧K (.agg ((cells.drop off).take ti.size))
 |false=>aJ (cells[off]?) (bx fun c=>K (.one c))
def yx (ti:TI) (cs:List D) {K:AV→Prop} (_:Box K):Prop:=
 match cG ti.desc with
 |true=>ti.size≤cs.length∧K (.agg ((cs.take ti.size).map .d))
 |false=>aJ (cs[0]?) (bx fun c=>K (.one (.d c)))
def okD:TypeDesc→Bool
 |.invalid=>false
 |_=>true
def pF (ti:TI) (s:St) (a:AV) {K:AV→Prop} (k:Box K):Prop:=
 match a with
 |.one (.ptr id g off)=>okD ti.desc=true∧s.gen id=g∧aJ (s.obj id) (bx fun cells=>qz ti cells off k)
 |.one (.d (.iptr cs))=>okD ti.desc=true∧yx ti cs k
 |_=>False
def mR (ti:TI) (s:St) (a x:AV) {K:St→Prop} (_:Box K):Prop:=
 match a with
 | .one (.ptr id g off)=>okD ti.desc=true∧s.gen id=g∧aJ (cellsOf x) (bx fun cs=>cs.length=ti.size∧aJ (s.obj id) (bx fun cells=>off+cs.length≤cells.length∧
     K { s with obj:=upd s.obj id (some (setAt cells off cs))}))
 |_=>False
def fC (s:St) (sz:Nat) (x ix:AV) {K:AV→Prop} (_:Box K):Prop:=
 match ix with
 |.one (.d (.int _ i))=>
   match x with
   |.one (.d (.sl es))=>0≤i∧aJ (es[i.toNat]?) (bx fun c=>c.length=sz∧K (.one (.d (.iptr c))))
   |.one (.osl id g sz' off len)=>s.gen id=g∧(s.obj id).isSome=true∧0≤i∧i<len∧sz'=sz∧K (.one (.ptr id g (off+i.toNat*sz)))
   |_=>False
 |_=>False
def jP (T:Nat→TI) (d:TypeDesc) (s:St) (x ix:AV) {K:AV→Prop} (_:Box K):Prop:=
 match d with
 |.array n e=>
   match ix with
   |.one (.d (.int _ i))=>
     match x with
     |.one (.ptr id g off)=>s.gen id=g∧(s.obj id).isSome=true∧okD (T e).desc=true∧0≤i∧i<n∧K (.one (.ptr id g (off+i.toNat*(T e).size)))
     |_=>False
   |_=>False
 |_=>False
def lp (d:TypeDesc):Bool:=match d with|.array _ _=>true|_=>false
def qA (x ix:AV) {K:AV→Prop} (_:Box K):Prop:=
 match ix with
 |.one (.d (.int _ i))=>
   match x with
   |.one (.d (.str s))=>0≤i∧aJ (s[i.toNat]?) (bx fun c=>K (iv .u8 c.toNat))
   |_=>False
 |_=>False
def lq (op:BinOp) (k:IntKind) (x y:Int) {K:AV→Prop} (_:Box K):Prop:=
 match op with
 |.add=>K (iv k (k.wrap (x+y)))
 |.sub=>K (iv k (k.wrap (x-y)))
 |.mul=>K (iv k (k.wrap (x*y)))
 |.quo=>y≠0∧K (iv k (k.wrap (x.tdiv y)))
 |.rem=>y≠0∧K (iv k (x.tmod y))
 |.eql=>K (bv (decide (x=y)))
 |.neq=>K (bv (decide (x≠y)))
 |.lss=>K (bv (decide (x<y)))
 |.leq=>K (bv (decide (x≤y)))
 |.gtr=>K (bv (decide (y<x)))
 |.geq=>K (bv (decide (y≤x)))
 |.and=>K (iv k (k.wrap (BitVec.ofInt k.bits x &&&BitVec.ofInt k.bits y).toNat))
 |.or=>K (iv k (k.wrap (BitVec.ofInt k.bits x |||BitVec.ofInt k.bits y).toNat))
 |.xor=>K (iv k (k.wrap (BitVec.ofInt k.bits x ^^^ BitVec.ofInt k.bits y).toNat))
 |.andNot=>K (iv k (k.wrap (BitVec.ofInt k.bits x &&& ~~~ BitVec.ofInt k.bits y).toNat))
 |.shl=>0≤y∧K (iv k (k.wrap (x*2^(min y.toNat k.bits))))
 |.shr=>0≤y∧K (iv k (x.fdiv (2^(min y.toNat k.bits))))
def xl (op:BinOp) (x y:List UInt8) {K:AV→Prop} (_:Box K):Prop:=
 match op with
 |.add=>((x.length+y.length:Nat):Int)≤9223372036854775807∧K (sv (x++y))
 |.eql=>K (bv (decide (x=y)))
 |.neq=>K (bv (decide (x≠y)))
 |.lss=>K (bv (Op.bytesLess x y))
 |.leq=>K (bv (Op.bytesLess x y||decide (x=y)))
 |.gtr=>K (bv (!(Op.bytesLess x y||decide (x=y))))
 |.geq=>K (bv (!Op.bytesLess x y))
 |_=>False
def sameKind (op:BinOp) (k k':IntKind):Prop:=
 match op with
 |.shl|.shr=>True
 |_=>k=k'
def Lv (d:TypeDesc) (op:BinOp) (x y:Bool) {K:AV→Prop} (_:Box K):Prop:=
 match d,op with
 |.bool,.eql=>K (bv (decide (x=y)))
 |.bool,.neq=>K (bv (decide (x≠y)))
 |_,_=>False
def sI (k:IntKind):List C→Option (List Int)
 |[]=>some []
 |.d (.int k' n)::r=>if k'=k then(sI k r).map (n :: ·) else none
 |_=>none
def Ep (ti:TI) (n:Nat) (xs ys:List C) {K:Bool→Prop} (_:Box K):Prop:=
 match ti.desc with
 |.int k=>ti.size=1∧aJ (sI k xs) (bx fun a=>aJ (sI k ys) (bx fun b=>(a.length=n∧b.length=n)∧K (decide (a=b))))
 |_=>False
def Lx (T:Nat→TI) (d:TypeDesc) (op:BinOp) (xs ys:List C) {K:AV→Prop} (_:Box K):Prop:=
 match d,op with
 |.array n e,.eql=>Ep (T e) n xs ys (bx fun b=>K (bv b))
 |.array n e,.neq=>Ep (T e) n xs ys (bx fun b=>K (bv (!b)))
 |_,_=>False
def zF (T:Nat→TI) (d:TypeDesc) (op:BinOp) (x y:AV) {K:AV→Prop} (k:Box K):Prop:=
 match x,y with
 |.one (.d (.int k1 a)),.one (.d (.int k2 b))=>sameKind op k1 k2∧lq op k1 a b k
 |.one (.d (.str a)),.one (.d (.str b))=>xl op a b k
 |.one (.d (.bool a)),.one (.d (.bool b))=>Lv d op a b k
 |.agg xs,.agg ys=>Lx T d op xs ys k
 |_,_=>False
def unA (op:UnOp) (x:AV) {K:AV→Prop} (_:Box K):Prop:=
 match op,x with
 |.not,.one (.d (.bool b))=>K (bv (!b))
 |.neg,.one (.d (.int k n))=>K (iv k (k.wrap (0-n)))
 |_,_=>False
def contents (s:St) (str sl:Bool) (sz:Nat) (x:AV) {K:Nat→List C→Prop} (_:Box K):Prop:=
 match x with
 |.one (.d .nsl)=>sl=true∧K 0 []
 |.one (.d (.sl es))=>sl=true∧(∀e∈es,e.length=sz)∧K es.length (es.flatten.map .d)
 |.one (.d (.str bs))=>str=true∧sz=1∧K bs.length (bs.map fun b=>.d (iI b))
 |.one (.osl id g sz' off len)=>sl=true∧s.gen id=g∧sz'=sz∧aJ (s.obj id) (bx fun cells=>off+len*sz≤cells.length∧K len ((cells.drop off).take (len*sz)))
 |_=>False
def u8s:List C→Option (List Int)
 |[]=>some []
 |.d (.int .u8 n)::r=>(u8s r).map (n :: ·)
 |_=>none
def vc:TypeDesc→Bool
 |.int .u8=>true
 |_=>false
def pG (s:St) (el:TypeDesc) (src dst:TypeDesc) (x:AV) {K:AV→Prop} (_:Box K):Prop:=
 match src,dst,x with
 |sr,.int k,.one (.d (.int _ n))=>okD sr=true∧K (iv k (k.wrap n))
 |.string,.string,.one (.d (.str b))=>K (sv b)
 |.slice _,.string,y=>vc el=true∧contents s false true 1 y (bx fun _ cs=>aJ (u8s cs) (bx fun ns=>K (sv (ns.map fun n=>UInt8.ofNat n.toNat))))
 |_,_,_=>False
def qB (n bytes:Nat):Prop:=0<bytes∧(2*n+1024)*bytes≤281474976710656
def ku (e:Nat) (ti:TI) (str sl:Bool) (i d:Nat) (s:St) (x y:AV) {K:St→Prop} (_:Box K):Prop:=
 match x with
 |.one (.d .nsl)=>contents s str sl ti.size y (bx fun n cs=>qB n ti.bytes∧K ((s.newC (e+1) i cs).put (some d) (.one (.osl i (nxC (e+1) (s.gen i)) ti.size 0 n))))
 | .one (.osl id g sz off len)=>s.gen id=g∧sz=ti.size∧aJ (s.obj id) (bx fun cells=>off+len*sz≤cells.length∧
    contents s str sl ti.size y (bx fun n cs=>qB (len+n) ti.bytes∧
     K ((s.newC (apC e (s.gen id) off) id ((cells.drop off).take (len*sz)++cs)).put (some d) (.one (.osl id (nxC (apC e (s.gen id) off) (s.gen id)) ti.size 0 (len+n))))))
 |_=>False
def tW (s:St) (str sl:Bool) (x:AV) {K:AV→Prop} (_:Box K):Prop:=
 match x with
 |.one (.d .nsl)=>sl=true∧K (iv .i64 0)
 |.one (.d (.sl es))=>sl=true∧K (iv .i64 es.length)
 |.one (.d (.str bs))=>str=true∧K (iv .i64 bs.length)
 |.one (.osl id g _ _ len)=>sl=true∧s.gen id=g∧(s.obj id).isSome=true∧K (iv .i64 len)
 |.one (.lsl n)=>sl=true∧K (iv .i64 n)
 |_=>False
def ez (o:Option AV) (els:Nat) {K:Nat→Prop} (_:Box K):Prop:=
 match o with
 |none=>K els
 |some (.one (.d (.int _ n)))=>0≤n∧K n.toNat
 |_=>False
def mT (s:St) (str sl:Bool) (sz:Nat) (x:AV) (lo hi:Option AV) {K:AV→Prop} (_:Box K):Prop:=
 match x with
 |.one (.d (.str bs))=>str=true∧ez hi bs.length (bx fun h=>ez lo 0 (bx fun l=>l≤h∧h≤bs.length∧K (sv ((bs.take h).drop l))))
 |.one (.d (.sl es))=>sl=true∧ez hi es.length (bx fun h=>ez lo 0 (bx fun l=>l≤h∧h≤es.length∧(∀x∈es,x.length=sz)∧K (.one (.d (.sl ((es.take h).drop l))))))
 |.one (.d .nsl)=>sl=true∧ez hi 0 (bx fun h=>ez lo 0 (bx fun l=>l=0∧h=0∧K (.one (.d .nsl))))
 |.one (.osl id g sz' off len)=>sl=true∧s.gen id=g∧(s.obj id).isSome=true∧ez hi len (bx fun h=>ez lo 0 (bx fun l=>l≤h∧h≤len∧sz'=sz∧K (.one (.osl id g sz (off+l*sz) (h-l)))))
 |_=>False
def tX (o:Option (List C)) (n:Nat):Prop:=∃l,o=some l∧n≤l.length
def iY (T:Nat→TI) (d:TypeDesc) (s:St) (x:AV) (lo hi:Option AV) {K:AV→Prop} (_:Box K):Prop:=
 match d with
 |.array n e=>
   match x with
   |.one (.ptr id g off)=>
     match lo with
     |none=>s.gen id=g∧okD (T e).desc=true∧tX (s.obj id) (off+n*(T e).size)∧ez hi n (bx fun h=>h≤n∧K (.one (.osl id g (T e).size off h)))
     |_=>False
   |_=>False
 |_=>False
def vd (sz:Nat):(k:Nat)→(ps:List (Nat×AV))→{K:List C→Prop}→Box K→Prop
 |_,[],K,_=>K []
 |k,p::r,K,_=>p.1=k∧aJ (cellsOf p.2) (bx fun cs=>cs.length=sz∧vd sz (k+1) r (bx fun rest=>K (cs++rest)))
def ip (e sz i d n:Nat) (s:St) (ps:List (Nat×AV)) {K:St→Prop} (_:Box K):Prop:=
 ps.length=n∧n*sz≤16777216∧vd sz 0 ps (bx fun cs=>K ((s.newC (e+1) i cs).put (some d) (.one (.osl i (nxC (e+1) (s.gen i)) sz 0 n))))
def fu (d:TypeDesc) (f:Nat):Option Field:=
 match d with
 |.struct fs=>fs[f]?
 |_=>none
def fD (T:Nat→TI) (t f:Nat) (s:St) (x:AV) {K:AV→Prop} (_:Box K):Prop:=
 match x with
 |.one (.ptr id g off)=>s.gen id=g∧(s.obj id).isSome=true∧aJ (fu (T t).desc f) (bx fun fl=>(okD (T fl.type).desc=true∧(T fl.type).size≠0)∧K (.one (.ptr id g (off+fl.offset))))
 |.one (.d (.iptr cs))=>aJ (fu (T t).desc f) (bx fun fl=>(okD (T fl.type).desc=true∧(T fl.type).size≠0)∧K (.one (.d (.iptr (cs.drop fl.offset)))))
 |_=>False
def ow (T:Nat→TI) (t f:Nat) (x:AV) {K:AV→Prop} (k:Box K):Prop:=
 match x with
 |.agg cs=>aJ (fu (T t).desc f) (bx fun fl=>okD (T fl.type).desc=true∧qz (T fl.type) cs fl.offset k)
 |_=>False
def pH (pl:Nat→Option (Nat×Nat)):(cells:List C)→(ps:List (Nat×AV))→{K:List C→Prop}→Box K→Prop
 |cells,[],K,_=>K cells
 |cells,p::r,_,k=>aJ (pl p.1) (bx fun q=>aJ (cellsOf p.2) (bx fun cs=>cs.length=q.2∧q.1+q.2≤cells.length∧pH pl (setAt cells q.1 cs) r k))
def placeOf (T:Nat→TI) (d:TypeDesc) (i:Nat):Option (Nat×Nat):=
 match d with
 |.array _ e=>some (i*(T e).size,(T e).size)
 |d=>(fu d i).bind fun fl=>bif okD (T fl.type).desc then some (fl.offset,(T fl.type).size) else none
def eV (T:Nat→TI) (t:Nat):Bool:=match (T t).desc with|.struct fs=>fs.toList.all fun f=>okD (T f.type).desc|.array _ e=>okD (T e).desc|_=>false
def dQ (T:Nat→TI) (t:Nat) (ps:List (Nat×AV)) {K:AV→Prop} (_:Box K):Prop:=
 eV T t=true∧pH (placeOf T (T t).desc) ((T t).zero.map .d) ps (bx fun cs=>K (.agg cs))
def Er (t i d:Nat) (s:St) (x:AV) {K:St→Prop} (_:Box K):Prop:=
 aJ (cellsOf x) (bx fun cs=>K ((s.newC (t+1) i cs).put (some d) (.one (.ptr i (nxC (t+1) (s.gen i)) 0))))
def tY (t:Nat) (ti:TI) (i d:Nat) (s:St) {K:St→Prop} (_:Box K):Prop:=
 okD ti.desc=true∧K ((s.newC (t+1) i (ti.zero.map .d)).put (some d) (.one (.ptr i (nxC (t+1) (s.gen i)) 0)))
def gQ (s:St) (x:AV) {K:AV→Prop} (_:Box K):Prop:=
 match x with
 |.one (.ptr id g off)=>s.gen id=g∧(s.obj id).isSome=true∧K (.one (.ptr id g off))
 |.one (.d (.iptr cs))=>K (.one (.d (.iptr cs)))
 |_=>False
def lr (x:AV) (i:Nat) {K:AV→Prop} (k:Box K):Prop:=
 match x with
 |.tup ts=>aJ (ts[i]?) k
 |_=>False
def mxA (mx:Bool) (x y:AV) {K:AV→Prop} (_:Box K):Prop:=
 match x,y with
 |.one (.d (.int k a)),.one (.d (.int _ b))=>K (iv k (if mx then max a b else min a b))
 |_,_=>False
def gS (e:Nat) (ti:TI) (i d:Nat) (s:St) (l c:AV) {K:St→Prop} (_:Box K):Prop:=
 match l,c with
 |.one (.d (.int _ n)),.one (.d (.int _ m))=>0≤n∧n≤m∧m≤4611686018427387904∧m*ti.bytes≤281474976710656∧
    K ((s.newC (e+1) i (List.replicate m.toNat (ti.zero.map C.d)).flatten).put (some d) (.one (.osl i (nxC (e+1) (s.gen i)) ti.size 0 n.toNat)))
 |_,_=>False
def co:Nat→TypeDesc
 |0=>.int .i8|1=>.int .i16|2=>.int .i32|3=>.int .i64|4=>.int .u8|5=>.int .u16|6=>.int .u32|7=>.int .u64
 |8=>.string
 |9=>.bool
 |_=>.invalid
def iT:TypeDesc→Nat
 |.int .i8=>0|.int .i16=>1|.int .i32=>2|.int .i64=>3|.int .u8=>4|.int .u16=>5|.int .u32=>6|.int .u64=>7
 |.string=>8
 |_=>9
def fb:TypeDesc→D→Bool
 |.int k,.int k' _=>k'=k
 |.string,.str _=>true
 |.bool,.bool _=>true
 |_,_=>false
def iJ:D→D→Bool
 |.int k n,.int k' n'=>k=k'&&n=n'
 |.str s,.str s'=>s=s'
 |.bool b,.bool b'=>b=b'
 |_,_=>false
def mget:List C→D→Option C
 |.d k'::c::r,k=>if iJ k' k then some c else mget r k
 |_,_=>none
def mset:List C→D→C→List C
 |.d k'::c::r,k,x=>if iJ k' k then .d k'::x::r else .d k'::c::mset r k x
 |_,k,x=>[.d k,x]
def sJ (agg:Bool) (n:Nat):Nat:=match agg with|true=>200+n|false=>n
def jQ (T:Nat→TI) (t i d:Nat) (s:St) {K:St→Prop} (_:Box K):Prop:=
 match (T t).desc with
 |.map kt et=>co (iT (T kt).desc)=(T kt).desc∧K ((s.newC 0 i []).put (some d) (.one (.mp i (nxC 0 (s.gen i)) (sJ (cG (T et).desc) (iT (T kt).desc)))))
 |_=>False
def pI (ok:Bool) (z:D) (c:Option C):AV:=if ok then .tup [.one (c.getD (.d z)),bv c.isSome] else .one (c.getD (.d z))
def ve (ti:TI) {K:D→Prop} (_:Box K):Prop:=
 match ti.zero with
 |[z]=>(okD ti.desc=true∧cG ti.desc=false)∧K z
 |_=>False
def rZ (z:List D):Option C→List D
 |some (.d (.iptr ds))=>ds
 |_=>z
def kv (ok:Bool) (z:List D) (c:Option C):AV:=match ok with|true=>.tup [.agg ((rZ z c).map .d),bv c.isSome]|false=>.agg ((rZ z c).map .d)
def vf (ti:TI) {K:List D→Prop} (_:Box K):Prop:=(okD ti.desc=true∧2≤ti.zero.length)∧K ti.zero
def kw (T:Nat→TI) (t:Nat) (s:St) (x ix:AV) (ok:Bool) {K:AV→Prop} (_:Box K):Prop:=
 match (T t).desc,ix with
 |.map kt et,.one (.d k)=>(okD (T kt).desc=true∧fb (T kt).desc k=true)∧
   match cG (T et).desc with
   | false=>ve (T et) (bx fun z=>
     match x with
     |.one (.mp id g kd)=>s.gen id=g∧co kd=(T kt).desc∧aJ (s.obj id) (bx fun cells=>K (pI ok z (mget cells k)))
     |.one (.d .nilm)=>K (pI ok z none)
     | _=>False)
   | true=>vf (T et) (bx fun z=>
     match x with
     |.one (.mp id g kd)=>s.gen id=g∧(200≤kd∧co (kd-200)=(T kt).desc)∧aJ (s.obj id) (bx fun cells=>K (kv ok z (mget cells k)))
     |.one (.d .nilm)=>K (kv ok z none)
     | _=>False)
 |_,_=>False
def datas:List C→Option (List D)
 |[]=>some []
 |.d x::r=>(datas r).map (x :: ·)
 |_=>none
def cX (T:Nat→TI) (t:Nat) (s:St) (m ix x:AV) {K:St→Prop} (_:Box K):Prop:=
 match (T t).desc,ix,m,x with
 |.map kt _,.one (.d k),.one (.mp id g kd),.one c=>(okD (T kt).desc=true∧fb (T kt).desc k=true)∧s.gen id=g∧co kd=(T kt).desc∧aJ (s.obj id) (bx fun cells=>K { s with obj:=upd s.obj id (some (mset cells k c))})
 |.map kt _,.one (.d k),.one (.mp id g kd),.agg cs=>(okD (T kt).desc=true∧fb (T kt).desc k=true)∧s.gen id=g∧(200≤kd∧co (kd-200)=(T kt).desc)∧aJ (datas cs) (bx fun ds=>aJ (s.obj id) (bx fun cells=>K { s with obj:=upd s.obj id (some (mset cells k (.d (.iptr ds))))}))
 |_,_,_,_=>False
def tZ:AV→Option PC
 |.one (.d x)=>some (.d x)
 |.one (.ptr id g off)=>some (.ptr id g off)
 |_=>none
def iK:List AV→Option (List PC)
 |[]=>some []
 |x::xs=>(tZ x).bind fun p=>(iK xs).bind fun ps=>some (p::ps)
def ew (f:FuncId) (first caps:List AV) {K:AV→Prop} (_:Box K):Prop:=
 match first with
 |[]=>f<1000000∧aJ (iK caps) (bx fun l=>K (.one (.clo f l)))
 |x::r=>caps=[]∧aJ (iK (x::r)) (bx fun l=>K (.one (.clo (f+1000000) l)))
def aD (T:Nat→TI) (t:Nat):Nat:=
 match (T t).desc with
 |.slice e=>e
 |_=>0
def aL (T:Nat→TI) (t:Nat):TI:=
 match (T t).desc with
 |.slice e=>T e
 |_=>default
def qC (s:St) (c:Call) (i:Nat):AV:=s.ev (c.args.getD i (.const .nilFunc))
structure Sp where
 op:Oper→St→(St→Prop)→Prop
 code:Code→St→(Exit→St→Prop)→Prop
 vs:St→St→Prop
 base:Nat
def aS (S:Sp) (o:Oper) (s:St) {K:St→Prop} (_:Box K):Prop:=∃R,S.op o s R∧∀s',R s'→K s'
def yy (S:Sp) (c:Code) (s:St) {Q:Exit→St→Prop} (_:Box Q):Prop:=∃R,S.code c s R∧∀e s',R e s'→Q e s'
def isSlice (d:TypeDesc):Bool:=match d with|.slice _=>true|_=>false
def cH (T:Nat→TI):Op→Bool
 |.indexAddr _ x _=>match x with|.global _=>false|_=>true
 |.move _|.assign _|.pick .. | .load .. | .index .. | .binOp .. | .unOp .. | .slice _ _ _ _ none|.fieldAddr .. | .field .. | .build .. | .nilCheck _|.extract .. | .lookup .. | .makeFunc (.func _) _ _=>true
 |.convert _ d _=>!isSlice (T d).desc
 |.call c=>match c.callee with|.builtin .len|.builtin .max|.builtin .min=>true|_=>false
 |_=>false
def jh (T:Nat→TI) (ops:Array Oper):Bool:=
 (ops.toList.all (cH T ·.op)&&Region.lexB .any ops) ||
 [1,2,3,4].any fun k=>(ops.toList.take (ops.size-k)).all (cH T ·.op)&&Region.lexTailB .any ops (ops.size-k)
def isStr (d:TypeDesc):Bool:=match d with|.string=>true|_=>false
def ck (T:Nat→TI) (t:Nat):Bool:=isSlice (T t).desc&&okD (aL T t).desc
def mg (T:Nat→TI) (src d base:Nat) (dst:Option Nat) (s:St) (x:AV) {K:St→Prop} (_:Box K):Prop:=
 match dst,x with
 |some dd,.one (.d (.str bs))=>isStr (T src).desc=true∧vc (aL T d).desc=true∧K ((s.newC (aD T d+1) (base+dd) (bs.map fun b=>.d (iI b))).put (some dd) (.one (.osl (base+dd) (nxC (aD T d+1) (s.gen (base+dd))) 1 0 bs.length)))
 |_,_=>False
def Ly (S:Sp) (T:Nat→TI) (o:Oper) (c:Call) (s:St) {K:St→Prop} (k:Box K):Prop:=
 match c.callee,o.dst with
 |.builtin .len,dst=>(c.args.size=1∧c.argTypes.size=1)∧tW s (isStr (T (c.argTypes.getD 0 0)).desc) (ck T (c.argTypes.getD 0 0)) (qC s c 0) (bx fun v=>K (s.put dst v))
 |.builtin .max,dst=>c.args.size=2∧mxA true (qC s c 0) (qC s c 1) (bx fun v=>K (s.put dst v))
 |.builtin .min,dst=>c.args.size=2∧mxA false (qC s c 0) (qC s c 1) (bx fun v=>K (s.put dst v))
 |.builtin .append,some d=>(c.args.size=2∧c.argTypes.size=2)∧ck T (c.argTypes.getD 0 0)=true∧ku (aD T (c.argTypes.getD 0 0)) (aL T (c.argTypes.getD 0 0)) (isStr (T (c.argTypes.getD 1 0)).desc) (ck T (c.argTypes.getD 1 0)) (S.base+d) d s (qC s c 0) (qC s c 1) k
 |_,_=>aS S o s k
def opA (S:Sp) (T:Nat→TI) (o:Oper) (s:St) {K:St→Prop} (k:Box K):Prop:=
 match o.op,o.dst with
 |.move x,dst=>K (s.put dst (s.ev x))
 |.assign x,dst=>K (s.put dst (s.ev x))
 |.pick c a b,dst=>mQ (s.ev c) (bx fun t=>K (s.put dst (if t then s.ev a else s.ev b)))
 |.load t a,dst=>pF (T t) s (s.ev a) (bx fun v=>K (s.put dst v))
 |.store t a x,dst=>mR (T t) s (s.ev a) (s.ev x) (bx fun s'=>K (s'.put dst uv))
 |.indexAddr t x ix,dst=>match x with
   |.global _=>aS S o s k
   |x=>bif lp (T t).desc then jP T (T t).desc s (s.ev x) (s.ev ix) (bx fun v=>K (s.put dst v)) else ck T t=true∧fC s (aL T t).size (s.ev x) (s.ev ix) (bx fun v=>K (s.put dst v))
 |.index t x ix,dst=>isStr (T t).desc=true∧qA (s.ev x) (s.ev ix) (bx fun v=>K (s.put dst v))
 |.binOp op t x y _,dst=>zF T (T t).desc op (s.ev x) (s.ev y) (bx fun v=>K (s.put dst v))
 |.unOp op _ x,dst=>unA op (s.ev x) (bx fun v=>K (s.put dst v))
 |.convert src d x,dst=>bif isSlice (T d).desc then mg T src d S.base dst s (s.ev x) k else pG s (aL T src).desc (T src).desc (T d).desc (s.ev x) (bx fun v=>K (s.put dst v))
 |.slice t x lo hi none,dst=>bif lp (T t).desc then iY T (T t).desc s (s.ev x) (lo.map s.ev) (hi.map s.ev) (bx fun v=>K (s.put dst v)) else mT s (isStr (T t).desc) (ck T t) (aL T t).size (s.ev x) (lo.map s.ev) (hi.map s.ev) (bx fun v=>K (s.put dst v))
 |.buildSlice t n ps,some d=>ck T t=true∧ip (aD T t) (aL T t).size (S.base+d) d n s (ps.toList.map fun p=>(p.1,s.ev p.2)) k
 |.makeSlice t l c,some d=>ck T t=true∧gS (aD T t) (aL T t) (S.base+d) d s (s.ev l) (s.ev c) k
 |.fieldAddr t x f,dst=>fD T t f s (s.ev x) (bx fun v=>K (s.put dst v))
 |.field t x f,dst=>ow T t f (s.ev x) (bx fun v=>K (s.put dst v))
 |.build t ps,dst=>dQ T t (ps.toList.map fun p=>(p.1,s.ev p.2)) (bx fun v=>K (s.put dst v))
 |.nilCheck x,dst=>gQ s (s.ev x) (bx fun v=>K (s.put dst v))
 |.extract x i,dst=>lr (s.ev x) i (bx fun v=>K (s.put dst v))
 |.box t x,some d=>Er t (S.base+d) d s (s.ev x) k
 |.alloc t,some d=>tY t (T t) (S.base+d) d s k
 |.makeMap t none,some d=>jQ T t (S.base+d) d s k
 |.lookup t x ix ok,dst=>kw T t s (s.ev x) (s.ev ix) ok (bx fun v=>K (s.put dst v))
 |.mapUpdate t m ix x,dst=>cX T t s (s.ev m) (s.ev ix) (s.ev x) (bx fun s'=>K (s'.put dst uv))
 |.makeFunc (.func f) first caps,dst=>ew f (first.toList.map s.ev) (caps.toList.map s.ev) (bx fun v=>K (s.put dst v))
 |.call c,_=>Ly S T o c s k
 |_,_=>aS S o s k
def wpO (S:Sp) (T:Nat→TI) (ops:Array Oper):List Oper→(s:St)→{K:St→Prop}→(k:Box K)→Prop
 |[],s,K,_=>K s
 |o::rest,s,K,k=>
   match o.guard with
   |none=>opA S T o s (bx fun s'=>wpO S T ops rest s' k)
   |some (j,want)=>
     aJ ((ops[j]?).bind (·.dst)) (bx fun d=>
      ks (s.f d) (bx fun b=>if b=want then opA S T o { s with f:=upd s.f d (bv b)} (bx fun s'=>wpO S T ops rest s' k)
       else wpO S T ops rest ({ s with f:=upd s.f d (bv b)}.put o.dst uv) k) (bx (wpO S T ops rest (s.put o.dst uv) k)))
def jz {next:St→Prop} (_:Box next) {Q:Exit→St→Prop} (_:Box Q):Exit→St→Prop
 |.normal,s=>next s
 |e,s=>Q e s
def eK (id:Nat) {Q:Exit→St→Prop} (_:Box Q):Exit→St→Prop
 |.exit id',s=>if id'=id then Q .normal s else Q (.exit id') s
 |e,s=>Q e s
def qD (S:Sp) {B:(Exit→St→Prop)→St→Prop} (_:Box B) {Q:Exit→St→Prop} (q:Box Q) (s:St):Prop:=
 ∃I:Nat→St→Prop,(∃n s₁,S.vs s s₁∧I n s₁)∧∀n s,I n s→B (jz (bx fun s'=>∃n' s₁,n'<n∧S.vs s' s₁∧I n' s₁) q) s
def ny {Q:Exit→St→Prop} (_:Box Q):Exit→St→Prop
 |.goto _,_=>False
 |e,s=>Q e s
def iL (S:Sp) (T:Nat→TI) (id:Nat) (ops:Array Oper) (s:St) {Q:Exit→St→Prop} (q:Box Q):Prop:=
 (jh T ops=true∧wpO S T ops ops.toList s (bx fun s'=>Q .normal s'))∨yy S (.region id ops true) s q
def wpC (S:Sp) (T:Nat→TI):Code→{Q:Exit→St→Prop}→(q:Box Q)→St→Prop
 |.skip,Q,_,s=>Q .normal s
 |.label _,Q,_,s=>Q .normal s
 |.region id ops b,Q,q,s=>match b with|true=>iL S T id ops s q|false=>wpO S T ops ops.toList s (bx fun s'=>Q .normal s')
 |.seq x y,Q,q,s=>wpC S T x (bx (jz (bx fun s'=>wpC S T y q s') q)) s
 |.cond c x y,Q,q,s=>mQ (s.ev c) (bx fun b=>if b then wpC S T x q s else wpC S T y q s)
 |.block id c,Q,q,s=>wpC S T c (bx (eK id q)) s
 |.loop c,Q,q,s=>qD S (bx fun Q s=>wpC S T c (bx Q) s) q s
 |.exit id,Q,_,s=>Q (.exit id) s
 |.ret,Q,_,s=>Q .ret s
 |.scope c,_,q,s=>wpC S T c (bx (ny q)) s
 |.goto l,Q,_,s=>Q (.goto l) s
 |c,_,q,s=>yy S c s q
variable {K:AV→Prop}{s:St}{ty:TypeId}{ps:String}{af:Array Edge}{gd:Option (Nat×Bool)}{dst:Option Tmp}{x:Operand}{t:TypeId}{n:Nat}{Q:Exit→St→Prop}{d:Tmp}{a:Array Operand}{ts:Array TypeId}{next:St→Prop}{c:Code}{ix:Operand}{p:Array (Nat×Operand)}{l:List Oper}{q:Box Q}{b:Box next}
section equations
variable {S:Sp}{T:Nat→TI}
@[go_sem] theorem GW {K:Bool→Prop} (k:Box K):fZ true k=K true:=by simp[fZ]
@[go_sem] theorem Es {K:Bool→Prop} (k:Box K):fZ false k=K false:=by simp[fZ]
@[go_sem] theorem Ea (p:Prop) [Decidable p] {K:Bool→Prop} (k:Box K):fZ (decide p) k=((p→K true)∧(¬p→K false)):=by simp[fZ]
@[go_sem] theorem Im (b:Bool) {K:Bool→Prop} (k:Box K):fZ (!b) k=fZ b (bx fun t=>K (!t)):=by cases b <;> simp[fZ]
@[go_sem] theorem GX {α:Type} (a:α) {K:α→Prop} (k:Box K):aJ (some a) k=K a:=l0 rfl rfl
@[go_sem] theorem Ku (b:Bool) {K:Bool→Prop} (k:Box K):mQ (.one (.d (.bool b))) k=fZ b k:=l0 rfl rfl
@[go_sem] theorem Kv (b:Bool) {K:Bool→Prop} (k:Box K) {U:Prop} (u:Box U):ks (.one (.d (.bool b))) k u=fZ b k:=l0 rfl rfl
@[go_sem] theorem Lz {K:Bool→Prop} (k:Box K) {U:Prop} (u:Box U):ks (.tup []) k u=U:=l0 rfl rfl
@[go_sem] theorem GY :cG .bool=false:=l0 rfl rfl
@[go_sem] theorem LA :okD .bool=true:=l0 rfl rfl
@[go_sem] theorem Io (kd:IntKind):cG (.int kd)=false:=l0 rfl rfl
@[go_sem] theorem GZ (kd:IntKind):isSlice (.int kd)=false:=l0 rfl rfl
@[go_sem] theorem OF (kd:IntKind):okD (.int kd)=true:=l0 rfl rfl
@[go_sem] theorem Eb :cG .string=false:=l0 rfl rfl
@[go_sem] theorem AW :isSlice .string=false:=l0 rfl rfl
@[go_sem] theorem Et :lp .string=false:=l0 rfl rfl
@[go_sem] theorem Ip :okD .string=true:=l0 rfl rfl
@[go_sem] theorem Eu :isStr .string=true:=l0 rfl rfl
@[go_sem] theorem AX (e:TypeId):cG (.pointer e)=false:=l0 rfl rfl
@[go_sem] theorem Ha (e:TypeId):okD (.pointer e)=true:=l0 rfl rfl
@[go_sem] theorem Ev (e:TypeId):cG (.slice e)=false:=l0 rfl rfl
@[go_sem] theorem Hb (e:TypeId):lp (.slice e)=false:=l0 rfl rfl
@[go_sem] theorem Kw (e:TypeId):okD (.slice e)=true:=l0 rfl rfl
@[go_sem] theorem Hc (e:TypeId):isStr (.slice e)=false:=l0 rfl rfl
@[go_sem] theorem Hd (n:Nat) (e:TypeId):lp (.array n e)=true:=l0 rfl rfl
@[go_sem] theorem Kx (n:Nat) (e:TypeId):okD (.array n e)=true:=l0 rfl rfl
@[go_sem] theorem He (n:Nat) (e:TypeId):isStr (.array n e)=false:=l0 rfl rfl
@[go_sem] theorem Iq (a b:TypeId):cG (.map a b)=false:=l0 rfl rfl
@[go_sem] theorem OG (a b:TypeId):okD (.map a b)=true:=l0 rfl rfl
@[go_sem] theorem Ec (fs:Array Field):cG (.struct fs)=true:=l0 rfl rfl
@[go_sem] theorem Ir (fs:Array Field):okD (.struct fs)=true:=l0 rfl rfl
@[go_sem] theorem Hf (ps rs:Array TypeId) (v:Bool):cG (.func ps rs v)=false:=l0 rfl rfl
@[go_sem] theorem LB (ps rs:Array TypeId) (v:Bool):okD (.func ps rs v)=true:=l0 rfl rfl
@[go_sem] theorem Ky (d:TypeDesc) (n b:Nat) (z:List D) (cells:List C) (off:Nat) (k:Box K):qz ⟨d,n,b,z⟩ cells off k=(match cG d with|true=>off+n≤cells.length∧K (.agg ((cells.drop off).take n))|false=>aJ (cells[off]?) (bx fun c=>K (.one c))):=l0 rfl rfl
@[go_sem] theorem Kz (d:TypeDesc) (n b:Nat) (z:List D) (cs:List D) (k:Box K):yx ⟨d,n,b,z⟩ cs k=(match cG d with|true=>n≤cs.length∧K (.agg ((cs.take n).map .d))|false=>aJ (cs[0]?) (bx fun c=>K (.one (.d c)))):=l0 rfl rfl
@[go_sem] theorem KA (ti:TI) (s:St) (id g off:Nat) (k:Box K):pF ti s (.one (.ptr id g off)) k=(okD ti.desc=true∧s.gen id=g∧aJ (s.obj id) (bx fun cells=>qz ti cells off k)):=l0 rfl rfl
@[go_sem] theorem Is (ti:TI) (s:St) (cs:List D) (k:Box K):pF ti s (.one (.d (.iptr cs))) k=(okD ti.desc=true∧yx ti cs k):=l0 rfl rfl
@[go_sem] theorem It (ti:TI) (s:St) (id g off:Nat) (x:AV) {K:St→Prop} (k:Box K):mR ti s (.one (.ptr id g off)) x k=(okD ti.desc=true∧s.gen id=g∧aJ (cellsOf x) (bx fun cs=>cs.length=ti.size∧aJ (s.obj id) (bx fun cells=>off+cs.length≤cells.length∧K { s with obj:=upd s.obj id (some (setAt cells off cs))}))):=l0 rfl rfl
@[go_sem] theorem Hg (c:C):cellsOf (.one c)=some [c]:=l0 rfl rfl
@[go_sem] theorem Hh (cs:List C):cellsOf (.agg cs)=some cs:=l0 rfl rfl
@[go_sem] theorem KB (cells:List C) (off:Nat):setAt cells off []=cells:=l0 rfl rfl
@[go_sem] theorem Iu (cells:List C) (off:Nat) (c:C) (cs:List C):setAt cells off (c::cs)=setAt (cells.set off c) (off+1) cs:=l0 rfl rfl
@[go_sem] theorem Ew (T:Nat→TI) (n:Nat) (e:TypeId) (s:St) (id g off:Nat) (kd:IntKind) (i:Int) (k:Box K):jP T (.array n e) s (.one (.ptr id g off)) (.one (.d (.int kd i))) k=(s.gen id=g∧(s.obj id).isSome=true∧okD (T e).desc=true∧0≤i∧i<n∧K (.one (.ptr id g (off+i.toNat*(T e).size)))):=l0 rfl rfl
@[go_sem] theorem Ed (s:St) (sz:Nat) (es:List (List D)) (kd:IntKind) (i:Int) (k:Box K):fC s sz (.one (.d (.sl es))) (.one (.d (.int kd i))) k=(0≤i∧aJ (es[i.toNat]?) (bx fun c=>c.length=sz∧K (.one (.d (.iptr c))))):=l0 rfl rfl
@[go_sem] theorem AY (s:St) (sz id g sz' off len:Nat) (kd:IntKind) (i:Int) (k:Box K):fC s sz (.one (.osl id g sz' off len)) (.one (.d (.int kd i))) k=(s.gen id=g∧(s.obj id).isSome=true∧0≤i∧i<len∧sz'=sz∧K (.one (.ptr id g (off+i.toNat*sz)))):=l0 rfl rfl
@[go_sem] theorem Iv (s:List UInt8) (kd:IntKind) (i:Int) (k:Box K):qA (.one (.d (.str s))) (.one (.d (.int kd i))) k=(0≤i∧aJ (s[i.toNat]?) (bx fun c=>K (iv .u8 c.toNat))):=l0 rfl rfl
@[go_sem] theorem LC (kd:IntKind) (x y:Int) (k:Box K):lq .add kd x y k=K (iv kd (kd.wrap (x+y))):=l0 rfl rfl
@[go_sem] theorem Ey (a b:IntKind):sameKind .add a b=(a=b):=l0 rfl rfl
@[go_sem] theorem LD (kd:IntKind) (x y:Int) (k:Box K):lq .sub kd x y k=K (iv kd (kd.wrap (x-y))):=l0 rfl rfl
@[go_sem] theorem Ez (a b:IntKind):sameKind .sub a b=(a=b):=l0 rfl rfl
@[go_sem] theorem LE (kd:IntKind) (x y:Int) (k:Box K):lq .mul kd x y k=K (iv kd (kd.wrap (x*y))):=l0 rfl rfl
@[go_sem] theorem EA (a b:IntKind):sameKind .mul a b=(a=b):=l0 rfl rfl
@[go_sem] theorem LF (kd:IntKind) (x y:Int) (k:Box K):lq .eql kd x y k=K (bv (decide (x=y))):=l0 rfl rfl
@[go_sem] theorem EB (a b:IntKind):sameKind .eql a b=(a=b):=l0 rfl rfl
@[go_sem] theorem LG (kd:IntKind) (x y:Int) (k:Box K):lq .neq kd x y k=K (bv (decide (x≠y))):=l0 rfl rfl
@[go_sem] theorem EC (a b:IntKind):sameKind .neq a b=(a=b):=l0 rfl rfl
@[go_sem] theorem LH (kd:IntKind) (x y:Int) (k:Box K):lq .lss kd x y k=K (bv (decide (x<y))):=l0 rfl rfl
@[go_sem] theorem ED (a b:IntKind):sameKind .lss a b=(a=b):=l0 rfl rfl
@[go_sem] theorem LI (kd:IntKind) (x y:Int) (k:Box K):lq .leq kd x y k=K (bv (decide (x≤y))):=l0 rfl rfl
@[go_sem] theorem EE (a b:IntKind):sameKind .leq a b=(a=b):=l0 rfl rfl
@[go_sem] theorem LJ (kd:IntKind) (x y:Int) (k:Box K):lq .gtr kd x y k=K (bv (decide (y<x))):=l0 rfl rfl
@[go_sem] theorem EF (a b:IntKind):sameKind .gtr a b=(a=b):=l0 rfl rfl
@[go_sem] theorem LK (kd:IntKind) (x y:Int) (k:Box K):lq .geq kd x y k=K (bv (decide (y≤x))):=l0 rfl rfl
@[go_sem] theorem EG (a b:IntKind):sameKind .geq a b=(a=b):=l0 rfl rfl
@[go_sem] theorem LL (kd:IntKind) (x y:Int) (k:Box K):lq .and kd x y k=K (iv kd (kd.wrap (BitVec.ofInt kd.bits x &&&BitVec.ofInt kd.bits y).toNat)):=l0 rfl rfl
@[go_sem] theorem EH (a b:IntKind):sameKind .and a b=(a=b):=l0 rfl rfl
@[go_sem] theorem OH (kd:IntKind) (x y:Int) (k:Box K):lq .or kd x y k=K (iv kd (kd.wrap (BitVec.ofInt kd.bits x |||BitVec.ofInt kd.bits y).toNat)):=l0 rfl rfl
@[go_sem] theorem Hi (a b:IntKind):sameKind .or a b=(a=b):=l0 rfl rfl
@[go_sem] theorem LM (kd:IntKind) (x y:Int) (k:Box K):lq .shl kd x y k=(0≤y∧K (iv kd (kd.wrap (x*2^(min y.toNat kd.bits))))):=l0 rfl rfl
@[go_sem] theorem EI (a b:IntKind):sameKind .shl a b=True:=l0 rfl rfl
@[go_sem] theorem LN (kd:IntKind) (x y:Int) (k:Box K):lq .shr kd x y k=(0≤y∧K (iv kd (x.fdiv (2^(min y.toNat kd.bits))))):=l0 rfl rfl
@[go_sem] theorem EJ (a b:IntKind):sameKind .shr a b=True:=l0 rfl rfl
@[go_sem] theorem LO (x y:List UInt8) (k:Box K):xl .add x y k=(((x.length+y.length:Nat):Int)≤9223372036854775807∧K (sv (x++y))):=l0 rfl rfl
@[go_sem] theorem LP (x y:List UInt8) (k:Box K):xl .eql x y k=K (bv (decide (x=y))):=l0 rfl rfl
@[go_sem] theorem LQ (x y:List UInt8) (k:Box K):xl .neq x y k=K (bv (decide (x≠y))):=l0 rfl rfl
@[go_sem] theorem LR (d:TypeDesc) (op:BinOp) (k1 k2:IntKind) (a b:Int) (k:Box K):zF T d op (.one (.d (.int k1 a))) (.one (.d (.int k2 b))) k=(sameKind op k1 k2∧lq op k1 a b k):=l0 rfl rfl
@[go_sem] theorem LS (d:TypeDesc) (op:BinOp) (a b:List UInt8) (k:Box K):zF T d op (.one (.d (.str a))) (.one (.d (.str b))) k=xl op a b k:=l0 rfl rfl
@[go_sem] theorem OI (b:Bool) (k:Box K):unA .not (.one (.d (.bool b))) k=K (bv (!b)):=l0 rfl rfl
@[go_sem] theorem KC (st:St) (el:TypeDesc) (src:TypeDesc) (kd k2:IntKind) (n:Int) (k:Box K):pG st el src (.int kd) (.one (.d (.int k2 n))) k=(okD src=true∧K (iv kd (kd.wrap n))):=by cases src <;> rfl
@[go_sem] theorem Hj (st:St) (el:TypeDesc) (e:TypeId) (y:AV) (k:Box K):pG st el (.slice e) .string y k=(vc el=true∧contents st false true 1 y (bx fun _ cs=>aJ (u8s cs) (bx fun ns=>K (sv (ns.map fun n=>UInt8.ofNat n.toNat))))):=by cases y <;> rfl
@[go_sem] theorem OJ:vc (.int .u8)=true:=l0 rfl rfl
@[go_sem] theorem OK:u8s []=some []:=l0 rfl rfl
@[go_sem] theorem EK (s:St) (bs bl:Bool) (sz:Nat) {K:Nat→List C→Prop} (k:Box K):contents s bs bl sz (.one (.d .nsl)) k=(bl=true∧K 0 []):=l0 rfl rfl
@[go_sem] theorem Hk (s:St) (bs bl:Bool) (sz:Nat) (es:List (List D)) {K:Nat→List C→Prop} (k:Box K):contents s bs bl sz (.one (.d (.sl es))) k=(bl=true∧(∀e∈es,e.length=sz)∧K es.length (es.flatten.map .d)):=l0 rfl rfl
@[go_sem] theorem EL (s:St) (b1 b2:Bool) (sz:Nat) (bs:List UInt8) {K:Nat→List C→Prop} (k:Box K):contents s b1 b2 sz (.one (.d (.str bs))) k=(b1=true∧sz=1∧K bs.length (bs.map fun b=>.d (iI b))):=l0 rfl rfl
@[go_sem] theorem EM (s:St) (bs bl:Bool) (sz id g sz' off len:Nat) {K:Nat→List C→Prop} (k:Box K):contents s bs bl sz (.one (.osl id g sz' off len)) k=(bl=true∧s.gen id=g∧sz'=sz∧aJ (s.obj id) (bx fun cells=>off+len*sz≤cells.length∧K len ((cells.drop off).take (len*sz)))):=l0 rfl rfl
@[go_sem] theorem Hl (e:Nat) (ti:TI) (bs bl:Bool) (i d:Nat) (s:St) (y:AV) {K:St→Prop} (k:Box K):ku e ti bs bl i d s (.one (.d .nsl)) y k=contents s bs bl ti.size y (bx fun n cs=>qB n ti.bytes∧K ((s.newC (e+1) i cs).put (some d) (.one (.osl i (nxC (e+1) (s.gen i)) ti.size 0 n)))):=l0 rfl rfl
@[go_sem] theorem Hm (e:Nat) (ti:TI) (bs bl:Bool) (i d:Nat) (s:St) (id g sz off len:Nat) (y:AV) {K:St→Prop} (k:Box K):ku e ti bs bl i d s (.one (.osl id g sz off len)) y k=(s.gen id=g∧sz=ti.size∧aJ (s.obj id) (bx fun cells=>off+len*sz≤cells.length∧
   contents s bs bl ti.size y (bx fun n cs=>qB (len+n) ti.bytes∧
    K ((s.newC (apC e (s.gen id) off) id ((cells.drop off).take (len*sz)++cs)).put (some d) (.one (.osl id (nxC (apC e (s.gen id) off) (s.gen id)) ti.size 0 (len+n))))))):=l0 rfl rfl
@[go_sem] theorem LT (s:St) (bs bl:Bool) (k:Box K):tW s bs bl (.one (.d .nsl)) k=(bl=true∧K (iv .i64 0)):=l0 rfl rfl
@[go_sem] theorem OL (s:St) (bs bl:Bool) (es:List (List D)) (k:Box K):tW s bs bl (.one (.d (.sl es))) k=(bl=true∧K (iv .i64 es.length)):=l0 rfl rfl
@[go_sem] theorem LU (s:St) (bs bl:Bool) (es:List UInt8) (k:Box K):tW s bs bl (.one (.d (.str es))) k=(bs=true∧K (iv .i64 es.length)):=l0 rfl rfl
@[go_sem] theorem LV (s:St) (bs bl:Bool) (id g sz off len:Nat) (k:Box K):tW s bs bl (.one (.osl id g sz off len)) k=(bl=true∧s.gen id=g∧(s.obj id).isSome=true∧K (iv .i64 len)):=l0 rfl rfl
@[go_sem] theorem Hn (n:Nat) {K:Nat→Prop} (k:Box K):ez none n k=K n:=l0 rfl rfl
@[go_sem] theorem Hp (n:Nat) (kd:IntKind) (i:Int) {K:Nat→Prop} (k:Box K):ez (some (.one (.d (.int kd i)))) n k=(0≤i∧K i.toNat):=l0 rfl rfl
@[go_sem] theorem EN (l:List C) (n:Nat):tX (some l) n=(n≤l.length):=propext ⟨fun⟨_,h,h2⟩=>by cases h;exact h2,fun h=>⟨l,rfl,h⟩⟩
@[go_sem] theorem Ee (T:Nat→TI) (n:Nat) (e:TypeId) (s:St) (id g off:Nat) (hi:Option AV) (k:Box K):iY T (.array n e) s (.one (.ptr id g off)) none hi k=(s.gen id=g∧okD (T e).desc=true∧tX (s.obj id) (off+n*(T e).size)∧ez hi n (bx fun h=>h≤n∧K (.one (.osl id g (T e).size off h)))):=l0 rfl rfl
@[go_sem] theorem Iw (st:St) (bs bl:Bool) (sz:Nat) (s:List UInt8) (lo hi:Option AV) (k:Box K):mT st bs bl sz (.one (.d (.str s))) lo hi k=(bs=true∧ez hi s.length (bx fun h=>ez lo 0 (bx fun l=>l≤h∧h≤s.length∧K (sv ((s.take h).drop l))))):=l0 rfl rfl
@[go_sem] theorem Ix (s:St) (bs bl:Bool) (sz id g sz' off len:Nat) (lo hi:Option AV) (k:Box K):mT s bs bl sz (.one (.osl id g sz' off len)) lo hi k=(bl=true∧s.gen id=g∧(s.obj id).isSome=true∧ez hi len (bx fun h=>ez lo 0 (bx fun l=>l≤h∧h≤len∧sz'=sz∧K (.one (.osl id g sz (off+l*sz) (h-l)))))):=l0 rfl rfl
@[go_sem] theorem LW (sz n:Nat) {K:List C→Prop} (k:Box K):vd sz n [] k=K []:=l0 rfl rfl
@[go_sem] theorem KD (sz n i:Nat) (x:AV) (r:List (Nat×AV)) {K:List C→Prop} (k:Box K):vd sz n ((i,x)::r) k=(i=n∧aJ (cellsOf x) (bx fun cs=>cs.length=sz∧vd sz (n+1) r (bx fun rest=>K (cs++rest)))):=l0 rfl rfl
@[go_sem] theorem AZ (e sz i d n:Nat) (s:St) (ps:List (Nat×AV)) {K:St→Prop} (k:Box K):ip e sz i d n s ps k=(ps.length=n∧n*sz≤16777216∧vd sz 0 ps (bx fun cs=>K ((s.newC (e+1) i cs).put (some d) (.one (.osl i (nxC (e+1) (s.gen i)) sz 0 n))))):=l0 rfl rfl
@[go_sem] theorem Ba (fs:Array Field) (f:Nat):fu (.struct fs) f=fs[f]?:=l0 rfl rfl
@[go_sem] theorem Bb (t f:Nat) (s:St) (id g off:Nat) (k:Box K):fD T t f s (.one (.ptr id g off)) k=(s.gen id=g∧(s.obj id).isSome=true∧aJ (fu (T t).desc f) (bx fun fl=>(okD (T fl.type).desc=true∧(T fl.type).size≠0)∧K (.one (.ptr id g (off+fl.offset))))):=l0 rfl rfl
@[go_sem] theorem AS (t f:Nat) (s:St) (cs:List D) (k:Box K):fD T t f s (.one (.d (.iptr cs))) k=aJ (fu (T t).desc f) (bx fun fl=>(okD (T fl.type).desc=true∧(T fl.type).size≠0)∧K (.one (.d (.iptr (cs.drop fl.offset))))):=l0 rfl rfl
@[go_sem] theorem Iy (t f:Nat) (cs:List C) (k:Box K):ow T t f (.agg cs) k=aJ (fu (T t).desc f) (bx fun fl=>okD (T fl.type).desc=true∧qz (T fl.type) cs fl.offset k):=l0 rfl rfl
@[go_sem] theorem KE (pl:Nat→Option (Nat×Nat)) (cells:List C) {K:List C→Prop} (k:Box K):pH pl cells [] k=K cells:=l0 rfl rfl
@[go_sem] theorem Iz (pl:Nat→Option (Nat×Nat)) (cells:List C) (i:Nat) (x:AV) (r:List (Nat×AV)) {K:List C→Prop} (k:Box K):pH pl cells ((i,x)::r) k=aJ (pl i) (bx fun q=>aJ (cellsOf x) (bx fun cs=>cs.length=q.2∧q.1+q.2≤cells.length∧pH pl (setAt cells q.1 cs) r k)):=l0 rfl rfl
@[go_sem] theorem IA (fs:Array Field) (i:Nat):placeOf T (.struct fs) i=(fu (.struct fs) i).bind fun fl=>bif okD (T fl.type).desc then some (fl.offset,(T fl.type).size) else none:=l0 rfl rfl
@[go_sem] theorem KF (t:Nat) (ps:List (Nat×AV)) (k:Box K):dQ T t ps k=(eV T t=true∧pH (placeOf T (T t).desc) ((T t).zero.map .d) ps (bx fun cs=>K (.agg cs))):=l0 rfl rfl
@[go_sem] theorem OM (t i d:Nat) (s:St) (x:AV) {K:St→Prop} (k:Box K):Er t i d s x k=aJ (cellsOf x) (bx fun cs=>K ((s.newC (t+1) i cs).put (some d) (.one (.ptr i (nxC (t+1) (s.gen i)) 0)))):=l0 rfl rfl
@[go_sem] theorem KG (t:Nat) (ti:TI) (i d:Nat) (s:St) {K:St→Prop} (k:Box K):tY t ti i d s k=(okD ti.desc=true∧K ((s.newC (t+1) i (ti.zero.map .d)).put (some d) (.one (.ptr i (nxC (t+1) (s.gen i)) 0)))):=l0 rfl rfl
@[go_sem] theorem Ef (s:St) (id g off:Nat) (k:Box K):gQ s (.one (.ptr id g off)) k=(s.gen id=g∧(s.obj id).isSome=true∧K (.one (.ptr id g off))):=l0 rfl rfl
@[go_sem] theorem Bd (s:St) (cs:List D) (k:Box K):gQ s (.one (.d (.iptr cs))) k=K (.one (.d (.iptr cs))):=l0 rfl rfl
@[go_sem] theorem EO (ts:List AV) (i:Nat) (k:Box K):lr (.tup ts) i k=aJ (ts[i]?) k:=l0 rfl rfl
@[go_sem] theorem ON (k1 k2:IntKind) (a b:Int) (k:Box K):mxA true (.one (.d (.int k1 a))) (.one (.d (.int k2 b))) k=K (iv k1 (max a b)):=l0 rfl rfl
@[go_sem] theorem OO (k1 k2:IntKind) (a b:Int) (k:Box K):mxA false (.one (.d (.int k1 a))) (.one (.d (.int k2 b))) k=K (iv k1 (min a b)):=l0 rfl rfl
@[go_sem] theorem Eg (e:Nat) (ti:TI) (i d:Nat) (s:St) (k1 k2:IntKind) (n m:Int) {K:St→Prop} (k:Box K):gS e ti i d s (.one (.d (.int k1 n))) (.one (.d (.int k2 m))) k=(0≤n∧n≤m∧m≤4611686018427387904∧m*ti.bytes≤281474976710656∧
   K ((s.newC (e+1) i (List.replicate m.toNat (ti.zero.map C.d)).flatten).put (some d) (.one (.osl i (nxC (e+1) (s.gen i)) ti.size 0 n.toNat)))):=l0 rfl rfl
@[go_sem] theorem KH (k k':IntKind) (n:Int):fb (.int k) (.int k' n)=decide (k'=k):=l0 rfl rfl
@[go_sem] theorem KI (s:List UInt8):fb .string (.str s)=true:=l0 rfl rfl
@[go_sem] theorem Hq:iT (.int .i64)=3:=l0 rfl rfl
@[go_sem] theorem Hr:iT .string=8:=l0 rfl rfl
@[go_sem] theorem KJ:co 3=.int .i64:=l0 rfl rfl
@[go_sem] theorem KK:co 8=.string:=l0 rfl rfl
@[go_sem] theorem OP (n:Nat):sJ true n=200+n:=l0 rfl rfl
@[go_sem] theorem OQ (n:Nat):sJ false n=n:=l0 rfl rfl
@[go_sem] theorem LX (d:TypeDesc) (a b:Nat) (z:List D) {K:List D→Prop} (k:Box K):vf ⟨d,a,b,z⟩ k=((okD d=true∧2≤z.length)∧K z):=l0 rfl rfl
@[go_sem] theorem LY (z:List D) (c:Option C):kv true z c=.tup [.agg ((rZ z c).map .d),bv c.isSome]:=l0 rfl rfl
@[go_sem] theorem LZ (z:List D) (c:Option C):kv false z c=.agg ((rZ z c).map .d):=l0 rfl rfl
@[go_sem] theorem KL (z:List D):rZ z none=z:=l0 rfl rfl
@[go_sem] theorem KM (z ds:List D):rZ z (some (.d (.iptr ds)))=ds:=l0 rfl rfl
@[go_sem] theorem KN:datas []=some []:=l0 rfl rfl
@[go_sem] theorem IB (x:D) (r:List C):datas (.d x::r)=(datas r).map (x :: ·):=l0 rfl rfl
@[go_sem] theorem Hs (t i d:Nat) (s:St) {K:St→Prop} (k:Box K):jQ T t i d s k=(match (T t).desc with
 |.map kt et=>co (iT (T kt).desc)=(T kt).desc∧K ((s.newC 0 i []).put (some d) (.one (.mp i (nxC 0 (s.gen i)) (sJ (cG (T et).desc) (iT (T kt).desc)))))
 | _=>False):=l0 rfl rfl
@[go_sem] theorem Ma (d:TypeDesc) (a b:Nat) (z:D) {K:D→Prop} (k:Box K):ve ⟨d,a,b,[z]⟩ k=((okD d=true∧cG d=false)∧K z):=l0 rfl rfl
@[go_sem] theorem IC (t:Nat) (s:St) (x:AV) (k:D) (ok:Bool) (b:Box K):kw T t s x (.one (.d k)) ok b=(match (T t).desc with
 |.map kt et=>(okD (T kt).desc=true∧fb (T kt).desc k=true)∧
   match cG (T et).desc with
   | false=>ve (T et) (bx fun z=>
     match x with
     |.one (.mp id g kd)=>s.gen id=g∧co kd=(T kt).desc∧aJ (s.obj id) (bx fun cells=>K (pI ok z (mget cells k)))
     |.one (.d .nilm)=>K (pI ok z none)
     | _=>False)
   | true=>vf (T et) (bx fun z=>
     match x with
     |.one (.mp id g kd)=>s.gen id=g∧(200≤kd∧co (kd-200)=(T kt).desc)∧aJ (s.obj id) (bx fun cells=>K (kv ok z (mget cells k)))
     |.one (.d .nilm)=>K (kv ok z none)
     | _=>False)
 | _=>False):=by unfold kw;cases (T t).desc <;> rfl
@[go_sem] theorem Be (t:Nat) (s:St) (id g kd:Nat) (k:D) (cs:List C) {K:St→Prop} (b:Box K):cX T t s (.one (.mp id g kd)) (.one (.d k)) (.agg cs) b=(match (T t).desc with
 |.map kt _=>(okD (T kt).desc=true∧fb (T kt).desc k=true)∧s.gen id=g∧(200≤kd∧co (kd-200)=(T kt).desc)∧aJ (datas cs) (bx fun ds=>aJ (s.obj id) (bx fun cells=>K { s with obj:=upd s.obj id (some (mset cells k (.d (.iptr ds))))}))
 | _=>False):=by unfold cX;cases (T t).desc <;> rfl
@[go_sem] theorem Eh (t:Nat) (s:St) (id g kd:Nat) (k:D) (c:C) {K:St→Prop} (b:Box K):cX T t s (.one (.mp id g kd)) (.one (.d k)) (.one c) b=(match (T t).desc with
 |.map kt _=>(okD (T kt).desc=true∧fb (T kt).desc k=true)∧s.gen id=g∧co kd=(T kt).desc∧aJ (s.obj id) (bx fun cells=>K { s with obj:=upd s.obj id (some (mset cells k c))})
 | _=>False):=by unfold cX;cases (T t).desc <;> rfl
@[go_sem] theorem Mb (id g off:Nat):tZ (.one (.ptr id g off))=some (.ptr id g off):=l0 rfl rfl
@[go_sem] theorem KO:iK []=some []:=l0 rfl rfl
@[go_sem] theorem ID (x:AV) (xs:List AV):iK (x::xs)=(tZ x).bind fun p=>(iK xs).bind fun ps=>some (p::ps):=l0 rfl rfl
@[go_sem] theorem Ei (f:FuncId) (caps:List AV) (k:Box K):ew f [] caps k=(f<1000000∧aJ (iK caps) (bx fun l=>K (.one (.clo f l)))):=l0 rfl rfl
@[go_sem] theorem Bf (f:FuncId) (x:AV) (r:List AV) (k:Box K):ew f (x::r) [] k=aJ (iK (x::r)) (bx fun l=>K (.one (.clo (f+1000000) l))):=propext ⟨fun h=>h.2,fun h=>⟨rfl,h⟩⟩
@[go_sem] theorem Mc{K:St→Prop}{k:Box K}:opA S T ⟨dst,.move x,ty,ps,af,gd⟩ s k=K (s.put dst (s.ev x)):=l0 rfl rfl
@[go_sem] theorem IE{K:St→Prop}{k:Box K}:opA S T ⟨dst,.assign x,ty,ps,af,gd⟩ s k=K (s.put dst (s.ev x)):=l0 rfl rfl
@[go_sem] theorem Md{K:St→Prop}{k:Box K}{c a b:Operand}:opA S T ⟨dst,.pick c a b,ty,ps,af,gd⟩ s k=mQ (s.ev c) (bx fun t=>K (s.put dst (if t then s.ev a else s.ev b))):=l0 rfl rfl
@[go_sem] theorem Me{K:St→Prop}{k:Box K}{a:Operand}:opA S T ⟨dst,.load t a,ty,ps,af,gd⟩ s k=pF (T t) s (s.ev a) (bx fun v=>K (s.put dst v)):=l0 rfl rfl
@[go_sem] theorem KP{K:St→Prop}{k:Box K}{a x:Operand}:opA S T ⟨dst,.store t a x,ty,ps,af,gd⟩ s k=mR (T t) s (s.ev a) (s.ev x) (bx fun s'=>K (s'.put dst uv)):=l0 rfl rfl
@[go_sem] theorem Ej{K:St→Prop}{k:Box K}{x:Nat}:opA S T ⟨dst,.indexAddr t (.tmp x) ix,ty,ps,af,gd⟩ s k=(bif lp (T t).desc then jP T (T t).desc s (s.f x) (s.ev ix) (bx fun v=>K (s.put dst v)) else ck T t=true∧fC s (aL T t).size (s.f x) (s.ev ix) (bx fun v=>K (s.put dst v))):=l0 rfl rfl
@[go_sem] theorem Mf{K:St→Prop}{k:Box K}{t g:Nat}:opA S T ⟨dst,.indexAddr t (.global g) ix,ty,ps,af,gd⟩ s k=aS S ⟨dst,.indexAddr t (.global g) ix,ty,ps,af,gd⟩ s k:=l0 rfl rfl
@[go_sem] theorem KQ{K:St→Prop}{k:Box K}{x ix:Operand}:opA S T ⟨dst,.index t x ix,ty,ps,af,gd⟩ s k=(isStr (T t).desc=true∧qA (s.ev x) (s.ev ix) (bx fun v=>K (s.put dst v))):=l0 rfl rfl
@[go_sem] theorem KR{K:St→Prop}{k:Box K}{o:BinOp}{t u:TypeId}{x y:Operand}:opA S T ⟨dst,.binOp o t x y u,ty,ps,af,gd⟩ s k=zF T (T t).desc o (s.ev x) (s.ev y) (bx fun v=>K (s.put dst v)):=l0 rfl rfl
@[go_sem] theorem Mg{K:St→Prop}{k:Box K}{o:UnOp}:opA S T ⟨dst,.unOp o t x,ty,ps,af,gd⟩ s k=unA o (s.ev x) (bx fun v=>K (s.put dst v)):=l0 rfl rfl
@[go_sem] theorem Ht{K:St→Prop}{k:Box K}{t u:TypeId}:opA S T ⟨dst,.convert t u x,ty,ps,af,gd⟩ s k=(bif isSlice (T u).desc then mg T t u S.base dst s (s.ev x) k else pG s (aL T t).desc (T t).desc (T u).desc (s.ev x) (bx fun v=>K (s.put dst v))):=l0 rfl rfl
@[go_sem] theorem KS{K:St→Prop}{k:Box K}{lo hi:Option Operand}:opA S T ⟨dst,.slice t x lo hi none,ty,ps,af,gd⟩ s k=(bif lp (T t).desc then iY T (T t).desc s (s.ev x) (lo.map s.ev) (hi.map s.ev) (bx fun v=>K (s.put dst v)) else mT s (isStr (T t).desc) (ck T t) (aL T t).size (s.ev x) (lo.map s.ev) (hi.map s.ev) (bx fun v=>K (s.put dst v))):=l0 rfl rfl
@[go_sem] theorem Bg{K:St→Prop}{k:Box K}{t n:Nat}:opA S T ⟨(some d),.buildSlice t n p,ty,ps,af,gd⟩ s k=(ck T t=true∧ip (aD T t) (aL T t).size (S.base+d) d n s (p.toList.map fun p=>(p.1,s.ev p.2)) k):=l0 rfl rfl
@[go_sem] theorem Ek{K:St→Prop}{k:Box K}{l c:Operand}:opA S T ⟨(some d),.makeSlice t l c,ty,ps,af,gd⟩ s k=(ck T t=true∧gS (aD T t) (aL T t) (S.base+d) d s (s.ev l) (s.ev c) k):=l0 rfl rfl
@[go_sem] theorem OR{K:St→Prop}{k:Box K}:opA S T ⟨dst,.call ⟨.builtin .len,a,ts⟩,ty,ps,af,gd⟩ s k=((a.size=1∧ts.size=1)∧tW s (isStr (T (ts.getD 0 0)).desc) (ck T (ts.getD 0 0)) (s.ev (a.getD 0 (.const .nilFunc))) (bx fun v=>K (s.put dst v))):=l0 rfl rfl
@[go_sem] theorem IF{K:St→Prop}{k:Box K}:opA S T ⟨(some d),.call ⟨.builtin .append,a,ts⟩,ty,ps,af,gd⟩ s k=((a.size=2∧ts.size=2)∧ck T (ts.getD 0 0)=true∧ku (aD T (ts.getD 0 0)) (aL T (ts.getD 0 0)) (isStr (T (ts.getD 1 0)).desc) (ck T (ts.getD 1 0)) (S.base+d) d s (s.ev (a.getD 0 (.const .nilFunc))) (s.ev (a.getD 1 (.const .nilFunc))) k):=l0 rfl rfl
@[go_sem] theorem El{K:St→Prop}{k:Box K}{t f:Nat}:opA S T ⟨dst,.fieldAddr t x f,ty,ps,af,gd⟩ s k=fD T t f s (s.ev x) (bx fun v=>K (s.put dst v)):=l0 rfl rfl
@[go_sem] theorem KT{K:St→Prop}{k:Box K}{t f:Nat}:opA S T ⟨dst,.field t x f,ty,ps,af,gd⟩ s k=ow T t f (s.ev x) (bx fun v=>K (s.put dst v)):=l0 rfl rfl
@[go_sem] theorem KU{K:St→Prop}{k:Box K}{t:Nat}:opA S T ⟨dst,.build t p,ty,ps,af,gd⟩ s k=dQ T t (p.toList.map fun p=>(p.1,s.ev p.2)) (bx fun v=>K (s.put dst v)):=l0 rfl rfl
@[go_sem] theorem EP{K:St→Prop}{k:Box K}:opA S T ⟨dst,.nilCheck x,ty,ps,af,gd⟩ s k=gQ s (s.ev x) (bx fun v=>K (s.put dst v)):=l0 rfl rfl
@[go_sem] theorem Hu{K:St→Prop}{k:Box K}{i:Nat}:opA S T ⟨dst,.extract x i,ty,ps,af,gd⟩ s k=lr (s.ev x) i (bx fun v=>K (s.put dst v)):=l0 rfl rfl
@[go_sem] theorem OS{K:St→Prop}{k:Box K}{t:Nat}:opA S T ⟨(some d),.box t x,ty,ps,af,gd⟩ s k=Er t (S.base+d) d s (s.ev x) k:=l0 rfl rfl
@[go_sem] theorem KV{K:St→Prop}{k:Box K}{t:Nat}:opA S T ⟨(some d),.alloc t,ty,ps,af,gd⟩ s k=tY t (T t) (S.base+d) d s k:=l0 rfl rfl
@[go_sem] theorem Hv{K:St→Prop}{k:Box K}:opA S T ⟨(some d),.makeMap t none,ty,ps,af,gd⟩ s k=jQ T t (S.base+d) d s k:=l0 rfl rfl
@[go_sem] theorem IG{K:St→Prop}{k:Box K}{x ix:Operand}{ok:Bool}:opA S T ⟨dst,.lookup t x ix ok,ty,ps,af,gd⟩ s k=kw T t s (s.ev x) (s.ev ix) ok (bx fun v=>K (s.put dst v)):=l0 rfl rfl
@[go_sem] theorem Em{K:St→Prop}{k:Box K}{m ix x:Operand}:opA S T ⟨dst,.mapUpdate t m ix x,ty,ps,af,gd⟩ s k=cX T t s (s.ev m) (s.ev ix) (s.ev x) (bx fun s'=>K (s'.put dst uv)):=l0 rfl rfl
@[go_sem] theorem EQ{K:St→Prop}{k:Box K}{f:FuncId}{first caps:Array Operand}:opA S T ⟨dst,.makeFunc (.func f) first caps,ty,ps,af,gd⟩ s k=ew f (first.toList.map s.ev) (caps.toList.map s.ev) (bx fun v=>K (s.put dst v)):=l0 rfl rfl
@[go_sem] theorem OT{K:St→Prop}{k:Box K}:opA S T ⟨dst,.call ⟨.builtin .max,a,ts⟩,ty,ps,af,gd⟩ s k=(a.size=2∧mxA true (s.ev (a.getD 0 (.const .nilFunc))) (s.ev (a.getD 1 (.const .nilFunc))) (bx fun v=>K (s.put dst v))):=l0 rfl rfl
@[go_sem] theorem OU{K:St→Prop}{k:Box K}:opA S T ⟨dst,.call ⟨.builtin .min,a,ts⟩,ty,ps,af,gd⟩ s k=(a.size=2∧mxA false (s.ev (a.getD 0 (.const .nilFunc))) (s.ev (a.getD 1 (.const .nilFunc))) (bx fun v=>K (s.put dst v))):=l0 rfl rfl
@[go_sem] theorem Mh{K:St→Prop}{k:Box K}{f:Operand}:opA S T ⟨dst,.call ⟨.value f,a,ts⟩,ty,ps,af,gd⟩ s k=aS S ⟨dst,.call ⟨.value f,a,ts⟩,ty,ps,af,gd⟩ s k:=l0 rfl rfl
@[go_sem] theorem PE (s:St) (t:Nat):s.ev (.tmp t)=s.f t:=l0 rfl rfl
@[go_sem] theorem Mj (s:St) (v:Value):s.ev (.const v)=rY v:=l0 rfl rfl
@[go_sem] theorem OV (s:St) (f:Nat):s.ev (.func f)=.one (.d (.fn f)):=l0 rfl rfl
@[go_sem] theorem KW (b:Bool):rY (.bool b)=bv b:=l0 rfl rfl
@[go_sem] theorem Ml (k:IntKind) (n:Int):rY (.int k n)=iv k n:=l0 rfl rfl
@[go_sem] theorem Hw (s:ByteArray):rY (.string s)=sv s.data.toList:=l0 rfl rfl
@[go_sem] theorem Mm :rY (.slice none 0 0)=.one (.d .nsl):=l0 rfl rfl
@[go_sem] theorem KX :rY (.pointer none)=.one (.d .nilp):=l0 rfl rfl
@[go_sem] theorem ER:jz b q .normal s=next s:=l0 rfl rfl
@[go_sem] theorem KY:jz b q .ret s=Q .ret s:=l0 rfl rfl
@[go_sem] theorem IH:jz b q (.exit n) s=Q (.exit n) s:=l0 rfl rfl
@[go_sem] theorem AT:eK n q .normal s=Q .normal s:=l0 rfl rfl
@[go_sem] theorem ES:eK n q .ret s=Q .ret s:=l0 rfl rfl
@[go_sem] theorem En {n m:Nat}:eK n q (.exit m) s=(if m=n then Q .normal s else Q (.exit m) s):=l0 rfl rfl
@[go_sem] theorem Hx:ny q .ret s=Q .ret s:=l0 rfl rfl
@[go_sem] theorem OW (c:Nat) (s:St) (d:Nat) (cs:List C):s.newC c d cs = { s with gen:=upd s.gen d (nxC c (s.gen d)),obj:=upd s.obj d (some cs)}:=l0 rfl rfl
section steps
variable {f:Nat→AV}{g:Nat→Nat}{ob:Nat→Option (List C)}{Q:Exit→St→Prop}{q:Box Q}{K:St→Prop}{k:Box K}{ops:Array Oper}{rest:List Oper}
@[go_sem] theorem Mn:wpC S T .skip q ⟨f,g,ob⟩=Q .normal ⟨f,g,ob⟩:=l0 rfl rfl
@[go_sem] theorem KZ:wpC S T (.label n) q ⟨f,g,ob⟩=Q .normal ⟨f,g,ob⟩:=l0 rfl rfl
@[go_sem] theorem La:wpC S T (.scope c) q ⟨f,g,ob⟩=wpC S T c (bx (ny q)) ⟨f,g,ob⟩:=l0 rfl rfl
@[go_sem] theorem Mp:wpC S T (.region n l.toArray true) q ⟨f,g,ob⟩=iL S T n l.toArray ⟨f,g,ob⟩ q:=l0 rfl rfl
@[go_sem] theorem II:wpC S T (.region n l.toArray false) q ⟨f,g,ob⟩=wpO S T l.toArray l ⟨f,g,ob⟩ (bx fun s'=>Q .normal s'):=by simp[wpC]
@[go_sem] theorem OX {x y:Code}:wpC S T (.seq x y) q ⟨f,g,ob⟩=wpC S T x (bx (jz (bx fun s'=>wpC S T y q s') q)) ⟨f,g,ob⟩:=l0 rfl rfl
@[go_sem] theorem Mq {c:Operand}{x y:Code}:wpC S T (.cond c x y) q ⟨f,g,ob⟩=mQ (St.ev ⟨f,g,ob⟩ c) (bx fun b=>if b then wpC S T x q ⟨f,g,ob⟩ else wpC S T y q ⟨f,g,ob⟩):=l0 rfl rfl
@[go_sem] theorem Lb:wpC S T (.block n c) q ⟨f,g,ob⟩=wpC S T c (bx (eK n q)) ⟨f,g,ob⟩:=l0 rfl rfl
@[go_sem] theorem Mr:wpC S T (.loop c) q ⟨f,g,ob⟩=qD S (bx fun Q s=>wpC S T c (bx Q) s) q ⟨f,g,ob⟩:=l0 rfl rfl
@[go_sem] theorem Ms:wpC S T (.exit n) q ⟨f,g,ob⟩=Q (.exit n) ⟨f,g,ob⟩:=l0 rfl rfl
@[go_sem] theorem OY:wpC S T .ret q ⟨f,g,ob⟩=Q .ret ⟨f,g,ob⟩:=l0 rfl rfl
@[go_sem] theorem OZ:wpO S T ops [] ⟨f,g,ob⟩ k=K ⟨f,g,ob⟩:=l0 rfl rfl
@[go_sem] theorem Mt{op:Op} :
  wpO S T ops (⟨dst,op,ty,ps,af,none⟩::rest) ⟨f,g,ob⟩ k=opA S T ⟨dst,op,ty,ps,af,none⟩ ⟨f,g,ob⟩ (bx fun s'=>wpO S T ops rest s' k):=l0 rfl rfl
@[go_sem] theorem Mu{op:Op}{j:Nat}{want:Bool} :
  wpO S T ops (⟨dst,op,ty,ps,af,some (j,want)⟩::rest) ⟨f,g,ob⟩ k =
   aJ ((ops[j]?).bind (·.dst)) (bx fun d=>
    ks (f d) (bx fun b=>if b=want then opA S T ⟨dst,op,ty,ps,af,some (j,want)⟩ ⟨upd f d (bv b),g,ob⟩ (bx fun s'=>wpO S T ops rest s' k)
     else wpO S T ops rest (St.put ⟨upd f d (bv b),g,ob⟩ dst uv) k) (bx (wpO S T ops rest (St.put ⟨f,g,ob⟩ dst uv) k))):=l0 rfl rfl
end steps
@[go_sem] theorem Lc {α:Type} (f:Nat→α) (i j:Nat) (v:α):upd f i v j=if j=i then v else f j:=l0 rfl rfl
@[go_sem] theorem St.put_some (s:St) (d:Nat) (v:AV):s.put (some d) v = { s with f:=upd s.f d v }:=l0 rfl rfl
@[go_sem] theorem St.put_none (s:St) (v:AV):s.put none v=s:=l0 rfl rfl
attribute [go_sem] Nat.reduceEqDiff Nat.reduceAdd Nat.reduceMul Nat.reduceSub Nat.reduceLT Nat.reduceLeDiff Int.reduceLT Int.reduceLE Int.reduceEq Int.reduceNe Int.reduceAdd Int.reduceNeg Int.reduceToNat
attribute [go_sem] if_true if_false ite_true ite_false and_true true_and List.length_map List.length_cons List.length_nil List.size_toArray Option.bind_some Option.map_some Option.map_none Option.bind_none cond_true cond_false List.append_nil List.cons_append List.set_cons_zero List.set_cons_succ List.set_nil List.drop_succ_cons List.take_succ_cons List.take_zero
attribute [go_sem] Array.getD_eq_getD_getElem? List.getElem?_toArray List.getElem?_cons_zero List.getElem?_cons_succ List.getElem?_nil Option.getD_some Option.getD_none List.getElem?_map
attribute [go_sem] List.drop_zero List.take_length Nat.mul_one Nat.zero_add List.map_cons List.map_nil List.nil_append reduceCtorEq not_true_eq_false not_false_eq_true implies_true Bool.not_true Bool.not_false Bool.true_eq_false Bool.false_eq_true
attribute [go_sem] Option.some.injEq Option.isSome_some decide_true decide_false ne_eq Int.toNat_natCast
end equations
end
end
end Go.Am
