/- A part of the proof; no conditions. -/
import Derived.StillTail
import Derived.Deep.Quiet
import Derived.Deep.MidRow
import Derived.Deep.AppendSrc
import Derived.Laws.MakeOwn
import Derived.MapKept
import Derived.Laws.Strings
import Derived.Laws.StructEq
import Derived.ChangeKeysEq
import Derived.Lib.ConvBytes
import Derived.Laws.BytesString
import Derived.Deep.LoopGhost
import Derived.Deep.Upon
import Derived.Scope
set_option linter.unusedSimpArgs false
set_option linter.unusedVariables false
namespace Go.Am
inductive D where
 | bool (b:Bool)
 | int (k:IntKind) (n:Int)
 | str (s:List UInt8)
 | sl (es:List (List D))
 | nsl
 | nilp
 | nilf
 | nili
 | nilm
 | fn (f:FuncId)
 | iptr (cs:List D)
 | yld (l:Nat)
 deriving Inhabited
inductive PC where
 | d (x:D)
 | ptr (id g off:Nat)
 deriving Inhabited
inductive C where
 | d (x:D)
 | osl (id g sz off len:Nat)
 | ptr (id g off:Nat)
 | clo (f:FuncId) (caps:List PC)
 | mp (id g kd:Nat)
 | lsl (n:Nat)
 | raw (o:Obj)
 deriving Inhabited
inductive AV where
 | one (c:C)
 | agg (cs:List C)
 | tup (vs:List AV)
 | junk
 deriving Inhabited
structure St where
 f:Nat → AV
 gen:Nat → Nat
 obj:Nat → Option (List C)
inductive Box {α:Type} (a:α):Type where
 | mk
@[reducible] def bx {α:Type} (a:α):Box a:=.mk
def upd {α:Type} (f:Nat → α) (i:Nat) (v:α):Nat → α:=fun j=>if j = i then v else f j
structure TI where
 desc:TypeDesc
 size:Nat
 bytes:Nat
 zero:List D
 deriving Inhabited
abbrev iv (k:IntKind) (n:Int):AV:=.one (.d (.int k n))
abbrev bv (b:Bool):AV:=.one (.d (.bool b))
abbrev sv (s:List UInt8):AV:=.one (.d (.str s))
abbrev uv:AV:=.tup []
def absC:Value → C
 | .bool b=>.d (.bool b)
 | .int k n=>.d (.int k n)
 | .string s=>.d (.str s.data.toList)
 | .slice none 0 0=>.d .nsl
 | .pointer none=>.d .nilp
 | .nilFunc=>.d .nilf
 | .nilIface=>.d .nili
 | .map none=>.d .nilm
 | _=>.osl 0 0 0 0 0
def absV:Value → AV
 | .bool b=>.one (.d (.bool b))
 | .int k n=>.one (.d (.int k n))
 | .string s=>.one (.d (.str s.data.toList))
 | .slice none 0 0=>.one (.d .nsl)
 | .pointer none=>.one (.d .nilp)
 | .nilFunc=>.one (.d .nilf)
 | .nilIface=>.one (.d .nili)
 | .map none=>.one (.d .nilm)
 | _=>.junk
def St.ev (s:St):Operand → AV
 | .tmp t=>s.f t
 | .const v=>absV v
 | .global _=>.junk
 | .func f=>.one (.d (.fn f))
def St.put (s:St) (dst:Option Nat) (v:AV):St :=
 match dst with
 | none=>s
 | some d=>{ s with f:=upd s.f d v }
def nxC (c g:Nat):Nat:=1000000 * (g + 1) + (if c < 1000000 then c else 0)
def code (g:Nat):Nat:=g % 1000000
theorem nxC_lt (c g:Nat):g < nxC c g:=by unfold nxC; omega
theorem nxC_ne (c g:Nat):nxC c g ≠ g:=Nat.ne_of_gt (nxC_lt c g)
theorem code_nxC (c g:Nat):code (nxC c g) = if c < 1000000 then c else 0:=by
 unfold code nxC; rw [Nat.mul_add_mod]; split
 ·rename_i h; exact Nat.mod_eq_of_lt h
 ·rfl
theorem code_nxC' {c:Nat} (g:Nat) (h:c < 1000000):code (nxC c g) = c:=by rw [code_nxC,if_pos h]
def apC (e g off:Nat):Nat:=if code g = e + 1 ∧ off = 0 then e + 1 else 0
def St.newC (c:Nat) (s:St) (d:Nat) (cs:List C):St:={ s with gen:=upd s.gen d (nxC c (s.gen d)),obj:=upd s.obj d (some cs) }
def isAggD:TypeDesc → Bool
 | .struct _ | .array _ _=>true
 | _=>false
def cellsOf:AV → Option (List C)
 | .one c=>some [c]
 | .agg cs=>some cs
 | _=>none
def setAt (cells:List C) (off:Nat):List C → List C
 | []=>cells
 | c :: cs=>setAt (cells.set off c) (off + 1) cs
def byteD (b:UInt8):D:=.int .u8 b.toNat
def BSplit (b:Bool) {K:Bool → Prop} (_:Box K):Prop:=(b = true → K true) ∧ (b = false → K false)
def onSome {α:Type} (x:Option α) {K:α → Prop} (_:Box K):Prop :=
 match x with
 | some a=>K a
 | none=>False
def onBool (v:AV) {K:Bool → Prop} (k:Box K):Prop :=
 match v with
 | .one (.d (.bool b))=>BSplit b k
 | _=>False
def guardA (v:AV) {K:Bool → Prop} (k:Box K) {U:Prop} (_:Box U):Prop :=
 match v with
 | .one (.d (.bool b))=>BSplit b k
 | .tup []=>U
 | _=>False
def readC (ti:TI) (cells:List C) (off:Nat) {K:AV → Prop} (_:Box K):Prop :=
 match isAggD ti.desc with
 | true=>off + ti.size ≤ cells.length ∧ K (.agg ((cells.drop off).take ti.size))
 | false=>onSome (cells[off]?) (bx fun c=>K (.one c))
def readD (ti:TI) (cs:List D) {K:AV → Prop} (_:Box K):Prop :=
 match isAggD ti.desc with
 | true=>ti.size ≤ cs.length ∧ K (.agg ((cs.take ti.size).map .d))
 | false=>onSome (cs[0]?) (bx fun c=>K (.one (.d c)))
def okD:TypeDesc → Bool
 | .invalid=>false
 | _=>true
def loadA (ti:TI) (s:St) (a:AV) {K:AV → Prop} (k:Box K):Prop :=
 match a with
 | .one (.ptr id g off)=>okD ti.desc = true ∧ s.gen id = g ∧ onSome (s.obj id) (bx fun cells=>readC ti cells off k)
 | .one (.d (.iptr cs))=>okD ti.desc = true ∧ readD ti cs k
 | _=>False
def storeA (ti:TI) (s:St) (a x:AV) {K:St → Prop} (_:Box K):Prop :=
 match a with
 | .one (.ptr id g off)=>okD ti.desc = true ∧ s.gen id = g ∧ onSome (cellsOf x) (bx fun cs=>cs.length = ti.size ∧ onSome (s.obj id) (bx fun cells=>off + cs.length ≤ cells.length ∧
     K { s with obj:=upd s.obj id (some (setAt cells off cs)) }))
 | _=>False
def indexAddrA (s:St) (sz:Nat) (x ix:AV) {K:AV → Prop} (_:Box K):Prop :=
 match ix with
 | .one (.d (.int _ i)) =>
   match x with
   | .one (.d (.sl es))=>0 ≤ i ∧ onSome (es[i.toNat]?) (bx fun c=>c.length = sz ∧ K (.one (.d (.iptr c))))
   | .one (.osl id g sz' off len)=>s.gen id = g ∧ (s.obj id).isSome = true ∧ 0 ≤ i ∧ i < len ∧ sz' = sz ∧ K (.one (.ptr id g (off + i.toNat * sz)))
   | _=>False
 | _=>False
def arrAddrA (T:Nat → TI) (d:TypeDesc) (s:St) (x ix:AV) {K:AV → Prop} (_:Box K):Prop :=
 match d with
 | .array n e =>
   match ix with
   | .one (.d (.int _ i)) =>
     match x with
     | .one (.ptr id g off)=>s.gen id = g ∧ (s.obj id).isSome = true ∧ okD (T e).desc = true ∧ 0 ≤ i ∧ i < n ∧ K (.one (.ptr id g (off + i.toNat * (T e).size)))
     | _=>False
   | _=>False
 | _=>False
def isArr (d:TypeDesc):Bool:=match d with | .array _ _=>true | _=>false
def indexA (x ix:AV) {K:AV → Prop} (_:Box K):Prop :=
 match ix with
 | .one (.d (.int _ i)) =>
   match x with
   | .one (.d (.str s))=>0 ≤ i ∧ onSome (s[i.toNat]?) (bx fun c=>K (iv .u8 c.toNat))
   | _=>False
 | _=>False
def binI (op:BinOp) (k:IntKind) (x y:Int) {K:AV → Prop} (_:Box K):Prop :=
 match op with
 | .add=>K (iv k (k.wrap (x + y)))
 | .sub=>K (iv k (k.wrap (x - y)))
 | .mul=>K (iv k (k.wrap (x * y)))
 | .quo=>y ≠ 0 ∧ K (iv k (k.wrap (x.tdiv y)))
 | .rem=>y ≠ 0 ∧ K (iv k (x.tmod y))
 | .eql=>K (bv (decide (x = y)))
 | .neq=>K (bv (decide (x ≠ y)))
 | .lss=>K (bv (decide (x < y)))
 | .leq=>K (bv (decide (x ≤ y)))
 | .gtr=>K (bv (decide (y < x)))
 | .geq=>K (bv (decide (y ≤ x)))
 | .and=>K (iv k (k.wrap (BitVec.ofInt k.bits x &&& BitVec.ofInt k.bits y).toNat))
 | .or=>K (iv k (k.wrap (BitVec.ofInt k.bits x ||| BitVec.ofInt k.bits y).toNat))
 | .xor=>K (iv k (k.wrap (BitVec.ofInt k.bits x ^^^ BitVec.ofInt k.bits y).toNat))
 | .andNot=>K (iv k (k.wrap (BitVec.ofInt k.bits x &&& ~~~ BitVec.ofInt k.bits y).toNat))
 | .shl=>0 ≤ y ∧ K (iv k (k.wrap (x * 2 ^ (min y.toNat k.bits))))
 | .shr=>0 ≤ y ∧ K (iv k (x.fdiv (2 ^ (min y.toNat k.bits))))
def binS (op:BinOp) (x y:List UInt8) {K:AV → Prop} (_:Box K):Prop :=
 match op with
 | .add=>((x.length + y.length:Nat):Int) ≤ 9223372036854775807 ∧ K (sv (x ++ y))
 | .eql=>K (bv (decide (x = y)))
 | .neq=>K (bv (decide (x ≠ y)))
 | .lss=>K (bv (Op.bytesLess x y))
 | .leq=>K (bv (Op.bytesLess x y || decide (x = y)))
 | .gtr=>K (bv (!(Op.bytesLess x y || decide (x = y))))
 | .geq=>K (bv (!Op.bytesLess x y))
 | _=>False
def sameKind (op:BinOp) (k k':IntKind):Prop :=
 match op with
 | .shl | .shr=>True
 | _=>k = k'
def binB (d:TypeDesc) (op:BinOp) (x y:Bool) {K:AV → Prop} (_:Box K):Prop :=
 match d,op with
 | .bool,.eql=>K (bv (decide (x = y)))
 | .bool,.neq=>K (bv (decide (x ≠ y)))
 | _,_=>False
def intsC (k:IntKind):List C → Option (List Int)
 | []=>some []
 | .d (.int k' n) :: r=>if k' = k then (intsC k r).map (n :: ·) else none
 | _=>none
def arrE (ti:TI) (n:Nat) (xs ys:List C) {K:Bool → Prop} (_:Box K):Prop :=
 match ti.desc with
 | .int k=>ti.size = 1 ∧ onSome (intsC k xs) (bx fun a=>onSome (intsC k ys) (bx fun b=>(a.length = n ∧ b.length = n) ∧ K (decide (a = b))))
 | _=>False
def binG (T:Nat → TI) (d:TypeDesc) (op:BinOp) (xs ys:List C) {K:AV → Prop} (_:Box K):Prop :=
 match d,op with
 | .array n e,.eql=>arrE (T e) n xs ys (bx fun b=>K (bv b))
 | .array n e,.neq=>arrE (T e) n xs ys (bx fun b=>K (bv (!b)))
 | _,_=>False
def binA (T:Nat → TI) (d:TypeDesc) (op:BinOp) (x y:AV) {K:AV → Prop} (k:Box K):Prop :=
 match x,y with
 | .one (.d (.int k1 a)),.one (.d (.int k2 b))=>sameKind op k1 k2 ∧ binI op k1 a b k
 | .one (.d (.str a)),.one (.d (.str b))=>binS op a b k
 | .one (.d (.bool a)),.one (.d (.bool b))=>binB d op a b k
 | .agg xs,.agg ys=>binG T d op xs ys k
 | _,_=>False
def unA (op:UnOp) (x:AV) {K:AV → Prop} (_:Box K):Prop :=
 match op,x with
 | .not,.one (.d (.bool b))=>K (bv (!b))
 | .neg,.one (.d (.int k n))=>K (iv k (k.wrap (0 - n)))
 | _,_=>False
def contents (s:St) (str sl:Bool) (sz:Nat) (x:AV) {K:Nat → List C → Prop} (_:Box K):Prop :=
 match x with
 | .one (.d .nsl)=>sl = true ∧ K 0 []
 | .one (.d (.sl es))=>sl = true ∧ (∀ e ∈ es,e.length = sz) ∧ K es.length (es.flatten.map .d)
 | .one (.d (.str bs))=>str = true ∧ sz = 1 ∧ K bs.length (bs.map fun b=>.d (byteD b))
 | .one (.osl id g sz' off len)=>sl = true ∧ s.gen id = g ∧ sz' = sz ∧ onSome (s.obj id) (bx fun cells=>off + len * sz ≤ cells.length ∧ K len ((cells.drop off).take (len * sz)))
 | _=>False
def u8s:List C → Option (List Int)
 | []=>some []
 | .d (.int .u8 n) :: r=>(u8s r).map (n :: ·)
 | _=>none
def isU8:TypeDesc → Bool
 | .int .u8=>true
 | _=>false
def convA (s:St) (el:TypeDesc) (src dst:TypeDesc) (x:AV) {K:AV → Prop} (_:Box K):Prop :=
 match src,dst,x with
 | sr,.int k,.one (.d (.int _ n))=>okD sr = true ∧ K (iv k (k.wrap n))
 | .string,.string,.one (.d (.str b))=>K (sv b)
 | .slice _,.string,y=>isU8 el = true ∧ contents s false true 1 y (bx fun _ cs=>onSome (u8s cs) (bx fun ns=>K (sv (ns.map fun n=>UInt8.ofNat n.toNat))))
 | _,_,_=>False
def roomOk (n bytes:Nat):Prop:=0 < bytes ∧ (2 * n + 1024) * bytes ≤ 281474976710656
def appendA (e:Nat) (ti:TI) (str sl:Bool) (i d:Nat) (s:St) (x y:AV) {K:St → Prop} (_:Box K):Prop :=
 match x with
 | .one (.d .nsl)=>contents s str sl ti.size y (bx fun n cs=>roomOk n ti.bytes ∧ K ((s.newC (e + 1) i cs).put (some d) (.one (.osl i (nxC (e + 1) (s.gen i)) ti.size 0 n))))
 | .one (.osl id g sz off len)=>s.gen id = g ∧ sz = ti.size ∧ onSome (s.obj id) (bx fun cells=>off + len * sz ≤ cells.length ∧
    contents s str sl ti.size y (bx fun n cs=>roomOk (len + n) ti.bytes ∧
     K ((s.newC (apC e (s.gen id) off) id ((cells.drop off).take (len * sz) ++ cs)).put (some d) (.one (.osl id (nxC (apC e (s.gen id) off) (s.gen id)) ti.size 0 (len + n))))))
 | _=>False
def lenA (s:St) (str sl:Bool) (x:AV) {K:AV → Prop} (_:Box K):Prop :=
 match x with
 | .one (.d .nsl)=>sl = true ∧ K (iv .i64 0)
 | .one (.d (.sl es))=>sl = true ∧ K (iv .i64 es.length)
 | .one (.d (.str bs))=>str = true ∧ K (iv .i64 bs.length)
 | .one (.osl id g _ _ len)=>sl = true ∧ s.gen id = g ∧ (s.obj id).isSome = true ∧ K (iv .i64 len)
 | .one (.lsl n)=>sl = true ∧ K (iv .i64 n)
 | _=>False
def boundA (o:Option AV) (els:Nat) {K:Nat → Prop} (_:Box K):Prop :=
 match o with
 | none=>K els
 | some (.one (.d (.int _ n)))=>0 ≤ n ∧ K n.toNat
 | _=>False
def sliceA (s:St) (str sl:Bool) (sz:Nat) (x:AV) (lo hi:Option AV) {K:AV → Prop} (_:Box K):Prop :=
 match x with
 | .one (.d (.str bs))=>str = true ∧ boundA hi bs.length (bx fun h=>boundA lo 0 (bx fun l=>l ≤ h ∧ h ≤ bs.length ∧ K (sv ((bs.take h).drop l))))
 | .one (.d (.sl es))=>sl = true ∧ boundA hi es.length (bx fun h=>boundA lo 0 (bx fun l=>l ≤ h ∧ h ≤ es.length ∧ (∀ x ∈ es,x.length = sz) ∧ K (.one (.d (.sl ((es.take h).drop l))))))
 | .one (.d .nsl)=>sl = true ∧ boundA hi 0 (bx fun h=>boundA lo 0 (bx fun l=>l = 0 ∧ h = 0 ∧ K (.one (.d .nsl))))
 | .one (.osl id g sz' off len)=>sl = true ∧ s.gen id = g ∧ (s.obj id).isSome = true ∧ boundA hi len (bx fun h=>boundA lo 0 (bx fun l=>l ≤ h ∧ h ≤ len ∧ sz' = sz ∧ K (.one (.osl id g sz (off + l * sz) (h - l)))))
 | _=>False
def catA (sz:Nat):(k:Nat) → (ps:List (Nat × AV)) → {K:List C → Prop} → Box K → Prop
 | _,[],K,_=>K []
 | k,p :: r,K,_=>p.1 = k ∧ onSome (cellsOf p.2) (bx fun cs=>cs.length = sz ∧ catA sz (k + 1) r (bx fun rest=>K (cs ++ rest)))
def buildSliceA (e sz i d n:Nat) (s:St) (ps:List (Nat × AV)) {K:St → Prop} (_:Box K):Prop :=
 ps.length = n ∧ n * sz ≤ 16777216 ∧ catA sz 0 ps (bx fun cs=>K ((s.newC (e + 1) i cs).put (some d) (.one (.osl i (nxC (e + 1) (s.gen i)) sz 0 n))))
def fieldOf (d:TypeDesc) (f:Nat):Option Field :=
 match d with
 | .struct fs=>fs[f]?
 | _=>none
def fieldAddrA (T:Nat → TI) (t f:Nat) (s:St) (x:AV) {K:AV → Prop} (_:Box K):Prop :=
 match x with
 | .one (.ptr id g off)=>s.gen id = g ∧ (s.obj id).isSome = true ∧ onSome (fieldOf (T t).desc f) (bx fun fl=>(okD (T fl.type).desc = true ∧ (T fl.type).size ≠ 0) ∧ K (.one (.ptr id g (off + fl.offset))))
 | .one (.d (.iptr cs))=>onSome (fieldOf (T t).desc f) (bx fun fl=>(okD (T fl.type).desc = true ∧ (T fl.type).size ≠ 0) ∧ K (.one (.d (.iptr (cs.drop fl.offset)))))
 | _=>False
def fieldA (T:Nat → TI) (t f:Nat) (x:AV) {K:AV → Prop} (k:Box K):Prop :=
 match x with
 | .agg cs=>onSome (fieldOf (T t).desc f) (bx fun fl=>okD (T fl.type).desc = true ∧ readC (T fl.type) cs fl.offset k)
 | _=>False
def fillA (pl:Nat → Option (Nat × Nat)):(cells:List C) → (ps:List (Nat × AV)) → {K:List C → Prop} → Box K → Prop
 | cells,[],K,_=>K cells
 | cells,p :: r,_,k=>onSome (pl p.1) (bx fun q=>onSome (cellsOf p.2) (bx fun cs=>cs.length = q.2 ∧ q.1 + q.2 ≤ cells.length ∧ fillA pl (setAt cells q.1 cs) r k))
def placeOf (T:Nat → TI) (d:TypeDesc) (i:Nat):Option (Nat × Nat) :=
 match d with
 | .array _ e=>some (i * (T e).size,(T e).size)
 | d=>(fieldOf d i).bind fun fl=>bif okD (T fl.type).desc then some (fl.offset,(T fl.type).size) else none
def okSt (T:Nat → TI) (t:Nat):Bool:=match (T t).desc with | .struct fs=>fs.toList.all fun f=>okD (T f.type).desc | .array _ e=>okD (T e).desc | _=>false
def buildA (T:Nat → TI) (t:Nat) (ps:List (Nat × AV)) {K:AV → Prop} (_:Box K):Prop :=
 okSt T t = true ∧ fillA (placeOf T (T t).desc) ((T t).zero.map .d) ps (bx fun cs=>K (.agg cs))
def boxA (t i d:Nat) (s:St) (x:AV) {K:St → Prop} (_:Box K):Prop :=
 onSome (cellsOf x) (bx fun cs=>K ((s.newC (t + 1) i cs).put (some d) (.one (.ptr i (nxC (t + 1) (s.gen i)) 0))))
def allocA (t:Nat) (ti:TI) (i d:Nat) (s:St) {K:St → Prop} (_:Box K):Prop :=
 okD ti.desc = true ∧ K ((s.newC (t + 1) i (ti.zero.map .d)).put (some d) (.one (.ptr i (nxC (t + 1) (s.gen i)) 0)))
def nilCheckA (s:St) (x:AV) {K:AV → Prop} (_:Box K):Prop :=
 match x with
 | .one (.ptr id g off)=>s.gen id = g ∧ (s.obj id).isSome = true ∧ K (.one (.ptr id g off))
 | .one (.d (.iptr cs))=>K (.one (.d (.iptr cs)))
 | _=>False
def extractA (x:AV) (i:Nat) {K:AV → Prop} (k:Box K):Prop :=
 match x with
 | .tup ts=>onSome (ts[i]?) k
 | _=>False
def mxA (mx:Bool) (x y:AV) {K:AV → Prop} (_:Box K):Prop :=
 match x,y with
 | .one (.d (.int k a)),.one (.d (.int _ b))=>K (iv k (if mx then max a b else min a b))
 | _,_=>False
def makeSliceA (e:Nat) (ti:TI) (i d:Nat) (s:St) (l c:AV) {K:St → Prop} (_:Box K):Prop :=
 match l,c with
 | .one (.d (.int _ n)),.one (.d (.int _ m))=>0 ≤ n ∧ n ≤ m ∧ m ≤ 4611686018427387904 ∧ m * ti.bytes ≤ 281474976710656 ∧
    K ((s.newC (e + 1) i (List.replicate m.toNat (ti.zero.map C.d)).flatten).put (some d) (.one (.osl i (nxC (e + 1) (s.gen i)) ti.size 0 n.toNat)))
 | _,_=>False
def keyDesc:Nat → TypeDesc
 | 0=>.int .i8 | 1=>.int .i16 | 2=>.int .i32 | 3=>.int .i64 | 4=>.int .u8 | 5=>.int .u16 | 6=>.int .u32 | 7=>.int .u64
 | 8=>.string
 | _=>.bool
def keyCode:TypeDesc → Nat
 | .int .i8=>0 | .int .i16=>1 | .int .i32=>2 | .int .i64=>3 | .int .u8=>4 | .int .u16=>5 | .int .u32=>6 | .int .u64=>7
 | .string=>8
 | _=>9
def okKey:TypeDesc → D → Bool
 | .int k,.int k' _=>k' = k
 | .string,.str _=>true
 | .bool,.bool _=>true
 | _,_=>false
def keyEq:D → D → Bool
 | .int k n,.int k' n'=>k = k' && n = n'
 | .str s,.str s'=>s = s'
 | .bool b,.bool b'=>b = b'
 | _,_=>false
def mget:List C → D → Option C
 | .d k' :: c :: r,k=>if keyEq k' k then some c else mget r k
 | _,_=>none
def mset:List C → D → C → List C
 | .d k' :: c :: r,k,x=>if keyEq k' k then .d k' :: x :: r else .d k' :: c :: mset r k x
 | _,k,x=>[.d k,x]
def makeMapA (T:Nat → TI) (t i d:Nat) (s:St) {K:St → Prop} (_:Box K):Prop :=
 match (T t).desc with
 | .map kt _=>keyDesc (keyCode (T kt).desc) = (T kt).desc ∧ K ((s.newC 0 i []).put (some d) (.one (.mp i (nxC 0 (s.gen i)) (keyCode (T kt).desc))))
 | _=>False
def lkRes (ok:Bool) (z:D) (c:Option C):AV:=if ok then .tup [.one (c.getD (.d z)),bv c.isSome] else .one (c.getD (.d z))
def zeroD (ti:TI) {K:D → Prop} (_:Box K):Prop :=
 match ti.zero with
 | [z]=>(okD ti.desc = true ∧ isAggD ti.desc = false) ∧ K z
 | _=>False
def lookupA (T:Nat → TI) (t:Nat) (s:St) (x ix:AV) (ok:Bool) {K:AV → Prop} (_:Box K):Prop :=
 match (T t).desc,ix with
 | .map kt et,.one (.d k)=>(okD (T kt).desc = true ∧ okKey (T kt).desc k = true) ∧ zeroD (T et) (bx fun z =>
   match x with
   | .one (.mp id g kd)=>s.gen id = g ∧ keyDesc kd = (T kt).desc ∧ onSome (s.obj id) (bx fun cells=>K (lkRes ok z (mget cells k)))
   | .one (.d .nilm)=>K (lkRes ok z none)
   | _=>False)
 | _,_=>False
def mapUpdateA (T:Nat → TI) (t:Nat) (s:St) (m ix x:AV) {K:St → Prop} (_:Box K):Prop :=
 match (T t).desc,ix,m,x with
 | .map kt _,.one (.d k),.one (.mp id g kd),.one c=>(okD (T kt).desc = true ∧ okKey (T kt).desc k = true) ∧ s.gen id = g ∧ keyDesc kd = (T kt).desc ∧ onSome (s.obj id) (bx fun cells=>K { s with obj:=upd s.obj id (some (mset cells k c)) })
 | _,_,_,_=>False
def pcOf:AV → Option PC
 | .one (.d x)=>some (.d x)
 | .one (.ptr id g off)=>some (.ptr id g off)
 | _=>none
def pcsOf:List AV → Option (List PC)
 | []=>some []
 | x :: xs=>(pcOf x).bind fun p=>(pcsOf xs).bind fun ps=>some (p :: ps)
def makeFuncA (f:FuncId) (n:Nat) (caps:List AV) {K:AV → Prop} (_:Box K):Prop:=n = 0 ∧ onSome (pcsOf caps) (bx fun l=>K (.one (.clo f l)))
def elemTy (T:Nat → TI) (t:Nat):Nat :=
 match (T t).desc with
 | .slice e=>e
 | _=>0
def elemTI (T:Nat → TI) (t:Nat):TI :=
 match (T t).desc with
 | .slice e=>T e
 | _=>default
def argAt (s:St) (c:Call) (i:Nat):AV:=s.ev (c.args.getD i (.const .nilFunc))
structure Sp where
 op:Oper → St → (St → Prop) → Prop
 code:Code → St → (Exit → St → Prop) → Prop
 vs:St → St → Prop
 base:Nat
def hookA (S:Sp) (o:Oper) (s:St) {K:St → Prop} (_:Box K):Prop:=∃ R,S.op o s R ∧ ∀ s',R s' → K s'
def hookC (S:Sp) (c:Code) (s:St) {Q:Exit → St → Prop} (_:Box Q):Prop:=∃ R,S.code c s R ∧ ∀ e s',R e s' → Q e s'
def isSlice (d:TypeDesc):Bool:=match d with | .slice _=>true | _=>false
def pureOp (T:Nat → TI):Op → Bool
 | .indexAddr _ x _=>match x with | .global _=>false | _=>true
 | .move _ | .assign _ | .pick .. | .load .. | .index .. | .binOp .. | .unOp .. | .slice _ _ _ _ none | .fieldAddr .. | .field .. | .build .. | .nilCheck _ | .extract .. | .lookup .. | .makeFunc (.func _) _ _=>true
 | .convert _ d _=>!isSlice (T d).desc
 | .call c=>match c.callee with | .builtin .len | .builtin .max | .builtin .min=>true | _=>false
 | _=>false
def drawOk (T:Nat → TI) (ops:Array Oper):Bool :=
 (ops.toList.all (pureOp T ·.op) && Region.lexB .any ops) ||
 [1,2,3,4].any fun k=>(ops.toList.take (ops.size - k)).all (pureOp T ·.op) && Region.lexTailB .any ops (ops.size - k)
def isStr (d:TypeDesc):Bool:=match d with | .string=>true | _=>false
def okSl (T:Nat → TI) (t:Nat):Bool:=isSlice (T t).desc && okD (elemTI T t).desc
def convSlA (T:Nat → TI) (src d base:Nat) (dst:Option Nat) (s:St) (x:AV) {K:St → Prop} (_:Box K):Prop :=
 match dst,x with
 | some dd,.one (.d (.str bs))=>isStr (T src).desc = true ∧ isU8 (elemTI T d).desc = true ∧ K ((s.newC (elemTy T d + 1) (base + dd) (bs.map fun b=>.d (byteD b))).put (some dd) (.one (.osl (base + dd) (nxC (elemTy T d + 1) (s.gen (base + dd))) 1 0 bs.length)))
 | _,_=>False
def callA (S:Sp) (T:Nat → TI) (o:Oper) (c:Call) (s:St) {K:St → Prop} (k:Box K):Prop :=
 match c.callee,o.dst with
 | .builtin .len,dst=>(c.args.size = 1 ∧ c.argTypes.size = 1) ∧ lenA s (isStr (T (c.argTypes.getD 0 0)).desc) (okSl T (c.argTypes.getD 0 0)) (argAt s c 0) (bx fun v=>K (s.put dst v))
 | .builtin .max,dst=>c.args.size = 2 ∧ mxA true (argAt s c 0) (argAt s c 1) (bx fun v=>K (s.put dst v))
 | .builtin .min,dst=>c.args.size = 2 ∧ mxA false (argAt s c 0) (argAt s c 1) (bx fun v=>K (s.put dst v))
 | .builtin .append,some d=>(c.args.size = 2 ∧ c.argTypes.size = 2) ∧ okSl T (c.argTypes.getD 0 0) = true ∧ appendA (elemTy T (c.argTypes.getD 0 0)) (elemTI T (c.argTypes.getD 0 0)) (isStr (T (c.argTypes.getD 1 0)).desc) (okSl T (c.argTypes.getD 1 0)) (S.base + d) d s (argAt s c 0) (argAt s c 1) k
 | _,_=>hookA S o s k
def opA (S:Sp) (T:Nat → TI) (o:Oper) (s:St) {K:St → Prop} (k:Box K):Prop :=
 match o.op,o.dst with
 | .move x,dst=>K (s.put dst (s.ev x))
 | .assign x,dst=>K (s.put dst (s.ev x))
 | .pick c a b,dst=>onBool (s.ev c) (bx fun t=>K (s.put dst (if t then s.ev a else s.ev b)))
 | .load t a,dst=>loadA (T t) s (s.ev a) (bx fun v=>K (s.put dst v))
 | .store t a x,dst=>storeA (T t) s (s.ev a) (s.ev x) (bx fun s'=>K (s'.put dst uv))
 | .indexAddr t x ix,dst=>match x with
   | .global _=>hookA S o s k
   | x=>bif isArr (T t).desc then arrAddrA T (T t).desc s (s.ev x) (s.ev ix) (bx fun v=>K (s.put dst v)) else okSl T t = true ∧ indexAddrA s (elemTI T t).size (s.ev x) (s.ev ix) (bx fun v=>K (s.put dst v))
 | .index t x ix,dst=>isStr (T t).desc = true ∧ indexA (s.ev x) (s.ev ix) (bx fun v=>K (s.put dst v))
 | .binOp op t x y _,dst=>binA T (T t).desc op (s.ev x) (s.ev y) (bx fun v=>K (s.put dst v))
 | .unOp op _ x,dst=>unA op (s.ev x) (bx fun v=>K (s.put dst v))
 | .convert src d x,dst=>bif isSlice (T d).desc then convSlA T src d S.base dst s (s.ev x) k else convA s (elemTI T src).desc (T src).desc (T d).desc (s.ev x) (bx fun v=>K (s.put dst v))
 | .slice t x lo hi none,dst=>sliceA s (isStr (T t).desc) (okSl T t) (elemTI T t).size (s.ev x) (lo.map s.ev) (hi.map s.ev) (bx fun v=>K (s.put dst v))
 | .buildSlice t n ps,some d=>okSl T t = true ∧ buildSliceA (elemTy T t) (elemTI T t).size (S.base + d) d n s (ps.toList.map fun p=>(p.1,s.ev p.2)) k
 | .makeSlice t l c,some d=>okSl T t = true ∧ makeSliceA (elemTy T t) (elemTI T t) (S.base + d) d s (s.ev l) (s.ev c) k
 | .fieldAddr t x f,dst=>fieldAddrA T t f s (s.ev x) (bx fun v=>K (s.put dst v))
 | .field t x f,dst=>fieldA T t f (s.ev x) (bx fun v=>K (s.put dst v))
 | .build t ps,dst=>buildA T t (ps.toList.map fun p=>(p.1,s.ev p.2)) (bx fun v=>K (s.put dst v))
 | .nilCheck x,dst=>nilCheckA s (s.ev x) (bx fun v=>K (s.put dst v))
 | .extract x i,dst=>extractA (s.ev x) i (bx fun v=>K (s.put dst v))
 | .box t x,some d=>boxA t (S.base + d) d s (s.ev x) k
 | .alloc t,some d=>allocA t (T t) (S.base + d) d s k
 | .makeMap t none,some d=>makeMapA T t (S.base + d) d s k
 | .lookup t x ix ok,dst=>lookupA T t s (s.ev x) (s.ev ix) ok (bx fun v=>K (s.put dst v))
 | .mapUpdate t m ix x,dst=>mapUpdateA T t s (s.ev m) (s.ev ix) (s.ev x) (bx fun s'=>K (s'.put dst uv))
 | .makeFunc (.func f) first caps,dst=>makeFuncA f first.size (caps.toList.map s.ev) (bx fun v=>K (s.put dst v))
 | .call c,_=>callA S T o c s k
 | _,_=>hookA S o s k
def wpO (S:Sp) (T:Nat → TI) (ops:Array Oper):List Oper → (s:St) → {K:St → Prop} → (k:Box K) → Prop
 | [],s,K,_=>K s
 | o :: rest,s,K,k =>
   match o.guard with
   | none=>opA S T o s (bx fun s'=>wpO S T ops rest s' k)
   | some (j,want) =>
     onSome ((ops[j]?).bind (·.dst)) (bx fun d =>
      guardA (s.f d) (bx fun b=>if b = want then opA S T o { s with f:=upd s.f d (bv b) } (bx fun s'=>wpO S T ops rest s' k)
       else wpO S T ops rest ({ s with f:=upd s.f d (bv b) }.put o.dst uv) k) (bx (wpO S T ops rest (s.put o.dst uv) k)))
def thenA {next:St → Prop} (_:Box next) {Q:Exit → St → Prop} (_:Box Q):Exit → St → Prop
 | .normal,s=>next s
 | e,s=>Q e s
def inBlockA (id:Nat) {Q:Exit → St → Prop} (_:Box Q):Exit → St → Prop
 | .exit id',s=>if id' = id then Q .normal s else Q (.exit id') s
 | e,s=>Q e s
def LoopA (S:Sp) {B:(Exit → St → Prop) → St → Prop} (_:Box B) {Q:Exit → St → Prop} (q:Box Q) (s:St):Prop :=
 ∃ I:Nat → St → Prop,(∃ n s₁,S.vs s s₁ ∧ I n s₁) ∧ ∀ n s,I n s → B (thenA (bx fun s'=>∃ n' s₁,n' < n ∧ S.vs s' s₁ ∧ I n' s₁) q) s
def noGotoA {Q:Exit → St → Prop} (_:Box Q):Exit → St → Prop
 | .goto _,_=>False
 | e,s=>Q e s
def DrawA (S:Sp) (T:Nat → TI) (id:Nat) (ops:Array Oper) (s:St) {Q:Exit → St → Prop} (q:Box Q):Prop :=
 (drawOk T ops = true ∧ wpO S T ops ops.toList s (bx fun s'=>Q .normal s')) ∨ hookC S (.region id ops true) s q
def wpC (S:Sp) (T:Nat → TI):Code → {Q:Exit → St → Prop} → (q:Box Q) → St → Prop
 | .skip,Q,_,s=>Q .normal s
 | .label _,Q,_,s=>Q .normal s
 | .region id ops b,Q,q,s=>match b with | true=>DrawA S T id ops s q | false=>wpO S T ops ops.toList s (bx fun s'=>Q .normal s')
 | .seq x y,Q,q,s=>wpC S T x (bx (thenA (bx fun s'=>wpC S T y q s') q)) s
 | .cond c x y,Q,q,s=>onBool (s.ev c) (bx fun b=>if b then wpC S T x q s else wpC S T y q s)
 | .block id c,Q,q,s=>wpC S T c (bx (inBlockA id q)) s
 | .loop c,Q,q,s=>LoopA S (bx fun Q s=>wpC S T c (bx Q) s) q s
 | .exit id,Q,_,s=>Q (.exit id) s
 | .ret,Q,_,s=>Q .ret s
 | .scope c,_,q,s=>wpC S T c (bx (noGotoA q)) s
 | .goto l,Q,_,s=>Q (.goto l) s
 | c,_,q,s=>hookC S c s q
section equations
variable {S:Sp} {T:Nat → TI}
@[go_sem] theorem BSplit_true {K:Bool → Prop} (k:Box K):BSplit true k = K true:=by simp [BSplit]
@[go_sem] theorem BSplit_false {K:Bool → Prop} (k:Box K):BSplit false k = K false:=by simp [BSplit]
@[go_sem] theorem BSplit_decide (p:Prop) [Decidable p] {K:Bool → Prop} (k:Box K):BSplit (decide p) k = ((p → K true) ∧ (¬ p → K false)):=by simp [BSplit]
@[go_sem] theorem BSplit_not (b:Bool) {K:Bool → Prop} (k:Box K):BSplit (!b) k = BSplit b (bx fun t=>K (!t)):=by cases b <;> simp [BSplit]
@[go_sem] theorem onSome_some {α:Type} (a:α) {K:α → Prop} (k:Box K):onSome (some a) k = K a:=Eq.trans rfl rfl
@[go_sem] theorem onBool_eq (b:Bool) {K:Bool → Prop} (k:Box K):onBool (.one (.d (.bool b))) k = BSplit b k:=Eq.trans rfl rfl
@[go_sem] theorem guardA_eq (b:Bool) {K:Bool → Prop} (k:Box K) {U:Prop} (u:Box U):guardA (.one (.d (.bool b))) k u = BSplit b k:=Eq.trans rfl rfl
@[go_sem] theorem guardA_u {K:Bool → Prop} (k:Box K) {U:Prop} (u:Box U):guardA (.tup []) k u = U:=Eq.trans rfl rfl
@[go_sem] theorem isAggD_bool :isAggD .bool = false:=Eq.trans rfl rfl
@[go_sem] theorem okD_bool :okD .bool = true:=Eq.trans rfl rfl
@[go_sem] theorem isAggD_int (kd:IntKind):isAggD (.int kd) = false:=Eq.trans rfl rfl
@[go_sem] theorem isSlice_int (kd:IntKind):isSlice (.int kd) = false:=Eq.trans rfl rfl
@[go_sem] theorem okD_int (kd:IntKind):okD (.int kd) = true:=Eq.trans rfl rfl
@[go_sem] theorem isAggD_string :isAggD .string = false:=Eq.trans rfl rfl
@[go_sem] theorem isSlice_string :isSlice .string = false:=Eq.trans rfl rfl
@[go_sem] theorem okD_string :okD .string = true:=Eq.trans rfl rfl
@[go_sem] theorem isStr_string :isStr .string = true:=Eq.trans rfl rfl
@[go_sem] theorem isAggD_pointer (e:TypeId):isAggD (.pointer e) = false:=Eq.trans rfl rfl
@[go_sem] theorem okD_pointer (e:TypeId):okD (.pointer e) = true:=Eq.trans rfl rfl
@[go_sem] theorem isAggD_slice (e:TypeId):isAggD (.slice e) = false:=Eq.trans rfl rfl
@[go_sem] theorem isSlice_slice (e:TypeId):isSlice (.slice e) = true:=Eq.trans rfl rfl
@[go_sem] theorem isArr_slice (e:TypeId):isArr (.slice e) = false:=Eq.trans rfl rfl
@[go_sem] theorem okD_slice (e:TypeId):okD (.slice e) = true:=Eq.trans rfl rfl
@[go_sem] theorem isStr_slice (e:TypeId):isStr (.slice e) = false:=Eq.trans rfl rfl
@[go_sem] theorem isAggD_array (n:Nat) (e:TypeId):isAggD (.array n e) = true:=Eq.trans rfl rfl
@[go_sem] theorem isArr_array (n:Nat) (e:TypeId):isArr (.array n e) = true:=Eq.trans rfl rfl
@[go_sem] theorem okD_array (n:Nat) (e:TypeId):okD (.array n e) = true:=Eq.trans rfl rfl
@[go_sem] theorem isAggD_map (a b:TypeId):isAggD (.map a b) = false:=Eq.trans rfl rfl
@[go_sem] theorem okD_map (a b:TypeId):okD (.map a b) = true:=Eq.trans rfl rfl
@[go_sem] theorem isAggD_struct (fs:Array Field):isAggD (.struct fs) = true:=Eq.trans rfl rfl
@[go_sem] theorem okD_struct (fs:Array Field):okD (.struct fs) = true:=Eq.trans rfl rfl
@[go_sem] theorem readC_agg (d:TypeDesc) (n b:Nat) (z:List D) (cells:List C) (off:Nat) {K:AV → Prop} (k:Box K):readC ⟨d,n,b,z⟩ cells off k = (match isAggD d with | true=>off + n ≤ cells.length ∧ K (.agg ((cells.drop off).take n)) | false=>onSome (cells[off]?) (bx fun c=>K (.one c))):=Eq.trans rfl rfl
@[go_sem] theorem readD_agg (d:TypeDesc) (n b:Nat) (z:List D) (cs:List D) {K:AV → Prop} (k:Box K):readD ⟨d,n,b,z⟩ cs k = (match isAggD d with | true=>n ≤ cs.length ∧ K (.agg ((cs.take n).map .d)) | false=>onSome (cs[0]?) (bx fun c=>K (.one (.d c)))):=Eq.trans rfl rfl
@[go_sem] theorem loadA_ptr (ti:TI) (s:St) (id g off:Nat) {K:AV → Prop} (k:Box K):loadA ti s (.one (.ptr id g off)) k = (okD ti.desc = true ∧ s.gen id = g ∧ onSome (s.obj id) (bx fun cells=>readC ti cells off k)):=Eq.trans rfl rfl
@[go_sem] theorem loadA_iptr (ti:TI) (s:St) (cs:List D) {K:AV → Prop} (k:Box K):loadA ti s (.one (.d (.iptr cs))) k = (okD ti.desc = true ∧ readD ti cs k):=Eq.trans rfl rfl
@[go_sem] theorem storeA_ptr (ti:TI) (s:St) (id g off:Nat) (x:AV) {K:St → Prop} (k:Box K):storeA ti s (.one (.ptr id g off)) x k = (okD ti.desc = true ∧ s.gen id = g ∧ onSome (cellsOf x) (bx fun cs=>cs.length = ti.size ∧ onSome (s.obj id) (bx fun cells=>off + cs.length ≤ cells.length ∧ K { s with obj:=upd s.obj id (some (setAt cells off cs)) }))):=Eq.trans rfl rfl
@[go_sem] theorem cellsOf_one (c:C):cellsOf (.one c) = some [c]:=Eq.trans rfl rfl
@[go_sem] theorem cellsOf_agg (cs:List C):cellsOf (.agg cs) = some cs:=Eq.trans rfl rfl
@[go_sem] theorem setAt_nil (cells:List C) (off:Nat):setAt cells off [] = cells:=Eq.trans rfl rfl
@[go_sem] theorem setAt_cons (cells:List C) (off:Nat) (c:C) (cs:List C):setAt cells off (c :: cs) = setAt (cells.set off c) (off + 1) cs:=Eq.trans rfl rfl
@[go_sem] theorem arrAddrA_ptr (T:Nat → TI) (n:Nat) (e:TypeId) (s:St) (id g off:Nat) (kd:IntKind) (i:Int) {K:AV → Prop} (k:Box K):arrAddrA T (.array n e) s (.one (.ptr id g off)) (.one (.d (.int kd i))) k = (s.gen id = g ∧ (s.obj id).isSome = true ∧ okD (T e).desc = true ∧ 0 ≤ i ∧ i < n ∧ K (.one (.ptr id g (off + i.toNat * (T e).size)))):=Eq.trans rfl rfl
@[go_sem] theorem indexAddrA_sl (s:St) (sz:Nat) (es:List (List D)) (kd:IntKind) (i:Int) {K:AV → Prop} (k:Box K):indexAddrA s sz (.one (.d (.sl es))) (.one (.d (.int kd i))) k = (0 ≤ i ∧ onSome (es[i.toNat]?) (bx fun c=>c.length = sz ∧ K (.one (.d (.iptr c))))):=Eq.trans rfl rfl
@[go_sem] theorem indexAddrA_osl (s:St) (sz id g sz' off len:Nat) (kd:IntKind) (i:Int) {K:AV → Prop} (k:Box K):indexAddrA s sz (.one (.osl id g sz' off len)) (.one (.d (.int kd i))) k = (s.gen id = g ∧ (s.obj id).isSome = true ∧ 0 ≤ i ∧ i < len ∧ sz' = sz ∧ K (.one (.ptr id g (off + i.toNat * sz)))):=Eq.trans rfl rfl
@[go_sem] theorem indexA_str (s:List UInt8) (kd:IntKind) (i:Int) {K:AV → Prop} (k:Box K):indexA (.one (.d (.str s))) (.one (.d (.int kd i))) k = (0 ≤ i ∧ onSome (s[i.toNat]?) (bx fun c=>K (iv .u8 c.toNat))):=Eq.trans rfl rfl
@[go_sem] theorem binI_add (kd:IntKind) (x y:Int) {K:AV → Prop} (k:Box K):binI .add kd x y k = K (iv kd (kd.wrap (x + y))):=Eq.trans rfl rfl
@[go_sem] theorem sameKind_add (a b:IntKind):sameKind .add a b = (a = b):=Eq.trans rfl rfl
@[go_sem] theorem binI_sub (kd:IntKind) (x y:Int) {K:AV → Prop} (k:Box K):binI .sub kd x y k = K (iv kd (kd.wrap (x - y))):=Eq.trans rfl rfl
@[go_sem] theorem sameKind_sub (a b:IntKind):sameKind .sub a b = (a = b):=Eq.trans rfl rfl
@[go_sem] theorem binI_mul (kd:IntKind) (x y:Int) {K:AV → Prop} (k:Box K):binI .mul kd x y k = K (iv kd (kd.wrap (x * y))):=Eq.trans rfl rfl
@[go_sem] theorem sameKind_mul (a b:IntKind):sameKind .mul a b = (a = b):=Eq.trans rfl rfl
@[go_sem] theorem binI_quo (kd:IntKind) (x y:Int) {K:AV → Prop} (k:Box K):binI .quo kd x y k = (y ≠ 0 ∧ K (iv kd (kd.wrap (x.tdiv y)))):=Eq.trans rfl rfl
@[go_sem] theorem sameKind_quo (a b:IntKind):sameKind .quo a b = (a = b):=Eq.trans rfl rfl
@[go_sem] theorem binI_rem (kd:IntKind) (x y:Int) {K:AV → Prop} (k:Box K):binI .rem kd x y k = (y ≠ 0 ∧ K (iv kd (x.tmod y))):=Eq.trans rfl rfl
@[go_sem] theorem sameKind_rem (a b:IntKind):sameKind .rem a b = (a = b):=Eq.trans rfl rfl
@[go_sem] theorem binI_eql (kd:IntKind) (x y:Int) {K:AV → Prop} (k:Box K):binI .eql kd x y k = K (bv (decide (x = y))):=Eq.trans rfl rfl
@[go_sem] theorem sameKind_eql (a b:IntKind):sameKind .eql a b = (a = b):=Eq.trans rfl rfl
@[go_sem] theorem binI_neq (kd:IntKind) (x y:Int) {K:AV → Prop} (k:Box K):binI .neq kd x y k = K (bv (decide (x ≠ y))):=Eq.trans rfl rfl
@[go_sem] theorem sameKind_neq (a b:IntKind):sameKind .neq a b = (a = b):=Eq.trans rfl rfl
@[go_sem] theorem binI_lss (kd:IntKind) (x y:Int) {K:AV → Prop} (k:Box K):binI .lss kd x y k = K (bv (decide (x < y))):=Eq.trans rfl rfl
@[go_sem] theorem sameKind_lss (a b:IntKind):sameKind .lss a b = (a = b):=Eq.trans rfl rfl
@[go_sem] theorem binI_leq (kd:IntKind) (x y:Int) {K:AV → Prop} (k:Box K):binI .leq kd x y k = K (bv (decide (x ≤ y))):=Eq.trans rfl rfl
@[go_sem] theorem sameKind_leq (a b:IntKind):sameKind .leq a b = (a = b):=Eq.trans rfl rfl
@[go_sem] theorem binI_gtr (kd:IntKind) (x y:Int) {K:AV → Prop} (k:Box K):binI .gtr kd x y k = K (bv (decide (y < x))):=Eq.trans rfl rfl
@[go_sem] theorem sameKind_gtr (a b:IntKind):sameKind .gtr a b = (a = b):=Eq.trans rfl rfl
@[go_sem] theorem binI_geq (kd:IntKind) (x y:Int) {K:AV → Prop} (k:Box K):binI .geq kd x y k = K (bv (decide (y ≤ x))):=Eq.trans rfl rfl
@[go_sem] theorem sameKind_geq (a b:IntKind):sameKind .geq a b = (a = b):=Eq.trans rfl rfl
@[go_sem] theorem binI_and (kd:IntKind) (x y:Int) {K:AV → Prop} (k:Box K):binI .and kd x y k = K (iv kd (kd.wrap (BitVec.ofInt kd.bits x &&& BitVec.ofInt kd.bits y).toNat)):=Eq.trans rfl rfl
@[go_sem] theorem sameKind_and (a b:IntKind):sameKind .and a b = (a = b):=Eq.trans rfl rfl
@[go_sem] theorem binI_or (kd:IntKind) (x y:Int) {K:AV → Prop} (k:Box K):binI .or kd x y k = K (iv kd (kd.wrap (BitVec.ofInt kd.bits x ||| BitVec.ofInt kd.bits y).toNat)):=Eq.trans rfl rfl
@[go_sem] theorem sameKind_or (a b:IntKind):sameKind .or a b = (a = b):=Eq.trans rfl rfl
@[go_sem] theorem binI_xor (kd:IntKind) (x y:Int) {K:AV → Prop} (k:Box K):binI .xor kd x y k = K (iv kd (kd.wrap (BitVec.ofInt kd.bits x ^^^ BitVec.ofInt kd.bits y).toNat)):=Eq.trans rfl rfl
@[go_sem] theorem sameKind_xor (a b:IntKind):sameKind .xor a b = (a = b):=Eq.trans rfl rfl
@[go_sem] theorem binI_shl (kd:IntKind) (x y:Int) {K:AV → Prop} (k:Box K):binI .shl kd x y k = (0 ≤ y ∧ K (iv kd (kd.wrap (x * 2 ^ (min y.toNat kd.bits))))):=Eq.trans rfl rfl
@[go_sem] theorem sameKind_shl (a b:IntKind):sameKind .shl a b = True:=Eq.trans rfl rfl
@[go_sem] theorem binI_shr (kd:IntKind) (x y:Int) {K:AV → Prop} (k:Box K):binI .shr kd x y k = (0 ≤ y ∧ K (iv kd (x.fdiv (2 ^ (min y.toNat kd.bits))))):=Eq.trans rfl rfl
@[go_sem] theorem sameKind_shr (a b:IntKind):sameKind .shr a b = True:=Eq.trans rfl rfl
@[go_sem] theorem binS_add (x y:List UInt8) {K:AV → Prop} (k:Box K):binS .add x y k = (((x.length + y.length:Nat):Int) ≤ 9223372036854775807 ∧ K (sv (x ++ y))):=Eq.trans rfl rfl
@[go_sem] theorem binS_eql (x y:List UInt8) {K:AV → Prop} (k:Box K):binS .eql x y k = K (bv (decide (x = y))):=Eq.trans rfl rfl
@[go_sem] theorem binS_neq (x y:List UInt8) {K:AV → Prop} (k:Box K):binS .neq x y k = K (bv (decide (x ≠ y))):=Eq.trans rfl rfl
@[go_sem] theorem binA_int (d:TypeDesc) (op:BinOp) (k1 k2:IntKind) (a b:Int) {K:AV → Prop} (k:Box K):binA T d op (.one (.d (.int k1 a))) (.one (.d (.int k2 b))) k = (sameKind op k1 k2 ∧ binI op k1 a b k):=Eq.trans rfl rfl
@[go_sem] theorem binA_str (d:TypeDesc) (op:BinOp) (a b:List UInt8) {K:AV → Prop} (k:Box K):binA T d op (.one (.d (.str a))) (.one (.d (.str b))) k = binS op a b k:=Eq.trans rfl rfl
@[go_sem] theorem binA_agg (d:TypeDesc) (op:BinOp) (a b:List C) {K:AV → Prop} (k:Box K):binA T d op (.agg a) (.agg b) k = binG T d op a b k:=Eq.trans rfl rfl
@[go_sem] theorem binG_neq (n e:Nat) (a b:List C) {K:AV → Prop} (k:Box K):binG T (.array n e) .neq a b k = arrE (T e) n a b (bx fun b=>K (bv (!b))):=Eq.trans rfl rfl
@[go_sem] theorem arrE_int (kd:IntKind) (bt:Nat) (z:List D) (n:Nat) (xs ys:List C) {K:Bool → Prop} (k:Box K):arrE ⟨.int kd,1,bt,z⟩ n xs ys k = onSome (intsC kd xs) (bx fun a=>onSome (intsC kd ys) (bx fun b=>(a.length = n ∧ b.length = n) ∧ K (decide (a = b)))):=by simp [arrE]
@[go_sem] theorem intsC_nil (k:IntKind):intsC k [] = some []:=Eq.trans rfl rfl
@[go_sem] theorem intsC_cons (k:IntKind) (n:Int) (r:List C):intsC k (.d (.int k n) :: r) = (intsC k r).map (n :: ·):=by simp [intsC]
@[go_sem] theorem unA_not (b:Bool) {K:AV → Prop} (k:Box K):unA .not (.one (.d (.bool b))) k = K (bv (!b)):=Eq.trans rfl rfl
@[go_sem] theorem convA_int (st:St) (el:TypeDesc) (src:TypeDesc) (kd k2:IntKind) (n:Int) {K:AV → Prop} (k:Box K):convA st el src (.int kd) (.one (.d (.int k2 n))) k = (okD src = true ∧ K (iv kd (kd.wrap n))):=by cases src <;> rfl
@[go_sem] theorem convA_bytes (st:St) (el:TypeDesc) (e:TypeId) (y:AV) {K:AV → Prop} (k:Box K):convA st el (.slice e) .string y k = (isU8 el = true ∧ contents st false true 1 y (bx fun _ cs=>onSome (u8s cs) (bx fun ns=>K (sv (ns.map fun n=>UInt8.ofNat n.toNat))))):=by cases y <;> rfl
@[go_sem] theorem isU8_u8:isU8 (.int .u8) = true:=Eq.trans rfl rfl
@[go_sem] theorem contents_sl (s:St) (bs bl:Bool) (sz:Nat) (es:List (List D)) {K:Nat → List C → Prop} (k:Box K):contents s bs bl sz (.one (.d (.sl es))) k = (bl = true ∧ (∀ e ∈ es,e.length = sz) ∧ K es.length (es.flatten.map .d)):=Eq.trans rfl rfl
@[go_sem] theorem contents_osl (s:St) (bs bl:Bool) (sz id g sz' off len:Nat) {K:Nat → List C → Prop} (k:Box K):contents s bs bl sz (.one (.osl id g sz' off len)) k = (bl = true ∧ s.gen id = g ∧ sz' = sz ∧ onSome (s.obj id) (bx fun cells=>off + len * sz ≤ cells.length ∧ K len ((cells.drop off).take (len * sz)))):=Eq.trans rfl rfl
@[go_sem] theorem appendA_nsl (e:Nat) (ti:TI) (bs bl:Bool) (i d:Nat) (s:St) (y:AV) {K:St → Prop} (k:Box K):appendA e ti bs bl i d s (.one (.d .nsl)) y k = contents s bs bl ti.size y (bx fun n cs=>roomOk n ti.bytes ∧ K ((s.newC (e + 1) i cs).put (some d) (.one (.osl i (nxC (e + 1) (s.gen i)) ti.size 0 n)))):=Eq.trans rfl rfl
@[go_sem] theorem appendA_osl (e:Nat) (ti:TI) (bs bl:Bool) (i d:Nat) (s:St) (id g sz off len:Nat) (y:AV) {K:St → Prop} (k:Box K):appendA e ti bs bl i d s (.one (.osl id g sz off len)) y k = (s.gen id = g ∧ sz = ti.size ∧ onSome (s.obj id) (bx fun cells=>off + len * sz ≤ cells.length ∧
   contents s bs bl ti.size y (bx fun n cs=>roomOk (len + n) ti.bytes ∧
    K ((s.newC (apC e (s.gen id) off) id ((cells.drop off).take (len * sz) ++ cs)).put (some d) (.one (.osl id (nxC (apC e (s.gen id) off) (s.gen id)) ti.size 0 (len + n))))))):=Eq.trans rfl rfl
@[go_sem] theorem lenA_nsl (s:St) (bs bl:Bool) {K:AV → Prop} (k:Box K):lenA s bs bl (.one (.d .nsl)) k = (bl = true ∧ K (iv .i64 0)):=Eq.trans rfl rfl
@[go_sem] theorem lenA_sl (s:St) (bs bl:Bool) (es:List (List D)) {K:AV → Prop} (k:Box K):lenA s bs bl (.one (.d (.sl es))) k = (bl = true ∧ K (iv .i64 es.length)):=Eq.trans rfl rfl
@[go_sem] theorem lenA_str (s:St) (bs bl:Bool) (es:List UInt8) {K:AV → Prop} (k:Box K):lenA s bs bl (.one (.d (.str es))) k = (bs = true ∧ K (iv .i64 es.length)):=Eq.trans rfl rfl
@[go_sem] theorem lenA_osl (s:St) (bs bl:Bool) (id g sz off len:Nat) {K:AV → Prop} (k:Box K):lenA s bs bl (.one (.osl id g sz off len)) k = (bl = true ∧ s.gen id = g ∧ (s.obj id).isSome = true ∧ K (iv .i64 len)):=Eq.trans rfl rfl
@[go_sem] theorem boundA_none (n:Nat) {K:Nat → Prop} (k:Box K):boundA none n k = K n:=Eq.trans rfl rfl
@[go_sem] theorem boundA_some (n:Nat) (kd:IntKind) (i:Int) {K:Nat → Prop} (k:Box K):boundA (some (.one (.d (.int kd i)))) n k = (0 ≤ i ∧ K i.toNat):=Eq.trans rfl rfl
@[go_sem] theorem sliceA_str (st:St) (bs bl:Bool) (sz:Nat) (s:List UInt8) (lo hi:Option AV) {K:AV → Prop} (k:Box K):sliceA st bs bl sz (.one (.d (.str s))) lo hi k = (bs = true ∧ boundA hi s.length (bx fun h=>boundA lo 0 (bx fun l=>l ≤ h ∧ h ≤ s.length ∧ K (sv ((s.take h).drop l))))):=Eq.trans rfl rfl
@[go_sem] theorem sliceA_osl (s:St) (bs bl:Bool) (sz id g sz' off len:Nat) (lo hi:Option AV) {K:AV → Prop} (k:Box K):sliceA s bs bl sz (.one (.osl id g sz' off len)) lo hi k = (bl = true ∧ s.gen id = g ∧ (s.obj id).isSome = true ∧ boundA hi len (bx fun h=>boundA lo 0 (bx fun l=>l ≤ h ∧ h ≤ len ∧ sz' = sz ∧ K (.one (.osl id g sz (off + l * sz) (h - l)))))):=Eq.trans rfl rfl
@[go_sem] theorem catA_nil (sz n:Nat) {K:List C → Prop} (k:Box K):catA sz n [] k = K []:=Eq.trans rfl rfl
@[go_sem] theorem catA_cons (sz n i:Nat) (x:AV) (r:List (Nat × AV)) {K:List C → Prop} (k:Box K):catA sz n ((i,x) :: r) k = (i = n ∧ onSome (cellsOf x) (bx fun cs=>cs.length = sz ∧ catA sz (n + 1) r (bx fun rest=>K (cs ++ rest)))):=Eq.trans rfl rfl
@[go_sem] theorem buildSliceA_eq (e sz i d n:Nat) (s:St) (ps:List (Nat × AV)) {K:St → Prop} (k:Box K):buildSliceA e sz i d n s ps k = (ps.length = n ∧ n * sz ≤ 16777216 ∧ catA sz 0 ps (bx fun cs=>K ((s.newC (e + 1) i cs).put (some d) (.one (.osl i (nxC (e + 1) (s.gen i)) sz 0 n))))):=Eq.trans rfl rfl
@[go_sem] theorem fieldOf_struct (fs:Array Field) (f:Nat):fieldOf (.struct fs) f = fs[f]?:=Eq.trans rfl rfl
@[go_sem] theorem fieldAddrA_ptr (t f:Nat) (s:St) (id g off:Nat) {K:AV → Prop} (k:Box K):fieldAddrA T t f s (.one (.ptr id g off)) k = (s.gen id = g ∧ (s.obj id).isSome = true ∧ onSome (fieldOf (T t).desc f) (bx fun fl=>(okD (T fl.type).desc = true ∧ (T fl.type).size ≠ 0) ∧ K (.one (.ptr id g (off + fl.offset))))):=Eq.trans rfl rfl
@[go_sem] theorem fieldA_agg (t f:Nat) (cs:List C) {K:AV → Prop} (k:Box K):fieldA T t f (.agg cs) k = onSome (fieldOf (T t).desc f) (bx fun fl=>okD (T fl.type).desc = true ∧ readC (T fl.type) cs fl.offset k):=Eq.trans rfl rfl
@[go_sem] theorem fillA_nil (pl:Nat → Option (Nat × Nat)) (cells:List C) {K:List C → Prop} (k:Box K):fillA pl cells [] k = K cells:=Eq.trans rfl rfl
@[go_sem] theorem fillA_cons (pl:Nat → Option (Nat × Nat)) (cells:List C) (i:Nat) (x:AV) (r:List (Nat × AV)) {K:List C → Prop} (k:Box K):fillA pl cells ((i,x) :: r) k = onSome (pl i) (bx fun q=>onSome (cellsOf x) (bx fun cs=>cs.length = q.2 ∧ q.1 + q.2 ≤ cells.length ∧ fillA pl (setAt cells q.1 cs) r k)):=Eq.trans rfl rfl
@[go_sem] theorem placeOf_eq (fs:Array Field) (i:Nat):placeOf T (.struct fs) i = (fieldOf (.struct fs) i).bind fun fl=>bif okD (T fl.type).desc then some (fl.offset,(T fl.type).size) else none:=Eq.trans rfl rfl
@[go_sem] theorem buildA_eq (t:Nat) (ps:List (Nat × AV)) {K:AV → Prop} (k:Box K):buildA T t ps k = (okSt T t = true ∧ fillA (placeOf T (T t).desc) ((T t).zero.map .d) ps (bx fun cs=>K (.agg cs))):=Eq.trans rfl rfl
@[go_sem] theorem boxA_eq (t i d:Nat) (s:St) (x:AV) {K:St → Prop} (k:Box K):boxA t i d s x k = onSome (cellsOf x) (bx fun cs=>K ((s.newC (t + 1) i cs).put (some d) (.one (.ptr i (nxC (t + 1) (s.gen i)) 0)))):=Eq.trans rfl rfl
@[go_sem] theorem allocA_eq (t:Nat) (ti:TI) (i d:Nat) (s:St) {K:St → Prop} (k:Box K):allocA t ti i d s k = (okD ti.desc = true ∧ K ((s.newC (t + 1) i (ti.zero.map .d)).put (some d) (.one (.ptr i (nxC (t + 1) (s.gen i)) 0)))):=Eq.trans rfl rfl
@[go_sem] theorem nilCheckA_ptr (s:St) (id g off:Nat) {K:AV → Prop} (k:Box K):nilCheckA s (.one (.ptr id g off)) k = (s.gen id = g ∧ (s.obj id).isSome = true ∧ K (.one (.ptr id g off))):=Eq.trans rfl rfl
@[go_sem] theorem extractA_tup (ts:List AV) (i:Nat) {K:AV → Prop} (k:Box K):extractA (.tup ts) i k = onSome (ts[i]?) k:=Eq.trans rfl rfl
@[go_sem] theorem mxA_min (k1 k2:IntKind) (a b:Int) {K:AV → Prop} (k:Box K):mxA false (.one (.d (.int k1 a))) (.one (.d (.int k2 b))) k = K (iv k1 (min a b)):=Eq.trans rfl rfl
@[go_sem] theorem makeSliceA_eq (e:Nat) (ti:TI) (i d:Nat) (s:St) (k1 k2:IntKind) (n m:Int) {K:St → Prop} (k:Box K):makeSliceA e ti i d s (.one (.d (.int k1 n))) (.one (.d (.int k2 m))) k = (0 ≤ n ∧ n ≤ m ∧ m ≤ 4611686018427387904 ∧ m * ti.bytes ≤ 281474976710656 ∧
   K ((s.newC (e + 1) i (List.replicate m.toNat (ti.zero.map C.d)).flatten).put (some d) (.one (.osl i (nxC (e + 1) (s.gen i)) ti.size 0 n.toNat)))):=Eq.trans rfl rfl
@[go_sem] theorem okKey_str (s:List UInt8):okKey .string (.str s) = true:=Eq.trans rfl rfl
@[go_sem] theorem keyCode_str:keyCode .string = 8:=Eq.trans rfl rfl
@[go_sem] theorem keyDesc_8:keyDesc 8 = .string:=Eq.trans rfl rfl
@[go_sem] theorem makeMapA_eq (t i d:Nat) (s:St) {K:St → Prop} (k:Box K):makeMapA T t i d s k = (match (T t).desc with
 | .map kt _=>keyDesc (keyCode (T kt).desc) = (T kt).desc ∧ K ((s.newC 0 i []).put (some d) (.one (.mp i (nxC 0 (s.gen i)) (keyCode (T kt).desc))))
 | _=>False):=Eq.trans rfl rfl
@[go_sem] theorem lkRes_true (z:D) (c:Option C):lkRes true z c = .tup [.one (c.getD (.d z)),bv c.isSome]:=Eq.trans rfl rfl
@[go_sem] theorem zeroD_eq (d:TypeDesc) (a b:Nat) (z:D) {K:D → Prop} (k:Box K):zeroD ⟨d,a,b,[z]⟩ k = ((okD d = true ∧ isAggD d = false) ∧ K z):=Eq.trans rfl rfl
@[go_sem] theorem lookupA_eq (t:Nat) (s:St) (x:AV) (k:D) (ok:Bool) {K:AV → Prop} (b:Box K):lookupA T t s x (.one (.d k)) ok b = (match (T t).desc with
 | .map kt et=>(okD (T kt).desc = true ∧ okKey (T kt).desc k = true) ∧ zeroD (T et) (bx fun z =>
   match x with
   | .one (.mp id g kd)=>s.gen id = g ∧ keyDesc kd = (T kt).desc ∧ onSome (s.obj id) (bx fun cells=>K (lkRes ok z (mget cells k)))
   | .one (.d .nilm)=>K (lkRes ok z none)
   | _=>False)
 | _=>False):=by unfold lookupA; cases (T t).desc <;> rfl
@[go_sem] theorem mapUpdateA_eq (t:Nat) (s:St) (id g kd:Nat) (k:D) (c:C) {K:St → Prop} (b:Box K):mapUpdateA T t s (.one (.mp id g kd)) (.one (.d k)) (.one c) b = (match (T t).desc with
 | .map kt _=>(okD (T kt).desc = true ∧ okKey (T kt).desc k = true) ∧ s.gen id = g ∧ keyDesc kd = (T kt).desc ∧ onSome (s.obj id) (bx fun cells=>K { s with obj:=upd s.obj id (some (mset cells k c)) })
 | _=>False):=by unfold mapUpdateA; cases (T t).desc <;> rfl
@[go_sem] theorem opA_move {dst:Option Tmp} {ty:TypeId} {ps:String} {af:Array Edge} {gd:Option (Nat × Bool)} {s:St} {K:St → Prop} {k:Box K} {x:Operand}:opA S T ⟨dst,.move x,ty,ps,af,gd⟩ s k = K (s.put dst (s.ev x)):=Eq.trans rfl rfl
@[go_sem] theorem opA_assign {dst:Option Tmp} {ty:TypeId} {ps:String} {af:Array Edge} {gd:Option (Nat × Bool)} {s:St} {K:St → Prop} {k:Box K} {x:Operand}:opA S T ⟨dst,.assign x,ty,ps,af,gd⟩ s k = K (s.put dst (s.ev x)):=Eq.trans rfl rfl
@[go_sem] theorem opA_pick {dst:Option Tmp} {ty:TypeId} {ps:String} {af:Array Edge} {gd:Option (Nat × Bool)} {s:St} {K:St → Prop} {k:Box K} {c a b:Operand}:opA S T ⟨dst,.pick c a b,ty,ps,af,gd⟩ s k = onBool (s.ev c) (bx fun t=>K (s.put dst (if t then s.ev a else s.ev b))):=Eq.trans rfl rfl
@[go_sem] theorem opA_load {dst:Option Tmp} {ty:TypeId} {ps:String} {af:Array Edge} {gd:Option (Nat × Bool)} {s:St} {K:St → Prop} {k:Box K} {t:TypeId} {a:Operand}:opA S T ⟨dst,.load t a,ty,ps,af,gd⟩ s k = loadA (T t) s (s.ev a) (bx fun v=>K (s.put dst v)):=Eq.trans rfl rfl
@[go_sem] theorem opA_store {dst:Option Tmp} {ty:TypeId} {ps:String} {af:Array Edge} {gd:Option (Nat × Bool)} {s:St} {K:St → Prop} {k:Box K} {t:TypeId} {a x:Operand}:opA S T ⟨dst,.store t a x,ty,ps,af,gd⟩ s k = storeA (T t) s (s.ev a) (s.ev x) (bx fun s'=>K (s'.put dst uv)):=Eq.trans rfl rfl
@[go_sem] theorem opA_indexAddr {dst:Option Tmp} {ty:TypeId} {ps:String} {af:Array Edge} {gd:Option (Nat × Bool)} {s:St} {K:St → Prop} {k:Box K} {t:TypeId} {x:Nat} {ix:Operand}:opA S T ⟨dst,.indexAddr t (.tmp x) ix,ty,ps,af,gd⟩ s k = (bif isArr (T t).desc then arrAddrA T (T t).desc s (s.f x) (s.ev ix) (bx fun v=>K (s.put dst v)) else okSl T t = true ∧ indexAddrA s (elemTI T t).size (s.f x) (s.ev ix) (bx fun v=>K (s.put dst v))):=Eq.trans rfl rfl
@[go_sem] theorem opA_index {dst:Option Tmp} {ty:TypeId} {ps:String} {af:Array Edge} {gd:Option (Nat × Bool)} {s:St} {K:St → Prop} {k:Box K} {t:TypeId} {x ix:Operand}:opA S T ⟨dst,.index t x ix,ty,ps,af,gd⟩ s k = (isStr (T t).desc = true ∧ indexA (s.ev x) (s.ev ix) (bx fun v=>K (s.put dst v))):=Eq.trans rfl rfl
@[go_sem] theorem opA_binOp {dst:Option Tmp} {ty:TypeId} {ps:String} {af:Array Edge} {gd:Option (Nat × Bool)} {s:St} {K:St → Prop} {k:Box K} {o:BinOp} {t u:TypeId} {x y:Operand}:opA S T ⟨dst,.binOp o t x y u,ty,ps,af,gd⟩ s k = binA T (T t).desc o (s.ev x) (s.ev y) (bx fun v=>K (s.put dst v)):=Eq.trans rfl rfl
@[go_sem] theorem opA_unOp {dst:Option Tmp} {ty:TypeId} {ps:String} {af:Array Edge} {gd:Option (Nat × Bool)} {s:St} {K:St → Prop} {k:Box K} {o:UnOp} {t:TypeId} {x:Operand}:opA S T ⟨dst,.unOp o t x,ty,ps,af,gd⟩ s k = unA o (s.ev x) (bx fun v=>K (s.put dst v)):=Eq.trans rfl rfl
@[go_sem] theorem opA_convert {dst:Option Tmp} {ty:TypeId} {ps:String} {af:Array Edge} {gd:Option (Nat × Bool)} {s:St} {K:St → Prop} {k:Box K} {t u:TypeId} {x:Operand}:opA S T ⟨dst,.convert t u x,ty,ps,af,gd⟩ s k = (bif isSlice (T u).desc then convSlA T t u S.base dst s (s.ev x) k else convA s (elemTI T t).desc (T t).desc (T u).desc (s.ev x) (bx fun v=>K (s.put dst v))):=Eq.trans rfl rfl
@[go_sem] theorem convSlA_str (T:Nat → TI) (src d base dd:Nat) (s:St) (bs:List UInt8) {K:St → Prop} (k:Box K):convSlA T src d base (some dd) s (.one (.d (.str bs))) k = (isStr (T src).desc = true ∧ isU8 (elemTI T d).desc = true ∧ K ((s.newC (elemTy T d + 1) (base + dd) (bs.map fun b=>.d (byteD b))).put (some dd) (.one (.osl (base + dd) (nxC (elemTy T d + 1) (s.gen (base + dd))) 1 0 bs.length)))):=Eq.trans rfl rfl
@[go_sem] theorem opA_slice {dst:Option Tmp} {ty:TypeId} {ps:String} {af:Array Edge} {gd:Option (Nat × Bool)} {s:St} {K:St → Prop} {k:Box K} {t:TypeId} {x:Operand} {lo hi:Option Operand}:opA S T ⟨dst,.slice t x lo hi none,ty,ps,af,gd⟩ s k = sliceA s (isStr (T t).desc) (okSl T t) (elemTI T t).size (s.ev x) (lo.map s.ev) (hi.map s.ev) (bx fun v=>K (s.put dst v)):=Eq.trans rfl rfl
@[go_sem] theorem opA_buildSlice {d:Tmp} {ty:TypeId} {ps:String} {af:Array Edge} {gd:Option (Nat × Bool)} {s:St} {K:St → Prop} {k:Box K} {t n:Nat} {p:Array (Nat × Operand)}:opA S T ⟨(some d),.buildSlice t n p,ty,ps,af,gd⟩ s k = (okSl T t = true ∧ buildSliceA (elemTy T t) (elemTI T t).size (S.base + d) d n s (p.toList.map fun p=>(p.1,s.ev p.2)) k):=Eq.trans rfl rfl
@[go_sem] theorem opA_makeSlice {d:Tmp} {ty:TypeId} {ps:String} {af:Array Edge} {gd:Option (Nat × Bool)} {s:St} {K:St → Prop} {k:Box K} {t:TypeId} {l c:Operand}:opA S T ⟨(some d),.makeSlice t l c,ty,ps,af,gd⟩ s k = (okSl T t = true ∧ makeSliceA (elemTy T t) (elemTI T t) (S.base + d) d s (s.ev l) (s.ev c) k):=Eq.trans rfl rfl
@[go_sem] theorem opA_len {dst:Option Tmp} {ty:TypeId} {ps:String} {af:Array Edge} {gd:Option (Nat × Bool)} {s:St} {K:St → Prop} {k:Box K} {a:Array Operand} {ts:Array TypeId}:opA S T ⟨dst,.call ⟨.builtin .len,a,ts⟩,ty,ps,af,gd⟩ s k = ((a.size = 1 ∧ ts.size = 1) ∧ lenA s (isStr (T (ts.getD 0 0)).desc) (okSl T (ts.getD 0 0)) (s.ev (a.getD 0 (.const .nilFunc))) (bx fun v=>K (s.put dst v))):=Eq.trans rfl rfl
@[go_sem] theorem opA_append {d:Tmp} {ty:TypeId} {ps:String} {af:Array Edge} {gd:Option (Nat × Bool)} {s:St} {K:St → Prop} {k:Box K} {a:Array Operand} {ts:Array TypeId}:opA S T ⟨(some d),.call ⟨.builtin .append,a,ts⟩,ty,ps,af,gd⟩ s k = ((a.size = 2 ∧ ts.size = 2) ∧ okSl T (ts.getD 0 0) = true ∧ appendA (elemTy T (ts.getD 0 0)) (elemTI T (ts.getD 0 0)) (isStr (T (ts.getD 1 0)).desc) (okSl T (ts.getD 1 0)) (S.base + d) d s (s.ev (a.getD 0 (.const .nilFunc))) (s.ev (a.getD 1 (.const .nilFunc))) k):=Eq.trans rfl rfl
@[go_sem] theorem opA_fieldAddr {dst:Option Tmp} {ty:TypeId} {ps:String} {af:Array Edge} {gd:Option (Nat × Bool)} {s:St} {K:St → Prop} {k:Box K} {t f:Nat} {x:Operand}:opA S T ⟨dst,.fieldAddr t x f,ty,ps,af,gd⟩ s k = fieldAddrA T t f s (s.ev x) (bx fun v=>K (s.put dst v)):=Eq.trans rfl rfl
@[go_sem] theorem opA_field {dst:Option Tmp} {ty:TypeId} {ps:String} {af:Array Edge} {gd:Option (Nat × Bool)} {s:St} {K:St → Prop} {k:Box K} {t f:Nat} {x:Operand}:opA S T ⟨dst,.field t x f,ty,ps,af,gd⟩ s k = fieldA T t f (s.ev x) (bx fun v=>K (s.put dst v)):=Eq.trans rfl rfl
@[go_sem] theorem opA_build {dst:Option Tmp} {ty:TypeId} {ps:String} {af:Array Edge} {gd:Option (Nat × Bool)} {s:St} {K:St → Prop} {k:Box K} {t:Nat} {p:Array (Nat × Operand)}:opA S T ⟨dst,.build t p,ty,ps,af,gd⟩ s k = buildA T t (p.toList.map fun p=>(p.1,s.ev p.2)) (bx fun v=>K (s.put dst v)):=Eq.trans rfl rfl
@[go_sem] theorem opA_nilCheck {dst:Option Tmp} {ty:TypeId} {ps:String} {af:Array Edge} {gd:Option (Nat × Bool)} {s:St} {K:St → Prop} {k:Box K} {x:Operand}:opA S T ⟨dst,.nilCheck x,ty,ps,af,gd⟩ s k = nilCheckA s (s.ev x) (bx fun v=>K (s.put dst v)):=Eq.trans rfl rfl
@[go_sem] theorem opA_extract {dst:Option Tmp} {ty:TypeId} {ps:String} {af:Array Edge} {gd:Option (Nat × Bool)} {s:St} {K:St → Prop} {k:Box K} {x:Operand} {i:Nat}:opA S T ⟨dst,.extract x i,ty,ps,af,gd⟩ s k = extractA (s.ev x) i (bx fun v=>K (s.put dst v)):=Eq.trans rfl rfl
@[go_sem] theorem opA_box {d:Tmp} {ty:TypeId} {ps:String} {af:Array Edge} {gd:Option (Nat × Bool)} {s:St} {K:St → Prop} {k:Box K} {t:Nat} {x:Operand}:opA S T ⟨(some d),.box t x,ty,ps,af,gd⟩ s k = boxA t (S.base + d) d s (s.ev x) k:=Eq.trans rfl rfl
@[go_sem] theorem opA_alloc {d:Tmp} {ty:TypeId} {ps:String} {af:Array Edge} {gd:Option (Nat × Bool)} {s:St} {K:St → Prop} {k:Box K} {t:Nat}:opA S T ⟨(some d),.alloc t,ty,ps,af,gd⟩ s k = allocA t (T t) (S.base + d) d s k:=Eq.trans rfl rfl
@[go_sem] theorem opA_makeMap {d:Tmp} {ty:TypeId} {ps:String} {af:Array Edge} {gd:Option (Nat × Bool)} {s:St} {K:St → Prop} {k:Box K} {t:TypeId}:opA S T ⟨(some d),.makeMap t none,ty,ps,af,gd⟩ s k = makeMapA T t (S.base + d) d s k:=Eq.trans rfl rfl
@[go_sem] theorem opA_lookup {dst:Option Tmp} {ty:TypeId} {ps:String} {af:Array Edge} {gd:Option (Nat × Bool)} {s:St} {K:St → Prop} {k:Box K} {t:TypeId} {x ix:Operand} {ok:Bool}:opA S T ⟨dst,.lookup t x ix ok,ty,ps,af,gd⟩ s k = lookupA T t s (s.ev x) (s.ev ix) ok (bx fun v=>K (s.put dst v)):=Eq.trans rfl rfl
@[go_sem] theorem opA_mapUpdate {dst:Option Tmp} {ty:TypeId} {ps:String} {af:Array Edge} {gd:Option (Nat × Bool)} {s:St} {K:St → Prop} {k:Box K} {t:TypeId} {m ix x:Operand}:opA S T ⟨dst,.mapUpdate t m ix x,ty,ps,af,gd⟩ s k = mapUpdateA T t s (s.ev m) (s.ev ix) (s.ev x) (bx fun s'=>K (s'.put dst uv)):=Eq.trans rfl rfl
@[go_sem] theorem opA_makeFunc {dst:Option Tmp} {ty:TypeId} {ps:String} {af:Array Edge} {gd:Option (Nat × Bool)} {s:St} {K:St → Prop} {k:Box K} {f:FuncId} {first caps:Array Operand}:opA S T ⟨dst,.makeFunc (.func f) first caps,ty,ps,af,gd⟩ s k = makeFuncA f first.size (caps.toList.map s.ev) (bx fun v=>K (s.put dst v)):=Eq.trans rfl rfl
@[go_sem] theorem opA_min {dst:Option Tmp} {ty:TypeId} {ps:String} {af:Array Edge} {gd:Option (Nat × Bool)} {s:St} {K:St → Prop} {k:Box K} {a:Array Operand} {ts:Array TypeId}:opA S T ⟨dst,.call ⟨.builtin .min,a,ts⟩,ty,ps,af,gd⟩ s k = (a.size = 2 ∧ mxA false (s.ev (a.getD 0 (.const .nilFunc))) (s.ev (a.getD 1 (.const .nilFunc))) (bx fun v=>K (s.put dst v))):=Eq.trans rfl rfl
@[go_sem] theorem opA_call {dst:Option Tmp} {ty:TypeId} {ps:String} {af:Array Edge} {gd:Option (Nat × Bool)} {s:St} {K:St → Prop} {k:Box K} {f:Operand} {a:Array Operand} {ts:Array TypeId}:opA S T ⟨dst,.call ⟨.value f,a,ts⟩,ty,ps,af,gd⟩ s k = hookA S ⟨dst,.call ⟨.value f,a,ts⟩,ty,ps,af,gd⟩ s k:=Eq.trans rfl rfl
@[go_sem] theorem ev_tmp (s:St) (t:Nat):s.ev (.tmp t) = s.f t:=Eq.trans rfl rfl
@[go_sem] theorem ev_const (s:St) (v:Value):s.ev (.const v) = absV v:=Eq.trans rfl rfl
@[go_sem] theorem absV_bool (b:Bool):absV (.bool b) = bv b:=Eq.trans rfl rfl
@[go_sem] theorem absV_int (k:IntKind) (n:Int):absV (.int k n) = iv k n:=Eq.trans rfl rfl
@[go_sem] theorem absV_string (s:ByteArray):absV (.string s) = sv s.data.toList:=Eq.trans rfl rfl
@[go_sem] theorem absV_nsl :absV (.slice none 0 0) = .one (.d .nsl):=Eq.trans rfl rfl
@[go_sem] theorem absV_nilp :absV (.pointer none) = .one (.d .nilp):=Eq.trans rfl rfl
@[go_sem] theorem thenA_normal {next:St → Prop} {b:Box next} {Q:Exit → St → Prop} {q:Box Q} {s:St}:thenA b q .normal s = next s:=Eq.trans rfl rfl
@[go_sem] theorem thenA_ret {next:St → Prop} {b:Box next} {Q:Exit → St → Prop} {q:Box Q} {s:St}:thenA b q .ret s = Q .ret s:=Eq.trans rfl rfl
@[go_sem] theorem thenA_exit {n:Nat} {next:St → Prop} {b:Box next} {Q:Exit → St → Prop} {q:Box Q} {s:St}:thenA b q (.exit n) s = Q (.exit n) s:=Eq.trans rfl rfl
@[go_sem] theorem inBlockA_normal {n:Nat} {Q:Exit → St → Prop} {q:Box Q} {s:St}:inBlockA n q .normal s = Q .normal s:=Eq.trans rfl rfl
@[go_sem] theorem inBlockA_ret {n:Nat} {Q:Exit → St → Prop} {q:Box Q} {s:St}:inBlockA n q .ret s = Q .ret s:=Eq.trans rfl rfl
@[go_sem] theorem inBlockA_exit {n m:Nat} {Q:Exit → St → Prop} {q:Box Q} {s:St}:inBlockA n q (.exit m) s = (if m = n then Q .normal s else Q (.exit m) s):=Eq.trans rfl rfl
@[go_sem] theorem St_newC (c:Nat) (s:St) (d:Nat) (cs:List C):s.newC c d cs = { s with gen:=upd s.gen d (nxC c (s.gen d)),obj:=upd s.obj d (some cs) }:=Eq.trans rfl rfl
section steps
variable {f:Nat → AV} {g:Nat → Nat} {ob:Nat → Option (List C)} {Q:Exit → St → Prop} {q:Box Q} {K:St → Prop} {k:Box K} {ops:Array Oper} {rest:List Oper}
@[go_sem] theorem wpC_skip:wpC S T .skip q ⟨f,g,ob⟩ = Q .normal ⟨f,g,ob⟩:=Eq.trans rfl rfl
@[go_sem] theorem wpC_draw {n:Nat} {l:List Oper}:wpC S T (.region n l.toArray true) q ⟨f,g,ob⟩ = DrawA S T n l.toArray ⟨f,g,ob⟩ q:=Eq.trans rfl rfl
@[go_sem] theorem wpC_region {n:Nat} {l:List Oper}:wpC S T (.region n l.toArray false) q ⟨f,g,ob⟩ = wpO S T l.toArray l ⟨f,g,ob⟩ (bx fun s'=>Q .normal s'):=by simp [wpC]
@[go_sem] theorem wpC_seq {x y:Code}:wpC S T (.seq x y) q ⟨f,g,ob⟩ = wpC S T x (bx (thenA (bx fun s'=>wpC S T y q s') q)) ⟨f,g,ob⟩:=Eq.trans rfl rfl
@[go_sem] theorem wpC_cond {c:Operand} {x y:Code}:wpC S T (.cond c x y) q ⟨f,g,ob⟩ = onBool (St.ev ⟨f,g,ob⟩ c) (bx fun b=>if b then wpC S T x q ⟨f,g,ob⟩ else wpC S T y q ⟨f,g,ob⟩):=Eq.trans rfl rfl
@[go_sem] theorem wpC_block {n:Nat} {c:Code}:wpC S T (.block n c) q ⟨f,g,ob⟩ = wpC S T c (bx (inBlockA n q)) ⟨f,g,ob⟩:=Eq.trans rfl rfl
@[go_sem] theorem wpC_loop {c:Code}:wpC S T (.loop c) q ⟨f,g,ob⟩ = LoopA S (bx fun Q s=>wpC S T c (bx Q) s) q ⟨f,g,ob⟩:=Eq.trans rfl rfl
@[go_sem] theorem wpC_exit {n:Nat}:wpC S T (.exit n) q ⟨f,g,ob⟩ = Q (.exit n) ⟨f,g,ob⟩:=Eq.trans rfl rfl
@[go_sem] theorem wpC_ret:wpC S T .ret q ⟨f,g,ob⟩ = Q .ret ⟨f,g,ob⟩:=Eq.trans rfl rfl
@[go_sem] theorem wpO_nil:wpO S T ops [] ⟨f,g,ob⟩ k = K ⟨f,g,ob⟩:=Eq.trans rfl rfl
@[go_sem] theorem wpO_none {dst:Option Tmp} {op:Op} {ty:TypeId} {ps:String} {af:Array Edge} :
  wpO S T ops (⟨dst,op,ty,ps,af,none⟩ :: rest) ⟨f,g,ob⟩ k = opA S T ⟨dst,op,ty,ps,af,none⟩ ⟨f,g,ob⟩ (bx fun s'=>wpO S T ops rest s' k):=Eq.trans rfl rfl
@[go_sem] theorem wpO_some {dst:Option Tmp} {op:Op} {ty:TypeId} {ps:String} {af:Array Edge} {j:Nat} {want:Bool} :
  wpO S T ops (⟨dst,op,ty,ps,af,some (j,want)⟩ :: rest) ⟨f,g,ob⟩ k =
   onSome ((ops[j]?).bind (·.dst)) (bx fun d =>
    guardA (f d) (bx fun b=>if b = want then opA S T ⟨dst,op,ty,ps,af,some (j,want)⟩ ⟨upd f d (bv b),g,ob⟩ (bx fun s'=>wpO S T ops rest s' k)
     else wpO S T ops rest (St.put ⟨upd f d (bv b),g,ob⟩ dst uv) k) (bx (wpO S T ops rest (St.put ⟨f,g,ob⟩ dst uv) k))):=Eq.trans rfl rfl
end steps
@[go_sem] theorem upd_apply {α:Type} (f:Nat → α) (i j:Nat) (v:α):upd f i v j = if j = i then v else f j:=Eq.trans rfl rfl
@[go_sem] theorem St.put_some (s:St) (d:Nat) (v:AV):s.put (some d) v = { s with f:=upd s.f d v }:=Eq.trans rfl rfl
@[go_sem] theorem St.put_none (s:St) (v:AV):s.put none v = s:=Eq.trans rfl rfl
attribute [go_sem] Nat.reduceEqDiff Nat.reduceAdd Nat.reduceMul Nat.reduceSub Nat.reduceLT Nat.reduceLeDiff Int.reduceLT Int.reduceLE Int.reduceEq Int.reduceNe Int.reduceAdd Int.reduceNeg Int.reduceToNat
attribute [go_sem] if_true if_false ite_true ite_false and_true true_and List.length_map List.length_cons List.length_nil List.size_toArray Option.bind_some Option.map_some Option.map_none Option.bind_none cond_true cond_false List.append_nil List.cons_append List.set_cons_zero List.set_cons_succ List.set_nil List.drop_succ_cons List.take_succ_cons List.take_zero
attribute [go_sem] Array.getD_eq_getD_getElem? List.getElem?_toArray List.getElem?_cons_zero List.getElem?_cons_succ List.getElem?_nil Option.getD_some Option.getD_none List.getElem?_map
attribute [go_sem] List.drop_zero List.take_length Nat.mul_one Nat.zero_add List.map_cons List.map_nil List.nil_append reduceCtorEq not_true_eq_false not_false_eq_true implies_true Bool.not_true Bool.not_false Bool.true_eq_false Bool.false_eq_true
attribute [go_sem] Option.some.injEq Option.isSome_some decide_true decide_false ne_eq Int.toNat_natCast
end equations
end Go.Am

namespace Go.Am
structure Bs where
 B:Nat
 I:Nat → Prop
abbrev Loc:=Nat → Option Addr
abbrev Obs:=Nat → Option (List C)
def Imm (b₀:Bs) (β:Loc) (ob:Obs) (w:World) (b:Nat):Prop :=
 b < w.heap.size ∧ (b < b₀.B → b₀.I b) ∧ ∀ id a,(ob id).isSome = true → β id = some a → a.block ≠ b
inductive RepD (J:Nat → Prop) (w:World):D → Value → Prop where
 | bool (b:Bool):RepD J w (.bool b) (.bool b)
 | int (k:IntKind) (n:Int):RepD J w (.int k n) (.int k n)
 | str (s:List UInt8):RepD J w (.str s) (.string ⟨s.toArray⟩)
 | nsl:RepD J w .nsl (.slice none 0 0)
 | nilp:RepD J w .nilp (.pointer none)
 | nilf:RepD J w .nilf .nilFunc
 | nili:RepD J w .nili .nilIface
 | nilm:RepD J w .nilm (.map none)
 | fn (f:FuncId):RepD J w (.fn f) (.func (.func f) #[] #[])
 | yld (l:Nat):RepD J w (.yld l) (.func (.yield l) #[] #[])
 | sl0 {a:Option Addr} {cap:Nat}:RepD J w (.sl []) (.slice a 0 cap)
 | sl {es:List (List D)} {b off cap sz:Nat} (vals:Nat → Nat → Value) (hcap:es.length ≤ cap) (hJ:es ≠ [] → J b) (hsz:∀ e ∈ es,e.length = sz)
    (hc:∀ i e,es[i]? = some e → ∀ j x,e[j]? = some x → w.cell? ⟨b,off + i * sz + j,none⟩ = some (vals i j))
    (hr:∀ i e,es[i]? = some e → ∀ j x,e[j]? = some x → RepD J w x (vals i j)):RepD J w (.sl es) (.slice (some ⟨b,off,none⟩) es.length cap)
 | iptr {cs:List D} {b off:Nat} (vals:Nat → Value) (hJ:cs ≠ [] → J b)
    (hc:∀ j x,cs[j]? = some x → w.cell? ⟨b,off + j,none⟩ = some (vals j))
    (hr:∀ j x,cs[j]? = some x → RepD J w x (vals j)):RepD J w (.iptr cs) (.pointer (some ⟨b,off,none⟩))
theorem cell?_of_heap {w w':World} {a:Addr} (h:w'.heap[a.block]? = w.heap[a.block]?):w'.cell? a = w.cell? a:=by simp [World.cell?,h]
theorem RepD.mono {J J':Nat → Prop} {w w':World} {x:D} {v:Value} (h:RepD J w x v) (hJ:∀ b,J b → J' b ∧ w'.heap[b]? = w.heap[b]?):RepD J' w' x v:=by
 induction h with
 | bool b=>exact .bool b
 | int k n=>exact .int k n
 | str s=>exact .str s
 | nsl=>exact .nsl
 | nilp=>exact .nilp
 | nilf=>exact .nilf
 | nili=>exact .nili
 | nilm=>exact .nilm
 | fn f=>exact .fn f
 | yld l=>exact .yld l
 | sl0=>exact .sl0
 | sl vals hcap hj hsz hc hr ih =>
   refine .sl vals hcap (fun h=>(hJ _ (hj h)).1) hsz (fun i e he j x hx=>?_) ih
   rw [cell?_of_heap (hJ _ (hj (by rintro rfl; cases he))).2]
   exact hc i e he j x hx
 | iptr vals hj hc hr ih =>
   refine .iptr vals (fun h=>(hJ _ (hj h)).1) (fun j x hx=>?_) ih
   rw [cell?_of_heap (hJ _ (hj (by rintro rfl; cases hx))).2]
   exact hc j x hx
theorem RepD.one {J:Nat → Prop} {w:World} {x:D} {v:Value} (h:RepD J w x v):v.oneCell' = true:=by cases h <;> rfl
def OslAt (w:World) (sz off len:Nat) (v:Value):Option Addr → Prop
 | none=>len = 0 ∧ v = .slice none 0 0
 | some a=>a.spot = none ∧ ((∃ cap,v = .slice (some ⟨a.block,a.off + off,none⟩) len cap ∧ len ≤ cap ∧ ∀ arr el fr,w.heap[a.block]? = some (.cells arr el fr) → a.off + off + cap * sz ≤ arr.size) ∨
    (len = 0 ∧ ∃ o,v = .slice (some ⟨a.block,o,none⟩) 0 0))
def dV:D → Value
 | .bool b=>.bool b
 | .int k n=>.int k n
 | .str s=>.string ⟨s.toArray⟩
 | .nsl=>.slice none 0 0
 | .nilp=>.pointer none
 | .nilf=>.nilFunc
 | .nili=>.nilIface
 | .nilm=>.map none
 | _=>undef
inductive MapRep (R:C → Value → Prop) (kd:TypeDesc):List C → List MapEntry → Prop
 | nil:MapRep R kd [] []
 | cons {k:D} {c:C} {e:MapEntry} {cs:List C} {es:List MapEntry} (hk:okKey kd k = true) (h1:e.key = dV k) (h2:R c e.val) (h:MapRep R kd cs es):MapRep R kd (.d k :: c :: cs) (e :: es)
theorem MapRep.mono {R R':C → Value → Prop} {kd:TypeDesc} {cs:List C} {es:List MapEntry} (h:MapRep R kd cs es) (hr:∀ c v,R c v → R' c v):MapRep R' kd cs es:=by
 induction h with
 | nil=>exact .nil
 | cons hk h1 h2 _ ih=>exact .cons hk h1 (hr _ _ h2) ih
section
variable (b₀:Bs) (β:Loc) (g:Nat → Nat) (ob:Obs) (w:World)
def RepPC:PC → Value → Prop
 | .d x,v=>RepD (Imm b₀ β ob w) w x v
 | .ptr id g' off,v=>v.oneCell' = true ∧ g' ≤ g id ∧ (g id = g' → (ob id).isSome = true → ∃ a,β id = some a ∧ a.spot = none ∧ v = .pointer (some ⟨a.block,a.off + off,none⟩))
def RepC:C → Value → Prop
 | .d x,v=>RepD (Imm b₀ β ob w) w x v
 | .osl id g' sz off len,v=>v.oneCell' = true ∧ g' ≤ g id ∧ (g id = g' → (ob id).isSome = true → OslAt w sz off len v (β id))
 | .ptr id g' off,v=>v.oneCell' = true ∧ g' ≤ g id ∧ (g id = g' → (ob id).isSome = true → ∃ a,β id = some a ∧ a.spot = none ∧ v = .pointer (some ⟨a.block,a.off + off,none⟩))
 | .clo f caps,v=>∃ vs:Array Value,v = .func (.func f) #[] vs ∧ vs.size = caps.length ∧ ∀ (i:Nat) (pc:PC),caps[i]? = some pc → ∃ u,vs[i]? = some u ∧ RepPC b₀ β g ob w pc u
 | .mp id g' kd,v=>v.oneCell' = true ∧ g' ≤ g id ∧ (g id = g' → (ob id).isSome = true → ∃ a,β id = some a ∧ (a.spot = some kd ∧ kd ≠ 100) ∧ v = .map (some a.block))
 | .lsl n,v=>∃ a cap,v = .slice a n cap
 | .raw _,_=>False
def RepCs (cs:List C) (vs:Array Value):Prop:=vs.size = cs.length ∧ ∀ (i:Nat) (c:C),cs[i]? = some c → ∃ u,vs[i]? = some u ∧ RepC b₀ β g ob w c u
mutual
def RepV:AV → Value → Prop
 | .one c,v=>RepC b₀ β g ob w c v
 | .agg cs,v=>∃ vs,v = .agg vs ∧ RepCs b₀ β g ob w cs vs
 | .tup ts,v=>∃ vs:List Value,v = .tuple vs.toArray ∧ RepVs ts vs
 | .junk,_=>True
def RepVs:List AV → List Value → Prop
 | [],vs=>vs = []
 | t :: ts,vs=>∃ u us,vs = u :: us ∧ RepV t u ∧ RepVs ts us
end
def CellsAt (e:Nat) (cells:List C) (a:Addr):Prop :=
 b₀.B ≤ a.block ∧ ∃ arr el lo hi,w.heap[a.block]? = some (.cells arr el (lo,hi)) ∧ ((hi ≤ lo ∨ arr.size ≤ lo) ∧ (code e ≠ 0 → el + 1 = code e ∧ a.off = 0)) ∧ a.off + cells.length ≤ arr.size ∧
   ∀ (j:Nat) (c:C),cells[j]? = some c → ∃ v,arr[a.off + j]? = some v ∧ RepC b₀ β g ob w c v
def MapAt (cells:List C) (a:Addr) (kd:Nat):Prop :=
 b₀.B ≤ a.block ∧ ((∃ es clock,w.heap[a.block]? = some (.map es clock) ∧ MapRep (RepC b₀ β g ob w) (keyDesc kd) cells es.toList) ∨ (kd = 100 ∧ ∃ o,cells = [.raw o] ∧ w.heap[a.block]? = some o))
def ObjAt (e:Nat) (cells:List C):Option Addr → Prop
 | none=>cells = []
 | some a=>match a.spot with
   | none=>CellsAt b₀ β g ob w e cells a
   | some kd=>MapAt b₀ β g ob w cells a kd
end
theorem ObjAt.cells {b₀:Bs} {β:Loc} {g:Nat → Nat} {ob:Obs} {w:World} {e:Nat} {cells:List C} {a:Addr} (h:ObjAt b₀ β g ob w e cells (some a)) (hs:a.spot = none):CellsAt b₀ β g ob w e cells a:=by
 simp only [ObjAt,hs] at h; exact h
theorem ObjAt.ofCells {b₀:Bs} {β:Loc} {g:Nat → Nat} {ob:Obs} {w:World} {e:Nat} {cells:List C} {a:Addr} (hs:a.spot = none) (h:CellsAt b₀ β g ob w e cells a):ObjAt b₀ β g ob w e cells (some a):=by
 simp only [ObjAt,hs]; exact h
theorem ObjAt.map {b₀:Bs} {β:Loc} {g:Nat → Nat} {ob:Obs} {w:World} {e:Nat} {cells:List C} {a:Addr} {kd:Nat} (h:ObjAt b₀ β g ob w e cells (some a)) (hs:a.spot = some kd):MapAt b₀ β g ob w cells a kd:=by
 simp only [ObjAt,hs] at h; exact h
theorem ObjAt.ofMap {b₀:Bs} {β:Loc} {g:Nat → Nat} {ob:Obs} {w:World} {e:Nat} {cells:List C} {a:Addr} {kd:Nat} (hs:a.spot = some kd) (h:MapAt b₀ β g ob w cells a kd):ObjAt b₀ β g ob w e cells (some a):=by
 simp only [ObjAt,hs]; exact h
theorem ObjAt.block {b₀:Bs} {β:Loc} {g:Nat → Nat} {ob:Obs} {w:World} {e:Nat} {cells:List C} {a:Addr} (h:ObjAt b₀ β g ob w e cells (some a)):b₀.B ≤ a.block ∧ a.block < w.heap.size:=by
 cases hs:a.spot with
 | none =>
   obtain ⟨h1,arr,el,lo,hi,h2,_⟩:=h.cells hs
   exact ⟨h1,(Array.getElem?_eq_some_iff.1 h2).1⟩
 | some kd =>
   obtain ⟨h1,⟨es,clock,h2,_⟩ | ⟨_,o,_,h2⟩⟩:=h.map hs
   ·exact ⟨h1,(Array.getElem?_eq_some_iff.1 h2).1⟩
   ·exact ⟨h1,(Array.getElem?_eq_some_iff.1 h2).1⟩
structure Rel (b₀:Bs) (N:Nat) (s:St) (β:Loc) (a:Act) (w:World):Prop where
 defers:a.defers = []
 size:a.tmps.size = N
 f:∀ i,RepV b₀ β s.gen s.obj w (s.f i) (a.tmps.getD i undef)
 obj:∀ id cells,s.obj id = some cells → ObjAt b₀ β s.gen s.obj w (s.gen id) cells (β id)
 inj:∀ id id' a a',(s.obj id).isSome = true → (s.obj id').isSome = true → β id = some a → β id' = some a' → a.block = a'.block → id = id'
 base:b₀.B ≤ w.heap.size
structure Keep (b₀:Bs) (β:Loc) (g:Nat → Nat) (ob:Obs) (w:World) (β':Loc) (g':Nat → Nat) (ob':Obs) (w':World):Prop where
 imm:∀ b,Imm b₀ β ob w b → Imm b₀ β' ob' w' b ∧ w'.heap[b]? = w.heap[b]?
 gen:∀ id,g id ≤ g' id
 live:∀ id,g' id = g id → (ob' id).isSome = true → (ob id).isSome = true ∧ β' id = β id ∧
  (∀ a,β id = some a → ∀ arr el fr,w'.heap[a.block]? = some (.cells arr el fr) → ∃ arr0 el0 fr0,w.heap[a.block]? = some (.cells arr0 el0 fr0) ∧ arr0.size ≤ arr.size)
def Ext (w w':World):Prop:=w.heap.size ≤ w'.heap.size ∧ ∀ b,b < w.heap.size → w'.heap[b]? = w.heap[b]?
theorem Ext.refl {w:World}:Ext w w:=⟨Nat.le_refl _,fun _ _=>rfl⟩
theorem Ext.trans {w w' w'':World} (h:Ext w w') (h':Ext w' w''):Ext w w'':=⟨Nat.le_trans h.1 h'.1,fun b hb=>(h'.2 b (Nat.lt_of_lt_of_le hb h.1)).trans (h.2 b hb)⟩
theorem Ext.cells {w w':World} (h:Ext w w') {b:Nat} {o:Obj} (hb:w.heap[b]? = some o):w'.heap[b]? = some o:=(h.2 b (Array.getElem?_eq_some_iff.1 hb).1).trans hb
theorem Ext.cell {w w':World} (h:Ext w w') {a:Addr} {v:Value} (hb:w.cell? a = some v):w'.cell? a = some v:=by
 have hlt:a.block < w.heap.size:=World.block_lt_of_cell? w a hb
 simpa [World.cell?,h.2 a.block hlt] using hb
structure Tr (b₀:Bs) (β:Loc) (s:St) (w:World) (β':Loc) (s':St) (w':World):Prop where
 size:w.heap.size ≤ w'.heap.size
 old:∀ b,b < b₀.B → w'.heap[b]? = w.heap[b]?
 keep:Keep b₀ β s.gen s.obj w β' s'.gen s'.obj w'
 os:w'.os = w.os ∧ w'.output = w.output
theorem Tr.imm {b₀:Bs} {β β':Loc} {s s':St} {w w':World} (h:Tr b₀ β s w β' s' w'):∀ b,Imm b₀ β s.obj w b → Imm b₀ β' s'.obj w' b ∧ w'.heap[b]? = w.heap[b]?:=h.keep.imm
theorem Tr.gen {b₀:Bs} {β β':Loc} {s s':St} {w w':World} (h:Tr b₀ β s w β' s' w'):∀ id,s.gen id ≤ s'.gen id:=h.keep.gen
theorem Keep.trans {b₀:Bs} {β β' β'':Loc} {g g' g'':Nat → Nat} {ob ob' ob'':Obs} {w w' w'':World} (h:Keep b₀ β g ob w β' g' ob' w') (h':Keep b₀ β' g' ob' w' β'' g'' ob'' w''):Keep b₀ β g ob w β'' g'' ob'' w'':=by
 refine ⟨fun b hb=>⟨(h'.imm b (h.imm b hb).1).1,((h'.imm b (h.imm b hb).1).2).trans (h.imm b hb).2⟩,fun id=>Nat.le_trans (h.gen id) (h'.gen id),fun id hg ho=>?_⟩
 have h1:=h.gen id
 have h2:=h'.gen id
 obtain ⟨k1,k2,k3⟩:=h'.live id (by omega) ho
 obtain ⟨l1,l2,l3⟩:=h.live id (by omega) k1
 refine ⟨l1,k2.trans l2,fun a ha arr el fr hh=>?_⟩
 obtain ⟨arr0,el0,fr0,e1,e2⟩:=k3 a (l2.trans ha) arr el fr hh
 obtain ⟨arr1,el1,fr1,e3,e4⟩:=l3 a ha arr0 el0 fr0 e1
 exact ⟨arr1,el1,fr1,e3,Nat.le_trans e4 e2⟩
theorem Keep.refl' {b₀:Bs} {β:Loc} {g:Nat → Nat} {ob:Obs} {w:World}:Keep b₀ β g ob w β g ob w:=⟨fun _ h=>⟨h,rfl⟩,fun _=>Nat.le_refl _,fun _ _ h=>⟨h,rfl,fun _ _ arr el fr hh=>⟨arr,el,fr,hh,Nat.le_refl _⟩⟩⟩
theorem Tr.refl {b₀:Bs} {β:Loc} {s:St} {w:World}:Tr b₀ β s w β s w:=⟨Nat.le_refl _,fun _ _=>rfl,Keep.refl',rfl,rfl⟩
theorem Tr.trans {b₀:Bs} {β β' β'':Loc} {s s' s'':St} {w w' w'':World} (h:Tr b₀ β s w β' s' w') (h':Tr b₀ β' s' w' β'' s'' w''):Tr b₀ β s w β'' s'' w'' :=
 ⟨Nat.le_trans h.size h'.size,fun b hb=>(h'.old b hb).trans (h.old b hb),h.keep.trans h'.keep,h'.os.1.trans h.os.1,h'.os.2.trans h.os.2⟩
section
variable {b₀:Bs} {β β':Loc} {g g':Nat → Nat} {ob ob':Obs} {w w':World}
theorem OslAt.keep {sz off len:Nat} {v:Value} {x:Option Addr} (h:OslAt w sz off len v x)
  (hk:∀ a,x = some a → ∀ arr el fr,w'.heap[a.block]? = some (.cells arr el fr) → ∃ arr0 el0 fr0,w.heap[a.block]? = some (.cells arr0 el0 fr0) ∧ arr0.size ≤ arr.size):OslAt w' sz off len v x:=by
 cases x with
 | none=>exact h
 | some a =>
   obtain ⟨hsp,h⟩:=h
   refine ⟨hsp,?_⟩
   rcases h with ⟨cap,hv,hl,hs⟩ | h
   ·refine .inl ⟨cap,hv,hl,fun arr el fr hh=>?_⟩
    obtain ⟨arr0,el0,fr0,h0,hle⟩:=hk a rfl arr el fr hh
    exact Nat.le_trans (hs _ _ _ h0) hle
   ·exact .inr h
theorem RepPC.keep (hk:Keep b₀ β g ob w β' g' ob' w') {c:PC} {v:Value} (h:RepPC b₀ β g ob w c v):RepPC b₀ β' g' ob' w' c v:=by
 cases c with
 | d x=>exact RepD.mono h hk.imm
 | ptr id g1 off =>
   obtain ⟨h1,h2,h3⟩:=h
   refine ⟨h1,Nat.le_trans h2 (hk.gen id),fun hg ho=>?_⟩
   have e:g' id = g id:=Nat.le_antisymm (by omega) (hk.gen id)
   obtain ⟨l1,l2,_⟩:=hk.live id e ho
   rw [l2]; exact h3 (by omega) l1
theorem RepC.keep (hk:Keep b₀ β g ob w β' g' ob' w') {c:C} {v:Value} (h:RepC b₀ β g ob w c v):RepC b₀ β' g' ob' w' c v:=by
 cases c with
 | d x=>exact RepD.mono h hk.imm
 | osl id g1 sz off len =>
   obtain ⟨h1,h2,h3⟩:=h
   refine ⟨h1,Nat.le_trans h2 (hk.gen id),fun hg ho=>?_⟩
   have e:g' id = g id:=Nat.le_antisymm (by omega) (hk.gen id)
   obtain ⟨l1,l2,l3⟩:=hk.live id e ho
   rw [l2]; exact (h3 (by omega) l1).keep l3
 | ptr id g1 off =>
   obtain ⟨h1,h2,h3⟩:=h
   refine ⟨h1,Nat.le_trans h2 (hk.gen id),fun hg ho=>?_⟩
   have e:g' id = g id:=Nat.le_antisymm (by omega) (hk.gen id)
   obtain ⟨l1,l2,_⟩:=hk.live id e ho
   rw [l2]; exact h3 (by omega) l1
 | clo f caps =>
   obtain ⟨vs,h1,h2,h3⟩:=h
   exact ⟨vs,h1,h2,fun i pc hp=>let ⟨u,hu,hr⟩:=h3 i pc hp; ⟨u,hu,hr.keep hk⟩⟩
 | mp id g1 kd =>
   obtain ⟨h1,h2,h3⟩:=h
   refine ⟨h1,Nat.le_trans h2 (hk.gen id),fun hg ho=>?_⟩
   have e:g' id = g id:=Nat.le_antisymm (by omega) (hk.gen id)
   obtain ⟨l1,l2,_⟩:=hk.live id e ho
   rw [l2]; exact h3 (by omega) l1
 | lsl n=>exact h
 | raw o=>exact h.elim
theorem RepCs.keep (hk:Keep b₀ β g ob w β' g' ob' w') {cs:List C} {vs:Array Value} (h:RepCs b₀ β g ob w cs vs):RepCs b₀ β' g' ob' w' cs vs :=
 ⟨h.1,fun i c hc=>let ⟨u,hu,hr⟩:=h.2 i c hc; ⟨u,hu,hr.keep hk⟩⟩
mutual
theorem RepV.keep (hk:Keep b₀ β g ob w β' g' ob' w'):(x:AV) → {v:Value} → RepV b₀ β g ob w x v → RepV b₀ β' g' ob' w' x v
 | .one _,_,h=>by simp only [RepV] at h ⊢; exact RepC.keep hk h
 | .agg _,_,h=>by simp only [RepV] at h ⊢; obtain ⟨vs,h1,h2⟩:=h; exact ⟨vs,h1,h2.keep hk⟩
 | .tup ts,_,h=>by simp only [RepV] at h ⊢; obtain ⟨vs,h1,h2⟩:=h; exact ⟨vs,h1,RepVs.keep hk ts h2⟩
 | .junk,_,_=>by simp only [RepV]
theorem RepVs.keep (hk:Keep b₀ β g ob w β' g' ob' w'):(x:List AV) → {v:List Value} → RepVs b₀ β g ob w x v → RepVs b₀ β' g' ob' w' x v
 | [],_,h=>by simp only [RepVs] at h ⊢; exact h
 | t :: ts,_,h=>by simp only [RepVs] at h ⊢; obtain ⟨u,us,h1,h2,h3⟩:=h; exact ⟨u,us,h1,RepV.keep hk t h2,RepVs.keep hk ts h3⟩
end
theorem RepC.one {c:C} {v:Value} (h:RepC b₀ β g ob w c v):v.oneCell' = true:=by
 cases c with
 | d x=>exact RepD.one h
 | osl=>exact h.1
 | ptr=>exact h.1
 | clo f caps=>obtain ⟨vs,rfl,_⟩:=h; rfl
 | mp=>exact h.1
 | lsl n=>obtain ⟨a,cap,rfl⟩:=h; rfl
 | raw o=>exact h.elim
theorem Keep.of_heap (h:w'.heap = w.heap):Keep b₀ β g ob w β g ob w' :=
 ⟨fun b hb=>⟨by unfold Imm at *; rw [h]; exact hb,by rw [h]⟩,fun _=>Nat.le_refl _,fun _ _ ho=>⟨ho,rfl,fun _ _ arr el fr hh=>⟨arr,el,fr,by rw [← h]; exact hh,Nat.le_refl _⟩⟩⟩
theorem ObjAt.keep (hk:Keep b₀ β g ob w β' g' ob' w') {e:Nat} {cells:List C} {x:Option Addr} (h:ObjAt b₀ β g ob w e cells x)
  (hb:∀ a,x = some a → w'.heap[a.block]? = w.heap[a.block]?):ObjAt b₀ β' g' ob' w' e cells x:=by
 cases x with
 | none=>exact h
 | some a =>
   cases hs:a.spot with
   | none =>
     obtain ⟨h2,arr,el,lo,hi,h3,h4,h5,h6⟩:=h.cells hs
     exact .ofCells hs ⟨h2,arr,el,lo,hi,by rw [hb a rfl]; exact h3,h4,h5,fun j c hc=>let ⟨v,hv,hr⟩:=h6 j c hc; ⟨v,hv,hr.keep hk⟩⟩
   | some kd =>
     obtain ⟨h2,⟨es,clock,h3,h4⟩ | ⟨hk100,o,h3,h4⟩⟩:=h.map hs
     ·exact .ofMap hs ⟨h2,.inl ⟨es,clock,by rw [hb a rfl]; exact h3,h4.mono fun _ _=>RepC.keep hk⟩⟩
     ·exact .ofMap hs ⟨h2,.inr ⟨hk100,o,h3,by rw [hb a rfl]; exact h4⟩⟩
end
theorem Rel.of_heap {b₀:Bs} {N:Nat} {s:St} {β:Loc} {a:Act} {w w':World} (h:Rel b₀ N s β a w) (hw:w'.heap = w.heap):Rel b₀ N s β a w' :=
 ⟨h.defers,h.size,fun i=>RepV.keep (.of_heap hw) _ (h.f i),fun id cells ho=>(h.obj id cells ho).keep (.of_heap hw) (fun _ _=>by rw [hw]),h.inj,by rw [hw]; exact h.base⟩
theorem Rel.put {b₀:Bs} {N:Nat} {s:St} {β:Loc} {a:Act} {w:World} (h:Rel b₀ N s β a w) {dst:Option Nat} (hd:∀ d,dst = some d → d < N) {x:AV} {v:Value}
  (hv:RepV b₀ β s.gen s.obj w x v):Rel b₀ N (s.put dst x) β (a.put dst v) w:=by
 cases dst with
 | none=>exact h
 | some d =>
   refine ⟨h.defers,by simpa [Act.put] using h.size,fun i=>?_,h.obj,h.inj,h.base⟩
   simp only [St.put,Act.put,upd]
   by_cases hi:i = d
   ·subst hi
    have:i < a.tmps.size:=by rw [h.size]; exact hd i rfl
    simpa [Array.getD,this] using hv
   ·have hf:=h.f i
    simp only [hi,if_false]
    simpa [Array.getD_eq_getD_getElem?,Array.getElem?_setIfInBounds_ne (Ne.symm hi)] using hf
theorem Tr.same {b₀:Bs} {β:Loc} {s s':St} {w w':World} (hg:s'.gen = s.gen) (ho:s'.obj = s.obj) (hw:w'.heap = w.heap) (hos:w'.os = w.os ∧ w'.output = w.output:=by exact ⟨rfl,rfl⟩):Tr b₀ β s w β s' w' :=
 ⟨by rw [hw]; exact Nat.le_refl _,fun _ _=>by rw [hw],by rw [hg,ho]; exact .of_heap hw,hos⟩
theorem St.put_gen (s:St) (d:Option Nat) (x:AV):(s.put d x).gen = s.gen:=by cases d <;> rfl
theorem St.put_obj (s:St) (d:Option Nat) (x:AV):(s.put d x).obj = s.obj:=by cases d <;> rfl
theorem Rel.ev {b₀:Bs} {N:Nat} {s:St} {β:Loc} {a:Act} {w:World} (h:Rel b₀ N s β a w) (x:Operand):RepV b₀ β s.gen s.obj w (s.ev x) (a.eval x):=by
 cases x with
 | tmp t=>exact h.f t
 | const v =>
   simp only [St.ev,Act.eval]
   unfold absV
   split <;> simp only [RepV,RepC] <;> first | exact .bool _ | exact .int _ _ | exact .nsl | exact .nilp | exact .nilf | exact .nili | exact .nilm | trivial | skip
   rename_i s'
   have:(Value.string s') = .string ⟨s'.data.toList.toArray⟩:=by simp
   rw [this]; exact .str _
 | global g=>simp only [St.ev,RepV]
 | func f=>simp only [St.ev,Act.eval,RepV,RepC]; exact .fn f
end Go.Am

namespace Go.Am
def plainD:D → Bool
 | .sl _ | .fn _ | .iptr _ | .yld _=>false
 | _=>true
theorem RepD.of_plain {J:Nat → Prop} {w:World} {x:D} (h:plainD x = true):RepD J w x (dV x):=by
 cases x <;> first | (simp [plainD] at h; done) | constructor
structure TyOk (P:Program) (t:Nat) (ti:TI):Prop where
 desc:P.underlying t = some ti.desc
 info:∃ i,P.info? t = some i ∧ i.size = ti.size ∧ i.bytes = ti.bytes ∧ ∃ z,i.zero = some z ∧ z.cells.toList = ti.zero.map dV
 plain:ti.zero.all plainD = true
 zlen:ti.zero.length = ti.size
 zone:isAggD ti.desc = false → ∀ i zv,P.info? t = some i → i.zero = some zv → zv = dV (ti.zero.headD .nsl)
def TabOk (P:Program) (T:Nat → TI):Prop:=∀ t,okD (T t).desc = true → TyOk P t (T t)
def tabOf (l:List (Nat × TI)) (t:Nat):TI:=((l.find? fun p=>p.1 == t).map (·.2)).getD ⟨.invalid,0,0,[]⟩
theorem tabOk_of_list {P:Program} {l:List (Nat × TI)} (h:∀ p ∈ l,TyOk P p.1 p.2):TabOk P (tabOf l):=by
 intro t ht
 unfold tabOf at *
 cases hf:l.find? fun p=>p.1 == t with
 | none=>simp [hf,okD] at ht
 | some p =>
   have h1:=List.find?_some hf
   have h2:=List.mem_of_find?_eq_some hf
   simp only [beq_iff_eq] at h1
   simpa [h1] using h p h2
theorem okD_of_slice {d:TypeDesc} (h:isSlice d = true):okD d = true:=by cases d <;> simp_all [isSlice,okD]
theorem slice_of {d:TypeDesc} (h:isSlice d = true):∃ e,d = .slice e:=by cases d <;> simp_all [isSlice]
section
variable {P:Program} {T:Nat → TI} {b₀:Bs} {β:Loc} {g:Nat → Nat} {ob:Obs} {w:World}
theorem run_sizeOf' {t:Nat} {ti:TI} (h:TyOk P t ti):(sizeOf t).run P w = .ok ti.size w:=by
 obtain ⟨i,hi,hs,_⟩:=h.info
 simp [sizeOf,typeInfo,hi,hs]
theorem isRow_of {d:TypeDesc} (h:isAggD d = true):d.isRow = true:=by cases d <;> simp_all [isAggD]
theorem run_isAgg {t:Nat} {ti:TI} (h:TyOk P t ti):(isAgg t).run P w = .ok (isAggD ti.desc) w:=by
 unfold isAgg
 rw [Sem.run_bind,run_underlying h.desc w]
 simp only [Result.andThen_ok]
 cases ti.desc <;> rfl
theorem values_of {α:Type} (R:α → Value → Prop) (cell:Nat → Option Value):∀ (cs:List α) (_:∀ (j:Nat) (c:α),cs[j]? = some c → ∃ v,cell j = some v ∧ R c v),
  ∃ vs:List Value,vs.length = cs.length ∧ (∀ (j:Nat) (v:Value),vs[j]? = some v → cell j = some v) ∧ ∀ (j:Nat) (c:α),cs[j]? = some c → ∃ v,vs[j]? = some v ∧ R c v
 | [],_=>⟨[],rfl,⟨fun _ _ h=>by simp at h,fun _ _ h=>by simp at h⟩⟩
 | c :: cs,h=>by
   obtain ⟨v,hv,hr⟩:=h 0 c rfl
   obtain ⟨vs,h1,h2,h3⟩:=values_of R (fun j=>cell (j + 1)) cs (fun j c' hc=>h (j + 1) c' (by simpa using hc))
   refine ⟨v :: vs,by simp [h1],fun j u hu=>?_,fun j c' hc=>?_⟩
   ·cases j with
    | zero=>simp at hu; subst hu; exact hv
    | succ j=>exact h2 j u (by simpa using hu)
   ·cases j with
    | zero=>simp at hc; subst hc; exact ⟨v,rfl,hr⟩
    | succ j=>simpa using h3 j c' (by simpa using hc)
theorem cell?_of_arr {b:Nat} {arr:Array Value} {el:TypeId} {fr:Nat × Nat} (h:w.heap[b]? = some (.cells arr el fr)) (j:Nat):w.cell? ⟨b,j,none⟩ = arr[j]?:=by
 simp [World.cell?,h]
theorem addr_add (b o j:Nat):(⟨b,o,none⟩:Addr).add j = ⟨b,o + j,none⟩:=Addr.add_mid b o j
theorem onSome_inv {α:Type} {x:Option α} {K:α → Prop} {k:Box K} (h:onSome x k):∃ a,x = some a ∧ K a:=by
 cases x with
 | none=>exact h.elim
 | some a=>exact ⟨a,rfl,h⟩
theorem BSplit_inv {b:Bool} {K:Bool → Prop} {k:Box K} (h:BSplit b k):K b:=by
 cases b
 ·exact h.2 rfl
 ·exact h.1 rfl
theorem RepD.inv_bool {J:Nat → Prop} {b:Bool} {v:Value} (h:RepD J w (.bool b) v):v = .bool b:=by cases h; rfl
theorem RepD.inv_int {J:Nat → Prop} {k:IntKind} {n:Int} {v:Value} (h:RepD J w (.int k n) v):v = .int k n:=by cases h; rfl
theorem RepD.inv_str {J:Nat → Prop} {s:List UInt8} {v:Value} (h:RepD J w (.str s) v):v = .string ⟨s.toArray⟩:=by cases h; rfl
theorem RepD.inv_nsl {J:Nat → Prop} {v:Value} (h:RepD J w .nsl v):v = .slice none 0 0:=by cases h; rfl
theorem onBool_inv {x:AV} {v:Value} {K:Bool → Prop} {k:Box K} (h:onBool x k) (hv:RepV b₀ β g ob w x v):∃ b,v = .bool b ∧ K b:=by
 unfold onBool at h
 split at h
 ·rename_i b
  simp only [RepV,RepC] at hv
  exact ⟨b,hv.inv_bool,BSplit_inv h⟩
 ·exact h.elim
theorem loadA_sound (hT:TabOk P T) {N:Nat} {s:St} {a:Act} (hr:Rel b₀ N s β a w) {t:Nat} {x:AV} {v:Value} {K:AV → Prop} {k:Box K} (h:loadA (T t) s x k)
  (hv:RepV b₀ β s.gen s.obj w x v):∃ y cv,K y ∧ (∀ w',Ext w w' → (Instr.loadAt t v).run P w' = .ok cv w') ∧ RepV b₀ β s.gen s.obj w y cv:=by
 unfold loadA at h
 split at h
 ·rename_i id g off
  obtain ⟨hok,hg,h⟩:=h
  obtain ⟨cells,ho,h⟩:=onSome_inv h
  have ht:=hT t hok
  simp only [RepV,RepC] at hv
  obtain ⟨_,_,hv⟩:=hv
  obtain ⟨ad,hβ,hsp,rfl⟩:=hv hg (by simp [ho])
  have hob:=hr.obj id cells ho
  rw [hβ] at hob
  obtain ⟨_,arr,el,lo,hi,hblk,_,hlen,hcells⟩:=hob.cells hsp
  unfold readC at h
  split at h
  ·rename_i hagg
   obtain ⟨hsz,hK⟩:=h
   obtain ⟨vs,e1,e2,e3⟩:=values_of (RepC b₀ β s.gen s.obj w) (fun j=>arr[ad.off + (off + j)]?) ((cells.drop off).take (T t).size) (fun j c hc=>by
    rw [List.getElem?_take] at hc
    split at hc
    ·rw [List.getElem?_drop] at hc; exact hcells (off + j) c hc
    ·cases hc)
   have hl:vs.length = (T t).size:=by rw [e1]; simp; omega
   refine ⟨_,.agg vs.toArray,hK,fun w' hw'=>?_,?_⟩
   ·refine run_loadAt_mid w' ad.block (ad.off + off) t vs (T t).desc (fun j u hu=>?_) ht.desc (isRow_of hagg) ?_
    ·rw [cell?_of_arr (hw'.cells hblk)]; have:=e2 j u hu; rwa [← Nat.add_assoc] at this
    ·obtain ⟨i,hi,hs,_⟩:=ht.info; simp [hi,hs,hl]
   ·simp only [RepV]
    exact ⟨_,rfl,by simp [e1],fun i c hc=>by simpa using e3 i c hc⟩
  ·rename_i hagg
   obtain ⟨c,hc,hK⟩:=onSome_inv h
   obtain ⟨u,hu,hru⟩:=hcells off c hc
   refine ⟨_,u,hK,fun w' hw'=>?_,by simpa only [RepV] using hru⟩
   have:w'.cell? ⟨ad.block,ad.off + off,none⟩ = some u:=by rw [cell?_of_arr (hw'.cells hblk)]; exact hu
   simp [Instr.loadAt,Instr.sureAddr,loadVar,run_isAgg ht,hagg,this]
 ·rename_i cs
  obtain ⟨hok,h⟩:=h
  have ht:=hT t hok
  simp only [RepV,RepC] at hv
  cases hv with
  | iptr vals hJ hcl hrd =>
  rename_i b off
  unfold readD at h
  split at h
  ·rename_i hagg
   obtain ⟨hsz,hK⟩:=h
   obtain ⟨vs,e1,e2,e3⟩:=values_of (fun (c:D) v=>RepC b₀ β s.gen s.obj w (.d c) v) (fun j=>w.cell? ⟨b,off + j,none⟩) (cs.take (T t).size) (fun j c hc=>by
    rw [List.getElem?_take] at hc
    split at hc
    ·exact ⟨_,hcl j c hc,hrd j c hc⟩
    ·cases hc)
   have hl:vs.length = (T t).size:=by rw [e1]; simp; omega
   refine ⟨_,.agg vs.toArray,hK,fun w' hw'=>?_,?_⟩
   ·refine run_loadAt_mid w' b off t vs (T t).desc (fun j u hu=>hw'.cell (e2 j u hu)) ht.desc (isRow_of hagg) ?_
    obtain ⟨i,hi,hs,_⟩:=ht.info; simp [hi,hs,hl]
   ·simp only [RepV]
    refine ⟨_,rfl,by simp [e1],fun i c hc=>?_⟩
    rw [List.getElem?_map] at hc
    cases hq:(cs.take (T t).size)[i]? with
    | none=>rw [hq] at hc; cases hc
    | some y =>
      rw [hq] at hc
      simp only [Option.map_some,Option.some.injEq] at hc
      subst hc
      simpa using e3 i y hq
  ·rename_i hagg
   obtain ⟨c,hc,hK⟩:=onSome_inv h
   refine ⟨_,vals 0,hK,fun w' hw'=>?_,by simp only [RepV,RepC]; exact hrd 0 c hc⟩
   have:w'.cell? ⟨b,off,none⟩ = some (vals 0):=hw'.cell (hcl 0 c hc)
   simp [Instr.loadAt,Instr.sureAddr,loadVar,run_isAgg ht,hagg,this]
 ·exact h.elim
theorem okSl_inv (hT:TabOk P T) {t:Nat} (h:okSl T t = true):∃ e,(T t).desc = .slice e ∧ elemTI T t = T e ∧ P.underlying t = some (.slice e) ∧ TyOk P e (T e):=by
 simp only [okSl,Bool.and_eq_true] at h
 obtain ⟨e,he⟩:=slice_of h.1
 have h2:elemTI T t = T e:=by simp [elemTI,he]
 exact ⟨e,he,h2,by rw [(hT t (okD_of_slice h.1)).desc,he],hT e (by rw [← h2]; exact h.2)⟩
theorem osl_live {s:St} {id g' sz off len:Nat} {v:Value} (h:RepC b₀ β s.gen s.obj w (.osl id g' sz off len) v) (hg:s.gen id = g') (ho:(s.obj id).isSome = true):OslAt w sz off len v (β id):=h.2.2 hg ho
theorem OslAt.slice {sz off len:Nat} {v:Value} {x:Option Addr} (h:OslAt w sz off len v x):∃ a cap,v = .slice a len cap ∧ len ≤ cap:=by
 cases x with
 | none=>exact ⟨none,0,by rw [h.2,h.1],by rw [h.1]; exact Nat.le_refl _⟩
 | some a =>
   rcases h.2 with ⟨cap,hv,hl,_⟩ | ⟨rfl,o,hv⟩
   ·exact ⟨_,cap,hv,hl⟩
   ·exact ⟨_,0,hv,Nat.le_refl _⟩
theorem indexAddrA_sound (hT:TabOk P T) {s:St} {t:Nat} (hsl:okSl T t = true) {x ix:AV} {v vi:Value} {K:AV → Prop} {k:Box K}
  (h:indexAddrA s (elemTI T t).size x ix k) (hv:RepV b₀ β s.gen s.obj w x v) (hi:RepV b₀ β s.gen s.obj w ix vi) :
  ∃ y cv,K y ∧ (∀ w',Ext w w' → (Instr.indexAt t v vi).run P w' = .ok cv w') ∧ RepV b₀ β s.gen s.obj w y cv:=by
 obtain ⟨e,he1,he2,hu,hte⟩:=okSl_inv hT hsl
 rw [he2] at h
 unfold indexAddrA at h
 split at h
 ·rename_i kd i
  simp only [RepV,RepC] at hi
  obtain rfl:=hi.inv_int
  split at h
  ·rename_i es
   obtain ⟨h0,h⟩:=h
   obtain ⟨c,hc,hsz,hK⟩:=onSome_inv h
   have hlt:i.toNat < es.length:=(List.getElem?_eq_some_iff.1 hc).1
   simp only [RepV,RepC] at hv
   cases hv with
   | sl0=>simp at hc
   | sl vals hcap hJ hs hcl hrd =>
   rename_i b off cap sz
   have hsz':sz = (T e).size:=by rw [← hsz]; exact (hs c (List.mem_of_getElem? hc)).symm
   refine ⟨_,.pointer (some ⟨b,off + i.toNat * (T e).size,none⟩),hK,fun w' _=>?_,?_⟩
   ·have:i < es.length:=by omega
    simp [Instr.indexAt,asIntOf,run_underlying hu,h0,this,run_sizeOf' hte,addr_add]
   ·simp only [RepV,RepC]
    refine .iptr (vals i.toNat) (fun _=>hJ (by rintro rfl; cases hc)) (fun j x hx=>?_) (fun j x hx=>hrd _ _ hc j x hx)
    rw [← hsz']; exact hcl _ _ hc j x hx
  ·rename_i id g sz' off len
   obtain ⟨hg,ho,h0,hlt,rfl,hK⟩:=h
   simp only [RepV] at hv
   have h3':=osl_live hv hg ho
   cases hβ:β id with
   | none =>
     rw [hβ] at h3'
     obtain ⟨rfl,_⟩:=h3'
     omega
   | some ad =>
     rw [hβ] at h3'
     obtain ⟨hsp,h3'⟩:=h3'
     rcases h3' with ⟨cap,rfl,hcap,_⟩ | ⟨rfl,_⟩
     ·refine ⟨_,.pointer (some ⟨ad.block,ad.off + off + i.toNat * (T e).size,none⟩),hK,fun w' _=>?_,?_⟩
      ·simp [Instr.indexAt,asIntOf,run_underlying hu,h0,hlt,run_sizeOf' hte,addr_add]
      ·simp only [RepV,RepC]
       exact ⟨rfl,hv.2.1,fun _ _=>⟨ad,hβ,hsp,by simp [Nat.add_assoc]⟩⟩
     ·omega
  ·exact h.elim
 ·exact h.elim
theorem arrAddrA_sound (hT:TabOk P T) {s:St} {t:Nat} {x ix:AV} {v vi:Value} {K:AV → Prop} {k:Box K}
  (h:arrAddrA T (T t).desc s x ix k) (hv:RepV b₀ β s.gen s.obj w x v) (hi:RepV b₀ β s.gen s.obj w ix vi) :
  ∃ y cv,K y ∧ (∀ w',Ext w w' → (Instr.indexAt t v vi).run P w' = .ok cv w') ∧ RepV b₀ β s.gen s.obj w y cv:=by
 unfold arrAddrA at h
 split at h
 ·rename_i n e hd
  have hu:=(hT t (by rw [hd]; rfl)).desc
  rw [hd] at hu
  split at h
  ·rename_i kd i
   simp only [RepV,RepC] at hi
   obtain rfl:=hi.inv_int
   split at h
   ·rename_i id g off
    obtain ⟨hg,ho,hok,h0,hlt,hK⟩:=h
    have hte:=hT e hok
    simp only [RepV,RepC] at hv
    obtain ⟨ad,hβ,hsp,rfl⟩:=hv.2.2 hg ho
    refine ⟨_,.pointer (some ⟨ad.block,ad.off + off + i.toNat * (T e).size,none⟩),hK,fun w' _=>?_,?_⟩
    ·simp [Instr.indexAt,asIntOf,run_underlying hu,h0,hlt,run_sizeOf' hte,addr_add,Instr.sureAddr]
    ·simp only [RepV,RepC]
     exact ⟨rfl,hv.2.1,fun _ _=>⟨ad,hβ,hsp,by simp [Nat.add_assoc]⟩⟩
   ·exact h.elim
  ·exact h.elim
 ·exact h.elim
theorem size_mk (s:List UInt8):(⟨s.toArray⟩:ByteArray).size = s.length:=by show s.toArray.size = s.length; simp
theorem getElem?_mk (s:List UInt8) (i:Nat):(⟨s.toArray⟩:ByteArray)[i]? = s[i]?:=by
 by_cases h:i < s.length
 ·have this:i < (⟨s.toArray⟩:ByteArray).size:=by simpa [ByteArray.size] using h
  rw [getElem?_pos (⟨s.toArray⟩:ByteArray) i this,List.getElem?_eq_getElem h]
  rfl
 ·have this:¬ i < (⟨s.toArray⟩:ByteArray).size:=by simpa [ByteArray.size] using h
  rw [getElem?_neg (⟨s.toArray⟩:ByteArray) i this,List.getElem?_eq_none (by omega)]
theorem indexA_sound {s:St} {t:Nat} (hu:P.underlying t = some .string) {x ix:AV} {v vi:Value} {K:AV → Prop} {k:Box K}
  (h:indexA x ix k) (hv:RepV b₀ β s.gen s.obj w x v) (hi:RepV b₀ β s.gen s.obj w ix vi) :
  ∃ y cv,K y ∧ (∀ w',Ext w w' → (Instr.index t v vi).run P w' = .ok cv w') ∧ RepV b₀ β s.gen s.obj w y cv:=by
 unfold indexA at h
 split at h
 ·rename_i kd i
  simp only [RepV,RepC] at hi
  obtain rfl:=hi.inv_int
  split at h
  ·rename_i bs
   obtain ⟨h0,h⟩:=h
   obtain ⟨c,hc,hK⟩:=onSome_inv h
   simp only [RepV,RepC] at hv
   obtain rfl:=hv.inv_str
   refine ⟨_,.int .u8 c.toNat,hK,fun w' _=>?_,by simp only [RepV,RepC]; exact .int _ _⟩
   have:(⟨bs.toArray⟩:ByteArray)[i.toNat]? = some c:=by rw [getElem?_mk]; exact hc
   simp [Instr.index,asIntOf,run_underlying hu,h0,this]
  ·exact h.elim
 ·exact h.elim
theorem intRes {K:AV → Prop} {kd:IntKind} {n:Int} {x:Sem Value} (h:K (iv kd n)) (hr:∀ w,x.run P w = .ok (.int kd n) w):∃ z cv,K z ∧ (∀ w',Ext w w' → x.run P w' = .ok cv w') ∧ RepV b₀ β g ob w z cv :=
 ⟨_,_,h,fun w' _=>hr w',by simp only [RepV,RepC]; exact .int _ _⟩
theorem boolRes {K:AV → Prop} {b:Bool} {x:Sem Value} (h:K (bv b)) (hr:∀ w,x.run P w = .ok (.bool b) w):∃ z cv,K z ∧ (∀ w',Ext w w' → x.run P w' = .ok cv w') ∧ RepV b₀ β g ob w z cv :=
 ⟨_,_,h,fun w' _=>hr w',by simp only [RepV,RepC]; exact .bool _⟩
theorem strRes {K:AV → Prop} {s:List UInt8} {x:Sem Value} (h:K (sv s)) (hr:∀ w,x.run P w = .ok (.string ⟨s.toArray⟩) w):∃ z cv,K z ∧ (∀ w',Ext w w' → x.run P w' = .ok cv w') ∧ RepV b₀ β g ob w z cv :=
 ⟨_,_,h,fun w' _=>hr w',by simp only [RepV,RepC]; exact .str _⟩
theorem run_binI {op:BinOp} {kd k2:IntKind} {x y:Int} {t:TypeId} {K:AV → Prop} {k:Box K} (hk:sameKind op kd k2) (h:binI op kd x y k) :
  ∃ z cv,K z ∧ (∀ w',Ext w w' → (binOp op t (.int kd x) (.int k2 y)).run P w' = .ok cv w') ∧ RepV b₀ β g ob w z cv:=by
 cases op <;> simp only [binI,sameKind] at h hk <;> (try subst hk)
 case quo=>exact intRes h.2 (fun w=>by simp [binOp,Op.intDiv,h.1])
 case rem=>exact intRes h.2 (fun w=>by simp [binOp,Op.intDiv,h.1])
 case shl=>have:=Int.not_lt.2 h.1; exact intRes h.2 (fun w=>by simp [binOp,Op.shift,this])
 case shr=>have:=Int.not_lt.2 h.1; exact intRes h.2 (fun w=>by simp [binOp,Op.shift,this])
 case add=>exact intRes h (fun w=>by simp [binOp,Op.intArith])
 case sub=>exact intRes h (fun w=>by simp [binOp,Op.intArith])
 case mul=>exact intRes h (fun w=>by simp [binOp,Op.intArith])
 case and=>exact intRes h (fun w=>by simp [binOp,Op.intBits])
 case or=>exact intRes h (fun w=>by simp [binOp,Op.intBits])
 case xor=>exact intRes h (fun w=>by simp [binOp,Op.intBits])
 case andNot=>exact intRes h (fun w=>by simp [binOp,Op.intBits])
 case eql=>exact boolRes h (fun w=>by simp [binOp,Op.intCmp]; rfl)
 case neq=>exact boolRes h (fun w=>by simp [binOp,Op.intCmp]; rfl)
 all_goals exact boolRes h (fun w=>by simp [binOp,Op.intCmp])
theorem beq_dec (x y:List UInt8):(x == y) = decide (x = y):=by rw [Bool.eq_iff_iff]; simp
theorem append_mk (x y:List UInt8):(⟨x.toArray⟩:ByteArray) ++ (⟨y.toArray⟩:ByteArray) = ⟨(x ++ y).toArray⟩:=by
 apply ByteArray.ext; simp
theorem run_binS {op:BinOp} {x y:List UInt8} {t:TypeId} {K:AV → Prop} {k:Box K} (h:binS op x y k) :
  ∃ z cv,K z ∧ (∀ w',Ext w w' → (binOp op t (.string ⟨x.toArray⟩) (.string ⟨y.toArray⟩)).run P w' = .ok cv w') ∧ RepV b₀ β g ob w z cv:=by
 cases op <;> simp only [binS] at h
 case add =>
  refine strRes h.2 fun w=>?_
  have h1:=h.1
  have h2:¬ (((⟨x.toArray⟩:ByteArray).size + (⟨y.toArray⟩:ByteArray).size:Nat):Int) > IntKind.i64.max:=by
   have e1:=size_mk x
   have e2:=size_mk y
   have e3:IntKind.i64.max = 9223372036854775807:=by decide
   omega
  simp only [binOp,Op.stringOp,if_neg h2,append_mk]
  rfl
 case eql=>exact boolRes h (fun w=>by simp [binOp,Op.stringOp,beq_dec])
 case neq=>exact boolRes h (fun w=>by simp [binOp,Op.stringOp,beq_dec])
 case lss=>exact boolRes h (fun w=>by simp [binOp,Op.stringOp])
 case leq=>exact boolRes h (fun w=>by simp [binOp,Op.stringOp,beq_dec])
 case gtr=>exact boolRes h (fun w=>by simp [binOp,Op.stringOp,beq_dec])
 case geq=>exact boolRes h (fun w=>by simp [binOp,Op.stringOp])
theorem run_eqGuard_int (op:BinOp) (t:TypeId) (x y:Operand) (a b:Value) (h:∀ cs,a ≠ .agg cs) (h2:a ≠ .nilIface):(eqGuard op t x y a b).run P w = .ok () w:=by
 unfold eqGuard
 cases op <;> (try rfl) <;> (cases a <;> first | (exfalso; exact h _ rfl) | (exfalso; exact h2 rfl) | rfl)
theorem run_equal_bool {t:TypeId} (hu:P.underlying t = some .bool) (a b:Bool):(Op.equal t (.bool a) (.bool b)).run P w = .ok (a == b) w:=by
 obtain ⟨d,hd⟩:∃ d,Op.maxDepth = d + 1:=⟨9999,rfl⟩
 unfold Op.equal
 rw [hd]
 simp [Op.equalIn,run_underlying hu]
theorem intsC_vals {g:Nat → Nat} {ob:Obs} {k:IntKind}:∀ {cs:List C} {ns:List Int} {vs:List Value},intsC k cs = some ns → vs.length = cs.length → (∀ (i:Nat) (c:C),cs[i]? = some c → ∃ u,vs[i]? = some u ∧ RepC b₀ β g ob w c u) → vs = ns.map (Value.int k)
 | [],ns,vs,h,hl,_=>by
   cases h
   simpa using hl
 | c :: cs,ns,vs,h,hl,hr=>by
   obtain ⟨u,hu,hc⟩:=hr 0 c rfl
   match vs,hl with
   | v :: vs,hl =>
     obtain rfl:=Option.some.inj hu
     unfold intsC at h
     split at h
     ·rename_i he; cases he
     ·rename_i k' n r he
      cases he
      split at h
      ·rename_i hk
       subst hk
       cases hi:intsC k' cs with
       | none=>rw [hi] at h; cases h
       | some ms =>
         rw [hi] at h
         cases h
         simp only [RepC] at hc
         rw [hc.inv_int,intsC_vals hi (by simpa using hl) (fun i c h=>hr (i + 1) c h)]
         rfl
      ·cases h
     ·cases h
theorem run_part_int {e:TypeId} {k:IntKind} (he:P.underlying e = some (.int k)) {cs:List Value} {i:Nat} {v:Value} (h:cs[i]? = some v):(part e cs.toArray i).run P w = .ok v w:=by
 simp [part,isAgg,run_underlying he,h]
theorem run_eqItems_int {e:TypeId} {k:IntKind} (he:P.underlying e = some (.int k)) (d:Nat) {xs ys:List Int}:∀ (m j:Nat) (w:World),xs.length = j + m → ys.length = j + m →
  (Op.eqItems (d + 1) e 1 (xs.map (Value.int k)).toArray (ys.map (Value.int k)).toArray (List.range' j m)).run P w = .ok (decide (xs.drop j = ys.drop j)) w
 | 0,j,w,hx,hy=>by
   rw [List.drop_of_length_le (by omega),List.drop_of_length_le (by omega)]
   simp [Op.eqItems]
 | m + 1,j,w,hx,hy=>by
   have h1:j < xs.length:=by omega
   have h2:j < ys.length:=by omega
   rw [List.range'_succ]
   simp only [Op.eqItems,Sem.run_bind,Nat.mul_one]
   rw [run_part_int he (v:=.int k xs[j]) (by simp [h1])]
   simp only [Result.andThen_ok]
   rw [run_part_int he (v:=.int k ys[j]) (by simp [h2])]
   simp only [Result.andThen_ok]
   rw [run_equalIn_int w d e k k _ _ he]
   simp only [Result.andThen_ok]
   have he2:decide (xs.drop j = ys.drop j) = (decide (xs[j] = ys[j]) && decide (xs.drop (j + 1) = ys.drop (j + 1))):=by
    rw [List.drop_eq_getElem_cons h1,List.drop_eq_getElem_cons h2]
    simp only [List.cons.injEq,Bool.decide_and]
   rw [he2]
   by_cases h:xs[j] = ys[j]
   ·simp only [h,beq_self_eq_true,Bool.not_true,Bool.false_eq_true,if_false,decide_true,Bool.true_and]
    exact run_eqItems_int he d m (j + 1) w (by omega) (by omega)
   ·have hb:(xs[j] == ys[j]) = false:=by simpa using h
    simp [hb,h]
theorem arrE_sound (hT:TabOk P T) {g:Nat → Nat} {ob:Obs} {t n e:Nat} {xs ys:List C} {vs us:Array Value} (ht:P.underlying t = some (.array n e)) {K:Bool → Prop} {k:Box K} (h:arrE (T e) n xs ys k)
  (hv:RepCs b₀ β g ob w xs vs) (hu:RepCs b₀ β g ob w ys us):∃ b,K b ∧ ∀ w',(Op.equalIn 10000 t (.agg vs) (.agg us)).run P w' = .ok b w' ∧ P.eqGuardType P.depth t = false:=by
 unfold arrE at h
 split at h
 ·rename_i kd hd
  obtain ⟨hs,h⟩:=h
  have hte:=hT e (by rw [hd]; rfl)
  have he:=hte.desc
  rw [hd] at he
  obtain ⟨i,hi,hsz,_⟩:=hte.info
  unfold onSome at h
  split at h
  ·rename_i a ha
   split at h
   ·rename_i b hb
    obtain ⟨⟨hla,hlb⟩,hK⟩:=h
    have e1:=intsC_vals (vs:=vs.toList) ha (by simpa using hv.1) (fun i c hc=>by simpa using hv.2 i c hc)
    have e2:=intsC_vals (vs:=us.toList) hb (by simpa using hu.1) (fun i c hc=>by simpa using hu.2 i c hc)
    refine ⟨_,hK,fun w'=>⟨?_,?_⟩⟩
    ·rw [show vs = (a.map (Value.int kd)).toArray from by rw [← e1],show us = (b.map (Value.int kd)).toArray from by rw [← e2]]
     rw [run_equalIn_array w' 9999 _ _ ht hi,show P.cellsOf e = 1 by simp [Program.cellsOf,hi,hsz,hs],List.range_eq_range',run_eqItems_int he 9998 n 0 w' (by omega) (by omega)]
     rfl
    ·unfold Program.depth
     rw [show 2 * (P.types.size + Made.depth) + 2 = (2 * (P.types.size + Made.depth) + 1) + 1 from rfl]
     simp [Program.eqGuardType,ht,he]
   ·exact h.elim
  ·exact h.elim
 ·exact h.elim
theorem binA_sound (hT:TabOk P T) {s:St} {op:BinOp} {t:Nat} {x y:AV} {v u:Value} {K:AV → Prop} {k:Box K} (h:binA T (T t).desc op x y k)
  (hv:RepV b₀ β s.gen s.obj w x v) (hu:RepV b₀ β s.gen s.obj w y u) (ox oy:Operand) :
  ∃ z cv,K z ∧ (∀ w',Ext w w' → (do eqGuard op t ox oy v u; binOp op t v u:Sem Value).run P w' = .ok cv w') ∧ RepV b₀ β s.gen s.obj w z cv:=by
 unfold binA at h
 split at h
 ·simp only [RepV,RepC] at hv hu
  obtain rfl:=hv.inv_int
  obtain rfl:=hu.inv_int
  obtain ⟨z,cv,h1,h2,h3⟩:=run_binI (b₀:=b₀) (β:=β) (g:=s.gen) (ob:=s.obj) (w:=w) (P:=P) (t:=t) h.1 h.2
  exact ⟨z,cv,h1,fun w' hw'=>by rw [Sem.run_bind,run_eqGuard_int _ _ _ _ _ _ (by simp) (by simp)]; simpa using h2 w' hw',h3⟩
 ·simp only [RepV,RepC] at hv hu
  obtain rfl:=hv.inv_str
  obtain rfl:=hu.inv_str
  obtain ⟨z,cv,h1,h2,h3⟩:=run_binS (b₀:=b₀) (β:=β) (g:=s.gen) (ob:=s.obj) (w:=w) (P:=P) (t:=t) h
  exact ⟨z,cv,h1,fun w' hw'=>by rw [Sem.run_bind,run_eqGuard_int _ _ _ _ _ _ (by simp) (by simp)]; simpa using h2 w' hw',h3⟩
 ·rename_i a b
  simp only [RepV,RepC] at hv hu
  obtain rfl:=hv.inv_bool
  obtain rfl:=hu.inv_bool
  unfold binB at h
  split at h
  ·rename_i hd
   have hty:=(hT t (by rw [hd]; rfl)).desc
   rw [hd] at hty
   refine boolRes h fun w=>?_
   rw [Sem.run_bind,run_eqGuard_int _ _ _ _ _ _ (by simp) (by simp)]
   simp only [binOp,Sem.run_bind,Result.andThen_ok,run_equal_bool hty,Sem.run_pure]
   cases a <;> cases b <;> rfl
  ·rename_i hd
   have hty:=(hT t (by rw [hd]; rfl)).desc
   rw [hd] at hty
   refine boolRes h fun w=>?_
   rw [Sem.run_bind,run_eqGuard_int _ _ _ _ _ _ (by simp) (by simp)]
   simp only [binOp,Sem.run_bind,Result.andThen_ok,run_equal_bool hty,Sem.run_pure]
   cases a <;> cases b <;> rfl
  ·exact h.elim
 ·rename_i xs ys
  simp only [RepV] at hv hu
  obtain ⟨vs,rfl,hv⟩:=hv
  obtain ⟨us,rfl,hu⟩:=hu
  unfold binG at h
  split at h
  ·rename_i n e hd
   have hty:=(hT t (by rw [hd]; rfl)).desc
   rw [hd] at hty
   obtain ⟨b,hK,hr⟩:=arrE_sound hT hty h hv hu
   refine boolRes hK fun w=>?_
   rw [Sem.run_bind,run_eqGuard_agg w _ _ _ _ _ _ (hr w).2]
   simp only [Result.andThen_ok]
   rw [run_eql_struct,(hr w).1]
   rfl
  ·rename_i n e hd
   have hty:=(hT t (by rw [hd]; rfl)).desc
   rw [hd] at hty
   obtain ⟨b,hK,hr⟩:=arrE_sound hT hty h hv hu
   refine boolRes hK fun w=>?_
   rw [Sem.run_bind,run_eqGuard_agg w _ _ _ _ _ _ (hr w).2]
   simp only [Result.andThen_ok]
   rw [run_neq_struct,(hr w).1]
   rfl
  ·exact h.elim
 ·exact h.elim
theorem unA_sound {s:St} {op:UnOp} {x:AV} {v:Value} {K:AV → Prop} {k:Box K} (h:unA op x k) (hv:RepV b₀ β s.gen s.obj w x v) :
  ∃ z cv,K z ∧ (∀ w',Ext w w' → (Op.unary op v).run P w' = .ok cv w') ∧ RepV b₀ β s.gen s.obj w z cv:=by
 unfold unA at h
 split at h
 ·simp only [RepV,RepC] at hv
  obtain rfl:=hv.inv_bool
  exact boolRes h (fun w=>by simp [Op.unary])
 ·simp only [RepV,RepC] at hv
  obtain rfl:=hv.inv_int
  exact intRes h (fun w=>by simp [Op.unary,Op.intArith])
 ·exact h.elim
theorem keyEq_iff {a b:D} {kd:TypeDesc} (ha:okKey kd a = true) (hb:okKey kd b = true):keyEq a b = true ↔ dV a = dV b:=by
 cases kd <;> cases a <;> cases b <;> simp_all [okKey,keyEq,dV]
theorem isKey_of {kd:TypeDesc} {a:D} (h:okKey kd a = true):MapKept.IsKey kd (dV a):=by
 cases kd <;> cases a <;> simp_all [okKey,MapKept.IsKey,dV]
theorem RepD.key {J:Nat → Prop} {kd:TypeDesc} {a:D} {v:Value} (hk:okKey kd a = true) (h:RepD J w a v):v = dV a:=by
 cases h <;> first | rfl | (cases kd <;> simp [okKey] at hk; done)
theorem MapRep.find {R:C → Value → Prop} {kd:TypeDesc} {cs:List C} {es:List MapEntry} (h:MapRep R kd cs es) {k:D} (hk:okKey kd k = true) (i:Nat) :
  (Instr.findNow kd (dV k) es i = some none ∧ mget cs k = none ∧ ∀ c v,R c v → ∀ b,MapRep R kd (mset cs k c) (es ++ [{ key:=dV k,val:=v,born:=b }])) ∨
  ∃ j e c,Instr.findNow kd (dV k) es i = some (some (i + j,e.val)) ∧ es[j]? = some e ∧ e.key = dV k ∧ mget cs k = some c ∧ R c e.val ∧ ∀ c' v,R c' v → MapRep R kd (mset cs k c') (es.modify j fun e=>{ e with key:=dV k,val:=v }):=by
 induction h generalizing i with
 | nil=>exact .inl ⟨rfl,rfl,fun c v hr b=>.cons hk rfl hr .nil⟩
 | cons hk' h1 h2 hr ih =>
   rename_i k' c e cs es
   obtain ⟨r,hs,hiff⟩:=MapKept.sameNow_of_keys (isKey_of hk) (isKey_of hk')
   cases r with
   | true =>
     have heq:=hiff.1 rfl
     have hke:keyEq k' k = true:=(keyEq_iff hk' hk).2 heq.symm
     refine .inr ⟨0,e,c,by simp [Instr.findNow,h1,hs],rfl,by rw [h1,heq],by simp [mget,hke],h2,fun c' v hr'=>?_⟩
     simp only [mset,hke,if_true,List.modify_cons,ite_true]
     exact .cons hk' (by simpa using heq) hr' hr
   | false =>
     have hne:keyEq k' k = false:=by
      cases hq:keyEq k' k with
      | false=>rfl
      | true=>have:=hiff.2 ((keyEq_iff hk' hk).1 hq).symm; cases this
     rcases ih (i + 1) with ⟨g1,g2,g3⟩ | ⟨j,e',c',g1,g2,g3,g4,g5,g6⟩
     ·exact .inl ⟨by simp [Instr.findNow,h1,hs,g1],by simp [mget,hne,g2],fun c v hr' b=>by
       simp only [mset,hne,List.cons_append]
       exact .cons hk' h1 h2 (g3 c v hr' b)⟩
     ·refine .inr ⟨j + 1,e',c',by simp [Instr.findNow,h1,hs,g1]; omega,by simpa using g2,g3,by simp [mget,hne,g4],g5,fun c2 v hr'=>?_⟩
      simp only [mset,hne,List.modify_succ_cons]
      exact .cons hk' h1 h2 (g6 c2 v hr')
theorem zeroD_inv (hT:TabOk P T) {t:Nat} {K:D → Prop} {k:Box K} (h:zeroD (T t) k):∃ z,K z ∧ plainD z = true ∧ (∀ w,(zeroValue t).run P w = .ok (dV z) w) ∧ okD (T t).desc = true:=by
 unfold zeroD at h
 split at h
 ·rename_i z hz
  have ht:=hT t h.1.1
  obtain ⟨i,hi,hs,hb,zv,hzv,hc⟩:=ht.info
  have hp:plainD z = true:=by have:=ht.plain; rw [hz] at this; simpa using this
  refine ⟨z,h.2,hp,fun w=>?_,h.1.1⟩
  rw [hz] at hc
  have hzv':zv = dV z:=by have:=ht.zone h.1.2 i zv hi hzv; rwa [hz] at this
  simp [zeroValue,typeInfo,hi,hzv,hzv']
 ·exact h.elim
theorem lkRes_rep {g:Nat → Nat} {ob:Obs} {K:AV → Prop} {ok:Bool} {z:D} {c:Option C} {v:Value} (hK:K (lkRes ok z c)) (hv:RepC b₀ β g ob w (c.getD (.d z)) v) :
  ∃ y cv,K y ∧ (∀ w',Ext w w' → (pure (if ok then .tuple #[v,.bool c.isSome] else v):Sem Value).run P w' = .ok cv w') ∧ RepV b₀ β g ob w y cv:=by
 refine ⟨_,_,hK,fun w' _=>by rw [Sem.run_pure],?_⟩
 cases ok
 ·simp only [lkRes,RepV]; exact hv
 ·simp only [lkRes,if_true,RepV,RepVs]
  exact ⟨[v,.bool c.isSome],rfl,_,_,rfl,hv,_,_,rfl,by simp only [RepC]; exact .bool _,rfl⟩
theorem lookupA_sound (hT:TabOk P T) {N:Nat} {s:St} {a:Act} (hr:Rel b₀ N s β a w) {t:Nat} {x ix:AV} {v vi:Value} {ok:Bool} {K:AV → Prop} {k:Box K} (h:lookupA T t s x ix ok k)
  (hv:RepV b₀ β s.gen s.obj w x v) (hi:RepV b₀ β s.gen s.obj w ix vi):∃ y cv,K y ∧ (∀ w',Ext w w' → (Instr.lookup t v vi ok).run P w' = .ok cv w') ∧ RepV b₀ β s.gen s.obj w y cv:=by
 unfold lookupA at h
 split at h
 ·rename_i kt et k0 hd
  obtain ⟨⟨hok,hkey⟩,h⟩:=h
  obtain ⟨z,h,hpz,hzr,_⟩:=zeroD_inv hT h
  have hu:=(hT t (by rw [hd]; rfl)).desc
  rw [hd] at hu
  have hk:=(hT kt hok).desc
  simp only [RepV,RepC] at hi
  obtain rfl:=hi.key hkey
  have hck:∀ e w,(Instr.checkKey e 10000 kt (dV k0)).run P w = .ok () w:=fun e w=>MapKept.run_checkKey hk (isKey_of hkey) e 9999
  split at h
  ·rename_i id g kd _
   obtain ⟨hg,hkd,h⟩:=h
   obtain ⟨cells,ho,hK⟩:=onSome_inv h
   simp only [RepV,RepC] at hv
   obtain ⟨ad,hβ,hsp,rfl⟩:=hv.2.2 hg (by simp [ho])
   have hob:=hr.obj id cells ho
   rw [hβ] at hob
   obtain ⟨es,clock,hblk,hm⟩:=(hob.map hsp.1).2.resolve_right (fun h=>hsp.2 h.1)
   rw [hkd] at hm
   rcases hm.find hkey 0 with ⟨g1,g2,_⟩ | ⟨j,e,c,g1,_,_,g4,g5,_⟩
   ·obtain ⟨y,cv,q1,q2,q3⟩:=lkRes_rep (P:=P) (w:=w) (b₀:=b₀) (β:=β) (g:=s.gen) (ob:=s.obj) hK (v:=dV z) (by rw [g2]; simp only [Option.getD_none,RepC]; exact .of_plain hpz)
    refine ⟨y,cv,q1,fun w' hw'=>?_,q3⟩
    have q2:=q2 w' hw'
    rw [g2] at q2
    simp only [Sem.run_pure,Result.ok.injEq,and_true] at q2
    subst q2
    simp [Instr.lookup,run_underlying hu,MapKept.run_getObj_map (hw'.cells hblk),hck,MapKept.run_findKey hk g1,hzr]
   ·obtain ⟨y,cv,q1,q2,q3⟩:=lkRes_rep (P:=P) (w:=w) (b₀:=b₀) (β:=β) (g:=s.gen) (ob:=s.obj) hK (v:=e.val) (by rw [g4]; simpa using g5)
    refine ⟨y,cv,q1,fun w' hw'=>?_,q3⟩
    have q2:=q2 w' hw'
    rw [g4] at q2
    simp only [Sem.run_pure,Result.ok.injEq,and_true] at q2
    subst q2
    simp [Instr.lookup,run_underlying hu,MapKept.run_getObj_map (hw'.cells hblk),hck,MapKept.run_findKey hk g1]
  ·simp only [RepV,RepC] at hv
   cases hv
   obtain ⟨y,cv,q1,q2,q3⟩:=lkRes_rep (P:=P) (w:=w) (b₀:=b₀) (β:=β) (g:=s.gen) (ob:=s.obj) h (v:=dV z) (by simp only [Option.getD_none,RepC]; exact .of_plain hpz)
   refine ⟨y,cv,q1,fun w' hw'=>?_,q3⟩
   have q2:=q2 w' hw'
   simp only [Sem.run_pure,Result.ok.injEq,and_true] at q2
   subst q2
   have hf:(Instr.findKey kt (dV k0) []).run P w' = .ok none w':=MapKept.run_findKey hk rfl
   simp [Instr.lookup,run_underlying hu,hck,hf,hzr]
  ·exact h.elim
 ·exact h.elim
theorem pcOf_rep {g:Nat → Nat} {ob:Obs} {x:AV} {p:PC} {v:Value} (hp:pcOf x = some p) (hv:RepV b₀ β g ob w x v):RepPC b₀ β g ob w p v:=by
 unfold pcOf at hp
 split at hp
 ·cases hp; simpa only [RepV,RepC,RepPC] using hv
 ·cases hp; simpa only [RepV,RepC,RepPC] using hv
 ·cases hp
theorem pcsOf_rep {N:Nat} {s:St} {a:Act} (hr:Rel b₀ N s β a w):∀ (xs:List Operand) {ps:List PC},pcsOf (xs.map s.ev) = some ps → ps.length = xs.length ∧ ∀ (i:Nat) (pc:PC),ps[i]? = some pc → ∃ x,xs[i]? = some x ∧ RepPC b₀ β s.gen s.obj w pc (a.eval x)
 | [],ps,h=>by simp [pcsOf] at h; subst h; exact ⟨rfl,fun i pc h=>by simp at h⟩
 | x :: xs,ps,h=>by
   simp only [List.map_cons,pcsOf] at h
   cases h1:pcOf (s.ev x) with
   | none=>rw [h1] at h; cases h
   | some p =>
     rw [h1] at h
     cases h2:pcsOf (xs.map s.ev) with
     | none=>rw [h2] at h; cases h
     | some ps' =>
       rw [h2] at h
       simp only [Option.bind_some,Option.some.injEq] at h
       subst h
       obtain ⟨e1,e2⟩:=pcsOf_rep hr xs h2
       refine ⟨by simp [e1],fun i pc hi=>?_⟩
       cases i with
       | zero=>simp at hi; subst hi; exact ⟨x,rfl,pcOf_rep h1 (hr.ev x)⟩
       | succ i=>simpa using e2 i pc (by simpa using hi)
theorem makeFuncA_sound {N:Nat} {s:St} {a:Act} (hr:Rel b₀ N s β a w) {f:FuncId} {first caps:Array Operand} {K:AV → Prop} {k:Box K} (h:makeFuncA f first.size (caps.toList.map s.ev) k) :
  ∃ y cv,K y ∧ (∀ w',Ext w w' → (Instr.makeFunc (.func f) (first.map a.eval) (caps.map a.eval)).run P w' = .ok cv w') ∧ RepV b₀ β s.gen s.obj w y cv:=by
 obtain ⟨hn,h⟩:=h
 obtain ⟨l,hl,hK⟩:=onSome_inv h
 obtain ⟨e1,e2⟩:=pcsOf_rep hr caps.toList hl
 have hf:first = #[]:=Array.eq_empty_of_size_eq_zero hn
 subst hf
 refine ⟨_,.func (.func f) #[] (caps.map a.eval),hK,fun w' _=>by simp [Instr.makeFunc],?_⟩
 simp only [RepV,RepC]
 refine ⟨_,rfl,by simp [e1],fun i pc hi=>?_⟩
 obtain ⟨x,hx,hr'⟩:=e2 i pc hi
 have hx:caps[i]? = some x:=by simpa using hx
 exact ⟨a.eval x,by simp [hx],hr'⟩
theorem isStr_of {d:TypeDesc} (h:isStr d = true):d = .string:=by cases d <;> simp_all [isStr]
theorem lenA_sound (hT:TabOk P T) {s:St} {t:Nat} {x:AV} {v:Value} {ty:TypeId} {K:AV → Prop} {k:Box K} (h:lenA s (isStr (T t).desc) (okSl T t) x k) (hv:RepV b₀ β s.gen s.obj w x v) :
  ∃ z cv,K z ∧ (∀ w',Ext w w' → (Builtin.len_ #[t] ty #[v]).run P w' = .ok cv w') ∧ RepV b₀ β s.gen s.obj w z cv:=by
 unfold lenA at h
 split at h
 ·obtain ⟨hsl,h⟩:=h
  obtain ⟨e,_,_,hu,_⟩:=okSl_inv hT hsl
  simp only [RepV,RepC] at hv
  obtain rfl:=hv.inv_nsl
  exact intRes h (fun w=>by simp [Builtin.len_,run_underlying hu,goInt])
 ·obtain ⟨hsl,h⟩:=h
  obtain ⟨e,_,_,hu,_⟩:=okSl_inv hT hsl
  simp only [RepV,RepC] at hv
  refine intRes h fun w=>?_
  cases hv <;> simp [Builtin.len_,run_underlying hu,goInt]
 ·obtain ⟨hsl,h⟩:=h
  have hu:=(hT t (by rw [isStr_of hsl]; rfl)).desc
  rw [isStr_of hsl] at hu
  simp only [RepV,RepC] at hv
  obtain rfl:=hv.inv_str
  exact intRes h (fun w=>by simp [Builtin.len_,run_underlying hu,goInt,size_mk])
 ·obtain ⟨hsl,hg,ho,h⟩:=h
  obtain ⟨e,_,_,hu,_⟩:=okSl_inv hT hsl
  simp only [RepV] at hv
  obtain ⟨a,cap,rfl,_⟩:=(osl_live hv hg ho).slice
  exact intRes h (fun w=>by simp [Builtin.len_,run_underlying hu,goInt])
 ·obtain ⟨hsl,h⟩:=h
  obtain ⟨e,_,_,hu,_⟩:=okSl_inv hT hsl
  simp only [RepV,RepC] at hv
  obtain ⟨a,cap,rfl⟩:=hv
  exact intRes h (fun w=>by simp [Builtin.len_,run_underlying hu,goInt])
 ·exact h.elim
end
end Go.Am

namespace Go.Am
section
variable {P:Program} {T:Nat → TI} {b₀:Bs} {β:Loc} {g:Nat → Nat} {ob:Obs} {w:World}
inductive RepO (b₀:Bs) (β:Loc) (g:Nat → Nat) (ob:Obs) (w:World):Option AV → Option Value → Prop where
 | none:RepO b₀ β g ob w none none
 | some {x:AV} {v:Value} (h:RepV b₀ β g ob w x v):RepO b₀ β g ob w (some x) (some v)
theorem run_sliceBound {kd:IntKind} {i:Int} {y:Nat} {c:BoundsCode} (h0:0 ≤ i) (h1:i.toNat ≤ y):(Instr.sliceBound (.int kd i) y c).run P w = .ok i.toNat w:=by
 have:i ≤ y:=by omega
 simp [Instr.sliceBound,asIntOf,h0,this]
theorem boundA_inv {o:Option AV} {ov:Option Value} {els:Nat} {K:Nat → Prop} {k:Box K} (h:boundA o els k) (ho:RepO b₀ β g ob w o ov) :
  ∃ n,K n ∧ ((ov = none ∧ n = els) ∨ ∃ kd i,ov = some (.int kd i) ∧ 0 ≤ i ∧ n = i.toNat):=by
 unfold boundA at h
 split at h
 ·cases ho
  exact ⟨_,h,.inl ⟨rfl,rfl⟩⟩
 ·cases ho with
  | some hv =>
    simp only [RepV,RepC] at hv
    obtain rfl:=hv.inv_int
    exact ⟨_,h.2,.inr ⟨_,_,rfl,h.1,rfl⟩⟩
 ·exact h.elim
theorem run_sliceBounds {b:Bool} {len cap h l:Nat} {ho lo:Option Value}
  (hh:(ho = none ∧ h = len) ∨ ∃ kd i,ho = some (.int kd i) ∧ 0 ≤ i ∧ h = i.toNat) (hl:(lo = none ∧ l = 0) ∨ ∃ kd i,lo = some (.int kd i) ∧ 0 ≤ i ∧ l = i.toNat)
  (h1:l ≤ h) (h2:h ≤ cap):(Instr.sliceBounds b len cap lo ho none).run P w = .ok (l,h,cap) w:=by
 rcases hh with ⟨rfl,rfl⟩ | ⟨kd,i,rfl,hi,rfl⟩ <;> rcases hl with ⟨rfl,rfl⟩ | ⟨kd',i',rfl,hi',rfl⟩ <;>
  simp [Instr.sliceBounds,run_sliceBound, *]
theorem extract_mk (s:List UInt8) (l h:Nat):(⟨s.toArray⟩:ByteArray).extract l h = ⟨((s.take h).drop l).toArray⟩:=by
 apply ByteArray.ext
 apply Array.ext'
 rw [ByteArray.data_extract]
 simp [List.drop_take]
theorem sliceA_sound (hT:TabOk P T) {s:St} {t:Nat} {x:AV} {v:Value} {lo hi:Option AV} {lv hv':Option Value} {K:AV → Prop} {k:Box K}
  (h:sliceA s (isStr (T t).desc) (okSl T t) (elemTI T t).size x lo hi k) (hv:RepV b₀ β s.gen s.obj w x v)
  (hlo:RepO b₀ β s.gen s.obj w lo lv) (hhi:RepO b₀ β s.gen s.obj w hi hv') :
  ∃ y cv,K y ∧ (∀ w',Ext w w' → (Instr.sliceAt t v lv hv' none).run P w' = .ok cv w') ∧ RepV b₀ β s.gen s.obj w y cv:=by
 unfold sliceA at h
 split at h
 ·rename_i bs
  obtain ⟨hs,h⟩:=h
  obtain ⟨hn,h,hh⟩:=boundA_inv h hhi
  obtain ⟨ln,⟨h1,h2,hK⟩,hl⟩:=boundA_inv h hlo
  have hu:=(hT t (by rw [isStr_of hs]; rfl)).desc
  rw [isStr_of hs] at hu
  simp only [RepV,RepC] at hv
  obtain rfl:=hv.inv_str
  refine strRes hK fun w=>?_
  have this:=fun w=>run_sliceBounds (P:=P) (w:=w) (b:=false) (len:=bs.length) (cap:=bs.length) hh hl h1 h2
  simp [Instr.sliceAt,run_underlying hu,Instr.slice,size_mk,this,extract_mk]
 ·rename_i es
  obtain ⟨hs,h⟩:=h
  obtain ⟨hn,h,hh⟩:=boundA_inv h hhi
  obtain ⟨ln,⟨h1,h2,hsz,hK⟩,hl⟩:=boundA_inv h hlo
  obtain ⟨e,he1,he2,hu,hte⟩:=okSl_inv hT hs
  rw [he2] at hsz
  simp only [RepV,RepC] at hv
  have hlen:((es.take hn).drop ln).length = hn - ln:=by simp; omega
  cases hv with
  | @sl0 a cap =>
    have h0:hn = 0:=by simpa using h2
    subst h0
    have h0':ln = 0:=by omega
    subst h0'
    have this:=fun w=>run_sliceBounds (P:=P) (w:=w) (b:=true) (len:=0) (cap:=cap) hh hl h1 (Nat.zero_le _)
    refine ⟨_,.slice a 0 cap,hK,fun w' _=>?_,?_⟩
    ·have ha:a.map (fun x=>x.add 0) = a:=by cases a <;> simp [Addr.add]
     simp [Instr.sliceAt,run_underlying hu,Instr.slice,this,run_sizeOf' hte,ha]
    ·simp only [RepV,RepC]; exact .sl0
  | sl vals hcap hJ hs' hcl hrd =>
    rename_i b off cap sz
    have hb:=fun w=>run_sliceBounds (P:=P) (w:=w) (b:=true) (len:=es.length) (cap:=cap) hh hl h1 (by omega)
    by_cases hc:cap = ln
    ·subst hc
     refine ⟨_,.slice (some ⟨b,off,none⟩) (hn - cap) (cap - cap),hK,fun w' _=>by simp [Instr.sliceAt,run_underlying hu,Instr.slice,hb,run_sizeOf' hte],?_⟩
     simp only [RepV,RepC]
     have hnil:(es.take hn).drop cap = []:=List.eq_nil_of_length_eq_zero (by rw [hlen]; omega)
     rw [hnil,← hlen,hnil]
     exact .sl (sz:=sz) (fun _ _=>undef) (by simp) (fun h=>absurd rfl h) (fun _ h=>by cases h) (fun _ _ h=>by cases h) (fun _ _ h=>by cases h)
    ·refine ⟨_,.slice (some ⟨b,off + ln * (T e).size,none⟩) (hn - ln) (cap - ln),hK,fun w' _=>by simp [Instr.sliceAt,run_underlying hu,Instr.slice,hb,run_sizeOf' hte,hc,addr_add],?_⟩
     simp only [RepV,RepC]
     rw [← hlen]
     have hget:∀ (i:Nat) (y:List D),((es.take hn).drop ln)[i]? = some y → es[ln + i]? = some y:=fun i y hy=>by
      rw [List.getElem?_drop,List.getElem?_take] at hy
      split at hy
      ·exact hy
      ·cases hy
     by_cases hne:es = []
     ·subst hne
      simp only [List.take_nil,List.drop_nil]
      exact .sl (sz:=sz) (fun _ _=>undef) (by simp) (fun h=>absurd rfl h) (fun _ h=>by cases h) (fun _ _ h=>by cases h) (fun _ _ h=>by cases h)
     ·have hsz2:(T e).size = sz:=by
       obtain ⟨y,hy⟩:=List.exists_mem_of_ne_nil es hne
       rw [← hsz y hy,hs' y hy]
      rw [hsz2]
      refine .sl (fun i j=>vals (ln + i) j) (by rw [hlen]; omega) (fun _=>hJ hne) (fun y hy=>hs' y (List.mem_of_mem_take (List.mem_of_mem_drop hy))) (fun i y hy j z hz=>?_) (fun i y hy j z hz=>hrd _ _ (hget i y hy) j z hz)
      have:=hcl _ _ (hget i y hy) j z hz
      rw [Nat.add_mul] at this
      rwa [← Nat.add_assoc] at this
 ·obtain ⟨hs,h⟩:=h
  obtain ⟨hn,h,hh⟩:=boundA_inv h hhi
  obtain ⟨ln,⟨rfl,rfl,hK⟩,hl⟩:=boundA_inv h hlo
  obtain ⟨e,he1,he2,hu,hte⟩:=okSl_inv hT hs
  simp only [RepV,RepC] at hv
  obtain rfl:=hv.inv_nsl
  have this:=fun w=>run_sliceBounds (P:=P) (w:=w) (b:=true) (len:=0) (cap:=0) hh hl (Nat.le_refl _) (Nat.le_refl _)
  refine ⟨_,.slice none 0 0,hK,fun w' _=>by simp [Instr.sliceAt,run_underlying hu,Instr.slice,this,run_sizeOf' hte],?_⟩
  simp only [RepV,RepC]; exact .nsl
 ·rename_i id g' sz' off len
  obtain ⟨hs,hg,ho,h⟩:=h
  obtain ⟨hn,h,hh⟩:=boundA_inv h hhi
  obtain ⟨ln,⟨h1,h2,heq,hK⟩,hl⟩:=boundA_inv h hlo
  obtain ⟨e,he1,he2,hu,hte⟩:=okSl_inv hT hs
  rw [he2] at heq hK
  subst heq
  clear h
  simp only [RepV] at hv
  have hat:=osl_live hv hg ho
  cases hβ:β id with
  | none =>
    rw [hβ] at hat
    obtain ⟨rfl,rfl⟩:=hat
    have e1:hn = 0:=by omega
    have e2:ln = 0:=by omega
    subst e1; subst e2
    have this:=fun w=>run_sliceBounds (P:=P) (w:=w) (b:=true) (len:=0) (cap:=0) hh hl (Nat.le_refl _) (Nat.le_refl _)
    refine ⟨_,.slice none 0 0,hK,fun w' _=>by simp [Instr.sliceAt,run_underlying hu,Instr.slice,this,run_sizeOf' hte],?_⟩
    simp only [RepV,RepC]
    exact ⟨rfl,hv.2.1,fun _ _=>by rw [hβ]; exact ⟨by simp,rfl⟩⟩
  | some ad =>
    rw [hβ] at hat
    obtain ⟨hsp,hat⟩:=hat
    rcases hat with ⟨cap,rfl,hcap,hfit⟩ | ⟨rfl,o,rfl⟩
    ·have hb:=fun w=>run_sliceBounds (P:=P) (w:=w) (b:=true) (len:=len) (cap:=cap) hh hl h1 (by omega)
     by_cases hc:cap = ln
     ·subst hc
      refine ⟨_,.slice (some ⟨ad.block,ad.off + off,none⟩) (hn - cap) (cap - cap),hK,fun w' _=>by simp [Instr.sliceAt,run_underlying hu,Instr.slice,hb,run_sizeOf' hte],?_⟩
      simp only [RepV,RepC]
      have e1:hn - cap = 0:=by omega
      refine ⟨rfl,hv.2.1,fun _ _=>?_⟩
      rw [hβ,e1,Nat.sub_self]
      exact ⟨hsp,.inr ⟨rfl,ad.off + off,rfl⟩⟩
     ·refine ⟨_,.slice (some ⟨ad.block,ad.off + off + ln * (T e).size,none⟩) (hn - ln) (cap - ln),hK,fun w' _=>by simp [Instr.sliceAt,run_underlying hu,Instr.slice,hb,run_sizeOf' hte,hc,addr_add],?_⟩
      simp only [RepV,RepC]
      refine ⟨rfl,hv.2.1,fun _ _=>?_⟩
      rw [hβ]
      refine ⟨hsp,.inl ⟨cap - ln,by simp [Nat.add_assoc],by omega,fun arr el fr hh'=>?_⟩⟩
      have:=hfit arr el fr hh'
      have e3:cap = ln + (cap - ln):=by omega
      rw [e3,Nat.add_mul] at this
      omega
    ·have e1:hn = 0:=by omega
     have e2:ln = 0:=by omega
     subst e1; subst e2
     have this:=fun w=>run_sliceBounds (P:=P) (w:=w) (b:=true) (len:=0) (cap:=0) hh hl (Nat.le_refl _) (Nat.le_refl _)
     refine ⟨_,.slice (some ⟨ad.block,o,none⟩) 0 0,hK,fun w' _=>by simp [Instr.sliceAt,run_underlying hu,Instr.slice,this,run_sizeOf' hte],?_⟩
     simp only [RepV,RepC]
     exact ⟨rfl,hv.2.1,fun _ _=>by rw [hβ]; exact ⟨hsp,.inr ⟨by simp,o,rfl⟩⟩⟩
 ·exact h.elim
end
end Go.Am

namespace Go.Am
theorem setCells_size (b:Nat):∀ (vs:List Value) (o:Nat) (w:World),(w.setCells b o vs).heap.size = w.heap.size
 | [],_,_=>rfl
 | v :: r,o,w=>by rw [World.setCells,setCells_size b r]; simp
theorem setCells_os (b:Nat):∀ (vs:List Value) (o:Nat) (w:World),(w.setCells b o vs).os = w.os ∧ (w.setCells b o vs).output = w.output
 | [],_,_=>⟨rfl,rfl⟩
 | v :: r,o,w=>by rw [World.setCells]; exact setCells_os b r _ _
theorem heap_setCell (w:World) (b o:Nat) (v:Value) (c:Nat):(w.setCell ⟨b,o,none⟩ v).heap[c]? =
  if c = b then (match w.heap[c]? with | some (.cells arr el fr)=>some (.cells (arr.setIfInBounds o v) el fr) | x=>x) else w.heap[c]?:=by
 simp only [World.setCell]
 by_cases h:c = b
 ·subst h
  simp only [if_true]
  rw [Array.getElem?_modify]
  simp only [if_true]
  cases hw:w.heap[c]? with
  | none=>rfl
  | some o'=>cases o' <;> simp
 ·simp only [h,if_false]
  rw [Array.getElem?_modify]
  simp [Ne.symm h]
theorem heap_setCells_other (b:Nat):∀ (vs:List Value) (o:Nat) (w:World) (c:Nat),c ≠ b → (w.setCells b o vs).heap[c]? = w.heap[c]?
 | [],_,_,_,_=>rfl
 | v :: r,o,w,c,h=>by rw [World.setCells,heap_setCells_other b r _ _ c h,heap_setCell]; simp [h]
theorem heap_setCells_same (b:Nat):∀ (vs:List Value) (o:Nat) (w:World) (arr:Array Value) (el:TypeId) (fr:Nat × Nat),w.heap[b]? = some (.cells arr el fr) →
  ∃ arr',(w.setCells b o vs).heap[b]? = some (.cells arr' el fr) ∧ arr'.size = arr.size ∧ ∀ j,arr'[j]? = if o ≤ j ∧ j < o + vs.length ∧ j < arr.size then vs[j - o]? else arr[j]?
 | [],o,w,arr,el,fr,h=>⟨arr,h,rfl,fun j=>by rw [if_neg (by simp; omega)]⟩
 | v :: r,o,w,arr,el,fr,h=>by
   have h1:(w.setCell ⟨b,o,none⟩ v).heap[b]? = some (.cells (arr.setIfInBounds o v) el fr):=by rw [heap_setCell]; simp [h]
   obtain ⟨arr',e1,e2,e3⟩:=heap_setCells_same b r (o + 1) _ _ el fr h1
   refine ⟨arr',e1,by simpa using e2,fun j=>?_⟩
   rw [e3 j]
   simp only [Array.size_setIfInBounds,List.length_cons]
   by_cases hj:j = o
   ·subst hj
    rw [if_neg (by omega)]
    by_cases hs:j < arr.size
    ·rw [if_pos (by omega),Array.getElem?_setIfInBounds_self_of_lt hs]; simp
    ·rw [if_neg (by omega)]; simp [hs]
   ·by_cases hc:o + 1 ≤ j ∧ j < o + 1 + r.length ∧ j < arr.size
    ·rw [if_pos hc,if_pos (by omega)]
     have:j - o = (j - (o + 1)) + 1:=by omega
     rw [this,List.getElem?_cons_succ]
    ·rw [if_neg hc,if_neg (by omega),Array.getElem?_setIfInBounds_ne (Ne.symm hj)]
theorem setAt_length:∀ (cs:List C) (off:Nat) (cells:List C),(setAt cells off cs).length = cells.length
 | [],_,_=>rfl
 | c :: cs,off,cells=>by rw [setAt,setAt_length cs]; simp
theorem setAt_get:∀ (cs:List C) (off:Nat) (cells:List C) (j:Nat),(setAt cells off cs)[j]? = if off ≤ j ∧ j < off + cs.length ∧ j < cells.length then cs[j - off]? else cells[j]?
 | [],off,cells,j=>by rw [setAt,if_neg (by simp; omega)]
 | c :: cs,off,cells,j=>by
   rw [setAt,setAt_get cs]
   simp only [List.length_set,List.length_cons]
   by_cases hj:j = off
   ·subst hj
    rw [if_neg (by omega)]
    by_cases hs:j < cells.length
    ·rw [if_pos (by omega)]; simp [hs]
    ·rw [if_neg (by omega)]; simp [hs]
   ·by_cases hc:off + 1 ≤ j ∧ j < off + 1 + cs.length ∧ j < cells.length
    ·rw [if_pos hc,if_pos (by omega)]
     have:j - off = (j - (off + 1)) + 1:=by omega
     rw [this,List.getElem?_cons_succ]
    ·rw [if_neg hc,if_neg (by omega),List.getElem?_set_ne (Ne.symm hj)]
section
variable {P:Program} {T:Nat → TI} {b₀:Bs} {β:Loc} {w:World}
theorem RepV.cells {g:Nat → Nat} {ob:Obs} {x:AV} {v:Value} {cs:List C} (hx:cellsOf x = some cs) (hv:RepV b₀ β g ob w x v) :
  ∃ vs:List Value,v.cells = vs.toArray ∧ vs.length = cs.length ∧ (∀ (j:Nat) (c:C),cs[j]? = some c → ∃ u,vs[j]? = some u ∧ RepC b₀ β g ob w c u) ∧ ∀ u ∈ vs,u.oneCell' = true:=by
 cases x with
 | one c =>
   simp only [cellsOf,Option.some.injEq] at hx
   subst hx
   simp only [RepV] at hv
   have h1:=hv.one
   refine ⟨[v],by cases v <;> first | rfl | (simp [Value.oneCell'] at h1),rfl,fun j c' hc=>?_,fun u hu=>by simpa using (List.mem_singleton.1 hu ▸ h1)⟩
   cases j with
   | zero=>simp at hc; subst hc; exact ⟨v,rfl,hv⟩
   | succ j=>simp at hc
 | agg cs' =>
   simp only [cellsOf,Option.some.injEq] at hx
   subst hx
   simp only [RepV] at hv
   obtain ⟨vs,rfl,h1,h2⟩:=hv
   refine ⟨vs.toList,by simp [Value.cells],by simpa using h1,fun j c hc=>by simpa using h2 j c hc,fun u hu=>?_⟩
   obtain ⟨i,hi⟩:=List.getElem?_of_mem hu
   have hlt:i < cs'.length:=by
    have:=(List.getElem?_eq_some_iff.1 hi).1
    simp at this; omega
   obtain ⟨u',hu',hr⟩:=h2 i _ (List.getElem?_eq_getElem hlt)
   have:u' = u:=by simpa [hu'] using hi
   subst this
   exact hr.one
 | tup=>simp [cellsOf] at hx
 | junk=>simp [cellsOf] at hx
theorem frozen_of {arr:Array Value} {el:TypeId} {lo hi b j:Nat} (h:w.heap[b]? = some (.cells arr el (lo,hi))) (hf:hi ≤ lo ∨ arr.size ≤ lo) (hj:j < arr.size) :
  w.frozen? ⟨b,j,none⟩ = false:=by
 simp only [World.frozen?,h,Bool.and_eq_false_iff,decide_eq_false_iff_not]
 omega
theorem run_storeVar_at {t:Nat} {ti:TI} (ht:TyOk P t ti) {b o:Nat} {v:Value} {vs:List Value} (hv:v.cells = vs.toArray) (hl:vs.length = ti.size) (h1:∀ u ∈ vs,u.oneCell' = true)
  {arr:Array Value} {el:TypeId} {lo hi:Nat} (hb:w.heap[b]? = some (.cells arr el (lo,hi))) (hf:hi ≤ lo ∨ arr.size ≤ lo) (hfit:o + vs.length ≤ arr.size) :
  (Instr.storeAt t (.pointer (some ⟨b,o,none⟩)) v).run P w = .ok () (w.setCells b o vs):=by
 have:=run_storeCells_cells (P:=P) b o vs 0 w (fun j hj=>by
   rw [cell?_of_arr hb,Array.getElem?_eq_getElem (by omega)]; rfl) (fun j hj=>frozen_of hb hf (by omega)) h1
 simp only [Nat.add_zero] at this
 simp [Instr.storeAt,Instr.sureAddr,storeVar,run_sizeOf' ht,hv,hl,this]
theorem storeA_sound (hT:TabOk P T) {N:Nat} {s:St} {a:Act} (hr:Rel b₀ N s β a w) {t:Nat} {x y:AV} {v u:Value} {K:St → Prop} {k:Box K} (h:storeA (T t) s x y k)
  (hv:RepV b₀ β s.gen s.obj w x v) (hu:RepV b₀ β s.gen s.obj w y u) :
  ∃ s' w',K s' ∧ (Instr.storeAt t v u).run P w = .ok () w' ∧ Rel b₀ N s' β a w' ∧ Tr b₀ β s w β s' w':=by
 unfold storeA at h
 split at h
 ·rename_i id g off
  obtain ⟨hok,hg,h⟩:=h
  obtain ⟨cs,hcs,hsz,h⟩:=onSome_inv h
  obtain ⟨cells,ho,hfit,hK⟩:=onSome_inv h
  have ht:=hT t hok
  simp only [RepV,RepC] at hv
  obtain ⟨ad,hβ,hsp,rfl⟩:=hv.2.2 hg (by simp [ho])
  have hob:=hr.obj id cells ho
  rw [hβ] at hob
  obtain ⟨hB,arr,el,lo,hi,hblk,hfr,hlen,hcells⟩:=hob.cells hsp
  obtain ⟨vs,e1,e2,e3,e4⟩:=RepV.cells hcs hu
  have hw:=run_storeVar_at (w:=w) ht (b:=ad.block) (o:=ad.off + off) e1 (by rw [e2,hsz]) e4 hblk hfr.1 (by omega)
  obtain ⟨arr',f1,f2,f3⟩:=heap_setCells_same ad.block vs (ad.off + off) w arr el (lo,hi) hblk
  have hsome:∀ i,(upd s.obj id (some (setAt cells off cs)) i).isSome = (s.obj i).isSome:=fun i=>by
   simp only [upd]
   split
   ·rename_i he; rw [he,ho]; rfl
   ·rfl
  have hkeep:Keep b₀ β s.gen s.obj w β s.gen (upd s.obj id (some (setAt cells off cs))) (w.setCells ad.block (ad.off + off) vs):=by
   refine ⟨fun b hb=>?_,fun _=>Nat.le_refl _,fun i _ hi'=>?_⟩
   ·have hne:b ≠ ad.block:=fun he=>hb.2.2 id ad (by simp [ho]) hβ he.symm
    refine ⟨⟨by rw [setCells_size]; exact hb.1,hb.2.1,fun i a' hi'=>hb.2.2 i a' (by rw [← hsome i]; exact hi')⟩,heap_setCells_other _ _ _ _ _ hne⟩
   ·rw [hsome i] at hi'
    refine ⟨hi',rfl,fun a' ha' arr1 el1 fr1 h1=>?_⟩
    by_cases hb:a'.block = ad.block
    ·rw [hb] at h1 ⊢
     rw [f1] at h1
     cases h1
     exact ⟨arr,el,(lo,hi),hblk,by omega⟩
    ·rw [heap_setCells_other _ _ _ _ _ hb] at h1
     exact ⟨arr1,el1,fr1,h1,Nat.le_refl _⟩
  refine ⟨_,_,hK,hw,⟨hr.defers,hr.size,fun i=>RepV.keep hkeep _ (hr.f i),fun i cells' hc'=>?_,fun i i' a1 a2 h1 h2=>hr.inj i i' a1 a2 (by rw [← hsome i]; exact h1) (by rw [← hsome i']; exact h2),by rw [setCells_size]; exact hr.base⟩,
   by rw [setCells_size]; exact Nat.le_refl _,fun b hb=>heap_setCells_other _ _ _ _ _ (by omega),hkeep,setCells_os _ _ _ _⟩
  by_cases hid:i = id
  ·subst hid
   simp only [upd,if_true,Option.some.injEq] at hc'
   subst hc'
   rw [hβ]
   refine .ofCells hsp ⟨hB,arr',el,lo,hi,f1,by rw [f2]; exact hfr,by rw [setAt_length,f2]; exact hlen,fun j c hc=>?_⟩
   rw [setAt_get] at hc
   rw [f3]
   split at hc
   ·rename_i hin
    obtain ⟨u',hu',hr'⟩:=e3 _ c hc
    refine ⟨u',?_,hr'.keep hkeep⟩
    rw [if_pos (by omega),show ad.off + j - (ad.off + off) = j - off by omega]
    exact hu'
   ·rename_i hin
    obtain ⟨u',hu',hr'⟩:=hcells j c hc
    have hjl:j < cells.length:=(List.getElem?_eq_some_iff.1 hc).1
    refine ⟨u',?_,hr'.keep hkeep⟩
    rw [if_neg (by omega)]
    exact hu'
  ·have hc'':s.obj i = some cells':=by simpa [upd,hid] using hc'
   refine (hr.obj i cells' hc'').keep hkeep (fun a' ha'=>heap_setCells_other _ _ _ _ _ (fun hb=>hid (hr.inj i id a' ad (by simp [hc'']) (by simp [ho]) ha' hβ hb)))
 ·exact h.elim
theorem Rel.newAny {N c:Nat} {s:St} {a:Act} (hr:Rel b₀ N s β a w) (d:Nat) {w':World} {o:Obj} {ad:Addr} (had:ad.block = w.heap.size) (hw:w'.heap = w.heap.push o) (hos:w'.os = w.os ∧ w'.output = w.output) {cs:List C}
  (hobj:Keep b₀ β s.gen s.obj w (upd β d (some ad)) (s.newC c d cs).gen (s.newC c d cs).obj w' → ObjAt b₀ (upd β d (some ad)) (s.newC c d cs).gen (s.newC c d cs).obj w' (nxC c (s.gen d)) cs (some ad)) :
  Rel b₀ N (s.newC c d cs) (upd β d (some ad)) a w' ∧ Tr b₀ β s w (upd β d (some ad)) (s.newC c d cs) w':=by
 have hold:∀ b,b < w.heap.size → w'.heap[b]? = w.heap[b]?:=fun b hb=>by rw [hw,Array.getElem?_push,if_neg (by omega)]
 have hkeep:Keep b₀ β s.gen s.obj w (upd β d (some ad)) (s.newC c d cs).gen (s.newC c d cs).obj w':=by
  refine ⟨fun b hb=>⟨⟨by rw [hw]; simp; have:=hb.1; omega,hb.2.1,fun i a' hi hβ'=>?_⟩,hold b hb.1⟩,fun i=>?_,fun i hg hi=>?_⟩
  ·simp only [St.newC,upd] at hi hβ'
   split at hβ'
   ·cases hβ'; have:=hb.1; omega
   ·rename_i hne
    simp only [hne,if_false] at hi
    exact hb.2.2 i a' hi hβ'
  ·simp only [St.newC,upd]; split
   ·rename_i he; subst he; exact Nat.le_of_lt (nxC_lt _ _)
   ·exact Nat.le_refl _
  ·simp only [St.newC,upd] at hg hi ⊢
   by_cases hne:i = d
   ·subst hne; simp at hg; exact absurd hg (nxC_ne _ _)
   ·simp only [hne,if_false] at hi ⊢
    refine ⟨hi,trivial,fun a' ha' arr1 el1 fr1 h1=>?_⟩
    have hlt:a'.block < w.heap.size:=by
     obtain ⟨cells,hc⟩:=Option.isSome_iff_exists.1 hi
     have:=hr.obj i cells hc
     rw [ha'] at this
     exact this.block.2
    rw [hold _ hlt] at h1
    exact ⟨arr1,el1,fr1,h1,Nat.le_refl _⟩
 refine ⟨⟨hr.defers,hr.size,fun i=>RepV.keep hkeep _ (hr.f i),fun i cells' hc'=>?_,fun i i' a1 a2 h1 h2 hb1 hb2 hb=>?_,?_⟩,?_,?_,hkeep,hos⟩
 ·simp only [St.newC,upd] at hc' ⊢
  by_cases hid:i = d
  ·subst hid
   simp only [if_true,Option.some.injEq] at hc' ⊢
   subst hc'
   exact hobj hkeep
  ·simp only [hid,if_false] at hc' ⊢
   refine (hr.obj i cells' hc').keep hkeep (fun a' ha'=>hold _ ?_)
   have:=hr.obj i cells' hc'
   rw [ha'] at this
   exact this.block.2
 ·have hlt:∀ (i:Nat) (a':Addr),(s.obj i).isSome = true → β i = some a' → a'.block < w.heap.size:=fun i a' hi ha'=>by
   obtain ⟨cells,hc⟩:=Option.isSome_iff_exists.1 hi
   have:=hr.obj i cells hc
   rw [ha'] at this
   exact this.block.2
  simp only [St.newC,upd] at h1 h2 hb1 hb2
  by_cases hi:i = d <;> by_cases hi':i' = d
  ·rw [hi,hi']
  ·simp only [hi,hi',if_true,if_false] at h1 h2 hb1 hb2
   cases hb1
   have:=hlt i' a2 h2 hb2
   omega
  ·simp only [hi,hi',if_true,if_false] at h1 h2 hb1 hb2
   cases hb2
   have:=hlt i a1 h1 hb1
   omega
  ·simp only [hi,hi',if_false] at h1 h2 hb1 hb2
   exact hr.inj i i' a1 a2 h1 h2 hb1 hb2 hb
 ·rw [hw]; simp; have:=hr.base; omega
 ·rw [hw]; simp
 ·intro b hb; exact hold b (by have:=hr.base; omega)
theorem Rel.new {N:Nat} (c:Nat) {s:St} {a:Act} (hr:Rel b₀ N s β a w) (d:Nat) {w':World} {arr:Array Value} {el:TypeId} (hw:w'.heap = w.heap.push (.cells arr el (0,0))) (hos:w'.os = w.os ∧ w'.output = w.output) {cs:List C} (hlen:cs.length ≤ arr.size)
  (hel:c ≠ 0 → c < 1000000 → el + 1 = c) (hcells:∀ (j:Nat) c,cs[j]? = some c → ∃ v,arr[j]? = some v ∧ RepC b₀ β s.gen s.obj w c v) :
  Rel b₀ N (s.newC c d cs) (upd β d (some ⟨w.heap.size,0,none⟩)) a w' ∧ Tr b₀ β s w (upd β d (some ⟨w.heap.size,0,none⟩)) (s.newC c d cs) w' :=
 hr.newAny d rfl hw hos fun hkeep=>.ofCells rfl ⟨hr.base,arr,el,0,0,by rw [hw]; simp,⟨.inl (Nat.le_refl _),fun h=>⟨by rw [code_nxC] at h ⊢; split at h <;> rename_i hc <;> simp_all,rfl⟩⟩,by simpa using hlen,fun j c hc =>
  let ⟨v,hv,hrc⟩:=hcells j c hc
  ⟨v,by simpa using hv,hrc.keep hkeep⟩⟩
theorem keyCode_le (d:TypeDesc):keyCode d ≤ 9:=by unfold keyCode; split <;> simp
theorem makeMapA_sound {N:Nat} {s:St} {a:Act} (hr:Rel b₀ N s β a w) {t i d:Nat} (hd:d < N) {K:St → Prop} {k:Box K} (h:makeMapA T t i d s k) :
  ∃ s' β' w' cv,K s' ∧ (Instr.makeMap t none).run P w = .ok cv w' ∧ Rel b₀ N s' β' (a.put (some d) cv) w' ∧ Tr b₀ β s w β' s' w':=by
 unfold makeMapA at h
 split at h
 ·rename_i kt et hdsc
  obtain ⟨hkd,hK⟩:=h
  obtain ⟨r1,r2⟩:=hr.newAny (c:=0) i (w':=w.alloc (.map #[] 0)) (o:=.map #[] 0) (ad:=⟨w.heap.size,0,some (keyCode (T kt).desc)⟩) (cs:=[]) rfl rfl ⟨rfl,rfl⟩
   (fun hkeep=>.ofMap rfl ⟨hr.base,.inl ⟨#[],0,(MapKept.heap_alloc w _).1,.nil⟩⟩)
  refine ⟨_,_,_,.map (some w.heap.size),hK,by simp [Instr.makeMap],r1.put (fun d' hd'=>by cases hd'; exact hd) ?_,r2.trans (Tr.same (St.put_gen _ _ _) (St.put_obj _ _ _) rfl)⟩
  simp only [RepV,RepC]
  exact ⟨rfl,by simp [St.newC,upd],fun _ _=>⟨_,by simp [upd]; rfl,⟨rfl,by have:=keyCode_le (T kt).desc; omega⟩,rfl⟩⟩
 ·exact h.elim
theorem mapUpdateA_sound (hT:TabOk P T) {N:Nat} {s:St} {a:Act} (hr:Rel b₀ N s β a w) {t:Nat} {m ix x:AV} {v vi u:Value} {K:St → Prop} {k:Box K} (h:mapUpdateA T t s m ix x k)
  (hv:RepV b₀ β s.gen s.obj w m v) (hi:RepV b₀ β s.gen s.obj w ix vi) (hu:RepV b₀ β s.gen s.obj w x u) :
  ∃ s' w',K s' ∧ (Instr.mapUpdate t v vi u).run P w = .ok () w' ∧ Rel b₀ N s' β a w' ∧ Tr b₀ β s w β s' w':=by
 unfold mapUpdateA at h
 split at h
 ·rename_i kt et k0 id g kd c hd
  obtain ⟨⟨hok,hkey⟩,hg,hkd,h⟩:=h
  obtain ⟨cells,ho,hK⟩:=onSome_inv h
  have hty:=(hT t (by rw [hd]; rfl)).desc
  rw [hd] at hty
  have hk:=(hT kt hok).desc
  simp only [RepV,RepC] at hi hv
  simp only [RepV] at hu
  obtain rfl:=hi.key hkey
  have hck:∀ e,(Instr.checkKey e 10000 kt (dV k0)).run P w = .ok () w:=fun e=>MapKept.run_checkKey hk (isKey_of hkey) e 9999
  obtain ⟨ad,hβ,hsp,rfl⟩:=hv.2.2 hg (by simp [ho])
  have hob:=hr.obj id cells ho
  rw [hβ] at hob
  have hB:=(hob.map hsp.1).1
  obtain ⟨es,clock,hblk,hm⟩:=(hob.map hsp.1).2.resolve_right (fun h=>hsp.2 h.1)
  rw [hkd] at hm
  have hlt:=(Array.getElem?_eq_some_iff.1 hblk).1
  obtain ⟨es',clock',hrun,hm'⟩:∃ es' clock',(Instr.mapUpdate t (.map (some ad.block)) (dV k0) u).run P w = .ok () { w with heap:=w.heap.setIfInBounds ad.block (.map es' clock') } ∧
    ∀ R:C → Value → Prop,(∀ c v,RepC b₀ β s.gen s.obj w c v → R c v) → MapRep R (T kt).desc (mset cells k0 c) es'.toList:=by
   rcases hm.find hkey 0 with ⟨g1,g2,g3⟩ | ⟨j,e,c',g1,g2,g3,_,_,g6⟩
   ·refine ⟨es.push { key:=dV k0,val:=u,born:=clock },clock + 1,?_,fun R hR=>?_⟩
    ·simp [Instr.mapUpdate,run_underlying hty,MapKept.run_getObj_map hblk,hck,MapKept.run_findKey hk g1,MapKept.run_setObj_map _ hblk]
    ·have:=(g3 c u hu clock).mono hR
     simpa using this
   ·refine ⟨es.modify j fun e=>{ e with key:=dV k0,val:=u },clock,?_,fun R hR=>?_⟩
    ·have hj:es[j]? = some e:=by simpa using g2
     simp [Instr.mapUpdate,run_underlying hty,MapKept.run_getObj_map hblk,hck,MapKept.run_findKey hk g1,hj,g3,MapKept.run_keyThatStays (isKey_of hkey),MapKept.run_setObj_map _ hblk]
    ·have:=(g6 c u hu).mono hR
     simpa using this
  have hother:∀ b,b ≠ ad.block → (w.heap.setIfInBounds ad.block (.map es' clock'))[b]? = w.heap[b]?:=fun b hb=>by simp [Ne.symm hb]
  have hsome:∀ i,(upd s.obj id (some (mset cells k0 c)) i).isSome = (s.obj i).isSome:=fun i=>by
   simp only [upd]
   split
   ·rename_i he; rw [he,ho]; rfl
   ·rfl
  have hkeep:Keep b₀ β s.gen s.obj w β s.gen (upd s.obj id (some (mset cells k0 c))) { w with heap:=w.heap.setIfInBounds ad.block (.map es' clock') }:=by
   refine ⟨fun b hb=>?_,fun _=>Nat.le_refl _,fun i _ hi'=>?_⟩
   ·have hne:b ≠ ad.block:=fun he=>hb.2.2 id ad (by simp [ho]) hβ he.symm
    exact ⟨⟨by simpa using hb.1,hb.2.1,fun i a' hi'=>hb.2.2 i a' (by rw [← hsome i]; exact hi')⟩,hother b hne⟩
   ·rw [hsome i] at hi'
    refine ⟨hi',rfl,fun a' ha' arr1 el1 fr1 h1=>?_⟩
    by_cases hb:a'.block = ad.block
    ·rw [hb] at h1
     simp [hlt] at h1
    ·simp only [hother _ hb] at h1
     exact ⟨arr1,el1,fr1,h1,Nat.le_refl _⟩
  refine ⟨_,_,hK,hrun,⟨hr.defers,hr.size,fun i=>RepV.keep hkeep _ (hr.f i),fun i cells' hc'=>?_,fun i i' a1 a2 h1 h2=>hr.inj i i' a1 a2 (by rw [← hsome i]; exact h1) (by rw [← hsome i']; exact h2),by simpa using hr.base⟩,
   by simp,fun b hb=>hother b (by omega),hkeep,rfl,rfl⟩
  by_cases hid:i = id
  ·subst hid
   simp only [upd,if_true,Option.some.injEq] at hc'
   subst hc'
   rw [hβ]
   refine .ofMap hsp.1 ⟨hB,.inl ⟨es',clock',by simp [hlt],?_⟩⟩
   rw [hkd]
   exact hm' _ (fun _ _=>RepC.keep hkeep)
  ·have hc'':s.obj i = some cells':=by simpa [upd,hid] using hc'
   exact (hr.obj i cells' hc'').keep hkeep (fun a' ha'=>hother _ (fun hb=>hid (hr.inj i id a' ad (by simp [hc'']) (by simp [ho]) ha' hβ hb)))
 ·exact h.elim
end
end Go.Am

namespace Go.Am
theorem growBy_le (n:Nat):∀ k c,Builtin.growBy n k c ≤ max c (n + (n + 768) / 4)
 | 0,c=>by simp [Builtin.growBy]; omega
 | k + 1,c=>by
   simp only [Builtin.growBy]
   split
   ·omega
   ·have:=growBy_le n k (c + (c + 768) / 4)
    omega
theorem nextslicecap_le (n c:Nat) (h:c < n):Builtin.nextslicecap n c ≤ 2 * n + 1024:=by
 unfold Builtin.nextslicecap
 split
 ·omega
 ·split
  ·omega
  ·have:=growBy_le n 4 c
   omega
theorem flatten_get {α:Type} {sz:Nat}:∀ (es:List (List α)) (_:∀ e ∈ es,e.length = sz) (m:Nat) (c:α),es.flatten[m]? = some c → ∃ i e j,es[i]? = some e ∧ e[j]? = some c ∧ m = i * sz + j
 | [],_,m,c,h=>by simp at h
 | e :: es,hs,m,c,h=>by
   rw [List.flatten_cons,List.getElem?_append] at h
   have he:=hs e (by simp)
   split at h
   ·exact ⟨0,e,m,rfl,h,by simp⟩
   ·rename_i hm
    obtain ⟨i,e',j,h1,h2,h3⟩:=flatten_get es (fun e' h'=>hs e' (by simp [h'])) _ c h
    exact ⟨i + 1,e',j,by simpa using h1,h2,by rw [Nat.add_mul]; omega⟩
theorem flatten_len {α:Type} {sz:Nat}:∀ (es:List (List α)) (_:∀ e ∈ es,e.length = sz),es.flatten.length = es.length * sz
 | [],_=>by simp
 | e :: es,hs=>by
   rw [List.flatten_cons,List.length_append,flatten_len es (fun e' h'=>hs e' (by simp [h'])),hs e (by simp),List.length_cons,Nat.add_mul]; omega
section
variable {P:Program} {T:Nat → TI} {b₀:Bs} {β:Loc} {w:World}
def CellsAre (b₀:Bs) (β:Loc) (s:St) (w:World) (cs:List C) (vs:List Value):Prop :=
 vs.length = cs.length ∧ ∀ (j:Nat) (c:C),cs[j]? = some c → ∃ u,vs[j]? = some u ∧ RepC b₀ β s.gen s.obj w c u
theorem CellsAre.one {s:St} {cs:List C} {vs:List Value} (h:CellsAre b₀ β s w cs vs):∀ u ∈ vs,u.oneCell' = true:=fun u hu=>by
 obtain ⟨i,hi⟩:=List.getElem?_of_mem hu
 have hlt:i < cs.length:=by rw [← h.1]; exact (List.getElem?_eq_some_iff.1 hi).1
 obtain ⟨u',hu',hr⟩:=h.2 i _ (List.getElem?_eq_getElem hlt)
 have:u' = u:=by simpa [hu'] using hi
 exact this ▸ hr.one
theorem CellsAre.append {s:St} {cs cs':List C} {vs vs':List Value} (h:CellsAre b₀ β s w cs vs) (h':CellsAre b₀ β s w cs' vs'):CellsAre b₀ β s w (cs ++ cs') (vs ++ vs'):=by
 refine ⟨by simp [h.1,h'.1],fun j c hc=>?_⟩
 rw [List.getElem?_append] at hc ⊢
 rw [h.1]
 split at hc
 ·rename_i hj; rw [if_pos hj]; exact h.2 j c hc
 ·rename_i hj; rw [if_neg hj]; exact h'.2 _ c hc
theorem OslAt.spot {sz off len:Nat} {v:Value} {x:Option Addr} (h:OslAt w sz off len v x):∀ ad,x = some ad → ad.spot = none:=fun ad hx=>by subst hx; exact h.1
theorem osl_cells {N:Nat} {s:St} {a:Act} (hr:Rel b₀ N s β a w) {id off n:Nat} {cells:List C} (hspot:∀ ad,β id = some ad → ad.spot = none) (ho:s.obj id = some cells) (hfit:off + n ≤ cells.length) :
  (∃ ad,β id = some ad ∧ ∃ vs,CellsAre b₀ β s w ((cells.drop off).take n) vs ∧ vs.length = n ∧ ∀ (j:Nat) (u:Value),vs[j]? = some u → w.cell? ⟨ad.block,ad.off + off + j,none⟩ = some u) ∨ (β id = none ∧ cells = []):=by
 have hob:=hr.obj id cells ho
 cases hβ:β id with
 | none=>rw [hβ] at hob; exact .inr ⟨rfl,hob⟩
 | some ad =>
   rw [hβ] at hob
   obtain ⟨_,arr,el,lo,hi,hblk,_,hlen,hcells⟩:=hob.cells (hspot ad hβ)
   obtain ⟨vs,e1,e2,e3⟩:=values_of (RepC b₀ β s.gen s.obj w) (fun j=>arr[ad.off + (off + j)]?) ((cells.drop off).take n) (fun j c hc=>by
     rw [List.getElem?_take] at hc
     split at hc
     ·rw [List.getElem?_drop] at hc; exact hcells (off + j) c hc
     ·cases hc)
   refine .inl ⟨ad,rfl,vs,⟨e1,e3⟩,by rw [e1]; simp; omega,fun j u hu=>?_⟩
   rw [cell?_of_arr hblk,Nat.add_assoc]; exact e2 j u hu
theorem contents_sound (hT:TabOk P T) {N:Nat} {s:St} {a:Act} (hr:Rel b₀ N s β a w) {tx sz:Nat} {y:AV} {u:Value} {K:Nat → List C → Prop} {k:Box K}
  (h:contents s (isStr (T tx).desc) (okSl T tx) sz y k) (hu:RepV b₀ β s.gen s.obj w y u) :
  ∃ n cs news,K n cs ∧ Src P sz tx u n news w ∧ CellsAre b₀ β s w cs news:=by
 unfold contents at h
 split at h
 ·obtain ⟨hsl,h⟩:=h
  obtain ⟨e,_,_,hty,_⟩:=okSl_inv hT hsl
  simp only [RepV,RepC] at hu
  obtain rfl:=hu.inv_nsl
  exact ⟨0,[],[],h,Src.ofNil w hty 0,rfl,fun _ _ hc=>by simp at hc⟩
 ·rename_i es
  obtain ⟨hsl,hsz,h⟩:=h
  obtain ⟨e,_,_,hty,_⟩:=okSl_inv hT hsl
  simp only [RepV,RepC] at hu
  cases hu with
  | sl0 =>
    rename_i a cap
    refine ⟨0,[],[],by simpa using h,?_,rfl,fun _ _ hc=>by simp at hc⟩
    cases a with
    | none=>exact Src.ofNil w hty cap
    | some a=>exact Src.ofSlice w hty a 0 cap [] (by simp) (fun _ _ h=>by simp at h) (fun _ h=>by cases h)
  | sl vals hcap hJ hs hcl hrd =>
    rename_i b off cap sz'
    obtain ⟨vs,e1,e2,e3⟩:=values_of (fun (c:D) v=>RepC b₀ β s.gen s.obj w (.d c) v) (fun j=>w.cell? ⟨b,off + j,none⟩) es.flatten (fun m c hc=>by
     obtain ⟨i,e',j,h1,h2,rfl⟩:=flatten_get es hs m c hc
     refine ⟨vals i j,?_,hrd i e' h1 j c h2⟩
     rw [← Nat.add_assoc]; exact hcl i e' h1 j c h2)
    have hl:vs.length = es.length * sz:=by rw [e1,flatten_len es hsz]
    have hca:CellsAre b₀ β s w (es.flatten.map .d) vs:=by
     refine ⟨by rw [List.length_map,e1],fun j c hc=>?_⟩
     rw [List.getElem?_map] at hc
     cases hq:es.flatten[j]? with
     | none=>rw [hq] at hc; cases hc
     | some x =>
       rw [hq] at hc
       simp only [Option.map_some,Option.some.injEq] at hc
       subst hc
       exact e3 j x hq
    exact ⟨_,_,vs,h,Src.ofSlice w hty ⟨b,off,none⟩ es.length cap vs hl (fun j v hv=>by rw [addr_add]; exact e2 j v hv) hca.one,hca⟩
 ·rename_i bs
  obtain ⟨hst,rfl,h⟩:=h
  have hty:=(hT tx (by rw [isStr_of hst]; rfl)).desc
  rw [isStr_of hst] at hty
  simp only [RepV,RepC] at hu
  obtain rfl:=hu.inv_str
  have:=Src.ofString (P:=P) w hty ⟨bs.toArray⟩
  rw [size_mk] at this
  refine ⟨_,_,_,h,this,by simp [byteCells],fun j c hc=>?_⟩
  rw [List.getElem?_map] at hc
  cases hq:bs[j]? with
  | none=>rw [hq] at hc; cases hc
  | some x =>
    rw [hq] at hc
    simp only [Option.map_some,Option.some.injEq] at hc
    subst hc
    refine ⟨.int .u8 x.toNat,by simp [byteCells,hq],?_⟩
    simp only [RepC,byteD]; exact .int _ _
 ·rename_i id g' sz' off len
  obtain ⟨hsl,hg,rfl,h⟩:=h
  obtain ⟨e,_,_,hty,_⟩:=okSl_inv hT hsl
  obtain ⟨cells,ho,hfit,hK⟩:=onSome_inv h
  simp only [RepV] at hu
  have hat:=osl_live hu hg (by simp [ho])
  rcases osl_cells hr (hat.spot) ho hfit with ⟨ad,hβ,vs,hca,hl,hcell⟩ | ⟨hβ,rfl⟩
  ·rw [hβ] at hat
   rcases hat.2 with ⟨cap,rfl,_,_⟩ | ⟨rfl,o,rfl⟩
   ·exact ⟨_,_,vs,hK,Src.ofSlice w hty _ len cap vs hl (fun j v hv=>by rw [addr_add]; exact hcell j v hv) hca.one,hca⟩
   ·refine ⟨_,_,vs,hK,?_,hca⟩
    have:vs = []:=List.eq_nil_of_length_eq_zero (by simpa using hl)
    subst this
    exact Src.ofSlice w hty _ 0 0 [] (by simp) (fun j v hv=>by simp at hv) (fun _ h=>by cases h)
  ·rw [hβ] at hat
   obtain ⟨rfl,rfl⟩:=hat
   exact ⟨_,_,[],hK,Src.ofNil w hty 0,by simp,fun j c hc=>by simp at hc⟩
 ·exact h.elim
theorem slice_cells (hT:TabOk P T) {N:Nat} {s:St} {a:Act} (hr:Rel b₀ N s β a w) {y:AV} {u:Value} {K:Nat → List C → Prop} {k:Box K} (h:contents s false true 1 y k) (hu:RepV b₀ β s.gen s.obj w y u) :
  ∃ n cs news,K n cs ∧ CellsAre b₀ β s w cs news ∧ news.length = n ∧ ((∃ l c,u = .slice none l c ∧ n = 0) ∨ ∃ ad cap,u = .slice (some ad) n cap ∧ ∀ (j:Nat) v,news[j]? = some v → w.cell? (ad.add j) = some v):=by
 unfold contents at h
 split at h
 ·obtain ⟨_,h⟩:=h
  simp only [RepV,RepC] at hu
  obtain rfl:=hu.inv_nsl
  exact ⟨0,[],[],h,⟨rfl,fun _ _ hc=>by simp at hc⟩,rfl,.inl ⟨_,_,rfl,rfl⟩⟩
 ·rename_i es
  obtain ⟨_,hsz,h⟩:=h
  simp only [RepV,RepC] at hu
  cases hu with
  | sl0 =>
    rename_i a cap
    refine ⟨0,[],[],by simpa using h,⟨rfl,fun _ _ hc=>by simp at hc⟩,rfl,?_⟩
    cases a with
    | none=>exact .inl ⟨_,_,rfl,rfl⟩
    | some a=>exact .inr ⟨_,_,rfl,fun _ _ h=>by simp at h⟩
  | sl vals hcap hJ hs hcl hrd =>
    rename_i b off cap sz'
    obtain ⟨vs,e1,e2,e3⟩:=values_of (fun (c:D) v=>RepC b₀ β s.gen s.obj w (.d c) v) (fun j=>w.cell? ⟨b,off + j,none⟩) es.flatten (fun m c hc=>by
     obtain ⟨i,e',j,h1,h2,rfl⟩:=flatten_get es hs m c hc
     refine ⟨vals i j,?_,hrd i e' h1 j c h2⟩
     rw [← Nat.add_assoc]; exact hcl i e' h1 j c h2)
    have hl:vs.length = es.length:=by rw [e1,flatten_len es hsz,Nat.mul_one]
    have hca:CellsAre b₀ β s w (es.flatten.map .d) vs:=by
     refine ⟨by rw [List.length_map,e1],fun j c hc=>?_⟩
     rw [List.getElem?_map] at hc
     cases hq:es.flatten[j]? with
     | none=>rw [hq] at hc; cases hc
     | some x =>
       rw [hq] at hc
       simp only [Option.map_some,Option.some.injEq] at hc
       subst hc
       exact e3 j x hq
    exact ⟨_,_,vs,h,hca,hl,.inr ⟨⟨b,off,none⟩,cap,rfl,fun j v hv=>by rw [addr_add]; exact e2 j v hv⟩⟩
 ·exact absurd h.1 (by simp)
 ·rename_i id g' sz' off len
  obtain ⟨_,hg,rfl,h⟩:=h
  obtain ⟨cells,ho,hfit,hK⟩:=onSome_inv h
  simp only [RepV] at hu
  have hat:=osl_live hu hg (by simp [ho])
  rcases osl_cells hr (hat.spot) ho hfit with ⟨ad,hβ,vs,hca,hl,hcell⟩ | ⟨hβ,rfl⟩
  ·rw [hβ] at hat
   rw [Nat.mul_one] at hl
   rcases hat.2 with ⟨cap,rfl,_,_⟩ | ⟨rfl,o,rfl⟩
   ·exact ⟨_,_,vs,hK,hca,hl,.inr ⟨_,cap,rfl,fun j v hv=>by rw [addr_add]; exact hcell j v hv⟩⟩
   ·have:vs = []:=List.eq_nil_of_length_eq_zero (by simpa using hl)
    subst this
    exact ⟨_,_,[],hK,hca,rfl,.inr ⟨_,_,rfl,fun j v hv=>by simp at hv⟩⟩
  ·rw [hβ] at hat
   obtain ⟨rfl,rfl⟩:=hat
   exact ⟨_,_,[],hK,⟨by simp,fun j c hc=>by simp at hc⟩,rfl,.inl ⟨_,_,rfl,rfl⟩⟩
 ·exact h.elim
theorem u8s_vals {s:St}:∀ {cs:List C} {ns:List Int} {vs:List Value},u8s cs = some ns → CellsAre b₀ β s w cs vs → vs = ns.map (.int .u8)
 | [],ns,vs,h,hc=>by
   simp only [u8s] at h; cases h
   exact List.eq_nil_of_length_eq_zero hc.1
 | c :: cs,ns,vs,h,hc=>by
   match vs,hc with
   | [],hc=>exact absurd hc.1 (by simp)
   | v :: vs,hc =>
     cases c with
     | d x =>
       cases x with
       | int k n =>
         cases k with
         | u8 =>
           simp only [u8s] at h
           obtain ⟨ns',h1,rfl⟩:=Option.map_eq_some_iff.1 h
           have h0:=hc.2 0 _ rfl
           obtain ⟨u,hu,hru⟩:∃ u,(v :: vs)[0]? = some u ∧ _:=h0
           cases hu
           simp only [RepC] at hru
           obtain rfl:=hru.inv_int
           have ht:CellsAre b₀ β s w cs vs:=⟨by simpa using hc.1,fun j c' hc'=>by simpa using hc.2 (j + 1) c' (by simpa using hc')⟩
           rw [List.map_cons,u8s_vals h1 ht]
         | _=>simp [u8s] at h
       | _=>simp [u8s] at h
     | _=>simp [u8s] at h
theorem convA_sound (hT:TabOk P T) {N:Nat} {s:St} {a:Act} (hr:Rel b₀ N s β a w) {src dst:Nat} {x:AV} {v:Value} {K:AV → Prop} {k:Box K} (h:convA s (elemTI T src).desc (T src).desc (T dst).desc x k) (hv:RepV b₀ β s.gen s.obj w x v) :
  ∃ z cv,K z ∧ (∀ w',Ext w w' → (convert src dst v).run P w' = .ok cv w') ∧ RepV b₀ β s.gen s.obj w z cv:=by
 unfold convA at h
 split at h
 ·rename_i hd
  simp only [RepV,RepC] at hv
  obtain rfl:=hv.inv_int
  have h1:=(hT src h.1).desc
  have h2:=(hT dst (by rw [hd]; rfl)).desc
  rw [hd] at h2
  refine intRes h.2 fun w=>?_
  simp [convert,run_underlying h1,run_underlying h2,Conv.intToInt]
 ·rename_i hs hd
  simp only [RepV,RepC] at hv
  obtain rfl:=hv.inv_str
  have h1:=(hT src (by rw [hs]; rfl)).desc
  rw [hs] at h1
  have h2:=(hT dst (by rw [hd]; rfl)).desc
  rw [hd] at h2
  refine strRes h fun w=>?_
  simp [convert,run_underlying h1,run_underlying h2]
 ·rename_i y e hs hd
  obtain ⟨hu8,h⟩:=h
  have h1:=(hT src (by rw [hs]; rfl)).desc
  rw [hs] at h1
  have h2:=(hT dst (by rw [hd]; rfl)).desc
  rw [hd] at h2
  have hel:elemTI T src = T e:=by simp [elemTI,hs]
  rw [hel] at hu8
  have hed:(T e).desc = .int .u8:=by cases hq:(T e).desc <;> rw [hq] at hu8 <;> simp [isU8] at hu8; rename_i kk; cases kk <;> simp [isU8] at hu8; rfl
  have he:=(hT e (by rw [hed]; rfl)).desc
  rw [hed] at he
  obtain ⟨n,cs,news,hK,hca,hl,hcase⟩:=slice_cells hT hr h hv
  obtain ⟨ns,hns,hK⟩:=onSome_inv hK
  obtain rfl:=u8s_vals hns hca
  refine ⟨_,.string ⟨(ns.map fun n=>UInt8.ofNat n.toNat).toArray⟩,hK,fun w' hw'=>?_,by simp only [RepV,RepC]; exact .str _⟩
  rcases hcase with ⟨l,c,rfl,hn⟩ | ⟨ad,cap,rfl,hcell⟩
  ·have:ns = []:=List.eq_nil_of_length_eq_zero (by rw [← hn,← hl]; simp)
   subst this
   simp [convert,run_underlying h1,run_underlying h2,run_underlying he,Conv.bytesToString]
   rfl
  ·rw [run_convert_bytes_string w' src dst e (some ad) n cap h1 he h2]
   have hlc:=run_loadCells_list (P:=P) w' ad (ns.map (Value.int .u8)) (fun j v hj=>hw'.cell (hcell j v hj))
   rw [List.length_map] at hl
   simp only [List.length_map,hl] at hlc
   rw [run_bytesToString w' ad n cap _ hlc]
   have hf:∀ (l:List Int) (r:ByteArray),l.foldl (fun r n=>r.push (UInt8.ofNat n.toNat)) r = ⟨r.data ++ (l.map fun n=>UInt8.ofNat n.toNat).toArray⟩:=by
    intro l
    induction l with
    | nil=>intro r; simp
    | cons n l ih=>intro r; rw [List.foldl_cons,ih]; simp [ByteArray.push]
   rw [hf]
   have he0:ByteArray.empty.data = #[]:=rfl
   rw [he0]
   simp
 ·exact h.elim
theorem newSlice {N:Nat} (c:Nat) {s:St} {a:Act} (hr:Rel b₀ N s β a w) (i d:Nat) (hd:d < N) {w':World} {arr:Array Value} {el:TypeId} (hw:w'.heap = w.heap.push (.cells arr el (0,0))) (hos:w'.os = w.os ∧ w'.output = w.output) {cs:List C} {vs:List Value}
  (hc:CellsAre b₀ β s w cs vs) (harr:∀ (j:Nat) v,vs[j]? = some v → arr[j]? = some v) (hlen:cs.length ≤ arr.size) (hel:c ≠ 0 → c < 1000000 → el + 1 = c) (sz len cap:Nat) (hcap:len ≤ cap) (hfit:cap * sz ≤ arr.size) :
  Rel b₀ N ((s.newC c i cs).put (some d) (.one (.osl i (nxC c (s.gen i)) sz 0 len))) (upd β i (some ⟨w.heap.size,0,none⟩)) (a.put (some d) (.slice (some ⟨w.heap.size,0,none⟩) len cap)) w' ∧
   Tr b₀ β s w (upd β i (some ⟨w.heap.size,0,none⟩)) ((s.newC c i cs).put (some d) (.one (.osl i (nxC c (s.gen i)) sz 0 len))) w':=by
 obtain ⟨h1,h2⟩:=Rel.new c hr i hw hos hlen hel (fun j c hj=>let ⟨u,hu,hr'⟩:=hc.2 j c hj; ⟨u,harr j u hu,hr'⟩)
 refine ⟨h1.put (fun d' hd'=>by cases hd'; exact hd) ?_,h2.trans (Tr.same (St.put_gen _ _ _) (St.put_obj _ _ _) rfl)⟩
 simp only [RepV,RepC]
 refine ⟨rfl,by simp [St.newC,upd],fun _ _=>?_⟩
 simp only [upd,if_true]
 refine ⟨rfl,.inl ⟨cap,by simp,hcap,fun arr' el' fr' h=>?_⟩⟩
 rw [hw] at h
 simp at h
 obtain ⟨rfl,_⟩:=h
 simpa using hfit
theorem grownCap_ge (w:World) (need old:Nat) (e:TypeId):need ≤ grownCap w need old e:=by simp [grownCap,Question.cut]
theorem convSlA_sound (hT:TabOk P T) {N:Nat} {s:St} {a:Act} (hr:Rel b₀ N s β a w) {src d base:Nat} {dst:Option Nat} (hd:∀ j,dst = some j → j < N) {x:AV} {v:Value} {K:St → Prop} {k:Box K} (h:convSlA T src d base dst s x k) (hv:RepV b₀ β s.gen s.obj w x v) :
  ∃ s' β' w' cv,K s' ∧ (convert src d v).run P w = .ok cv w' ∧ Rel b₀ N s' β' (a.put dst cv) w' ∧ Tr b₀ β s w β' s' w':=by
 unfold convSlA at h
 split at h
 ·rename_i dd bs
  obtain ⟨hst,hu8,h⟩:=h
  have hs:=(hT src (by rw [isStr_of hst]; rfl)).desc
  rw [isStr_of hst] at hs
  obtain ⟨e,hde,hel⟩:∃ e,(T d).desc = .slice e ∧ elemTI T d = T e:=by
   unfold elemTI at hu8 ⊢
   cases hq:(T d).desc with
   | slice e=>exact ⟨e,rfl,rfl⟩
   | _=>rw [hq] at hu8; exact absurd (show false = true from hu8) (by decide)
  have hdd:=(hT d (by rw [hde]; rfl)).desc
  rw [hde] at hdd
  rw [hel] at hu8
  have hed:(T e).desc = .int .u8:=by cases hq:(T e).desc <;> rw [hq] at hu8 <;> simp [isU8] at hu8; rename_i kk; cases kk <;> simp [isU8] at hu8; rfl
  have he:=(hT e (by rw [hed]; rfl)).desc
  rw [hed] at he
  have hty:elemTy T d = e:=by simp [elemTy,hde]
  simp only [RepV,RepC] at hv
  obtain rfl:=hv.inv_str
  have hrun:=Lib.run_convert_string_bytes (P:=P) w src d e ⟨bs.toArray⟩ hs hdd he
  have hz:(⟨bs.toArray⟩:ByteArray).size = bs.length:=by simp [ByteArray.size]
  have hheap:(Lib.bytesWorld w e ⟨bs.toArray⟩).heap = w.heap.push (.cells (Lib.bytesCells w e ⟨bs.toArray⟩) e ((Lib.bytesCells w e ⟨bs.toArray⟩).size,(Lib.bytesCells w e ⟨bs.toArray⟩).size + 1)):=by
   apply Array.ext_getElem?
   intro j
   rcases Nat.lt_trichotomy j w.heap.size with hj | hj | hj
   ·rw [Lib.bytesWorld_at_old w e _ j hj,Array.getElem?_push,if_neg (by omega)]
   ·subst hj; rw [Lib.bytesWorld_at_new,Array.getElem?_push,if_pos rfl]
   ·rw [Array.getElem?_eq_none (by rw [Lib.bytesWorld_size]; omega),Array.getElem?_eq_none (by simp; omega)]
  have hge:=grownCap_ge w bs.length 0 e
  have hsz:(Lib.bytesCells w e ⟨bs.toArray⟩).size = grownCap w bs.length 0 e:=by
   simp [Lib.bytesCells,hz]; omega
  rw [hty] at h
  refine ⟨_,upd β (base + dd) (some ⟨w.heap.size,0,none⟩),_,_,h,hrun,?_⟩
  obtain ⟨h1,h2⟩:=hr.newAny (c:=e + 1) (base + dd) (w':=Lib.bytesWorld w e ⟨bs.toArray⟩) (ad:=⟨w.heap.size,0,none⟩) (cs:=bs.map fun b=>.d (byteD b)) rfl hheap ⟨rfl,rfl⟩ fun hkeep =>
   .ofCells rfl ⟨hr.base,Lib.bytesCells w e ⟨bs.toArray⟩,e,(Lib.bytesCells w e ⟨bs.toArray⟩).size,(Lib.bytesCells w e ⟨bs.toArray⟩).size + 1,by rw [hheap]; simp,⟨.inr (Nat.le_refl _),fun h=>⟨by rw [code_nxC] at h ⊢; split at h <;> rename_i hc <;> simp_all,rfl⟩⟩,by rw [hsz]; simpa using hge,fun j c hc=>by
    rw [List.getElem?_map] at hc
    cases hq:bs[j]? with
    | none=>rw [hq] at hc; cases hc
    | some b =>
      rw [hq] at hc
      simp only [Option.map_some,Option.some.injEq] at hc
      subst hc
      have hj:j < bs.length:=(List.getElem?_eq_some_iff.1 hq).1
      refine ⟨.int .u8 b.toNat,?_,by simp only [RepC,byteD]; exact .int _ _⟩
      rw [Nat.zero_add,Lib.bytesCells,Array.getElem?_append_left (by simpa using hj)]
      simp [hq]⟩
  refine ⟨h1.put hd ?_,h2.trans (Tr.same (St.put_gen _ _ _) (St.put_obj _ _ _) rfl)⟩
  simp only [RepV,RepC]
  refine ⟨rfl,by simp [St.newC,upd],fun _ _=>?_⟩
  simp only [upd,if_true]
  refine ⟨rfl,.inl ⟨grownCap w bs.length 0 e,rfl,hge,fun arr' el' fr' h=>?_⟩⟩
  rw [hheap] at h
  simp at h
  obtain ⟨rfl,_⟩:=h
  rw [hsz]
  simp
 ·exact h.elim
theorem TyOk.zsize {t:Nat} {ti:TI} (h:TyOk P t ti) {i:TypeInfo} {z:Value} (hi:P.info? t = some i) (hz:i.zero = some z):z.cells.size = ti.size:=by
 obtain ⟨i',hi',_,_,z',hz',hc⟩:=h.info
 rw [hi] at hi'; cases hi'
 rw [hz] at hz'; cases hz'
 rw [← Array.length_toList,hc,List.length_map,h.zlen]
theorem apC_inv {e g g' off:Nat} (h:code (nxC (apC e g off) g') ≠ 0):code g = e + 1 ∧ off = 0 ∧ code (nxC (apC e g off) g') = e + 1:=by
 unfold apC at h ⊢
 by_cases hc:code g = e + 1 ∧ off = 0
 ·rw [if_pos hc] at h ⊢
  refine ⟨hc.1,hc.2,?_⟩
  rw [code_nxC] at h ⊢
  split
  ·rfl
  ·rename_i hn; rw [if_neg hn] at h; exact absurd rfl h
 ·rw [if_neg hc,code_nxC] at h
  exact absurd rfl h
theorem apC_or (e g off:Nat):apC e g off = e + 1 ∨ apC e g off = 0:=by unfold apC; split <;> simp
theorem apC_code {e g off:Nat} (h:apC e g off ≠ 0):code g = apC e g off ∧ off = 0:=by
 unfold apC at h ⊢
 by_cases hc:code g = e + 1 ∧ off = 0
 ·rw [if_pos hc]; exact hc
 ·rw [if_neg hc] at h; exact absurd rfl h
theorem append_grow {N:Nat} (c:Nat) {s:St} {a:Act} (hr:Rel b₀ N s β a w) {t tx e:Nat} (hu:P.underlying t = some (.slice e)) {ti:TI} (hte:TyOk P e ti) (i d:Nat) (hd:d < N) {base:Option Addr} {sLen sCap n:Nat} {x:Value} {cs cs':List C} {olds news:List Value}
  (hold:(Builtin.firstCells ti.size sLen (.slice base sLen sCap)).run P w.drew = .ok olds.toArray w.drew) (hlo:olds.length = sLen * ti.size) (hs:Src P ti.size tx x n news w)
  (hc:CellsAre b₀ β s w cs olds) (hc':CellsAre b₀ β s w cs' news) (hg:sCap < sLen + n) (hroom:roomOk (sLen + n) ti.bytes) (hcc:c = e + 1 ∨ c = 0) (ty:TypeId) :
  ∃ β' w' cv,(Builtin.append_ #[t,tx] ty #[.slice base sLen sCap,x]).run P w = .ok cv w' ∧
   Rel b₀ N ((s.newC c i (cs ++ cs')).put (some d) (.one (.osl i (nxC c (s.gen i)) ti.size 0 (sLen + n)))) β' (a.put (some d) cv) w' ∧
   Tr b₀ β s w β' ((s.newC c i (cs ++ cs')).put (some d) (.one (.osl i (nxC c (s.gen i)) ti.size 0 (sLen + n)))) w':=by
 obtain ⟨inf,hi,hsz,hby,z,hz,hzc⟩:=hte.info
 have hzs:=hte.zsize hi hz
 have hnext:=nextslicecap_le (sLen + n) sCap hg
 obtain ⟨hb1,hroom⟩:=hroom
 have h63:((sLen + n:Nat):Int) ≤ 9223372036854775807:=by
  have:(2 * (sLen + n) + 1024) * 1 ≤ (2 * (sLen + n) + 1024) * ti.bytes:=Nat.mul_le_mul_left _ hb1
  omega
 have hfit:Builtin.nextslicecap (sLen + n) sCap * inf.bytes ≤ 281474976710656:=by
  rw [hby]
  exact Nat.le_trans (Nat.mul_le_mul_right _ hnext) hroom
 rw [← hsz] at hold hs
 have hrun:=run_append_grow_src (P:=P) w t tx ty e inf z hu hi hz base sLen sCap olds hold x n news hs hg h63 hfit
 have hge:=grownCap_ge w (sLen + n) sCap e
 have hnl:news.length = n * ti.size:=by rw [← hsz]; exact hs.newsLen
 have hlen:(olds ++ news).length = (sLen + n) * ti.size:=by rw [List.length_append,hlo,hnl,Nat.add_mul]
 refine ⟨upd β i (some ⟨w.heap.size,0,none⟩),_,_,hrun,?_⟩
 refine newSlice c hr i d hd (el:=e) rfl (by exact ⟨rfl,rfl⟩) (hc.append hc') (fun j v hv=>?_) ?_ (fun h1 _=>(hcc.resolve_right h1).symm) _ _ _ hge ?_
 ·rw [Array.getElem?_append_left]
  ·simpa using hv
  ·simpa using (List.getElem?_eq_some_iff.1 hv).1
 ·have:=(hc.append hc').1
  simp at this ⊢
  omega
 ·have hzl:(Builtin.zeroCells z.cells (grownCap w (sLen + n) sCap e - (sLen + n))).size = (grownCap w (sLen + n) sCap e - (sLen + n)) * ti.size:=by
   simp [Builtin.zeroCells,hzs]
  rw [Array.size_append,hzl]
  have h1:(olds ++ news).toArray.size = (sLen + n) * ti.size:=by simpa using hlen
  rw [h1,← Nat.add_mul]
  exact Nat.le_of_eq (by congr 1; omega)
theorem append_nothing {N:Nat} (c:Nat) {s:St} {a:Act} (hr:Rel b₀ N s β a w) (i d:Nat) (hd:d < N) (sz:Nat) {x:Option Addr} {v:Value} (hx:OslAt w sz 0 0 v x) (h1:v.oneCell' = true)
  (hob:ObjAt b₀ β s.gen s.obj w (nxC c (s.gen i)) [] x) (hinj:∀ i' a' a'',i' ≠ i → (s.obj i').isSome = true → β i' = some a' → x = some a'' → a'.block ≠ a''.block) (himm:∀ b a'',x = some a'' → Imm b₀ β s.obj w b → a''.block ≠ b) :
  Rel b₀ N ((s.newC c i []).put (some d) (.one (.osl i (nxC c (s.gen i)) sz 0 0))) (upd β i x) (a.put (some d) v) w ∧ Tr b₀ β s w (upd β i x) ((s.newC c i []).put (some d) (.one (.osl i (nxC c (s.gen i)) sz 0 0))) w:=by
 have hkeep:Keep b₀ β s.gen s.obj w (upd β i x) (s.newC c i []).gen (s.newC c i []).obj w:=by
  refine ⟨fun b hb=>⟨⟨hb.1,hb.2.1,fun i' a' hi' hβ'=>?_⟩,rfl⟩,fun i'=>?_,fun i' hg hi'=>?_⟩
  ·simp only [St.newC,upd] at hi' hβ'
   split at hβ'
   ·exact himm b a' hβ' hb
   ·rename_i hne
    simp only [hne,if_false] at hi'
    exact hb.2.2 i' a' hi' hβ'
  ·simp only [St.newC,upd]; split
   ·rename_i he; subst he; exact Nat.le_of_lt (nxC_lt _ _)
   ·exact Nat.le_refl _
  ·simp only [St.newC,upd] at hg hi' ⊢
   by_cases hne:i' = i
   ·subst hne; simp at hg; exact absurd hg (nxC_ne _ _)
   ·simp only [hne,if_false] at hi' ⊢
    exact ⟨hi',trivial,fun a' ha' arr1 el1 fr1 h1=>⟨arr1,el1,fr1,h1,Nat.le_refl _⟩⟩
 have hrel:Rel b₀ N (s.newC c i []) (upd β i x) a w:=by
  refine ⟨hr.defers,hr.size,fun i=>RepV.keep hkeep _ (hr.f i),fun i' cells' hc'=>?_,fun i1 i2 a1 a2 h1 h2 hb1 hb2 hb=>?_,hr.base⟩
  ·simp only [St.newC,upd] at hc' ⊢
   by_cases hid:i' = i
   ·subst hid
    simp only [if_true,Option.some.injEq] at hc' ⊢
    subst hc'
    exact hob.keep hkeep (fun _ _=>rfl)
   ·simp only [hid,if_false] at hc' ⊢
    exact (hr.obj i' cells' hc').keep hkeep (fun _ _=>rfl)
  ·simp only [St.newC,upd] at h1 h2 hb1 hb2
   by_cases hi1:i1 = i <;> by_cases hi2:i2 = i
   ·rw [hi1,hi2]
   ·simp only [hi1,hi2,if_true,if_false] at h1 h2 hb1 hb2
    exact absurd hb.symm (hinj i2 a2 a1 hi2 h2 hb2 hb1)
   ·simp only [hi1,hi2,if_true,if_false] at h1 h2 hb1 hb2
    exact absurd hb (hinj i1 a1 a2 hi1 h1 hb1 hb2)
   ·simp only [hi1,hi2,if_false] at h1 h2 hb1 hb2
    exact hr.inj i1 i2 a1 a2 h1 h2 hb1 hb2 hb
 refine ⟨hrel.put (fun d' hd'=>by cases hd'; exact hd) ?_,⟨Nat.le_refl _,fun _ _=>rfl,?_,rfl,rfl⟩⟩
 ·simp only [RepV,RepC]
  refine ⟨h1,by simp [St.newC,upd],fun _ _=>?_⟩
  simp only [upd,if_true]
  exact hx
 ·rw [St.put_obj,St.put_gen]; exact hkeep
theorem append_room {N:Nat} (c:Nat) {s:St} {a:Act} (hr:Rel b₀ N s β a w) {t tx e:Nat} (hu:P.underlying t = some (.slice e)) {ti:TI} (hte:TyOk P e ti) (i d:Nat) (hd:d < N) {ad:Addr} {off sLen sCap n:Nat} {x:Value} {cells cs':List C} {news:List Value}
  (hβ:β i = some ad) (hsp:ad.spot = none) (ho:s.obj i = some cells) (hfit:off + sLen * ti.size ≤ cells.length) (hcap:∀ arr el fr,w.heap[ad.block]? = some (.cells arr el fr) → ad.off + off + sCap * ti.size ≤ arr.size)
  (hs:Src P ti.size tx x n news w) (hc':CellsAre b₀ β s w cs' news) (hg:sLen + n ≤ sCap) (hcc:c ≠ 0 → code (s.gen i) = c ∧ off = 0) (ty:TypeId) :
  ∃ β' w' cv,(Builtin.append_ #[t,tx] ty #[.slice (some ⟨ad.block,ad.off + off,none⟩) sLen sCap,x]).run P w = .ok cv w' ∧
   Rel b₀ N ((s.newC c i ((cells.drop off).take (sLen * ti.size) ++ cs')).put (some d) (.one (.osl i (nxC c (s.gen i)) ti.size 0 (sLen + n)))) β' (a.put (some d) cv) w' ∧
   Tr b₀ β s w β' ((s.newC c i ((cells.drop off).take (sLen * ti.size) ++ cs')).put (some d) (.one (.osl i (nxC c (s.gen i)) ti.size 0 (sLen + n)))) w':=by
 obtain ⟨inf,hi,hsz,hby,z,hz,hzc⟩:=hte.info
 have hob:=hr.obj i cells ho
 rw [hβ] at hob
 obtain ⟨hB,arr,el,lo,hi',hblk,hfr,hlen,hcells⟩:=hob.cells hsp
 have hcap':=hcap _ _ _ hblk
 have hnl:news.length = n * ti.size:=hs.newsLen
 have hmul:sLen * ti.size + n * ti.size ≤ sCap * ti.size:=by rw [← Nat.add_mul]; exact Nat.mul_le_mul_right _ hg
 rw [← hsz] at hs
 have hrun:=run_append_room_src (P:=P) w t tx ty e inf hu hi ad.block (ad.off + off) sLen sCap x n news hs hg (fun j hj=>by
   rw [hsz,cell?_of_arr hblk,Array.getElem?_eq_getElem (by omega)]; rfl) (fun j hj=>by rw [hsz]; exact frozen_of hblk hfr.1 (by omega))
 rw [hsz] at hrun
 obtain ⟨arr',f1,f2,f3⟩:=heap_setCells_same ad.block news (ad.off + off + sLen * ti.size) w arr el (lo,hi') hblk
 have hother:∀ b,b ≠ ad.block → (w.setCells ad.block (ad.off + off + sLen * ti.size) news).heap[b]? = w.heap[b]?:=fun b hb=>heap_setCells_other _ _ _ _ _ hb
 generalize hw':w.setCells ad.block (ad.off + off + sLen * ti.size) news = w' at *
 have hwsize:w'.heap.size = w.heap.size:=by rw [← hw']; exact setCells_size _ _ _ _
 have hwos:w'.os = w.os ∧ w'.output = w.output:=by rw [← hw']; exact setCells_os _ _ _ _
 generalize hcs:(cells.drop off).take (sLen * ti.size) = front at *
 have hfl:front.length = sLen * ti.size:=by rw [← hcs]; simp; omega
 have hkeep:Keep b₀ β s.gen s.obj w (upd β i (some ⟨ad.block,ad.off + off,none⟩)) (s.newC c i (front ++ cs')).gen (s.newC c i (front ++ cs')).obj w':=by
  refine ⟨fun b hb=>?_,fun i'=>?_,fun i' hg hi'=>?_⟩
  ·have hne:b ≠ ad.block:=fun he=>hb.2.2 i ad (by simp [ho]) hβ he.symm
   refine ⟨⟨by rw [hwsize]; exact hb.1,hb.2.1,fun i' a' hi' hβ'=>?_⟩,hother b hne⟩
   simp only [St.newC,upd] at hi' hβ'
   split at hβ'
   ·cases hβ'; exact Ne.symm hne
   ·rename_i hne'
    simp only [hne',if_false] at hi'
    exact hb.2.2 i' a' hi' hβ'
  ·simp only [St.newC,upd]; split
   ·rename_i he; subst he; exact Nat.le_of_lt (nxC_lt _ _)
   ·exact Nat.le_refl _
  ·simp only [St.newC,upd] at hg hi' ⊢
   by_cases hne:i' = i
   ·subst hne; simp at hg; exact absurd hg (nxC_ne _ _)
   ·simp only [hne,if_false] at hi' ⊢
    refine ⟨hi',trivial,fun a' ha' arr1 el1 fr1 h1=>?_⟩
    rw [hother _ (fun hb=>hne (hr.inj i' i a' ad hi' (by simp [ho]) ha' hβ hb))] at h1
    exact ⟨arr1,el1,fr1,h1,Nat.le_refl _⟩
 have hrel:Rel b₀ N (s.newC c i (front ++ cs')) (upd β i (some ⟨ad.block,ad.off + off,none⟩)) a w':=by
  refine ⟨hr.defers,hr.size,fun i=>RepV.keep hkeep _ (hr.f i),fun i' cells' hc'=>?_,fun i1 i2 a1 a2 h1 h2 hb1 hb2 hb=>?_,by rw [hwsize]; exact hr.base⟩
  ·simp only [St.newC,upd] at hc' ⊢
   by_cases hid:i' = i
   ·subst hid
    simp only [if_true,Option.some.injEq] at hc' ⊢
    subst hc'
    have hnl':cs'.length = news.length:=hc'.1.symm
    have hclaim:code (nxC c (s.gen i')) ≠ 0 → el + 1 = code (nxC c (s.gen i')) ∧ (⟨ad.block,ad.off + off,none⟩:Addr).off = 0:=fun hcd=>by
     have h1:code (nxC c (s.gen i')) = c:=by
      rw [code_nxC] at hcd ⊢
      split
      ·rfl
      ·rename_i h; rw [if_neg h] at hcd; exact absurd rfl hcd
     rw [h1] at hcd ⊢
     obtain ⟨q1,q2⟩:=hcc hcd
     obtain ⟨q3,q4⟩:=hfr.2 (by rw [q1]; exact hcd)
     exact ⟨by rw [q3,q1],by simp [q4,q2]⟩
    refine .ofCells rfl ⟨hB,arr',el,lo,hi',f1,⟨by rw [f2]; exact hfr.1,hclaim⟩,by rw [List.length_append,hfl,f2,hnl']; simp only; omega,fun j c hc=>?_⟩
    rw [f3]
    simp only at *
    rw [List.getElem?_append] at hc
    split at hc
    ·rename_i hj
     rw [hfl] at hj
     rw [← hcs,List.getElem?_take,if_pos hj,List.getElem?_drop] at hc
     obtain ⟨u',hu',hr'⟩:=hcells _ c hc
     refine ⟨u',?_,hr'.keep hkeep⟩
     rw [if_neg (by omega),Nat.add_assoc]; exact hu'
    ·rename_i hj
     rw [hfl] at hj hc
     obtain ⟨u',hu',hr'⟩:=hc'.2 _ c hc
     have hlt:j - sLen * ti.size < news.length:=by rw [← hnl']; exact (List.getElem?_eq_some_iff.1 hc).1
     refine ⟨u',?_,hr'.keep hkeep⟩
     rw [if_pos (by omega),show ad.off + off + j - (ad.off + off + sLen * ti.size) = j - sLen * ti.size by omega]
     exact hu'
   ·simp only [hid,if_false] at hc' ⊢
    exact (hr.obj i' cells' hc').keep hkeep (fun a' ha'=>hother _ (fun hb=>hid (hr.inj i' i a' ad (by simp [hc']) (by simp [ho]) ha' hβ hb)))
  ·simp only [St.newC,upd] at h1 h2 hb1 hb2
   by_cases hi1:i1 = i <;> by_cases hi2:i2 = i
   ·rw [hi1,hi2]
   ·simp only [hi1,hi2,if_true,if_false] at h1 h2 hb1 hb2
    cases hb1
    exact absurd (hr.inj i2 i a2 ad h2 (by simp [ho]) hb2 hβ hb.symm) hi2
   ·simp only [hi1,hi2,if_true,if_false] at h1 h2 hb1 hb2
    cases hb2
    exact absurd (hr.inj i1 i a1 ad h1 (by simp [ho]) hb1 hβ hb) hi1
   ·simp only [hi1,hi2,if_false] at h1 h2 hb1 hb2
    exact hr.inj i1 i2 a1 a2 h1 h2 hb1 hb2 hb
 refine ⟨_,_,_,hrun,hrel.put (fun d' hd'=>by cases hd'; exact hd) ?_,⟨by rw [hwsize]; exact Nat.le_refl _,fun b hb=>hother b (by omega),?_,hwos⟩⟩
 ·simp only [RepV,RepC]
  refine ⟨rfl,by simp [St.newC,upd],fun _ _=>?_⟩
  simp only [upd,if_true]
  refine ⟨rfl,.inl ⟨sCap,by simp,hg,fun arr1 el1 fr1 h1=>?_⟩⟩
  rw [f1] at h1
  cases h1
  rw [f2]; simpa using hcap'
 ·rw [St.put_obj,St.put_gen]; exact hkeep
end
end Go.Am

namespace Go.Am
section
variable {P:Program} {T:Nat → TI} {b₀:Bs} {β:Loc} {w:World}
theorem Src.eq_nil {size:Nat} {tx:TypeId} {x:Value} {news:List Value} (hs:Src P size tx x 0 news w):news = []:=List.eq_nil_of_length_eq_zero (by rw [hs.newsLen]; simp)
theorem CellsAre.nil_of {s:St} {cs:List C} (h:CellsAre b₀ β s w cs []):cs = []:=List.eq_nil_of_length_eq_zero (by rw [← h.1]; rfl)
theorem obj_lt {N:Nat} {s:St} {a:Act} (hr:Rel b₀ N s β a w) {i:Nat} {ad:Addr} (ho:(s.obj i).isSome = true) (hβ:β i = some ad):ad.block < w.heap.size:=by
 obtain ⟨cells,hc⟩:=Option.isSome_iff_exists.1 ho
 have:=hr.obj i cells hc
 rw [hβ] at this
 exact this.block.2
theorem appendA_sound (hT:TabOk P T) {N:Nat} {s:St} {a:Act} (hr:Rel b₀ N s β a w) {t tx i₀ d:Nat} (hsl:okSl T t = true) (hd:d < N) {x y:AV} {v u:Value} {K:St → Prop} {k:Box K}
  (h:appendA (elemTy T t) (elemTI T t) (isStr (T tx).desc) (okSl T tx) i₀ d s x y k) (hv:RepV b₀ β s.gen s.obj w x v) (hu:RepV b₀ β s.gen s.obj w y u) (ty:TypeId) :
  ∃ s' β' w' cv,K s' ∧ (Builtin.append_ #[t,tx] ty #[v,u]).run P w = .ok cv w' ∧ Rel b₀ N s' β' (a.put (some d) cv) w' ∧ Tr b₀ β s w β' s' w':=by
 obtain ⟨e,he1,he2,hty,hte⟩:=okSl_inv hT hsl
 rw [he2,show elemTy T t = e from by simp [elemTy,he1]] at h
 unfold appendA at h
 split at h
 ·simp only [RepV,RepC] at hv
  obtain rfl:=hv.inv_nsl
  obtain ⟨n,cs,news,⟨hroom,hK⟩,hs,hca⟩:=contents_sound hT hr h hu
  obtain ⟨inf,hi,hsz,_⟩:=hte.info
  by_cases hn:n = 0
  ·subst hn
   obtain rfl:=Src.eq_nil hs
   obtain rfl:=hca.nil_of
   have hrun:=run_append_nothing (P:=P) w t tx ty e inf hty hi none 0 0 (Nat.le_refl _) u (by rw [hsz]; exact hs)
   obtain ⟨r1,r2⟩:=append_nothing (e + 1) hr i₀ d hd (T e).size (x:=none) (v:=.slice none 0 0) ⟨rfl,rfl⟩ rfl rfl (fun _ _ _ _ _ _ hx=>by cases hx) (fun _ _ hx=>by cases hx)
   exact ⟨_,_,_,_,hK,hrun,r1,r2⟩
  ·obtain ⟨β',w',cv,g1,g2,g3⟩:=append_grow (e + 1) hr hty hte i₀ d hd (base:=none) (sLen:=0) (sCap:=0) (n:=n) (x:=u) (cs:=[]) (cs':=cs) (olds:=[]) (news:=news)
    (run_firstCells_none w.drew _ _ _ _) (by simp) hs ⟨rfl,fun _ _ hc=>by simp at hc⟩ hca (by omega) (by simpa using hroom) (.inl rfl) ty (tx:=tx)
   simp only [List.nil_append,Nat.zero_add] at g2 g3
   exact ⟨_,_,_,_,hK,g1,g2,g3⟩
 ·rename_i id g' sz off len
  obtain ⟨hg,rfl,h⟩:=h
  obtain ⟨cells,ho,hfit,h⟩:=onSome_inv h
  simp only [RepV] at hv
  have hat:=osl_live hv hg (by simp [ho])
  obtain ⟨n,cs,news,⟨hroom,hK⟩,hs,hca⟩:=contents_sound hT hr h hu
  obtain ⟨inf,hi,hsz,_⟩:=hte.info
  have hob:=hr.obj id cells ho
  -- an empty handle,to which nothing is appended
  have hempty:len = 0 → n = 0 → v.oneCell' = true → ∀ (hv0:∃ b,v = .slice b 0 0),∃ s' β' w' cv,K s' ∧ (Builtin.append_ #[t,tx] ty #[v,u]).run P w = .ok cv w' ∧ Rel b₀ N s' β' (a.put (some d) cv) w' ∧ Tr b₀ β s w β' s' w':=by
   rintro rfl rfl hone ⟨b,rfl⟩
   obtain rfl:=Src.eq_nil hs
   obtain rfl:=hca.nil_of
   have hrun:=run_append_nothing (P:=P) w t tx ty e inf hty hi b 0 0 (Nat.le_refl _) u (by rw [hsz]; exact hs)
   simp only [Nat.zero_mul,List.take_zero,List.append_nil,Nat.add_zero] at hK
   cases hβ:β id with
   | none =>
     rw [hβ] at hat hob
     obtain ⟨r1,r2⟩:=append_nothing (apC e (s.gen id) off) hr id d hd (T e).size (x:=none) (v:=.slice b 0 0) ⟨rfl,hat.2⟩ hone rfl (fun _ _ _ _ _ _ hx=>by cases hx) (fun _ _ hx=>by cases hx)
     exact ⟨_,_,_,_,hK,hrun,r1,r2⟩
   | some ad =>
     rw [hβ] at hat hob
     obtain ⟨hsp,hat⟩:=hat
     obtain ⟨hB,arr,el,lo,hi',hblk,hfr,hlen,hcells⟩:=hob.cells hsp
     have hx:OslAt w (T e).size 0 0 (.slice b 0 0) (some ⟨ad.block,ad.off + off,none⟩):=by
      rcases hat with ⟨cap,hv1,_,hc⟩ | ⟨_,o,ho'⟩
      ·cases hv1
       exact ⟨rfl,.inl ⟨0,by simp,Nat.le_refl _,fun arr1 el1 fr1 h1=>by have:=hc _ _ _ h1; simpa using this⟩⟩
      ·exact ⟨rfl,.inr ⟨rfl,o,ho'⟩⟩
     obtain ⟨r1,r2⟩:=append_nothing (apC e (s.gen id) off) hr id d hd (T e).size (x:=some ⟨ad.block,ad.off + off,none⟩) (v:=.slice b 0 0) hx hone
      (.ofCells rfl ⟨hB,arr,el,lo,hi',hblk,⟨hfr.1,fun hcd=>by obtain ⟨q1,q2,q3⟩:=apC_inv hcd; obtain ⟨q4,q5⟩:=hfr.2 (by rw [q1]; omega); exact ⟨by rw [q3,q4,q1],by simp [q5,q2]⟩⟩,by simp at hfit ⊢; omega,fun _ _ hc=>by simp at hc⟩)
      (fun i' a' a'' hne hi1 hb1 hb2 hb=>by cases hb2; exact hne (hr.inj i' id a' ad hi1 (by simp [ho]) hb1 hβ hb)) (fun b' a'' hb2 hb=>by cases hb2; exact hb.2.2 id ad (by simp [ho]) hβ)
     exact ⟨_,_,_,_,hK,hrun,r1,r2⟩
  -- the cells that are there already
  have hgrow:∀ base sCap,v = .slice base len sCap → len * (T e).size = 0 ∨ (∃ ad,β id = some ad ∧ base = some ⟨ad.block,ad.off + off,none⟩) → sCap < len + n →
    ∃ s' β' w' cv,K s' ∧ (Builtin.append_ #[t,tx] ty #[v,u]).run P w = .ok cv w' ∧ Rel b₀ N s' β' (a.put (some d) cv) w' ∧ Tr b₀ β s w β' s' w':=by
   rintro base sCap rfl hbase hlt
   have hold:∃ olds,(Builtin.firstCells (T e).size len (.slice base len sCap)).run P w.drew = .ok olds.toArray w.drew ∧ olds.length = len * (T e).size ∧ CellsAre b₀ β s w ((cells.drop off).take (len * (T e).size)) olds:=by
    rcases hbase with h0 | ⟨ad,hβ,rfl⟩
    ·refine ⟨[],?_,by simp [h0],by simp [h0],fun _ _ hc=>by rw [h0] at hc; simp at hc⟩
     cases base with
     | none=>exact run_firstCells_none w.drew _ _ _ _
     | some b=>exact run_firstCells_some w.drew _ _ b _ _ [] (by simp [h0]) (fun _ _ hc=>by simp at hc)
    ·rcases osl_cells hr (hat.spot) ho hfit with ⟨ad',hβ',vs,hcv,hl,hcell⟩ | ⟨hβ',rfl⟩
     ·rw [hβ] at hβ'; cases hβ'
      exact ⟨vs,run_firstCells_some w.drew _ _ _ _ _ vs hl (fun j u hu=>by rw [addr_add]; simpa using hcell j u hu),hl,hcv⟩
     ·rw [hβ] at hβ'; cases hβ'
   obtain ⟨olds,o1,o2,o3⟩:=hold
   obtain ⟨β',w',cv,g1,g2,g3⟩:=append_grow (apC e (s.gen id) off) hr hty hte id d hd (base:=base) (sLen:=len) (sCap:=sCap) (n:=n) (x:=u) o1 o2 hs o3 hca hlt hroom (apC_or _ _ _) ty (tx:=tx)
   exact ⟨_,_,_,_,hK,g1,g2,g3⟩
  cases hβ:β id with
  | none =>
    rw [hβ] at hat
    obtain ⟨hl0,rfl⟩:=hat
    by_cases hn:n = 0
    ·exact hempty hl0 hn rfl ⟨none,rfl⟩
    ·subst hl0
     exact hgrow none 0 rfl (.inl (by simp)) (by omega)
  | some ad =>
    rw [hβ] at hat
    obtain ⟨hsp,hat⟩:=hat
    rcases hat with ⟨cap,rfl,hcap,hc⟩ | ⟨hl0,o,rfl⟩
    ·by_cases hlt:cap < len + n
     ·exact hgrow _ cap rfl (.inr ⟨ad,hβ,rfl⟩) hlt
     ·obtain ⟨β',w',cv,g1,g2,g3⟩:=append_room (apC e (s.gen id) off) hr hty hte id d hd hβ hsp ho hfit hc hs hca (by omega) apC_code ty
      exact ⟨_,_,_,_,hK,g1,g2,g3⟩
    ·by_cases hn:n = 0
     ·exact hempty hl0 hn rfl ⟨_,rfl⟩
     ·subst hl0
      exact hgrow _ 0 rfl (.inl (by simp)) (by omega)
 ·exact h.elim
theorem makeSliceA_sound (hT:TabOk P T) {N:Nat} {s:St} {a:Act} (hr:Rel b₀ N s β a w) {t i₀ d:Nat} (hsl:okSl T t = true) (hd:d < N) {x y:AV} {v u:Value} {K:St → Prop} {k:Box K}
  (h:makeSliceA (elemTy T t) (elemTI T t) i₀ d s x y k) (hv:RepV b₀ β s.gen s.obj w x v) (hu:RepV b₀ β s.gen s.obj w y u) :
  ∃ s' β' w' cv,K s' ∧ (Instr.makeSlice t v u).run P w = .ok cv w' ∧ Rel b₀ N s' β' (a.put (some d) cv) w' ∧ Tr b₀ β s w β' s' w':=by
 obtain ⟨e,he1,he2,hty,hte⟩:=okSl_inv hT hsl
 rw [he2,show elemTy T t = e from by simp [elemTy,he1]] at h
 unfold makeSliceA at h
 split at h
 ·rename_i k1 n k2 m
  obtain ⟨h0,h1,h2,h3,hK⟩:=h
  simp only [RepV,RepC] at hv hu
  obtain rfl:=hv.inv_int
  obtain rfl:=hu.inv_int
  obtain ⟨inf,hi,hsz,hby,z,hz,hzc⟩:=hte.info
  have hrun:=run_make (P:=P) w t e inf z hty hi hz k1 k2 n m h0 h1 (by rw [hby,Int.mul_comm]; exact h3) (by omega)
  have hzs:=hte.zsize hi hz
  have hfl:((List.replicate m.toNat ((T e).zero.map C.d)).flatten).length = m.toNat * (T e).size:=by
   simp [hte.zlen]
  refine ⟨_,upd β i₀ (some ⟨w.heap.size,0,none⟩),_,_,hK,hrun,?_⟩
  refine newSlice (e + 1) hr i₀ d hd rfl (by exact ⟨rfl,rfl⟩) (vs:=(madeCells z.cells (m.toNat * inf.size)).toList) ⟨?_,fun j c hc=>?_⟩ (fun j v hv=>by simpa using hv) ?_ (fun _ _=>rfl) _ _ _ (by omega) ?_
  ·rw [hfl,Array.length_toList,size_madeCells,hsz]
  ·have hlt:j < m.toNat * (T e).size:=by rw [← hfl]; exact (List.getElem?_eq_some_iff.1 hc).1
   obtain ⟨i,e',j',q1,q2,q3⟩:=flatten_get (sz:=(T e).size) _ (fun e' he'=>by rw [List.eq_of_mem_replicate he',List.length_map,hte.zlen]) j c hc
   have he':e' = (T e).zero.map C.d:=List.eq_of_mem_replicate (List.mem_of_getElem? q1)
   subst he'
   rw [List.getElem?_map] at q2
   cases hq:(T e).zero[j']? with
   | none=>rw [hq] at q2; cases q2
   | some x =>
     rw [hq] at q2
     simp only [Option.map_some,Option.some.injEq] at q2
     subst q2
     have hj':j' < (T e).size:=by rw [← hte.zlen]; exact (List.getElem?_eq_some_iff.1 hq).1
     have hmod:j % z.cells.size = j':=by rw [hzs,q3,Nat.mul_comm,Nat.mul_add_mod,Nat.mod_eq_of_lt hj']
     have hzj:z.cells[j']? = some (dV x):=by rw [← Array.getElem?_toList,hzc,List.getElem?_map,hq]; rfl
     refine ⟨dV x,?_,?_⟩
     ·rw [Array.getElem?_toList]
      have:j < m.toNat * inf.size:=by rw [hsz]; exact hlt
      simp only [madeCells,Array.getElem?_map,Array.getElem?_range,this,if_true,Option.map_some,hmod]
      rw [getElem!_def,hzj]
     ·simp only [RepC]
      exact RepD.of_plain (by have:=hte.plain; rw [List.all_eq_true] at this; exact this x (List.mem_of_getElem? hq))
  ·rw [hfl,size_madeCells,hsz]; exact Nat.le_refl _
  ·rw [size_madeCells,hsz]; exact Nat.le_refl _
 ·exact h.elim
theorem foldl_zip (off:Nat):∀ (l:List Value) (k:Nat) (c:Array Value),((l.zipIdx k).foldl (fun cs (p:Value × Nat)=>cs.setIfInBounds (off + p.2) p.1) c).size = c.size ∧
  ∀ j,((l.zipIdx k).foldl (fun cs (p:Value × Nat)=>cs.setIfInBounds (off + p.2) p.1) c)[j]? = if off + k ≤ j ∧ j < off + k + l.length ∧ j < c.size then l[j - (off + k)]? else c[j]?
 | [],k,c=>⟨rfl,fun j=>by rw [if_neg (by simp; omega)]; rfl⟩
 | v :: l,k,c=>by
   simp only [List.zipIdx_cons,List.foldl_cons]
   obtain ⟨h1,h2⟩:=foldl_zip off l (k + 1) (c.setIfInBounds (off + k) v)
   refine ⟨by rw [h1]; simp,fun j=>?_⟩
   rw [h2 j]
   simp only [Array.size_setIfInBounds,List.length_cons]
   by_cases hj:j = off + k
   ·subst hj
    rw [if_neg (by omega)]
    by_cases hs:off + k < c.size
    ·rw [if_pos (by omega),Array.getElem?_setIfInBounds_self_of_lt hs]; simp
    ·rw [if_neg (by omega)]; simp [hs]
   ·by_cases hc:off + (k + 1) ≤ j ∧ j < off + (k + 1) + l.length ∧ j < c.size
    ·rw [if_pos hc,if_pos (by omega)]
     have:j - (off + k) = (j - (off + (k + 1))) + 1:=by omega
     rw [this,List.getElem?_cons_succ]
    ·rw [if_neg hc,if_neg (by omega),Array.getElem?_setIfInBounds_ne (Ne.symm hj)]
theorem fill_step {pl:Nat → Option (Nat × Nat)} {i off sz:Nat} {v:Value} {vs:List Value} {cells:Array Value} {rest:List (Nat × Value)} (hp:pl i = some (off,sz)) (hv:v.cells = vs.toArray) (hl:vs.length = sz) (hfit:off + sz ≤ cells.size) :
  ∃ cells':Array Value,Instr.fill pl cells ((i,v) :: rest) = Instr.fill pl cells' rest ∧ cells'.size = cells.size ∧ ∀ j,cells'[j]? = if off ≤ j ∧ j < off + sz ∧ j < cells.size then vs[j - off]? else cells[j]?:=by
 obtain ⟨h1,h2⟩:=foldl_zip off vs 0 cells
 have hsz:v.cells.size = sz:=by rw [hv]; simpa using hl
 refine ⟨_,?_,h1,fun j=>?_⟩
 ·simp only [Instr.fill,hp,hsz,ne_eq,not_true_eq_false,decide_false,Bool.false_or,gt_iff_lt,decide_eq_true_eq,if_neg (Nat.not_lt.2 hfit)]
  rw [hv]
  congr 1
  simp
 ·have:=h2 j
  simp only [Nat.add_zero,hl] at this
  exact this
theorem fillA_sound {N:Nat} {s:St} {a:Act} (hr:Rel b₀ N s β a w) {pl:Nat → Option (Nat × Nat)}:∀ (ps:List (Nat × Operand)) {cells:List C} {carr:Array Value} {K:List C → Prop} {k:Box K},CellsAre b₀ β s w cells carr.toList →
  fillA pl cells (ps.map fun p=>(p.1,s.ev p.2)) k → ∃ cells' carr',K cells' ∧ Instr.fill pl carr (ps.map fun p=>(p.1,a.eval p.2)) = some carr' ∧ CellsAre b₀ β s w cells' carr'.toList
 | [],cells,carr,K,k,hc,h=>⟨cells,carr,h,rfl,hc⟩
 | p :: ps,cells,carr,K,k,hc,h=>by
   simp only [List.map_cons,fillA] at h
   obtain ⟨q,hq,h⟩:=onSome_inv h
   obtain ⟨cs,hcs,hl,hfit,h⟩:=onSome_inv h
   obtain ⟨vs,e1,e2,e3,e4⟩:=RepV.cells hcs (hr.ev p.2)
   have hcl:carr.size = cells.length:=by simpa using hc.1
   obtain ⟨carr',g1,g2,g3⟩:=fill_step (rest:=ps.map fun p=>(p.1,a.eval p.2)) (cells:=carr) hq e1 (by rw [e2,hl]) (by omega)
   have hc':CellsAre b₀ β s w (setAt cells q.1 cs) carr'.toList:=by
    refine ⟨by simp [setAt_length,g2,hcl],fun j c hj=>?_⟩
    rw [setAt_get] at hj
    rw [Array.getElem?_toList,g3]
    split at hj
    ·rename_i hin
     rw [if_pos (by omega)]
     exact e3 _ c hj
    ·rename_i hin
     rw [if_neg (by omega)]
     simpa using hc.2 j c hj
   obtain ⟨cells'',carr'',f1,f2,f3⟩:=fillA_sound hr ps hc' h
   exact ⟨cells'',carr'',f1,by simp only [List.map_cons]; rw [g1]; exact f2,f3⟩
theorem catA_sound {N:Nat} {s:St} {a:Act} (hr:Rel b₀ N s β a w) {sz:Nat}:∀ (ps:List (Nat × Operand)) {k:Nat} {arr:Array Value} {K:List C → Prop} {b:Box K},arr.size = (k + ps.length) * sz →
  catA sz k (ps.map fun p=>(p.1,s.ev p.2)) b → ∃ cs vs arr',K cs ∧ Instr.fill (fun i=>some (i * sz,sz)) arr (ps.map fun p=>(p.1,a.eval p.2)) = some arr' ∧ arr'.size = arr.size ∧ CellsAre b₀ β s w cs vs ∧ vs.length = ps.length * sz ∧
   (∀ j,j < k * sz → arr'[j]? = arr[j]?) ∧ ∀ (j:Nat) v,vs[j]? = some v → arr'[k * sz + j]? = some v
 | [],k,arr,K,b,hsz,h=>⟨[],[],arr,h,rfl,rfl,⟨rfl,fun _ _ h=>by simp at h⟩,by simp,fun _ _=>rfl,fun _ _ h=>by simp at h⟩
 | p :: ps,k,arr,K,b,hsz,h=>by
   simp only [List.map_cons,catA] at h
   obtain ⟨hk,h⟩:=h
   obtain ⟨cs,hcs,hl,h⟩:=onSome_inv h
   obtain ⟨vs,e1,e2,e3,e4⟩:=RepV.cells hcs (hr.ev p.2)
   have hmul:(k + (ps.length + 1)) * sz = k * sz + sz + ps.length * sz:=by rw [Nat.add_mul,Nat.add_mul]; omega
   simp only [List.length_cons] at hsz
   rw [hmul] at hsz
   obtain ⟨arr1,g1,g2,g3⟩:=fill_step (pl:=fun i=>some (i * sz,sz)) (i:=p.1) (v:=a.eval p.2) (rest:=ps.map fun p=>(p.1,a.eval p.2)) (cells:=arr) (by rw [hk]) e1 (by rw [e2,hl]) (by omega)
   have hmul2:(k + 1) * sz = k * sz + sz:=by rw [Nat.add_mul]; omega
   obtain ⟨rest,vr,arr2,f1,f2,f3,f4,f5,f6,f7⟩:=catA_sound hr ps (k:=k + 1) (arr:=arr1) (by rw [g2,hsz,Nat.add_mul,hmul2]) h
   have hvl:vs.length = sz:=by rw [e2,hl]
   refine ⟨cs ++ rest,vs ++ vr,arr2,f1,by simp only [List.map_cons]; rw [g1]; exact f2,by rw [f3,g2],CellsAre.append ⟨e2,e3⟩ f4,by simp [hvl,f5,Nat.add_mul]; omega,fun j hj=>?_,fun j v hj=>?_⟩
   ·rw [f6 j (by omega),g3,if_neg (by omega)]
   ·rw [List.getElem?_append] at hj
    split at hj
    ·rename_i hlt
     rw [hvl] at hlt
     rw [f6 _ (by omega),g3,if_pos (by omega),show k * sz + j - k * sz = j by omega]
     exact hj
    ·rename_i hlt
     have:=f7 _ v hj
     rw [hvl] at this hlt
     rw [hmul2,show k * sz + sz + (j - sz) = k * sz + j by omega] at this
     exact this
theorem buildSliceA_sound (hT:TabOk P T) {N:Nat} {s:St} {a:Act} (hr:Rel b₀ N s β a w) {t i₀ d n:Nat} (hsl:okSl T t = true) (hd:d < N) {ps:List (Nat × Operand)} {K:St → Prop} {k:Box K}
  (h:buildSliceA (elemTy T t) (elemTI T t).size i₀ d n s (ps.map fun p=>(p.1,s.ev p.2)) k) :
  ∃ s' β' w' cv,K s' ∧ (Instr.buildSlice t n (ps.map fun p=>(p.1,a.eval p.2)).toArray).run P w = .ok cv w' ∧ Rel b₀ N s' β' (a.put (some d) cv) w' ∧ Tr b₀ β s w β' s' w':=by
 obtain ⟨e,he1,he2,hty,hte⟩:=okSl_inv hT hsl
 rw [he2,show elemTy T t = e from by simp [elemTy,he1]] at h
 obtain ⟨inf,hi,hsz,hby,z,hz,hzc⟩:=hte.info
 have hzs:=hte.zsize hi hz
 obtain ⟨hn,hbig0,h⟩:=h
 rw [List.length_map] at hn
 have hbig:¬ n * (T e).size > 2 ^ 24:=by omega
 have hf:∀ arr:Array Value,arr.size = n * (T e).size → ∃ cs arr',K ((s.newC (e + 1) i₀ cs).put (some d) (.one (.osl i₀ (nxC (e + 1) (s.gen i₀)) (T e).size 0 n))) ∧ Instr.fill (fun i=>some (i * (T e).size,(T e).size)) arr (ps.map fun p=>(p.1,a.eval p.2)) = some arr' ∧ CellsAre b₀ β s w cs arr'.toList ∧ arr'.size = n * (T e).size:=fun arr harr=>by
  obtain ⟨cs,vs,arr',f1,f2,f3,f4,f5,f6,f7⟩:=catA_sound hr ps (k:=0) (arr:=arr) (by rw [harr,Nat.zero_add,hn]) h
  have hv:vs = arr'.toList:=by
   apply List.ext_getElem?
   intro j
   have e2:arr'.toList[j]? = arr'[j]?:=Array.getElem?_toList
   rw [e2]
   by_cases hj:j < vs.length
   ·have:=f7 j _ (List.getElem?_eq_getElem hj)
    rw [List.getElem?_eq_getElem hj,← this]; simp
   ·rw [List.getElem?_eq_none (by omega),Array.getElem?_eq_none (by rw [f3,harr,← hn,← f5]; omega)]
  exact ⟨cs,arr',f1,f2,hv ▸ f4,by rw [f3,harr]⟩
 have key:∃ cs arr',K ((s.newC (e + 1) i₀ cs).put (some d) (.one (.osl i₀ (nxC (e + 1) (s.gen i₀)) (T e).size 0 n))) ∧ (Instr.buildSlice t n (ps.map fun p=>(p.1,a.eval p.2)).toArray).run P w = .ok (.slice (some ⟨w.heap.size,0,none⟩) n n) (w.alloc (.cells arr' e)) ∧ CellsAre b₀ β s w cs arr'.toList ∧ arr'.size = n * (T e).size:=by
  unfold Instr.buildSlice
  simp only [Sem.run_bind,run_underlying hty,run_sizeOf' hte,Result.andThen_ok,hbig,if_false]
  by_cases h0:n * (T e).size = 0
  ·obtain ⟨cs,arr',f1,f2,f3,f4⟩:=hf ((Array.range (n * (T e).size)).map (fun x=>(#[]:Array Value)[x % (#[]:Array Value).size]!)) (by simp)
   refine ⟨cs,arr',f1,?_,f3,f4⟩
   simp only [h0,if_true,Sem.run_bind,Sem.run_pure,Result.andThen_ok]
   rw [h0] at f2
   simp only [f2]
   simp [newRow]
  ·obtain ⟨cs,arr',f1,f2,f3,f4⟩:=hf ((Array.range (n * (T e).size)).map (fun x=>z.cells[x % z.cells.size]!)) (by simp)
   refine ⟨cs,arr',f1,?_,f3,f4⟩
   simp only [h0,if_false,Sem.run_bind,zeroValue,typeInfo,Sem.run_pure,run_program,Result.andThen_ok,hi,hz]
   simp only [f2]
   simp [newRow]
 obtain ⟨cs,arr',f1,f2,f3,f4⟩:=key
 have hcl:cs.length = arr'.size:=by have:=f3.1; simpa using this.symm
 refine ⟨_,upd β i₀ (some ⟨w.heap.size,0,none⟩),_,_,f1,f2,?_⟩
 exact newSlice (e + 1) hr i₀ d hd (arr:=arr') (el:=e) rfl (by exact ⟨rfl,rfl⟩) f3 (fun j v hv=>by simpa using hv) (by omega) (fun _ _=>rfl) _ _ _ (Nat.le_refl _) (by omega)
theorem newPtr {N:Nat} {s:St} {a:Act} (hr:Rel b₀ N s β a w) (i d:Nat) (hd:d < N) {el:TypeId} {cs:List C} {arr:Array Value} (hc:CellsAre b₀ β s w cs arr.toList) :
  Rel b₀ N ((s.newC (el + 1) i cs).put (some d) (.one (.ptr i (nxC (el + 1) (s.gen i)) 0))) (upd β i (some ⟨w.heap.size,0,none⟩)) (a.put (some d) (.pointer (some ⟨w.heap.size,0,none⟩))) (w.alloc (.cells arr el)) ∧
   Tr b₀ β s w (upd β i (some ⟨w.heap.size,0,none⟩)) ((s.newC (el + 1) i cs).put (some d) (.one (.ptr i (nxC (el + 1) (s.gen i)) 0))) (w.alloc (.cells arr el)):=by
 have hcl:cs.length = arr.size:=by have:=hc.1; simpa using this.symm
 obtain ⟨h1,h2⟩:=Rel.new (w':=w.alloc (.cells arr el)) (el + 1) hr i rfl ⟨rfl,rfl⟩ (cs:=cs) (by omega) (fun _ _=>rfl) (fun j c hj=>by simpa using hc.2 j c hj)
 refine ⟨h1.put (fun d' hd'=>by cases hd'; exact hd) ?_,h2.trans (Tr.same (St.put_gen _ _ _) (St.put_obj _ _ _) rfl)⟩
 simp only [RepV,RepC]
 refine ⟨rfl,by simp [St.newC,upd],fun _ _=>⟨⟨w.heap.size,0,none⟩,by simp [upd],rfl,by simp⟩⟩
end
end Go.Am

namespace Go.Am
def dstsOk (N:Nat) (l:List Oper):Bool:=l.all fun o=>match o.dst with | some d=>decide (d < N) | none=>true
def codeOk (N:Nat):Code → Bool
 | .region _ ops _=>dstsOk N ops.toList
 | .seq x y=>codeOk N x && codeOk N y
 | .cond _ x y=>codeOk N x && codeOk N y
 | .block _ c=>codeOk N c
 | .loop c=>codeOk N c
 | .scope c=>codeOk N c
 | .rangeFunc _ ps x y=>ps.toList.all (fun p=>decide (p < N)) && codeOk N x && codeOk N y
 | _=>true
def SemOp (P:Program) (o:Oper) (s:St) (R:St → Prop):Prop:=∀ (b₀:Bs) (N:Nat) (β:Loc) (a:Act) (w:World),Rel b₀ N s β a w → (∀ d,o.dst = some d → d < N) → ∀ (next:Act → World → Prop) (Q:Exit → Act → World → Prop),
 (∀ s' β' a' w',R s' → Rel b₀ N s' β' a' w' → Tr b₀ β s w β' s' w' → next a' w') → o.wp P a w next Q
def SemCode (P:Program) (c:Code) (s:St) (R:Exit → St → Prop):Prop:=∀ (b₀:Bs) (N:Nat) (β:Loc) (a:Act) (w:World),codeOk N c = true → Rel b₀ N s β a w →
 c.wp P (fun e a' w'=>∃ s' β',R e s' ∧ Rel b₀ N s' β' a' w' ∧ Tr b₀ β s w β' s' w') a w
def SemVs (s s₁:St):Prop:=∀ (b₀:Bs) (N:Nat) (β:Loc) (a:Act) (w:World),Rel b₀ N s β a w → ∃ β',Rel b₀ N s₁ β' a w ∧ Tr b₀ β s w β' s₁ w
theorem SemVs.refl (s:St):SemVs s s:=fun _ _ β _ _ h=>⟨β,h,Tr.refl⟩
def spB (P:Program) (B:Nat):Sp:=⟨SemOp P,SemCode P,SemVs,B⟩
def sp (P:Program):Sp:=spB P 0
@[go_sem] theorem sp_base (P:Program):(sp P).base = 0:=Eq.trans rfl rfl
@[go_sem] theorem spB_base (P:Program) (B:Nat):(spB P B).base = B:=Eq.trans rfl rfl
section
variable {P:Program} {T:Nat → TI} {b₀:Bs} {β:Loc} {w:World} {B:Nat}
theorem wp_value {o:Oper} {a:Act} {next:Act → World → Prop} {Q:Exit → Act → World → Prop} {cv:Value} {w':World} (hrun:(execOp a.eval o).run P w = .ok (.value cv) w') (hn:next (a.put o.dst cv) w'):o.wp P a w next Q:=by
 unfold Oper.wp; rw [hrun]; exact hn
theorem wp_skip' {o:Oper} {a:Act} {next:Act → World → Prop} {Q:Exit → Act → World → Prop} {w':World} (hrun:(execOp a.eval o).run P w = .ok .skip w') (hn:next (a.put o.dst undef) w'):o.wp P a w next Q:=by
 unfold Oper.wp; rw [hrun]; exact hn
theorem undefRep {g:Nat → Nat} {ob:Obs}:RepV b₀ β g ob w uv undef:=by
 simp only [RepV,RepVs]; exact ⟨[],rfl,rfl⟩
theorem arr_one {α:Type} {xs:Array α} (h:xs.size = 1) (d:α):xs = #[xs.getD 0 d]:=by
 apply Array.ext
 ·simp [h]
 ·intro i h1 h2
  have:i = 0:=by omega
  subst this
  simp [Array.getD,h]
theorem arr_two {α:Type} {xs:Array α} (h:xs.size = 2) (d:α):xs = #[xs.getD 0 d,xs.getD 1 d]:=by
 apply Array.ext
 ·simp [h]
 ·intro i h1 h2
  have:i = 0 ∨ i = 1:=by omega
  rcases this with rfl | rfl <;> simp [Array.getD,h]
theorem fieldOf_inv {d:TypeDesc} {f:Nat} {fl:Field} (h:fieldOf d f = some fl):∃ fs,d = .struct fs ∧ fs[f]? = some fl:=by
 cases d <;> simp [fieldOf] at h
 exact ⟨_,rfl,by simpa using h⟩
theorem run_fieldPlace (hT:TabOk P T) {fl:Field} (h1:okD (T fl.type).desc = true) (h2:(T fl.type).size ≠ 0) (b o:Nat):(fieldPlace ⟨b,o,none⟩ fl).run P w = .ok ⟨b,o + fl.offset,none⟩ w:=by
 unfold fieldPlace
 rw [Sem.run_bind,run_sizeOf' (hT _ h1)]
 simp [h2,addr_add]
theorem fieldAddrA_sound (hT:TabOk P T) {s:St} {t f:Nat} {x:AV} {v:Value} {K:AV → Prop} {k:Box K} (h:fieldAddrA T t f s x k) (hv:RepV b₀ β s.gen s.obj w x v) :
  ∃ y cv,K y ∧ (∀ w',Ext w w' → (Instr.fieldAt t v f).run P w' = .ok cv w') ∧ RepV b₀ β s.gen s.obj w y cv:=by
 unfold fieldAddrA at h
 split at h
 ·rename_i id g off
  obtain ⟨hg,ho,h⟩:=h
  obtain ⟨fl,hfl,⟨h1,h2⟩,hK⟩:=onSome_inv h
  obtain ⟨fs,hd,hf⟩:=fieldOf_inv hfl
  have hu:=(hT t (by rw [hd]; rfl)).desc
  rw [hd] at hu
  simp only [RepV,RepC] at hv
  obtain ⟨ad,hβ,hsp,rfl⟩:=hv.2.2 hg ho
  refine ⟨_,.pointer (some ⟨ad.block,ad.off + off + fl.offset,none⟩),hK,fun w' _=>?_,?_⟩
  ·simp [Instr.fieldAt,run_underlying hu,hf,Instr.sureAddr,run_fieldPlace hT h1 h2]
  ·simp only [RepV,RepC]
   exact ⟨rfl,hv.2.1,fun _ _=>⟨ad,hβ,hsp,by simp [Nat.add_assoc]⟩⟩
 ·rename_i cs
  obtain ⟨fl,hfl,⟨h1,h2⟩,hK⟩:=onSome_inv h
  obtain ⟨fs,hd,hf⟩:=fieldOf_inv hfl
  have hu:=(hT t (by rw [hd]; rfl)).desc
  rw [hd] at hu
  simp only [RepV,RepC] at hv
  cases hv with
  | iptr vals hJ hcl hrd =>
    rename_i b off
    refine ⟨_,.pointer (some ⟨b,off + fl.offset,none⟩),hK,fun w' _=>?_,?_⟩
    ·simp [Instr.fieldAt,run_underlying hu,hf,Instr.sureAddr,run_fieldPlace hT h1 h2]
    ·simp only [RepV,RepC]
     refine .iptr (fun j=>vals (fl.offset + j)) (fun hne=>hJ (by rintro rfl; simp at hne)) (fun j x hx=>?_) (fun j x hx=>hrd _ x (by rw [List.getElem?_drop] at hx; exact hx))
     rw [List.getElem?_drop] at hx
     rw [Nat.add_assoc]; exact hcl _ x hx
 ·exact h.elim
theorem RepCs.part {g:Nat → Nat} {ob:Obs} {cs:List C} {vs:Array Value} (h:RepCs b₀ β g ob w cs vs) {o n:Nat} (hfit:o + n ≤ cs.length):RepV b₀ β g ob w (.agg ((cs.drop o).take n)) (.agg (vs.extract o (o + n))):=by
 simp only [RepV]
 refine ⟨_,rfl,by simp [h.1]; omega,fun i c hc=>?_⟩
 rw [List.getElem?_take] at hc
 split at hc
 ·rename_i hi
  rw [List.getElem?_drop] at hc
  obtain ⟨u,hu,hr⟩:=h.2 _ c hc
  refine ⟨u,?_,hr⟩
  rw [Array.getElem?_extract]
  have:i < min (o + n) vs.size - o:=by rw [h.1]; omega
  rw [if_pos this]; exact hu
 ·cases hc
theorem fieldA_sound (hT:TabOk P T) {s:St} {t f:Nat} {x:AV} {v:Value} {K:AV → Prop} {k:Box K} (h:fieldA T t f x k) (hv:RepV b₀ β s.gen s.obj w x v) :
  ∃ y cv,K y ∧ (∀ w',Ext w w' → (Instr.field t v f).run P w' = .ok cv w') ∧ RepV b₀ β s.gen s.obj w y cv:=by
 unfold fieldA at h
 split at h
 ·rename_i cs
  obtain ⟨fl,hfl,h1,h⟩:=onSome_inv h
  obtain ⟨fs,hd,hf⟩:=fieldOf_inv hfl
  have hu:=(hT t (by rw [hd]; rfl)).desc
  rw [hd] at hu
  have hty:=hT _ h1
  simp only [RepV] at hv
  obtain ⟨vs,rfl,hvs⟩:=hv
  unfold readC at h
  split at h
  ·rename_i hagg
   refine ⟨_,_,h.2,fun w' _=>?_,RepCs.part hvs h.1⟩
   simp [Instr.field,run_underlying hu,hf,asAgg,part,run_isAgg hty,hagg,run_sizeOf' hty]
  ·rename_i hagg
   obtain ⟨c,hc,hK⟩:=onSome_inv h
   obtain ⟨u,hu',hr⟩:=hvs.2 _ c hc
   refine ⟨_,u,hK,fun w' _=>?_,by simpa only [RepV] using hr⟩
   simp [Instr.field,run_underlying hu,hf,asAgg,part,run_isAgg hty,hagg,hu']
 ·exact h.elim
theorem nilCheckA_sound {s:St} {o:Oper} {ox:Operand} {a:Act} (ho:o.op = .nilCheck ox) {x:AV} {K:AV → Prop} {k:Box K} (h:nilCheckA s x k) (hv:RepV b₀ β s.gen s.obj w x (a.eval ox)) :
  ∃ y cv,K y ∧ (∀ w',Ext w w' → (execOp a.eval o).run P w' = .ok (.value cv) w') ∧ RepV b₀ β s.gen s.obj w y cv:=by
 have hv0:=hv
 unfold nilCheckA at h
 split at h
 ·obtain ⟨hg,hob,hK⟩:=h
  simp only [RepV,RepC] at hv
  obtain ⟨ad,hβ,hsp,he⟩:=hv.2.2 hg hob
  exact ⟨_,_,hK,fun w' _=>by simp [execOp,ho,he],hv0⟩
 ·simp only [RepV,RepC] at hv
  generalize hg:a.eval ox = v at hv
  cases hv with
  | iptr vals hJ hcl hrd=>exact ⟨_,.pointer (some ⟨_,_,none⟩),h,fun w' _=>by simp [execOp,ho,hg]; exact ⟨rfl,rfl⟩,by rw [hg] at hv0; exact hv0⟩
 ·exact h.elim
theorem RepVs.get {g:Nat → Nat} {ob:Obs}:∀ {ts:List AV} {vs:List Value} {i:Nat} {t:AV},RepVs b₀ β g ob w ts vs → ts[i]? = some t → ∃ v,vs[i]? = some v ∧ RepV b₀ β g ob w t v
 | [],_,_,_,_,h=>by simp at h
 | x :: ts,vs,i,t,h,hi=>by
   simp only [RepVs] at h
   obtain ⟨u,us,rfl,h1,h2⟩:=h
   cases i with
   | zero=>simp at hi; subst hi; exact ⟨u,rfl,h1⟩
   | succ i=>simpa using RepVs.get h2 (by simpa using hi)
theorem opA_pure (hT:TabOk P T) {S:Sp} {N:Nat} {s:St} {a:Act} (hr:Rel b₀ N s β a w) {o:Oper} (hp:pureOp T o.op = true) {K:St → Prop} {k:Box K} (h:opA S T o s k) :
  ∃ y cv,K (s.put o.dst y) ∧ (∀ w',Ext w w' → (execOp a.eval o).run P w' = .ok (.value cv) w') ∧ RepV b₀ β s.gen s.obj w y cv:=by
 obtain ⟨dst,op,ty,ps,af,gd⟩:=o
 cases op with
 | move x=>exact ⟨_,_,h,fun _ _=>rfl,hr.ev x⟩
 | assign x=>exact ⟨_,_,h,fun _ _=>rfl,hr.ev x⟩
 | pick c x y =>
   obtain ⟨b,hb,hK⟩:=onBool_inv h (hr.ev c)
   refine ⟨_,if b then a.eval x else a.eval y,hK,fun w' _=>?_,?_⟩
   ·simp [execOp,hb,asBool]
   ·cases b
    ·exact hr.ev y
    ·exact hr.ev x
 | load t x =>
   obtain ⟨y,cv,h1,h2,h3⟩:=loadA_sound hT hr h (hr.ev x)
   exact ⟨y,cv,h1,fun w' hw'=>by simp [execOp,h2 w' hw'],h3⟩
 | indexAddr t x ix =>
   have h:(bif isArr (T t).desc then arrAddrA T (T t).desc s (s.ev x) (s.ev ix) (bx fun v=>K (s.put dst v)) else okSl T t = true ∧ indexAddrA s (elemTI T t).size (s.ev x) (s.ev ix) (bx fun v=>K (s.put dst v))):=by cases x <;> first | exact h | (simp [pureOp] at hp; done)
   cases ha:isArr (T t).desc with
   | true =>
     rw [ha,cond_true] at h
     obtain ⟨y,cv,h1,h2,h3⟩:=arrAddrA_sound hT h (hr.ev x) (hr.ev ix)
     exact ⟨y,cv,h1,fun w' hw'=>by simp [execOp,h2 w' hw'],h3⟩
   | false =>
     rw [ha,cond_false] at h
     obtain ⟨y,cv,h1,h2,h3⟩:=indexAddrA_sound hT h.1 h.2 (hr.ev x) (hr.ev ix)
     exact ⟨y,cv,h1,fun w' hw'=>by simp [execOp,h2 w' hw'],h3⟩
 | index t x ix =>
   have hu:=(hT t (by rw [isStr_of h.1]; rfl)).desc
   rw [isStr_of h.1] at hu
   obtain ⟨y,cv,h1,h2,h3⟩:=indexA_sound (s:=s) hu h.2 (hr.ev x) (hr.ev ix)
   exact ⟨y,cv,h1,fun w' hw'=>by simp [execOp,h2 w' hw'],h3⟩
 | binOp bo t x y u =>
   obtain ⟨z,cv,h1,h2,h3⟩:=binA_sound hT h (hr.ev x) (hr.ev y) x y
   refine ⟨z,cv,h1,fun w' hw'=>?_,h3⟩
   simp only [execOp]
   rw [Sem.run_bind,h2 w' hw']
   rfl
 | unOp uo t x =>
   have h:unA uo (s.ev x) (bx fun v=>K (s.put dst v)):=h
   obtain ⟨z,cv,h1,h2,h3⟩:=unA_sound (P:=P) h (hr.ev x)
   exact ⟨z,cv,h1,fun w' hw'=>by simp [execOp,h2 w' hw'],h3⟩
 | convert t u x =>
   have hns:isSlice (T u).desc = false:=by simpa [pureOp] using hp
   have h:(bif isSlice (T u).desc then convSlA T t u S.base dst s (s.ev x) k else convA s (elemTI T t).desc (T t).desc (T u).desc (s.ev x) (bx fun v=>K (s.put dst v))):=h
   rw [hns,cond_false] at h
   obtain ⟨z,cv,h1,h2,h3⟩:=convA_sound hT hr h (hr.ev x)
   exact ⟨z,cv,h1,fun w' hw'=>by simp [execOp,h2 w' hw'],h3⟩
 | slice t x lo hi mx =>
   cases mx with
   | some _=>simp [pureOp] at hp
   | none =>
     have e1:RepO b₀ β s.gen s.obj w (lo.map s.ev) (lo.map a.eval):=by cases lo; exact .none; exact .some (hr.ev _)
     have e2:RepO b₀ β s.gen s.obj w (hi.map s.ev) (hi.map a.eval):=by cases hi; exact .none; exact .some (hr.ev _)
     have h:sliceA s (isStr (T t).desc) (okSl T t) (elemTI T t).size (s.ev x) (lo.map s.ev) (hi.map s.ev) (bx fun v=>K (s.put dst v)):=h
     obtain ⟨z,cv,h1,h2,h3⟩:=sliceA_sound hT h (hr.ev x) e1 e2
     exact ⟨z,cv,h1,fun w' hw'=>by simp [execOp,h2 w' hw'],h3⟩
 | fieldAddr t x f =>
   have h:fieldAddrA T t f s (s.ev x) (bx fun v=>K (s.put dst v)):=h
   obtain ⟨z,cv,h1,h2,h3⟩:=fieldAddrA_sound hT h (hr.ev x)
   exact ⟨z,cv,h1,fun w' hw'=>by simp [execOp,h2 w' hw'],h3⟩
 | field t x f =>
   have h:fieldA T t f (s.ev x) (bx fun v=>K (s.put dst v)):=h
   obtain ⟨z,cv,h1,h2,h3⟩:=fieldA_sound hT h (hr.ev x)
   exact ⟨z,cv,h1,fun w' hw'=>by simp [execOp,h2 w' hw'],h3⟩
 | lookup t x ix ok =>
   have h:lookupA T t s (s.ev x) (s.ev ix) ok (bx fun v=>K (s.put dst v)):=h
   obtain ⟨z,cv,h1,h2,h3⟩:=lookupA_sound hT hr h (hr.ev x) (hr.ev ix)
   exact ⟨z,cv,h1,fun w' hw'=>by simp [execOp,h2 w' hw'],h3⟩
 | makeFunc fn first caps =>
   cases fn with
   | func f =>
     have h:makeFuncA f first.size (caps.toList.map s.ev) (bx fun v=>K (s.put dst v)):=h
     obtain ⟨z,cv,h1,h2,h3⟩:=makeFuncA_sound (P:=P) hr h
     exact ⟨z,cv,h1,fun w' hw'=>by simp [execOp,h2 w' hw'],h3⟩
   | _=>simp [pureOp] at hp
 | nilCheck x =>
   have h:nilCheckA s (s.ev x) (bx fun v=>K (s.put dst v)):=h
   exact nilCheckA_sound rfl h (hr.ev x)
 | extract x i =>
   have h:extractA (s.ev x) i (bx fun v=>K (s.put dst v)):=h
   have hx:=hr.ev x
   unfold extractA at h
   split at h
   ·rename_i ts he
    obtain ⟨t,ht,hK⟩:=onSome_inv h
    rw [he] at hx
    simp only [RepV] at hx
    obtain ⟨vs,hv,hvs⟩:=hx
    obtain ⟨v,hv1,hv2⟩:=hvs.get ht
    exact ⟨_,v,hK,fun w' _=>by simp [execOp,hv,Instr.extract,hv1],hv2⟩
   ·exact h.elim
 | build t ps =>
   have h:buildA T t (ps.toList.map fun p=>(p.1,s.ev p.2)) (bx fun v=>K (s.put dst v)):=h
   obtain ⟨hst,h⟩:=h
   obtain hd':(∃ fs,(T t).desc = .struct fs ∧ ∀ f ∈ fs.toList,okD (T f.type).desc = true) ∨ ∃ n e,(T t).desc = .array n e ∧ okD (T e).desc = true:=by
    unfold okSt at hst
    split at hst
    ·rename_i fs hq; exact .inl ⟨fs,hq,List.all_eq_true.1 hst⟩
    ·rename_i n e hq; exact .inr ⟨n,e,hq,hst⟩
    ·cases hst
   have hty:=hT t (by rcases hd' with ⟨_,hd,_⟩ | ⟨_,_,hd,_⟩ <;> rw [hd] <;> rfl)
   have hu:=hty.desc
   obtain ⟨inf,hi,hsz,hby,z,hz,hzc⟩:=hty.info
   have hc0:CellsAre b₀ β s w ((T t).zero.map .d) z.cells.toList:=by
    refine ⟨by rw [hzc]; simp,fun j c hc=>?_⟩
    rw [hzc]
    rw [List.getElem?_map] at hc ⊢
    cases hq:(T t).zero[j]? with
    | none=>rw [hq] at hc; cases hc
    | some x =>
      rw [hq] at hc
      simp only [Option.map_some,Option.some.injEq] at hc
      subst hc
      refine ⟨_,rfl,?_⟩
      simp only [RepC]
      exact RepD.of_plain (by have:=hty.plain; rw [List.all_eq_true] at this; exact this x (List.mem_of_getElem? hq))
   obtain ⟨cells,carr,hK,hf,hc⟩:=fillA_sound hr ps.toList hc0 h
   refine ⟨_,.agg carr,hK,fun w' _=>?_,by simp only [RepV]; exact ⟨_,rfl,by simpa using hc.1,fun i c hi=>by simpa using hc.2 i c hi⟩⟩
   have hps:(ps.map fun x=>(x.1,a.eval x.2)) = (ps.toList.map fun p=>(p.1,a.eval p.2)).toArray:=Array.ext' (by simp)
   simp only [execOp,Sem.run_bind]
   rw [show (ps.map fun (i,x)=>(i,a.eval x)) = (ps.toList.map fun p=>(p.1,a.eval p.2)).toArray from hps]
   unfold Instr.build
   rcases hd' with ⟨fs,hd,hall⟩ | ⟨n,e,hd,hoe⟩
   ·rw [hd] at hu
    have hpl:∀ l:List Field,(∀ f ∈ l,okD (T f.type).desc = true) → (l.mapM fun f=>do pure (f.offset,← sizeOf f.type):Sem (List (Nat × Nat))).run P w' = .ok (l.map fun f=>(f.offset,(T f.type).size)) w':=by
     intro l
     induction l with
     | nil=>intro _; simp
     | cons f l ih =>
       intro h
       have hf:=run_sizeOf' (P:=P) (w:=w') (hT _ (h f (by simp)))
       simp only [List.mapM_cons,Sem.run_bind,hf,Result.andThen_ok,Sem.run_pure,ih (fun f hf=>h f (by simp [hf])),List.map_cons]
    have hfe:(fun i=>((fs.toList.map fun f=>(f.offset,(T f.type).size)).toArray)[i]?) = placeOf T (T t).desc:=by
     funext i
     rw [hd]
     simp only [placeOf,fieldOf,List.getElem?_toArray,List.getElem?_map,Array.getElem?_toList]
     cases hq:fs[i]? with
     | none=>rfl
     | some fl =>
       have:okD (T fl.type).desc = true:=hall fl (by have:=Array.mem_of_getElem? hq; simpa using this)
       simp [this]
    simp only [Sem.run_bind,zeroValue,typeInfo,run_program,Sem.run_pure,Result.andThen_ok,hi,hz,run_underlying hu]
    have hm:=hpl fs.toList hall
    rw [← Array.toArray_toList (xs:=fs),List.mapM_toArray,Sem.run_map,hm]
    simp only [Result.andThen_ok]
    rw [hfe,hf]
    simp
   ·rw [hd] at hu
    have hte:=run_sizeOf' (P:=P) (w:=w') (hT e hoe)
    have hfe:(fun i=>some (i * (T e).size,(T e).size)) = placeOf T (T t).desc:=by
     funext i
     rw [hd]
     rfl
    simp only [Sem.run_bind,zeroValue,typeInfo,run_program,Sem.run_pure,Result.andThen_ok,hi,hz,run_underlying hu,hte]
    rw [hfe,hf]
    simp
 | call c =>
   simp only [pureOp] at hp
   split at hp
   ·rename_i hc
    obtain ⟨callee,args,tys⟩:=c
    simp only at hc
    subst hc
    have h:(args.size = 1 ∧ tys.size = 1) ∧ lenA s (isStr (T (tys.getD 0 0)).desc) (okSl T (tys.getD 0 0)) (s.ev (args.getD 0 (.const .nilFunc))) (bx fun v=>K (s.put dst v)):=h
    obtain ⟨⟨ha,ht⟩,h⟩:=h
    obtain ⟨z,cv,h1,h2,h3⟩:=lenA_sound (ty:=ty) hT h (hr.ev (args.getD 0 (.const .nilFunc)))
    refine ⟨z,cv,h1,fun w' hw'=>?_,h3⟩
    have h2:=h2 w' hw'
    rw [arr_one ha (.const .nilFunc),arr_one ht 0]
    generalize args.getD 0 (.const .nilFunc) = x0 at *
    generalize tys.getD 0 0 = t0 at *
    simp [execOp,resolve,invoke,builtin,h2]
   ·rename_i hc
    obtain ⟨callee,args,tys⟩:=c
    simp only at hc
    subst hc
    have h:args.size = 2 ∧ mxA true (s.ev (args.getD 0 (.const .nilFunc))) (s.ev (args.getD 1 (.const .nilFunc))) (bx fun v=>K (s.put dst v)):=h
    obtain ⟨ha,h⟩:=h
    rw [arr_two ha (.const .nilFunc)]
    generalize args.getD 0 (.const .nilFunc) = x0 at *
    generalize args.getD 1 (.const .nilFunc) = x1 at *
    have e0:=hr.ev x0
    have e1:=hr.ev x1
    unfold mxA at h
    split at h
    ·rename_i k1 n1 k2 n2 he0 he1
     rw [he0] at e0; rw [he1] at e1
     simp only [RepV,RepC] at e0 e1
     have e0:=e0.inv_int
     have e1:=e1.inv_int
     refine ⟨_,.int k1 (max n1 n2),h,fun w' _=>?_,by simp only [RepV,RepC]; exact .int _ _⟩
     simp [execOp,resolve,invoke,builtin,Builtin.max_,Builtin.max2,e0,e1]
     omega
    ·exact h.elim
   ·rename_i hc
    obtain ⟨callee,args,tys⟩:=c
    simp only at hc
    subst hc
    have h:args.size = 2 ∧ mxA false (s.ev (args.getD 0 (.const .nilFunc))) (s.ev (args.getD 1 (.const .nilFunc))) (bx fun v=>K (s.put dst v)):=h
    obtain ⟨ha,h⟩:=h
    rw [arr_two ha (.const .nilFunc)]
    generalize args.getD 0 (.const .nilFunc) = x0 at *
    generalize args.getD 1 (.const .nilFunc) = x1 at *
    have e0:=hr.ev x0
    have e1:=hr.ev x1
    unfold mxA at h
    split at h
    ·rename_i k1 n1 k2 n2 he0 he1
     rw [he0] at e0; rw [he1] at e1
     simp only [RepV,RepC] at e0 e1
     have e0:=e0.inv_int
     have e1:=e1.inv_int
     refine ⟨_,.int k1 (min n1 n2),h,fun w' _=>?_,by simp only [RepV,RepC]; exact .int _ _⟩
     simp [execOp,resolve,invoke,builtin,Builtin.min_,Builtin.min2,e0,e1]
     omega
    ·exact h.elim
   ·cases hp
 | _=>simp [pureOp] at hp
theorem opA_sound (hT:TabOk P T) {N:Nat} {s:St} {a:Act} (hr:Rel b₀ N s β a w) {o:Oper} (hd:∀ d,o.dst = some d → d < N) {K:St → Prop} {k:Box K} (h:opA (spB P B) T o s k)
  {next:Act → World → Prop} {Q:Exit → Act → World → Prop} (hn:∀ s' β' a' w',K s' → Rel b₀ N s' β' a' w' → Tr b₀ β s w β' s' w' → next a' w'):o.wp P a w next Q:=by
 by_cases hp:pureOp T o.op = true
 ·obtain ⟨y,cv,h1,h2,h3⟩:=opA_pure hT hr hp h
  exact wp_value (h2 w .refl) (hn _ _ _ _ h1 (hr.put hd h3) (Tr.same (St.put_gen _ _ _) (St.put_obj _ _ _) rfl))
 ·have hhook:hookA (spB P B) o s k → o.wp P a w next Q:=fun ⟨R,hR,hK⟩=>hR b₀ N β a w hr hd next Q (fun s' β' a' w' hs=>hn s' β' a' w' (hK s' hs))
  obtain ⟨dst,op,ty,ps,af,gd⟩:=o
  cases op with
  | store t x y =>
    have h:storeA (T t) s (s.ev x) (s.ev y) (bx fun s'=>K (s'.put dst uv)):=h
    obtain ⟨s',w',h1,h2,h3,h4⟩:=storeA_sound hT hr h (hr.ev x) (hr.ev y)
    refine wp_skip' (w':=w') (by simp [execOp,h2]) (hn _ _ _ _ h1 (h3.put hd undefRep) (h4.trans (Tr.same (St.put_gen _ _ _) (St.put_obj _ _ _) rfl)))
  | buildSlice t n p =>
    cases dst with
    | none=>exact hhook h
    | some d =>
      have h:okSl T t = true ∧ buildSliceA (elemTy T t) (elemTI T t).size (B + d) d n s (p.toList.map fun p=>(p.1,s.ev p.2)) k:=h
      obtain ⟨s',β',w',cv,h1,h2,h3,h4⟩:=buildSliceA_sound hT hr h.1 (hd d rfl) h.2
      refine wp_value ?_ (hn _ _ _ _ h1 h3 h4)
      have:(p.map fun x=>(x.1,a.eval x.2)) = (p.toList.map fun p=>(p.1,a.eval p.2)).toArray:=Array.ext' (by simp)
      simp only [execOp,Sem.run_bind]
      rw [show (p.map fun (i,x)=>(i,a.eval x)) = (p.toList.map fun p=>(p.1,a.eval p.2)).toArray from this,h2]
      rfl
  | box t x =>
    cases dst with
    | none=>exact hhook h
    | some d =>
      have h:boxA t (B + d) d s (s.ev x) k:=h
      obtain ⟨cs,hcs,hK⟩:=onSome_inv h
      obtain ⟨vs,e1,e2,e3,e4⟩:=RepV.cells hcs (hr.ev x)
      obtain ⟨r1,r2⟩:=newPtr hr (B + d) d (hd d rfl) (el:=t) (cs:=cs) (arr:=vs.toArray) ⟨by simpa using e2,fun j c hc=>by simpa using e3 j c hc⟩
      exact wp_value (by simp [execOp,Instr.box,newVar,newRow,e1]) (hn _ _ _ _ hK r1 r2)
  | alloc t =>
    cases dst with
    | none=>exact hhook h
    | some d =>
      have h:allocA t (T t) (B + d) d s k:=h
      obtain ⟨hok,hK⟩:=h
      have hty:=hT t hok
      obtain ⟨inf,hi,hsz,hby,z,hz,hzc⟩:=hty.info
      have hc0:CellsAre b₀ β s w ((T t).zero.map .d) z.cells.toList:=by
       refine ⟨by rw [hzc]; simp,fun j c hc=>?_⟩
       rw [hzc]
       rw [List.getElem?_map] at hc ⊢
       cases hq:(T t).zero[j]? with
       | none=>rw [hq] at hc; cases hc
       | some x =>
         rw [hq] at hc
         simp only [Option.map_some,Option.some.injEq] at hc
         subst hc
         refine ⟨_,rfl,?_⟩
         simp only [RepC]
         exact RepD.of_plain (by have:=hty.plain; rw [List.all_eq_true] at this; exact this x (List.mem_of_getElem? hq))
      obtain ⟨r1,r2⟩:=newPtr hr (B + d) d (hd d rfl) (el:=t) hc0
      exact wp_value (by simp [execOp,Instr.alloc,newVar,newRow,zeroValue,typeInfo,hi,hz]) (hn _ _ _ _ hK r1 r2)
  | makeSlice t l c =>
    cases dst with
    | none=>exact hhook h
    | some d =>
      have h:okSl T t = true ∧ makeSliceA (elemTy T t) (elemTI T t) (B + d) d s (s.ev l) (s.ev c) k:=h
      obtain ⟨s',β',w',cv,h1,h2,h3,h4⟩:=makeSliceA_sound hT hr h.1 (hd d rfl) h.2 (hr.ev l) (hr.ev c)
      exact wp_value (by simp [execOp,h2]) (hn _ _ _ _ h1 h3 h4)
  | call c =>
    obtain ⟨callee,args,tys⟩:=c
    cases callee with
    | value f=>exact hhook h
    | invoke r m=>exact hhook h
    | builtin b =>
      cases b
      case append =>
       cases dst with
       | none=>exact hhook h
       | some d =>
         have h:(args.size = 2 ∧ tys.size = 2) ∧ okSl T (tys.getD 0 0) = true ∧ appendA (elemTy T (tys.getD 0 0)) (elemTI T (tys.getD 0 0)) (isStr (T (tys.getD 1 0)).desc) (okSl T (tys.getD 1 0)) (B + d) d s (s.ev (args.getD 0 (.const .nilFunc))) (s.ev (args.getD 1 (.const .nilFunc))) k:=h
         obtain ⟨⟨ha,ht⟩,hsl,h⟩:=h
         obtain ⟨s',β',w',cv,h1,h2,h3,h4⟩:=appendA_sound hT hr hsl (hd d rfl) h (hr.ev _) (hr.ev _) ty
         refine wp_value ?_ (hn _ _ _ _ h1 h3 h4)
         rw [arr_two ha (.const .nilFunc),arr_two ht 0]
         generalize args.getD 0 (.const .nilFunc) = x0 at *
         generalize tys.getD 0 0 = t0 at *
         generalize args.getD 1 (.const .nilFunc) = x1 at *
         generalize tys.getD 1 0 = t1 at *
         simp [execOp,resolve,invoke,builtin,h2]
      case len=>exact absurd rfl hp
      case max=>exact absurd rfl hp
      case min=>exact absurd rfl hp
      all_goals exact hhook h
  | slice t x lo hi mx =>
    cases mx with
    | none=>exact absurd rfl hp
    | some m=>exact hhook h
  | lookup=>exact absurd rfl hp
  | makeFunc fn first caps =>
    cases fn with
    | func f=>exact absurd rfl hp
    | _=>exact hhook h
  | makeMap t res =>
    cases res with
    | some _=>exact hhook h
    | none =>
      cases dst with
      | none=>exact hhook h
      | some d =>
        have h:makeMapA T t (B + d) d s k:=h
        obtain ⟨s',β',w',cv,h1,h2,h3,h4⟩:=makeMapA_sound (P:=P) hr (hd d rfl) h
        exact wp_value (by simp [execOp,h2]) (hn _ _ _ _ h1 h3 h4)
  | mapUpdate t m ix x =>
    have h:mapUpdateA T t s (s.ev m) (s.ev ix) (s.ev x) (bx fun s'=>K (s'.put dst uv)):=h
    obtain ⟨s',w',h1,h2,h3,h4⟩:=mapUpdateA_sound hT hr h (hr.ev m) (hr.ev ix) (hr.ev x)
    exact wp_skip' (w':=w') (by simp [execOp,h2]) (hn _ _ _ _ h1 (h3.put hd undefRep) (h4.trans (Tr.same (St.put_gen _ _ _) (St.put_obj _ _ _) rfl)))
  | move=>exact absurd rfl hp
  | assign=>exact absurd rfl hp
  | pick=>exact absurd rfl hp
  | load=>exact absurd rfl hp
  | indexAddr t x ix=>cases x <;> first | exact hhook h | exact absurd rfl hp
  | index=>exact absurd rfl hp
  | binOp=>exact absurd rfl hp
  | unOp=>exact absurd rfl hp
  | convert t u x =>
    have hns:isSlice (T u).desc = true:=by simpa [pureOp] using hp
    have h:(bif isSlice (T u).desc then convSlA T t u B dst s (s.ev x) k else convA s (elemTI T t).desc (T t).desc (T u).desc (s.ev x) (bx fun v=>K (s.put dst v))):=h
    rw [hns,cond_true] at h
    obtain ⟨s',β',w',cv,h1,h2,h3,h4⟩:=convSlA_sound hT hr hd h (hr.ev x)
    exact wp_value (by simp [execOp,h2]) (hn _ _ _ _ h1 h3 h4)
  | fieldAddr=>exact absurd rfl hp
  | field=>exact absurd rfl hp
  | build=>exact absurd rfl hp
  | nilCheck=>exact absurd rfl hp
  | extract=>exact absurd rfl hp
  | _=>exact hhook h
theorem dstsOk_cons {N:Nat} {o:Oper} {l:List Oper} (h:dstsOk N (o :: l) = true):(∀ d,o.dst = some d → d < N) ∧ dstsOk N l = true:=by
 simp only [dstsOk,List.all_cons,Bool.and_eq_true] at h ⊢
 refine ⟨fun d hd=>?_,h.2⟩
 have:=h.1
 rw [hd] at this
 simpa using this
theorem RepV.inv_bool {g:Nat → Nat} {ob:Obs} {b:Bool} {v:Value} (h:RepV b₀ β g ob w (bv b) v):v = .bool b:=by
 simp only [RepV,RepC] at h; exact h.inv_bool
theorem RepV.inv_uv {g:Nat → Nat} {ob:Obs} {v:Value} (h:RepV b₀ β g ob w uv v):v = undef:=by
 simp only [RepV,RepVs] at h
 obtain ⟨vs,rfl,rfl⟩:=h
 rfl
theorem Rel.reput {N:Nat} {s:St} {a:Act} (hr:Rel b₀ N s β a w) {d:Nat} {x:AV} (hx:s.f d = x):Rel b₀ N { s with f:=upd s.f d x } β a w:=by
 have:upd s.f d x = s.f:=by funext j; simp only [upd]; split <;> simp_all
 rw [this]; exact hr
theorem Rel.yielded {N:Nat} {s:St} {a:Act} (hr:Rel b₀ N s β a w) {ops:Array Oper} {j d:Nat} (hj:(ops[j]?).bind (·.dst) = some d) {b:Bool} (hx:s.f d = bv b):Go.yielded ops a.tmps j = some b:=by
 have hv:=hr.f d
 rw [hx] at hv
 have hv:=hv.inv_bool
 unfold Go.yielded
 rw [hj]
 simp only [Option.bind_some]
 rw [Array.getD_eq_getD_getElem?] at hv
 cases h:a.tmps[d]? with
 | none=>rw [h] at hv; simp [undef] at hv
 | some v=>rw [h] at hv; simp at hv; rw [hv]
theorem Rel.yielded_u {N:Nat} {s:St} {a:Act} (hr:Rel b₀ N s β a w) {ops:Array Oper} {j d:Nat} (hj:(ops[j]?).bind (·.dst) = some d) (hx:s.f d = uv):Go.yielded ops a.tmps j = none:=by
 have hv:=hr.f d
 rw [hx] at hv
 have hv:=hv.inv_uv
 unfold Go.yielded
 rw [hj]
 simp only [Option.bind_some]
 rw [Array.getD_eq_getD_getElem?] at hv
 cases h:a.tmps[d]? with
 | none=>rfl
 | some v=>rw [h] at hv; simp at hv; rw [hv]; rfl
theorem wpO_sound (hT:TabOk P T) {N:Nat} {ops:Array Oper} {Q:Exit → Act → World → Prop} {K:St → Prop} {k:Box K}:∀ (l:List Oper) {s:St} {β:Loc} {a:Act} {w:World},Rel b₀ N s β a w → dstsOk N l = true → wpO (spB P B) T ops l s k →
  (∀ s' β' a' w',K s' → Rel b₀ N s' β' a' w' → Tr b₀ β s w β' s' w' → Q .normal a' w') → wpList P ops Q l a w
 | [],s,β,a,w,hr,_,h,hQ=>hQ s β a w h hr Tr.refl
 | o :: rest,s,β,a,w,hr,hds,h,hQ=>by
   obtain ⟨hd,hds'⟩:=dstsOk_cons hds
   unfold wpO at h
   unfold wpList
   cases hg:o.guard with
   | none =>
     rw [hg] at h
     simp only at h
     rw [if_pos (by simp [Region.wanted,hg])]
     exact .inl (opA_sound hT hr hd h (fun s' β' a' w' h1 h2 h3=>wpO_sound hT rest h2 hds' h1 (fun s2 β2 a2 w2 k1 k2 k3=>hQ _ _ _ _ k1 k2 (h3.trans k3))))
   | some p =>
     obtain ⟨j,want⟩:=p
     rw [hg] at h
     simp only at h
     obtain ⟨d,hj,h⟩:=onSome_inv h
     unfold guardA at h
     split at h
     ·rename_i b hb
      have hy:=hr.yielded hj hb
      have h:=BSplit_inv h
      have hr':=hr.reput hb
      by_cases hw:b = want
      ·rw [if_pos hw] at h
       rw [if_pos (by simp [Region.wanted,hg,hy,hw])]
       exact .inl (opA_sound hT hr' hd h (fun s' β' a' w' h1 h2 h3=>wpO_sound hT rest h2 hds' h1 (fun s2 β2 a2 w2 k1 k2 k3=>hQ _ _ _ _ k1 k2 (Tr.trans ⟨h3.size,h3.old,h3.keep,h3.os⟩ k3))))
      ·rw [if_neg hw] at h
       rw [if_neg (by simp [Region.wanted,hg,hy,hw])]
       have hp:=hr'.put hd (x:=uv) (v:=undef) undefRep
       exact wpO_sound hT rest hp hds' h (fun s2 β2 a2 w2 k1 k2 k3=>hQ _ _ _ _ k1 k2 (Tr.trans (Tr.same (by rw [St.put_gen]) (by rw [St.put_obj]) rfl) k3))
     ·rename_i hb
      have hy:=hr.yielded_u hj hb
      rw [if_neg (by simp [Region.wanted,hg,hy])]
      have hp:=hr.put hd (x:=uv) (v:=undef) undefRep
      exact wpO_sound hT rest hp hds' h (fun s2 β2 a2 w2 k1 k2 k3=>hQ _ _ _ _ k1 k2 (Tr.trans (Tr.same (by rw [St.put_gen]) (by rw [St.put_obj]) rfl) k3))
     ·exact h.elim
theorem wpStill_sound (hT:TabOk P T) {N:Nat} {ops:Array Oper} {Q:Act → Prop} {K:St → Prop} {k:Box K} (more:List Oper):∀ (l:List Oper) {s:St} {a:Act},Rel b₀ N s β a w → dstsOk N l = true → l.all (pureOp T ·.op) = true → wpO (spB P B) T ops (l ++ more) s k →
  (∀ s' a',wpO (spB P B) T ops more s' k → Rel b₀ N s' β a' w → Tr b₀ β s w β s' w → Q a') → wpStill P ops w Q l a
 | [],s,a,hr,_,_,h,hQ=>hQ s a h hr Tr.refl
 | o :: rest,s,a,hr,hds,hp,h,hQ=>by
   obtain ⟨hd,hds'⟩:=dstsOk_cons hds
   simp only [List.all_cons,Bool.and_eq_true] at hp
   rw [List.cons_append] at h
   unfold wpO at h
   unfold wpStill
   have hop:∀ {s0:St},Rel b₀ N s0 β a w → Tr b₀ β s w β s0 w → opA (spB P B) T o s0 (bx fun s'=>wpO (spB P B) T ops (rest ++ more) s' k) → o.still P a w (wpStill P ops w Q rest):=fun {s0} hr0 ht0 h0=>by
    obtain ⟨y,cv,h1,h2,h3⟩:=opA_pure hT hr0 hp.1 h0
    unfold Oper.still
    rw [h2 w .refl]
    refine ⟨rfl,wpStill_sound hT more rest (hr0.put hd h3) hds' hp.2 h1 (fun s' a' k1 k2 k3=>hQ s' a' k1 k2 (ht0.trans (Tr.trans (Tr.same (St.put_gen _ _ _) (St.put_obj _ _ _) rfl) k3)))⟩
   cases hg:o.guard with
   | none =>
     rw [hg] at h
     simp only at h
     rw [if_pos (by simp [Region.wanted,hg])]
     exact hop hr Tr.refl h
   | some p =>
     obtain ⟨j,want⟩:=p
     rw [hg] at h
     simp only at h
     obtain ⟨d,hj,h⟩:=onSome_inv h
     unfold guardA at h
     split at h
     ·rename_i b hb
      have hy:=hr.yielded hj hb
      have h:=BSplit_inv h
      have hr':=hr.reput hb
      by_cases hw:b = want
      ·rw [if_pos hw] at h
       rw [if_pos (by simp [Region.wanted,hg,hy,hw])]
       exact hop hr' (Tr.same rfl rfl rfl) h
      ·rw [if_neg hw] at h
       rw [if_neg (by simp [Region.wanted,hg,hy,hw])]
       have hp':=hr'.put hd (x:=uv) (v:=undef) undefRep
       exact wpStill_sound hT more rest hp' hds' hp.2 h (fun s2 a2 k1 k2 k3=>hQ _ _ k1 k2 (Tr.trans (Tr.same (by rw [St.put_gen]) (by rw [St.put_obj]) rfl) k3))
     ·rename_i hb
      have hy:=hr.yielded_u hj hb
      rw [if_neg (by simp [Region.wanted,hg,hy])]
      have hp':=hr.put hd (x:=uv) (v:=undef) undefRep
      exact wpStill_sound hT more rest hp' hds' hp.2 h (fun s2 a2 k1 k2 k3=>hQ _ _ k1 k2 (Tr.trans (Tr.same (by rw [St.put_gen]) (by rw [St.put_obj]) rfl) k3))
     ·exact h.elim
theorem dstsOk_take {N:Nat} {l:List Oper} (h:dstsOk N l = true) (n:Nat):dstsOk N (l.take n) = true ∧ dstsOk N (l.drop n) = true:=by
 unfold dstsOk at *
 rw [List.all_eq_true] at h
 exact ⟨List.all_eq_true.2 fun x hx=>h x (List.mem_of_mem_take hx),List.all_eq_true.2 fun x hx=>h x (List.mem_of_mem_drop hx)⟩
theorem wpList_tail (hT:TabOk P T) {N:Nat} {ops:Array Oper} {Q:Exit → Act → World → Prop} {K:St → Prop} {k:Box K} {l:List Oper} {s:St} {a:Act} (hr:Rel b₀ N s β a w) (hd:dstsOk N l = true) (h:wpO (spB P B) T ops l s k)
  (hQ:∀ s' β' a' w',K s' → Rel b₀ N s' β' a' w' → Tr b₀ β s w β' s' w' → Q .normal a' w'):wpList P ops Q l a w:=wpO_sound hT l hr hd h hQ
theorem region_draw_sound (hT:TabOk P T) (hm:P.follows .mixedOrders = true) {N id:Nat} {ops:Array Oper} {K:St → Prop} {k:Box K} {s:St} {a:Act} (hr:Rel b₀ N s β a w) (hd:dstsOk N ops.toList = true) (hok:drawOk T ops = true)
  (h:wpO (spB P B) T ops ops.toList s k) {Q:Exit → Act → World → Prop} (hQ:∀ s' β' a' w',K s' → Rel b₀ N s' β' a' w' → Tr b₀ β s w β' s' w' → Q .normal a' w'):(Code.region id ops true).wp P Q a w:=by
 have hr1:Rel b₀ N s β a { w with drawn:=w.drawn + 1 }:=hr.of_heap rfl
 have ht1:Tr b₀ β s w β s { w with drawn:=w.drawn + 1 }:=Tr.same rfl rfl rfl
 simp only [drawOk,Bool.or_eq_true,Bool.and_eq_true,List.any_eq_true] at hok
 rcases hok with ⟨hp,hB⟩ | ⟨n,_,hp,hB⟩
 ·refine wp_region_still hm hB (wpStill_sound hT [] ops.toList hr1 hd hp (by rw [List.append_nil]; exact h) (fun s' a' k1 k2 k3=>hQ _ _ _ _ k1 k2 (ht1.trans k3)))
 ·have hl:=wp_region_still_tail (P:=P) (id:=id) (Q:=Q) (a:=a) (w:=w) (l:=ops.toList) (ops.size - n) hm (by simpa using hB) ?_
  ·simpa using hl
  ·obtain ⟨d1,d2⟩:=dstsOk_take hd (ops.size - n)
   refine wpStill_sound hT (ops.toList.drop (ops.size - n)) (ops.toList.take (ops.size - n)) hr1 d1 hp (by rw [List.take_append_drop]; simpa using h) (fun s' a' k1 k2 k3=>?_)
   exact wpList_tail hT k2 d2 k1 (fun s2 β2 a2 w2 j1 j2 j3=>hQ _ _ _ _ j1 j2 (ht1.trans (k3.trans j3)))
def Post (b₀:Bs) (N:Nat) (β:Loc) (s:St) (w:World) (Q:Exit → St → Prop) (e:Exit) (a':Act) (w':World):Prop:=∃ s' β',Q e s' ∧ Rel b₀ N s' β' a' w' ∧ Tr b₀ β s w β' s' w'
theorem Post.of {N:Nat} {s s1:St} {β1:Loc} {w1:World} {Q Q':Exit → St → Prop} {e:Exit} {a':Act} {w':World} (ht:Tr b₀ β s w β1 s1 w1) (h:Post b₀ N β1 s1 w1 Q e a' w') (hq:∀ s',Q e s' → Q' e s'):Post b₀ N β s w Q' e a' w' :=
 let ⟨s',β',h1,h2,h3⟩:=h
 ⟨s',β',hq _ h1,h2,ht.trans h3⟩
theorem wpC_sound (hT:TabOk P T) (hm:P.follows .mixedOrders = true) {N:Nat}:∀ (c:Code) {Q:Exit → St → Prop} {q:Box Q} {s:St} {β:Loc} {a:Act} {w:World},codeOk N c = true → Rel b₀ N s β a w → wpC (spB P B) T c q s → c.wp P (Post b₀ N β s w Q) a w
 | .skip,_,_,s,β,_,_,_,hr,h=>wp_skip ⟨s,β,h,hr,Tr.refl⟩
 | .label _,_,_,s,β,_,_,_,hr,h=>wp_label ⟨s,β,h,hr,Tr.refl⟩
 | .exit _,_,_,s,β,_,_,_,hr,h=>wp_exit ⟨s,β,h,hr,Tr.refl⟩
 | .goto _,_,_,s,β,_,_,_,hr,h=>wp_goto ⟨s,β,h,hr,Tr.refl⟩
 | .ret,_,_,s,β,_,_,_,hr,h=>wp_ret ⟨s,β,h,hr,Tr.refl⟩
 | .region id ops b,Q,q,s,β,a,w,hc,hr,h=>by
   cases b with
   | false =>
     have h:wpO (spB P B) T ops ops.toList s (bx fun s'=>Q .normal s'):=h
     refine wp_region ?_
     have:=wpOps_eq_wpList (P:=P) (ops:=ops) (Q:=Post b₀ N β s w Q) ops.toList 0 (by simp)
     rw [← List.range_eq_range',Array.length_toList] at this
     rw [this]
     exact wpO_sound hT ops.toList hr hc h (fun s' β' a' w' h1 h2 h3=>⟨s',β',h1,h2,h3⟩)
   | true =>
     rcases h with ⟨hok,h⟩ | ⟨R,hR,hK⟩
     ·exact region_draw_sound hT hm hr hc hok h (fun s' β' a' w' h1 h2 h3=>⟨s',β',h1,h2,h3⟩)
     ·exact wp_mono (hR b₀ N β a w hc hr) (fun e a' w' ⟨s',β',h1,h2,h3⟩=>⟨s',β',hK _ _ h1,h2,h3⟩)
 | .seq x y,Q,q,s,β,a,w,hc,hr,h=>by
   simp only [codeOk,Bool.and_eq_true] at hc
   have h:wpC (spB P B) T x (bx (thenA (bx fun s'=>wpC (spB P B) T y q s') q)) s:=h
   refine wp_seq (wp_mono (wpC_sound hT hm x hc.1 hr h) (fun e a' w' hp=>?_))
   obtain ⟨s',β',h1,h2,h3⟩:=hp
   cases e with
   | normal=>exact wp_mono (wpC_sound hT hm y hc.2 h2 h1) (fun e a2 w2 hp=>Post.of h3 hp (fun _ h=>h))
   | _=>exact ⟨s',β',h1,h2,h3⟩
 | .cond c x y,Q,q,s,β,a,w,hc,hr,h=>by
   simp only [codeOk,Bool.and_eq_true] at hc
   obtain ⟨b,hb,h⟩:=onBool_inv h (hr.ev c)
   refine wp_cond hb ?_
   cases b
   ·exact wpC_sound hT hm y hc.2 hr h
   ·exact wpC_sound hT hm x hc.1 hr h
 | .block id c,Q,q,s,β,a,w,hc,hr,h=>by
   have h:wpC (spB P B) T c (bx (inBlockA id q)) s:=h
   refine wp_block (wp_mono (wpC_sound hT hm c hc hr h) (fun e a' w' hp=>?_))
   obtain ⟨s',β',h1,h2,h3⟩:=hp
   cases e with
   | exit i =>
     simp only [Exit.inBlock,inBlockA] at h1 ⊢
     split at h1
     ·rename_i he; rw [if_pos he]; exact ⟨s',β',h1,h2,h3⟩
     ·rename_i he; rw [if_neg he]; exact ⟨s',β',h1,h2,h3⟩
   | _=>exact ⟨s',β',h1,h2,h3⟩
 | .scope c,Q,q,s,β,a,w,hc,hr,h=>by
   have h:wpC (spB P B) T c (bx (noGotoA q)) s:=h
   refine wp_scope_straight (wp_mono (wpC_sound hT hm c hc hr h) (fun e a' w' hp=>?_))
   obtain ⟨s',β',h1,h2,h3⟩:=hp
   cases e with
   | goto l=>exact h1.elim
   | _=>exact ⟨s',β',h1,h2,h3⟩
 | .loop c,Q,q,s,β,a,w,hc,hr,h=>by
   obtain ⟨I,⟨n,s₁,hvs,h0⟩,hround⟩:=h
   obtain ⟨β₁,hr1,ht1⟩:=hvs b₀ N β a w hr
   refine wp_loop_ghost (fun n a' w'=>∃ s' β',I n s' ∧ Rel b₀ N s' β' a' w' ∧ Tr b₀ β s w β' s' w') n ⟨s₁,β₁,h0,hr1,ht1⟩ ?_
   rintro n a' w' ⟨s',β',h1,h2,h3⟩
   refine wp_mono (wpC_sound hT hm c hc h2 (hround n s' h1)) (fun e a2 w2 hp=>?_)
   obtain ⟨s2,β2,k1,k2,k3⟩:=hp
   cases e with
   | normal =>
     obtain ⟨n',s3,hlt,hvs',hI⟩:=k1
     obtain ⟨β3,hr3,ht3⟩:=hvs' b₀ N β2 a2 w2 k2
     exact ⟨n',hlt,s3,β3,hI,hr3,h3.trans (k3.trans ht3)⟩
   | _=>exact ⟨s2,β2,k1,k2,h3.trans k3⟩
 | .rangeFunc f ps x y,Q,q,s,β,a,w,hc,hr,h=>by
   obtain ⟨R,hR,hK⟩:=h
   exact wp_mono (hR b₀ N β a w hc hr) (fun e a' w' ⟨s',β',h1,h2,h3⟩=>⟨s',β',hK _ _ h1,h2,h3⟩)
 | .refuse y,Q,q,s,β,a,w,hc,hr,h=>by
   obtain ⟨R,hR,hK⟩:=h
   exact wp_mono (hR b₀ N β a w hc hr) (fun e a' w' ⟨s',β',h1,h2,h3⟩=>⟨s',β',hK _ _ h1,h2,h3⟩)
end
end Go.Am

namespace Go.Am
def normD:D → D
 | .nsl=>.sl []
 | x=>x
inductive Frz (s:St):C → D → Prop where
 | d (x:D):Frz s (.d x) (normD x)
 | osl {id g sz off len:Nat} {cells:List C} {es:List (List D)} (hg:s.gen id = g) (ho:s.obj id = some cells) (hfit:off + len * sz ≤ cells.length) (hlen:es.length = len) (hsz:∀ e ∈ es,e.length = sz)
    (cf:Nat → C) (hc:∀ (j:Nat) (x:D),es.flatten[j]? = some x → cells[off + j]? = some (cf j)) (hf:∀ (j:Nat) (x:D),es.flatten[j]? = some x → Frz s (cf j) x):Frz s (.osl id g sz off len) (.sl es)
def RVc (J:Nat → Prop) (w:World) (c:C) (v:Value):Prop:=∃ x,c = .d x ∧ RepD J w x v
mutual
def RV (J:Nat → Prop) (w:World):AV → Value → Prop
 | .one c,v=>RVc J w c v
 | .agg cs,v=>∃ vs:Array Value,v = .agg vs ∧ vs.size = cs.length ∧ ∀ (i:Nat) (c:C),cs[i]? = some c → ∃ u,vs[i]? = some u ∧ RVc J w c u
 | .tup ts,v=>∃ vs:List Value,v = .tuple vs.toArray ∧ RVs J w ts vs
 | .junk,_=>False
def RVs (J:Nat → Prop) (w:World):List AV → List Value → Prop
 | [],vs=>vs = []
 | t :: ts,vs=>∃ u us,vs = u :: us ∧ RV J w t u ∧ RVs J w ts us
end
def Fine (P:Program) (f:FuncId):Prop:=∃ fn,P.funcs[f]? = some fn ∧ fn.body.isNone = false ∧ (fn.name == "runtime.NumGoroutine") = false
def PureR (P:Program) (f:FuncId) (args:List AV) (R:AV → Prop):Prop :=
 Fine P f ∧ ∀ (J:Nat → Prop) (w:World) (vs:List Value),(∀ b,J b → b < w.heap.size) → RVs J w args vs →
  Calls P f vs.toArray w fun e w'=>∃ v r,e = .returned v ∧ R r ∧ w.heap.size ≤ w'.heap.size ∧ (∀ b,b < w.heap.size → w'.heap[b]? = w.heap[b]?) ∧ (w'.os = w.os ∧ w'.output = w.output) ∧ RV (fun b=>b < w'.heap.size ∧ (b < w.heap.size → J b)) w' r v
theorem PureR.mono {P:Program} {f:FuncId} {args:List AV} {R R':AV → Prop} (h:PureR P f args R) (hr:∀ r,R r → R' r):PureR P f args R' :=
 ⟨h.1,fun J w vs hJ hv=>(h.2 J w vs hJ hv).mono fun _ _ ⟨v,r,h1,h2,h3⟩=>⟨v,r,h1,hr r h2,h3⟩⟩
section
variable {P:Program} {T:Nat → TI} {b₀:Bs} {β:Loc} {w:World}
theorem RVc.mono {J J':Nat → Prop} {w w':World} {c:C} {v:Value} (h:RVc J w c v) (hJ:∀ b,J b → J' b ∧ w'.heap[b]? = w.heap[b]?):RVc J' w' c v :=
 let ⟨x,h1,h2⟩:=h
 ⟨x,h1,h2.mono hJ⟩
mutual
theorem RV.mono {J J':Nat → Prop} {w w':World} (hJ:∀ b,J b → J' b ∧ w'.heap[b]? = w.heap[b]?):(x:AV) → {v:Value} → RV J w x v → RV J' w' x v
 | .one _,_,h=>by simp only [RV] at h ⊢; exact RVc.mono h hJ
 | .agg _,_,h=>by
   simp only [RV] at h ⊢
   obtain ⟨vs,h1,h2,h3⟩:=h
   exact ⟨vs,h1,h2,fun i c hc=>let ⟨u,hu,hr⟩:=h3 i c hc; ⟨u,hu,hr.mono hJ⟩⟩
 | .tup ts,_,h=>by simp only [RV] at h ⊢; obtain ⟨vs,h1,h2⟩:=h; exact ⟨vs,h1,RVs.mono hJ ts h2⟩
 | .junk,_,h=>by simp only [RV] at h
theorem RVs.mono {J J':Nat → Prop} {w w':World} (hJ:∀ b,J b → J' b ∧ w'.heap[b]? = w.heap[b]?):(x:List AV) → {v:List Value} → RVs J w x v → RVs J' w' x v
 | [],_,h=>by simp only [RVs] at h ⊢; exact h
 | t :: ts,_,h=>by simp only [RVs] at h ⊢; obtain ⟨u,us,h1,h2,h3⟩:=h; exact ⟨u,us,h1,RV.mono hJ t h2,RVs.mono hJ ts h3⟩
end
theorem RVc.rep {g:Nat → Nat} {ob:Obs} {c:C} {v:Value} (h:RVc (Imm b₀ β ob w) w c v):RepC b₀ β g ob w c v:=by
 obtain ⟨x,rfl,hx⟩:=h; exact hx
mutual
theorem RV.rep {g:Nat → Nat} {ob:Obs}:(x:AV) → {v:Value} → RV (Imm b₀ β ob w) w x v → RepV b₀ β g ob w x v
 | .one _,_,h=>by simp only [RV] at h; simp only [RepV]; exact RVc.rep h
 | .agg _,_,h=>by
   simp only [RV] at h; simp only [RepV]
   obtain ⟨vs,h1,h2,h3⟩:=h
   exact ⟨vs,h1,h2,fun i c hc=>let ⟨u,hu,hr⟩:=h3 i c hc; ⟨u,hu,hr.rep⟩⟩
 | .tup ts,_,h=>by simp only [RV] at h; simp only [RepV]; obtain ⟨vs,h1,h2⟩:=h; exact ⟨vs,h1,RVs.rep ts h2⟩
 | .junk,_,h=>by simp only [RV] at h
theorem RVs.rep {g:Nat → Nat} {ob:Obs}:(x:List AV) → {v:List Value} → RVs (Imm b₀ β ob w) w x v → RepVs b₀ β g ob w x v
 | [],_,h=>by simp only [RVs] at h; simp only [RepVs]; exact h
 | t :: ts,_,h=>by simp only [RVs] at h; simp only [RepVs]; obtain ⟨u,us,h1,h2,h3⟩:=h; exact ⟨u,us,h1,RV.rep t h2,RVs.rep ts h3⟩
end
theorem Rel.grow {N:Nat} {s:St} {a:Act} (hr:Rel b₀ N s β a w) {w':World} (hs:w.heap.size ≤ w'.heap.size) (hh:∀ b,b < w.heap.size → w'.heap[b]? = w.heap[b]?) (hos:w'.os = w.os ∧ w'.output = w.output):Rel b₀ N s β a w' ∧ Tr b₀ β s w β s w':=by
 have hkeep:Keep b₀ β s.gen s.obj w β s.gen s.obj w':=⟨fun b hb=>⟨⟨by have:=hb.1; omega,hb.2.1,hb.2.2⟩,hh b hb.1⟩,fun _=>Nat.le_refl _,fun id _ ho=>⟨ho,rfl,fun a' ha' arr el fr h1=>by
  rw [hh _ (obj_lt hr ho ha')] at h1
  exact ⟨arr,el,fr,h1,Nat.le_refl _⟩⟩⟩
 exact ⟨⟨hr.defers,hr.size,fun i=>RepV.keep hkeep _ (hr.f i),fun id cells ho=>(hr.obj id cells ho).keep hkeep (fun a' ha'=>hh _ (obj_lt hr (by rw [ho]; rfl) ha')),hr.inj,by have:=hr.base; omega⟩,
  hs,fun b hb=>hh b (by have:=hr.base; omega),hkeep,hos⟩
theorem imm_new {N:Nat} {s:St} {a:Act} (hr:Rel b₀ N s β a w) {w':World} {J:Nat → Prop} (hJ:∀ b,J b → Imm b₀ β s.obj w b) {b:Nat} (hb:b < w'.heap.size ∧ (b < w.heap.size → J b)):Imm b₀ β s.obj w' b:=by
 by_cases h:b < w.heap.size
 ·obtain ⟨h1,h2,h3⟩:=hJ b (hb.2 h)
  exact ⟨hb.1,h2,h3⟩
 ·refine ⟨hb.1,fun hB=>absurd hr.base (by omega),fun id a' ho hβ he=>?_⟩
  have:=obj_lt hr ho hβ
  omega
def dataC:C → Bool
 | .d _=>true
 | _=>false
def dataAV:AV → Bool
 | .one c=>dataC c
 | .agg cs=>cs.all dataC
 | _=>false
theorem RepC.data {g:Nat → Nat} {ob:Obs} {c:C} {v:Value} (hd:dataC c = true) (h:RepC b₀ β g ob w c v):RVc (Imm b₀ β ob w) w c v:=by
 cases c <;> simp [dataC] at hd
 exact ⟨_,rfl,h⟩
theorem RepV.data {g:Nat → Nat} {ob:Obs} {x:AV} {v:Value} (hd:dataAV x = true) (h:RepV b₀ β g ob w x v):RV (Imm b₀ β ob w) w x v:=by
 cases x with
 | one c=>simp only [RepV] at h; simp only [RV]; exact RepC.data hd h
 | agg cs =>
   simp only [RepV] at h; simp only [RV]
   obtain ⟨vs,h1,h2,h3⟩:=h
   refine ⟨vs,h1,h2,fun i c hc=>?_⟩
   obtain ⟨u,hu,hr⟩:=h3 i c hc
   simp only [dataAV,List.all_eq_true] at hd
   exact ⟨u,hu,hr.data (hd c (List.mem_of_getElem? hc))⟩
 | tup=>simp [dataAV] at hd
 | junk=>simp [dataAV] at hd
theorem run_call {o:Oper} {a:Act} {f:FuncId} {args:Array Operand} {tys:Array TypeId} (ho:o.op = .call ⟨.value (.func f),args,tys⟩) (hf:Fine P f) (w:World) :
  (execOp a.eval o).run P w = .ok (.enter f (args.map a.eval)) w:=by
 obtain ⟨fn,h1,h2,h3⟩:=hf
 have h2:¬ fn.body = none:=by intro h; rw [h] at h2; simp at h2
 have h3:¬ fn.name = "runtime.NumGoroutine":=by simpa using h3
 simp [execOp,ho,resolve,Act.eval,Deferred.ofValue,invoke,callFunc,h1,h2,h3]
theorem call_pure {o:Oper} {s:St} {f:FuncId} {args:Array Operand} {tys:Array TypeId} (ho:o.op = .call ⟨.value (.func f),args,tys⟩) {R:AV → Prop}
  (hp:PureR P f (args.toList.map s.ev) R) (hd:(args.toList.map s.ev).all dataAV = true):SemOp P o s (fun s'=>∃ r,R r ∧ s' = s.put o.dst r):=by
 intro b₀ N β a w hr hdst next Q hn
 unfold Oper.wp
 rw [run_call ho hp.1 w]
 simp only [Oper.upon]
 have hargs:∀ l:List Operand,(l.map s.ev).all dataAV = true → RVs (Imm b₀ β s.obj w) w (l.map s.ev) (l.map a.eval):=by
  intro l
  induction l with
  | nil=>intro _; simp only [List.map_nil,RVs]
  | cons x l ih =>
    intro h
    simp only [List.map_cons,List.all_cons,Bool.and_eq_true] at h
    simp only [List.map_cons,RVs]
    exact ⟨_,_,rfl,RepV.data h.1 (hr.ev x),ih h.2⟩
 have:=hp.2 (Imm b₀ β s.obj w) w (args.toList.map a.eval) (fun _ h=>h.1) (hargs _ hd)
 rw [show (args.toList.map a.eval).toArray = args.map a.eval from Array.ext' (by simp)] at this
 refine this.mono fun e w' ⟨v,r,he,hR,hs,hh,hos,hv⟩=>?_
 subst he
 obtain ⟨g1,g2⟩:=hr.grow hs hh hos
 refine hn _ β _ w' ⟨r,hR,rfl⟩ (g1.put hdst (RV.rep r (RV.mono (fun b hb=>⟨imm_new hr (fun _ h=>h) hb,rfl⟩) r hv))) (g2.trans (Tr.same (St.put_gen _ _ _) (St.put_obj _ _ _) rfl))
def initF (args:List AV) (i:Nat):AV:=(args[i]?).getD uv
def FrzV (s:St):AV → AV → Prop
 | .one c,r=>∃ x,Frz s c x ∧ r = .one (.d x)
 | .agg cs,r=>∃ xs:List D,xs.length = cs.length ∧ (∀ (i:Nat) (c:C),cs[i]? = some c → ∃ x,xs[i]? = some x ∧ Frz s c x) ∧ r = .agg (xs.map .d)
 | _,_=>False
def FrzVs (s:St):List AV → List AV → Prop
 | [],rs=>rs = []
 | t :: ts,rs=>∃ r rs',rs = r :: rs' ∧ FrzV s t r ∧ FrzVs s ts rs'
def RetQ (res:List Nat) (R:AV → Prop):Exit → St → Prop
 | .normal,s | .ret,s =>
   match res with
   | [t]=>∃ r,FrzV s (s.f t) r ∧ R r
   | ts=>∃ rs,FrzVs s (ts.map s.f) rs ∧ R (.tup rs)
 | _,_=>False
def Own (b₀:Bs) (w:World) (b:Nat):Prop:=b < w.heap.size ∧ (b < b₀.B → b₀.I b)
theorem Frz.rep {N:Nat} {s:St} {a:Act} (hr:Rel b₀ N s β a w) {c:C} {x:D} (h:Frz s c x):∀ {v:Value},RepC b₀ β s.gen s.obj w c v → RepD (Own b₀ w) w x v:=by
 induction h with
 | d x =>
   intro v hv
   have hv:RepD (Imm b₀ β s.obj w) w x v:=hv
   have h1:RepD (Own b₀ w) w x v:=hv.mono fun b hb=>⟨⟨hb.1,hb.2.1⟩,rfl⟩
   cases x <;> simp only [normD] <;> first | exact h1 | skip
   cases h1
   exact .sl0
 | osl hg ho hfit hlen hsz cf hc hf ih =>
   rename_i id g sz off len cells es
   intro v hv
   have hat:=osl_live hv hg (by rw [ho]; rfl)
   have hob:=hr.obj id cells ho
   cases hβ:β id with
   | none =>
     rw [hβ] at hat
     obtain ⟨rfl,rfl⟩:=hat
     have:es = []:=List.eq_nil_of_length_eq_zero hlen
     subst this
     exact .sl0
   | some ad =>
     rw [hβ] at hat hob
     obtain ⟨hsp,hat⟩:=hat
     obtain ⟨hB,arr,el,lo,hi,hblk,hfr,hal,hcells⟩:=hob.cells hsp
     rcases hat with ⟨cap,rfl,hcap,_⟩ | ⟨hl0,o,rfl⟩
     ·rw [← hlen]
      have hval:∀ i e,es[i]? = some e → ∀ j x,e[j]? = some x → es.flatten[i * sz + j]? = some x:=fun i e he j x hx=>by
       have:∀ (es:List (List D)) (_:∀ e ∈ es,e.length = sz) i,es[i]? = some e → es.flatten[i * sz + j]? = some x:=by
        intro es
        induction es with
        | nil=>intro _ i h; simp at h
        | cons e' es ihe =>
          intro hs i h
          have hl:=hs e' (by simp)
          cases i with
          | zero =>
            simp at h
            subst h
            rw [List.flatten_cons,List.getElem?_append_left (by simpa using (List.getElem?_eq_some_iff.1 hx).1)]
            simpa using hx
          | succ i =>
            rw [List.flatten_cons,List.getElem?_append_right (by rw [hl,Nat.add_mul]; omega),hl,show (i + 1) * sz + j - sz = i * sz + j by rw [Nat.add_mul]; omega]
            exact ihe (fun e h=>hs e (by simp [h])) i (by simpa using h)
       exact this es hsz i he
      have hcell:∀ m x,es.flatten[m]? = some x → ∃ u,w.cell? ⟨ad.block,ad.off + off + m,none⟩ = some u ∧ RepD (Own b₀ w) w x u:=fun m x hx=>by
       obtain ⟨u,hu,hru⟩:=hcells _ _ (hc m x hx)
       exact ⟨u,by rw [cell?_of_arr hblk,Nat.add_assoc]; exact hu,ih m x hx hru⟩
      refine .sl (b:=ad.block) (off:=ad.off + off) (sz:=sz) (fun i j=>(w.cell? ⟨ad.block,ad.off + off + (i * sz + j),none⟩).getD undef) (by omega) (fun _=>⟨(Array.getElem?_eq_some_iff.1 hblk).1,fun h=>absurd hB (by omega)⟩) hsz (fun i e he j x hx=>?_) (fun i e he j x hx=>?_)
      ·obtain ⟨u,hu,_⟩:=hcell _ x (hval i e he j x hx)
       rw [Nat.add_assoc,hu]; rfl
      ·obtain ⟨u,hu,hru⟩:=hcell _ x (hval i e he j x hx)
       rw [hu]; exact hru
     ·subst hl0
      have:es = []:=List.eq_nil_of_length_eq_zero hlen
      subst this
      exact .sl (sz:=sz) (fun _ _=>undef) (by simp) (fun h=>absurd rfl h) (fun _ h=>by cases h) (fun _ _ h=>by cases h) (fun _ _ h=>by cases h)
theorem FrzV.rep {N:Nat} {s:St} {a:Act} (hr:Rel b₀ N s β a w) {x r:AV} (h:FrzV s x r) {v:Value} (hv:RepV b₀ β s.gen s.obj w x v):RV (Own b₀ w) w r v:=by
 cases x with
 | one c =>
   obtain ⟨y,hy,rfl⟩:=h
   simp only [RepV] at hv; simp only [RV]
   exact ⟨y,rfl,Frz.rep hr hy hv⟩
 | agg cs =>
   obtain ⟨xs,hl,hx,rfl⟩:=h
   simp only [RepV] at hv; simp only [RV]
   obtain ⟨vs,h1,h2,h3⟩:=hv
   refine ⟨vs,h1,by rw [h2,List.length_map,hl],fun i c hc=>?_⟩
   rw [List.getElem?_map] at hc
   cases hq:xs[i]? with
   | none=>rw [hq] at hc; cases hc
   | some y =>
     rw [hq] at hc
     simp only [Option.map_some,Option.some.injEq] at hc
     subst hc
     have hlt:i < cs.length:=by rw [← hl]; exact (List.getElem?_eq_some_iff.1 hq).1
     obtain ⟨u,hu,hru⟩:=h3 i _ (List.getElem?_eq_getElem hlt)
     obtain ⟨y',hy',hf⟩:=hx i _ (List.getElem?_eq_getElem hlt)
     have:y' = y:=by simpa [hy'] using hq
     subst this
     exact ⟨u,hu,y',rfl,Frz.rep hr hf hru⟩
 | tup=>exact h.elim
 | junk=>exact h.elim
theorem FrzVs.rep {N:Nat} {s:St} {a:Act} (hr:Rel b₀ N s β a w):∀ (ts:List Nat) {rs:List AV},FrzVs s (ts.map s.f) rs → RVs (Own b₀ w) w rs (ts.map fun t=>a.tmps.getD t undef)
 | [],rs,h=>by simp only [List.map_nil,FrzVs] at h; subst h; simp only [List.map_nil,RVs]
 | t :: ts,rs,h=>by
   simp only [List.map_cons,FrzVs] at h
   obtain ⟨r,rs',rfl,h1,h2⟩:=h
   simp only [List.map_cons,RVs]
   exact ⟨_,_,rfl,h1.rep hr (hr.f t),FrzVs.rep hr ts h2⟩
def resVal (tmps:Array Value):List Nat → Value
 | [t]=>tmps.getD t undef
 | ts=>.tuple (ts.map fun t=>tmps.getD t undef).toArray
theorem run_results {fn:Func} (res:List Nat) (hres:fn.results = (res.map ResultVar.tmp).toArray) (tmps:Array Value):(results fn tmps).run P w = .ok (resVal tmps res) w:=by
 have h:∀ (g:ResultVar → Sem Value) (hg:∀ t,g (.tmp t) = pure (tmps.getD t undef)) (l:List Nat),((l.map ResultVar.tmp).mapM g).run P w = .ok (l.map fun t=>tmps.getD t undef) w:=by
  intro g hg l
  induction l with
  | nil=>simp
  | cons t l ih=>simp only [List.map_cons,List.mapM_cons,Sem.run_bind,hg,Sem.run_pure,Result.andThen_ok,ih]
 unfold results
 simp only [hres,List.mapM_toArray,Sem.run_bind,Sem.run_map]
 rw [h _ (fun _=>rfl) res]
 simp only [Result.andThen_ok,Sem.run_pure]
 match res with
 | []=>simp [resVal]
 | [t]=>simp [resVal]
 | t :: t' :: ts=>simp [resVal]
theorem pure_of_wp (hT:TabOk P T) (hm:P.follows .mixedOrders = true) {f:FuncId} {fn:Func} {c:Code} (hf:P.funcs[f]? = some fn) (hb:fn.body = some c) (hn:(fn.name == "runtime.NumGoroutine") = false)
  (res:List Nat) (hres:fn.results = (res.map ResultVar.tmp).toArray) (hok:codeOk fn.ntmps c = true) {args:List AV} (hargs:args.length ≤ fn.ntmps) {R:AV → Prop}
  (h:∀ g,wpC (sp P) T c (bx (RetQ res R)) ⟨initF args,g,fun _=>none⟩):PureR P f args R:=by
 refine ⟨⟨fn,hf,by rw [hb]; rfl,hn⟩,fun J w vs hJ hv=>?_⟩
 refine calls_of_wp hf hb ?_
 have hlen:∀ (l:List AV) (vs:List Value),RVs J w l vs → vs.length = l.length:=by
  intro l
  induction l with
  | nil=>intro vs h; simp only [RVs] at h; subst h; rfl
  | cons x l ih=>intro vs h; simp only [RVs] at h; obtain ⟨u,us,rfl,_,h⟩:=h; simp [ih us h]
 have hl:=hlen _ _ hv
 let J':Nat → Prop:=J
 have hr:Rel ⟨w.heap.size,J'⟩ fn.ntmps ⟨initF args,fun _=>0,fun _=>none⟩ (fun _=>none) { tmps:=vs.toArray ++ Array.replicate (fn.ntmps - vs.toArray.size) undef,defers:=[] } w:=by
  refine ⟨rfl,by simp; omega,fun i=>?_,fun id cells ho=>(by cases ho),fun id id' a a' ho=>(by cases ho),Nat.le_refl _⟩
  have hget:∀ (l:List AV) (vs:List Value),RVs J w l vs → ∀ (i:Nat) (x:AV),l[i]? = some x → ∃ v,vs[i]? = some v ∧ RV J w x v:=by
   intro l
   induction l with
   | nil=>intro vs _ i x h; simp at h
   | cons y l ih =>
     intro vs h i x hx
     simp only [RVs] at h
     obtain ⟨u,us,rfl,h1,h2⟩:=h
     cases i with
     | zero=>simp at hx; subst hx; exact ⟨u,rfl,h1⟩
     | succ i=>simpa using ih us h2 i x (by simpa using hx)
  simp only [initF]
  cases hx:args[i]? with
  | some x =>
    obtain ⟨v,h1,h2⟩:=hget _ _ hv i x hx
    have hlt:i < vs.length:=(List.getElem?_eq_some_iff.1 h1).1
    have:(vs.toArray ++ Array.replicate (fn.ntmps - vs.toArray.size) undef).getD i undef = v:=by
     rw [Array.getD_eq_getD_getElem?,Array.getElem?_append_left (by simpa using hlt)]
     simp [h1]
    rw [this]
    simp only [Option.getD_some]
    exact RV.rep x (RV.mono (fun b hb=>⟨⟨hJ b hb,fun _=>hb,fun id a ho=>by cases ho⟩,rfl⟩) x h2)
  | none =>
    have hge:args.length ≤ i:=by simpa using hx
    have:(vs.toArray ++ Array.replicate (fn.ntmps - vs.toArray.size) undef).getD i undef = undef:=by
     rw [Array.getD_eq_getD_getElem?,Array.getElem?_append_right (by simp; omega)]
     simp [Array.getElem?_replicate]
     split <;> rfl
    rw [this]
    exact undefRep
 refine wp_mono (wpC_sound hT hm c hok hr (h _)) (fun e a' w' hp=>?_)
 obtain ⟨s',β',hQ,hr',ht⟩:=hp
 have hres':∀ {e},RetQ res R e s' → (e = .normal ∨ e = .ret) → ∃ v,(results fn a'.tmps).run P w' = .ok v w' ∧ ∃ r,R r ∧ RV (Own ⟨w.heap.size,J'⟩ w') w' r v:=by
  intro e hQ he
  refine ⟨_,run_results res hres a'.tmps,?_⟩
  have hQ':RetQ res R .ret s':=by rcases he with rfl | rfl <;> exact hQ
  unfold RetQ at hQ'
  match res,hQ' with
  | [t],⟨r,h1,h2⟩=>exact ⟨r,h2,h1.rep hr' (hr'.f t)⟩
  | [],⟨rs,h1,h2⟩=>exact ⟨_,h2,by simp only [RV]; exact ⟨_,rfl,FrzVs.rep hr' [] h1⟩⟩
  | t :: t' :: ts,⟨rs,h1,h2⟩=>exact ⟨_,h2,by simp only [RV]; exact ⟨_,rfl,FrzVs.rep hr' (t :: t' :: ts) h1⟩⟩
 cases e with
 | normal =>
   obtain ⟨v,h1,r,h2,h3⟩:=hres' hQ (.inl rfl)
   exact ⟨hr'.defers,v,h1,v,r,rfl,h2,ht.size,fun b hb=>ht.old b hb,ht.os,h3⟩
 | ret =>
   obtain ⟨v,h1,r,h2,h3⟩:=hres' hQ (.inr rfl)
   exact ⟨hr'.defers,v,h1,v,r,rfl,h2,ht.size,fun b hb=>ht.old b hb,ht.os,h3⟩
 | exit id=>exact hQ.elim
 | goto l=>exact hQ.elim
 | panic ch=>exact hQ.elim
 | outgrown=>exact hQ.elim
end
end Go.Am

namespace Go.Am
theorem tyOk_of {P:Program} {t:Nat} {ti:TI} {z:Value} (hd:P.underlying t = some ti.desc) (hi:(P.info? t).map (fun i=>(i.size,i.bytes,i.zero)) = some (ti.size,ti.bytes,some z))
  (hz:z.cells.toList = ti.zero.map dV) (hp:ti.zero.all plainD = true) (hl:ti.zero.length = ti.size) (ha:isAggD ti.desc = true ∨ z = dV (ti.zero.headD .nsl)):TyOk P t ti:=by
 refine ⟨hd,?_,hp,hl,fun hag i zv h1 h2=>?_⟩
 rotate_left
 ·rw [h1] at hi
  simp only [Option.map_some,Option.some.injEq,Prod.mk.injEq] at hi
  have:zv = z:=by simpa [h2] using hi.2.2
  rcases ha with ha | ha
  ·rw [hag] at ha; cases ha
  ·rw [this,ha]
 cases h:P.info? t with
 | none=>rw [h] at hi; cases hi
 | some i =>
   rw [h] at hi
   simp only [Option.map_some,Option.some.injEq,Prod.mk.injEq] at hi
   exact ⟨i,rfl,hi.1,hi.2.1,z,hi.2.2,hz⟩
theorem loop_intro {P:Program} {B:(Exit → St → Prop) → St → Prop} {b:Box B} {Q:Exit → St → Prop} {q:Box Q} {s:St} (I:Nat → St → Prop) (n:Nat) (h0:I n s)
  (hr:∀ n f g ob,I n ⟨f,g,ob⟩ → B (thenA (bx fun s'=>∃ n' s₁,n' < n ∧ (sp P).vs s' s₁ ∧ I n' s₁) q) ⟨f,g,ob⟩):LoopA (sp P) b q s :=
 ⟨I,⟨n,s,SemVs.refl s,h0⟩,fun n s hs=>hr n s.f s.gen s.obj hs⟩
theorem round_end {P:Program} {I:Nat → St → Prop} {n:Nat} {s:St} (n':Nat) (h:n' < n) (hI:I n' s):∃ n' s₁,n' < n ∧ (sp P).vs s s₁ ∧ I n' s₁:=⟨n',s,h,SemVs.refl s,hI⟩
theorem draw_intro {P:Program} {T:Nat → TI} {id:Nat} {ops:Array Oper} {s:St} {Q:Exit → St → Prop} {q:Box Q} (hok:drawOk T ops = true) (h:wpO (sp P) T ops ops.toList s (bx fun s'=>Q .normal s')):DrawA (sp P) T id ops s q:=.inl ⟨hok,h⟩
theorem hook_call {P:Program} {o:Oper} {s:St} {K:St → Prop} {k:Box K} {f:FuncId} {args:Array Operand} {tys:Array TypeId} (ho:o.op = .call ⟨.value (.func f),args,tys⟩) {R:AV → Prop}
  (hp:PureR P f (args.toList.map s.ev) R) (hd:(args.toList.map s.ev).all dataAV = true) (hk:∀ r,R r → K (s.put o.dst r)):hookA (sp P) o s k :=
 ⟨_,call_pure ho hp hd,fun _ ⟨r,hr,e⟩=>e ▸ hk r hr⟩
theorem wrap_i64 (n:Int) (h0:-9223372036854775808 ≤ n) (h1:n ≤ 9223372036854775807):IntKind.i64.wrap n = n:=by rw [IntKind.wrap_i64]; omega
theorem frz_d {s:St} {x y:D}:Frz s (.d x) y ↔ y = normD x:=⟨fun h=>by cases h; rfl,fun h=>h ▸ .d x⟩
@[go_sem] theorem ret_d {s:St} {x:D} {R:AV → Prop}:(∃ r,FrzV s (.one (.d x)) r ∧ R r) = R (.one (.d (normD x))):=by
 apply propext
 constructor
 ·rintro ⟨r,⟨y,hy,rfl⟩,hR⟩; rw [frz_d] at hy; subst hy; exact hR
 ·intro h; exact ⟨_,⟨_,.d x,rfl⟩,h⟩
@[go_sem] theorem rets_nil {s:St} {R:List AV → Prop}:(∃ rs,FrzVs s [] rs ∧ R rs) = R []:=by simp [FrzVs]
@[go_sem] theorem rets_cons {s:St} {t:AV} {ts:List AV} {R:List AV → Prop}:(∃ rs,FrzVs s (t :: ts) rs ∧ R rs) = ∃ r,FrzV s t r ∧ ∃ rs,FrzVs s ts rs ∧ R (r :: rs):=by
 apply propext
 simp only [FrzVs]
 constructor
 ·rintro ⟨_,⟨r,rs',rfl,h1,h2⟩,hR⟩; exact ⟨r,h1,rs',h2,hR⟩
 ·rintro ⟨r,h1,rs',h2,hR⟩; exact ⟨_,⟨r,rs',rfl,h1,h2⟩,hR⟩
@[go_sem] theorem RetQ_one {s:St} {t:Nat} {R:AV → Prop}:RetQ [t] R .ret s = ∃ r,FrzV s (s.f t) r ∧ R r:=Eq.trans rfl rfl
@[go_sem] theorem RetQ_two {s:St} {t u:Nat} {R:AV → Prop}:RetQ [t,u] R .ret s = ∃ rs,FrzVs s [s.f t,s.f u] rs ∧ R (.tup rs):=Eq.trans rfl rfl
@[go_sem] theorem RetQ_three {s:St} {t u v:Nat} {R:AV → Prop}:RetQ [t,u,v] R .ret s = ∃ rs,FrzVs s [s.f t,s.f u,s.f v] rs ∧ R (.tup rs):=Eq.trans rfl rfl
@[go_sem] theorem normD_bool (b:Bool):normD (.bool b) = .bool b:=Eq.trans rfl rfl
@[go_sem] theorem normD_int (k:IntKind) (n:Int):normD (.int k n) = .int k n:=Eq.trans rfl rfl
@[go_sem] theorem normD_str (s:List UInt8):normD (.str s) = .str s:=Eq.trans rfl rfl
@[go_sem] theorem normD_nsl:normD .nsl = .sl []:=Eq.trans rfl rfl
@[go_sem] theorem normD_sl (es:List (List D)):normD (.sl es) = .sl es:=Eq.trans rfl rfl
attribute [go_sem] AV.one.injEq AV.tup.injEq AV.agg.injEq C.d.injEq D.bool.injEq D.int.injEq D.str.injEq D.sl.injEq List.cons.injEq true_implies false_implies forall_const and_self
attribute [go_sem] Int.ofNat_lt Int.ofNat_le Int.natCast_nonneg initF
theorem wrap_succ {k:Nat} (h:k ≤ 4000000000000000000):IntKind.i64.wrap ((k:Int) + 1) = ((k + 1:Nat):Int):=by rw [IntKind.wrap_i64] <;> omega
end Go.Am
