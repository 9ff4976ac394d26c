/- A part of the proof; no conditions. -/
import Derived.Shelf.Strconv.Itoa3
import Derived.Test.YtiaalcpkhlnpcabGreatDoorProg
import Derived.StillTail
import Derived.Deep.Quiet
set_option linter.unusedSimpArgs false
set_option linter.unusedVariables false
namespace Go.Proofs.YtiaalcpkhlnpcabGreatDoor
open Go Go.Shelf

def lay171_ren : Ren := ⟨fun | 171 => 24 | 243 => 37 | 246 => 59 | 283 => 60 | 284 => 61 | 285 => 62 | 286 => 63 | 129 => 88 | 317 => 87 | 318 => 89 | 319 => 90 | 320 => 91 | 337 => 117 | 338 => 118 | n => n, fun | 3 => 3 | 9 => 9 | 2 => 2 | 4 => 4 | 171 => 124 | 0 => 0 | 53 => 64 | 37 => 36 | 5 => 5 | 173 => 127 | 212 => 186 | 51 => 31 | 20 => 20 | 213 => 187 | 46 => 61 | 232 => 264 | 233 => 265 | n => n, fun | 17 => 1 | 18 => 3 | 19 => 4 | n => n⟩
theorem lay171 : LaysM.n171 Tryz.prog lay171_ren where
  mixed := by kernel_rfl
  f129 := Tryz.func88.trans (congrArg some (by kernel_rfl))
  f171 := Tryz.func24.trans (congrArg some (by kernel_rfl))
  f243 := Tryz.func37.trans (congrArg some (by kernel_rfl))
  f246 := Tryz.func59.trans (congrArg some (by kernel_rfl))
  f283 := Tryz.func60.trans (congrArg some (by kernel_rfl))
  f284 := Tryz.func61.trans (congrArg some (by kernel_rfl))
  f285 := Tryz.func62.trans (congrArg some (by kernel_rfl))
  f286 := Tryz.func63.trans (congrArg some (by kernel_rfl))
  f317 := Tryz.func87.trans (congrArg some (by kernel_rfl))
  f318 := Tryz.func89.trans (congrArg some (by kernel_rfl))
  f319 := Tryz.func90.trans (congrArg some (by kernel_rfl))
  f320 := Tryz.func91.trans (congrArg some (by kernel_rfl))
  f337 := Tryz.func117.trans (congrArg some (by kernel_rfl))
  f338 := Tryz.func118.trans (congrArg some (by kernel_rfl))
  t0 := Tryz.underlying0
  a0 := Tryz.isAgg0
  z0 := Tryz.sizeOf0
  v0 := Tryz.zeroValue0
  t2 := Tryz.underlying2
  a2 := Tryz.isAgg2
  z2 := Tryz.sizeOf2
  v2 := Tryz.zeroValue2
  t3 := Tryz.underlying3
  a3 := Tryz.isAgg3
  z3 := Tryz.sizeOf3
  v3 := Tryz.zeroValue3
  t4 := Tryz.underlying4
  a4 := Tryz.isAgg4
  z4 := Tryz.sizeOf4
  v4 := Tryz.zeroValue4
  t5 := Tryz.underlying5
  a5 := Tryz.isAgg5
  z5 := Tryz.sizeOf5
  v5 := Tryz.zeroValue5
  t9 := Tryz.underlying9
  a9 := Tryz.isAgg9
  z9 := Tryz.sizeOf9
  v9 := Tryz.zeroValue9
  t20 := Tryz.underlying20
  a20 := Tryz.isAgg20
  z20 := Tryz.sizeOf20
  v20 := Tryz.zeroValue20
  t37 := Tryz.underlying36
  a37 := Tryz.isAgg36
  z37 := Tryz.sizeOf36
  v37 := Tryz.zeroValue36
  t46 := Tryz.underlying61
  a46 := Tryz.isAgg61
  z46 := Tryz.sizeOf61
  v46 := Tryz.zeroValue61
  t51 := Tryz.underlying31
  a51 := Tryz.isAgg31
  z51 := Tryz.sizeOf31
  v51 := Tryz.zeroValue31
  t53 := Tryz.underlying64
  a53 := Tryz.isAgg64
  z53 := Tryz.sizeOf64
  v53 := Tryz.zeroValue64
  t171 := Tryz.underlying124
  a171 := Tryz.isAgg124
  z171 := Tryz.sizeOf124
  v171 := Tryz.zeroValue124
  t173 := Tryz.underlying127
  a173 := Tryz.isAgg127
  z173 := Tryz.sizeOf127
  v173 := Tryz.zeroValue127
  t212 := Tryz.underlying186
  a212 := Tryz.isAgg186
  z212 := Tryz.sizeOf186
  v212 := Tryz.zeroValue186
  t213 := Tryz.underlying187
  a213 := Tryz.isAgg187
  z213 := Tryz.sizeOf187
  t232 := Tryz.underlying264
  a232 := Tryz.isAgg264
  z232 := Tryz.sizeOf264
  v232 := Tryz.zeroValue264
  t233 := Tryz.underlying265
  a233 := Tryz.isAgg265
  z233 := Tryz.sizeOf265
  v233 := Tryz.zeroValue265
  g17 := by kernel_rfl
  g18 := by kernel_rfl
  g19 := by kernel_rfl
  i0 := by kernel_rfl
  i2 := by kernel_rfl
  i3 := by kernel_rfl
  i4 := by kernel_rfl
  i5 := by kernel_rfl
  i9 := by kernel_rfl
  i20 := by kernel_rfl
  i37 := by kernel_rfl
  i46 := by kernel_rfl
  i51 := by kernel_rfl
  i53 := by kernel_rfl
  i171 := by kernel_rfl
  i173 := by kernel_rfl
  i212 := by kernel_rfl
  i232 := by kernel_rfl
  i233 := by kernel_rfl
  m17 := by kernel_rfl
  m18 := by kernel_rfl
  m19 := by kernel_rfl
end Go.Proofs.YtiaalcpkhlnpcabGreatDoor

namespace Go.Am

/-- Immutable data. -/
inductive D where
  | bool (b : Bool)
  | int (k : IntKind) (n : Int)
  | str (s : List UInt8)
  | sl (es : List (List D))
  | nsl
  | nilp
  | nilf
  | nili
  | nilm
  | fn (f : FuncId)
  | iptr (cs : List D)
  | yld (l : Nat)
  deriving Inhabited

/-- What a closure may hold. -/
inductive PC where
  | d (x : D)
  | ptr (id g off : Nat)
  deriving Inhabited

/-- One cell of a state: data, or a handle to an object that the call owns. -/
inductive C where
  | d (x : D)
  | osl (id g sz off len : Nat)
  | ptr (id g off : Nat)
  | clo (f : FuncId) (caps : List PC)
  | mp (id g kd : Nat)
  | lsl (n : Nat)
  | raw (o : Obj)
  deriving Inhabited

inductive AV where
  | one (c : C)
  | agg (cs : List C)
  | tup (vs : List AV)
  | junk
  | exact (v : Value)
  deriving Inhabited

structure St where
  f : Nat → AV
  gen : Nat → Nat
  obj : Nat → Option (List C)

/-- A continuation that simp does not enter. -/
inductive Box {α : Type} (a : α) : Type where
  | mk

@[reducible] def bx {α : Type} (a : α) : Box a := .mk

def upd {α : Type} (f : Nat → α) (i : Nat) (v : α) : Nat → α := fun j => if j = i then v else f j

structure TI where
  desc : TypeDesc
  size : Nat
  bytes : Nat
  zero : List D
  deriving Inhabited

abbrev iv (k : IntKind) (n : Int) : AV := .one (.d (.int k n))
abbrev bv (b : Bool) : AV := .one (.d (.bool b))
abbrev sv (s : List UInt8) : AV := .one (.d (.str s))
abbrev uv : AV := .tup []

def absC : Value → C
  | .bool b => .d (.bool b)
  | .int k n => .d (.int k n)
  | .string s => .d (.str s.data.toList)
  | .slice none 0 0 => .d .nsl
  | .pointer none => .d .nilp
  | .nilFunc => .d .nilf
  | .nilIface => .d .nili
  | .map none => .d .nilm
  | _ => .osl 0 0 0 0 0

def absV : Value → AV
  | .bool b => .one (.d (.bool b))
  | .int k n => .one (.d (.int k n))
  | .string s => .one (.d (.str s.data.toList))
  | .slice none 0 0 => .one (.d .nsl)
  | .pointer none => .one (.d .nilp)
  | .nilFunc => .one (.d .nilf)
  | .nilIface => .one (.d .nili)
  | .map none => .one (.d .nilm)
  | _ => .junk

def St.ev (s : St) : Operand → AV
  | .tmp t => s.f t
  | .const v => absV v
  | .global _ => .junk
  | .func f => .one (.d (.fn f))

def St.put (s : St) (dst : Option Nat) (v : AV) : St :=
  match dst with
  | none => s
  | some d => { s with f := upd s.f d v }

/-- The next make of an object's number; c: the type of its block's elements and 1, or 0. -/
def nxC (c g : Nat) : Nat := 1000000 * (g + 1) + (if c < 1000000 then c else 0)
def code (g : Nat) : Nat := g % 1000000
theorem nxC_lt (c g : Nat) : g < nxC c g := by unfold nxC; omega
theorem nxC_ne (c g : Nat) : nxC c g ≠ g := Nat.ne_of_gt (nxC_lt c g)
theorem code_nxC (c g : Nat) : code (nxC c g) = if c < 1000000 then c else 0 := by
  unfold code nxC; rw [Nat.mul_add_mod]; split
  · rename_i h; exact Nat.mod_eq_of_lt h
  · rfl
theorem code_nxC' {c : Nat} (g : Nat) (h : c < 1000000) : code (nxC c g) = c := by rw [code_nxC, if_pos h]

/-- Behind an append of elements of the type e. -/
def apC (e g off : Nat) : Nat := if code g = e + 1 ∧ off = 0 then e + 1 else 0

/-- A new object with the number 'd', whatever had it before. -/
def St.newC (c : Nat) (s : St) (d : Nat) (cs : List C) : St := { s with gen := upd s.gen d (nxC c (s.gen d)), obj := upd s.obj d (some cs) }

def isAggD : TypeDesc → Bool
  | .struct _ | .array _ _ => true
  | _ => false

def cellsOf : AV → Option (List C)
  | .one c => some [c]
  | .agg cs => some cs
  | _ => none

def setAt (cells : List C) (off : Nat) : List C → List C
  | [] => cells
  | c :: cs => setAt (cells.set off c) (off + 1) cs

def byteD (b : UInt8) : D := .int .u8 b.toNat

/-- By cases on a Bool. -/
def BSplit (b : Bool) {K : Bool → Prop} (_ : Box K) : Prop := (b = true → K true) ∧ (b = false → K false)

def onSome {α : Type} (x : Option α) {K : α → Prop} (_ : Box K) : Prop :=
  match x with
  | some a => K a
  | none => False

def onBool (v : AV) {K : Bool → Prop} (k : Box K) : Prop :=
  match v with
  | .one (.d (.bool b)) => BSplit b k
  | _ => False

/-- A guarded operation: is it wanted? -/
def guardA (v : AV) {K : Bool → Prop} (k : Box K) {U : Prop} (_ : Box U) : Prop :=
  match v with
  | .one (.d (.bool b)) => BSplit b k
  | .tup [] => U
  | _ => False

/-- A value of a type is read at a place of an object's cells. -/
def readC (ti : TI) (cells : List C) (off : Nat) {K : AV → Prop} (_ : Box K) : Prop :=
  match isAggD ti.desc with
  | true => off + ti.size ≤ cells.length ∧ K (.agg ((cells.drop off).take ti.size))
  | false => onSome (cells[off]?) (bx fun c => K (.one c))

def readD (ti : TI) (cs : List D) {K : AV → Prop} (_ : Box K) : Prop :=
  match isAggD ti.desc with
  | true => ti.size ≤ cs.length ∧ K (.agg ((cs.take ti.size).map .d))
  | false => onSome (cs[0]?) (bx fun c => K (.one (.d c)))

def okD : TypeDesc → Bool
  | .invalid => false
  | _ => true

def loadA (ti : TI) (s : St) (a : AV) {K : AV → Prop} (k : Box K) : Prop :=
  match a with
  | .one (.ptr id g off) => okD ti.desc = true ∧ s.gen id = g ∧ onSome (s.obj id) (bx fun cells => readC ti cells off k)
  | .one (.d (.iptr cs)) => okD ti.desc = true ∧ readD ti cs k
  | _ => False

def storeA (ti : TI) (s : St) (a x : AV) {K : St → Prop} (_ : Box K) : Prop :=
  match a with
  | .one (.ptr id g off) => okD ti.desc = true ∧ s.gen id = g ∧ onSome (cellsOf x) (bx fun cs => cs.length = ti.size ∧ onSome (s.obj id) (bx fun cells => off + cs.length ≤ cells.length ∧
        K { s with obj := upd s.obj id (some (setAt cells off cs)) }))
  | _ => False

/-- An element's address; 'sz': the cells of one element. -/
def indexAddrA (s : St) (sz : Nat) (x ix : AV) {K : AV → Prop} (_ : Box K) : Prop :=
  match ix with
  | .one (.d (.int _ i)) =>
    match x with
    | .one (.d (.sl es)) => 0 ≤ i ∧ onSome (es[i.toNat]?) (bx fun c => c.length = sz ∧ K (.one (.d (.iptr c))))
    | .one (.osl id g sz' off len) => s.gen id = g ∧ (s.obj id).isSome = true ∧ 0 ≤ i ∧ i < len ∧ sz' = sz ∧ K (.one (.ptr id g (off + i.toNat * sz)))
    | _ => False
  | _ => False

/-- An element's address, of an array told by its address. -/
def arrAddrA (T : Nat → TI) (d : TypeDesc) (s : St) (x ix : AV) {K : AV → Prop} (_ : Box K) : Prop :=
  match d with
  | .array n e =>
    match ix with
    | .one (.d (.int _ i)) =>
      match x with
      | .one (.ptr id g off) => s.gen id = g ∧ (s.obj id).isSome = true ∧ okD (T e).desc = true ∧ 0 ≤ i ∧ i < n ∧ K (.one (.ptr id g (off + i.toNat * (T e).size)))
      | _ => False
    | _ => False
  | _ => False

def isArr (d : TypeDesc) : Bool := match d with | .array _ _ => true | _ => false

def indexA (x ix : AV) {K : AV → Prop} (_ : Box K) : Prop :=
  match ix with
  | .one (.d (.int _ i)) =>
    match x with
    | .one (.d (.str s)) => 0 ≤ i ∧ onSome (s[i.toNat]?) (bx fun c => K (iv .u8 c.toNat))
    | _ => False
  | _ => False

def binI (op : BinOp) (k : IntKind) (x y : Int) {K : AV → Prop} (_ : Box K) : Prop :=
  match op with
  | .add => K (iv k (k.wrap (x + y)))
  | .sub => K (iv k (k.wrap (x - y)))
  | .mul => K (iv k (k.wrap (x * y)))
  | .quo => y ≠ 0 ∧ K (iv k (k.wrap (x.tdiv y)))
  | .rem => y ≠ 0 ∧ K (iv k (x.tmod y))
  | .eql => K (bv (decide (x = y)))
  | .neq => K (bv (decide (x ≠ y)))
  | .lss => K (bv (decide (x < y)))
  | .leq => K (bv (decide (x ≤ y)))
  | .gtr => K (bv (decide (y < x)))
  | .geq => K (bv (decide (y ≤ x)))
  | .and => K (iv k (k.wrap (BitVec.ofInt k.bits x &&& BitVec.ofInt k.bits y).toNat))
  | .or => K (iv k (k.wrap (BitVec.ofInt k.bits x ||| BitVec.ofInt k.bits y).toNat))
  | .xor => K (iv k (k.wrap (BitVec.ofInt k.bits x ^^^ BitVec.ofInt k.bits y).toNat))
  | .andNot => K (iv k (k.wrap (BitVec.ofInt k.bits x &&& ~~~ BitVec.ofInt k.bits y).toNat))
  | .shl => 0 ≤ y ∧ K (iv k (k.wrap (x * 2 ^ (min y.toNat k.bits))))
  | .shr => 0 ≤ y ∧ K (iv k (x.fdiv (2 ^ (min y.toNat k.bits))))

def binS (op : BinOp) (x y : List UInt8) {K : AV → Prop} (_ : Box K) : Prop :=
  match op with
  | .add => ((x.length + y.length : Nat) : Int) ≤ 9223372036854775807 ∧ K (sv (x ++ y))
  | .eql => K (bv (decide (x = y)))
  | .neq => K (bv (decide (x ≠ y)))
  | .lss => K (bv (Op.bytesLess x y))
  | .leq => K (bv (Op.bytesLess x y || decide (x = y)))
  | .gtr => K (bv (!(Op.bytesLess x y || decide (x = y))))
  | .geq => K (bv (!Op.bytesLess x y))
  | _ => False

def sameKind (op : BinOp) (k k' : IntKind) : Prop :=
  match op with
  | .shl | .shr => True
  | _ => k = k'

def binB (d : TypeDesc) (op : BinOp) (x y : Bool) {K : AV → Prop} (_ : Box K) : Prop :=
  match d, op with
  | .bool, .eql => K (bv (decide (x = y)))
  | .bool, .neq => K (bv (decide (x ≠ y)))
  | _, _ => False

/-- Cells that are integers of a kind. -/
def intsC (k : IntKind) : List C → Option (List Int)
  | [] => some []
  | .d (.int k' n) :: r => if k' = k then (intsC k r).map (n :: ·) else none
  | _ => none

/-- Arrays of integers are compared. -/
def arrE (ti : TI) (n : Nat) (xs ys : List C) {K : Bool → Prop} (_ : Box K) : Prop :=
  match ti.desc with
  | .int k => ti.size = 1 ∧ onSome (intsC k xs) (bx fun a => onSome (intsC k ys) (bx fun b => (a.length = n ∧ b.length = n) ∧ K (decide (a = b))))
  | _ => False

def binG (T : Nat → TI) (d : TypeDesc) (op : BinOp) (xs ys : List C) {K : AV → Prop} (_ : Box K) : Prop :=
  match d, op with
  | .array n e, .eql => arrE (T e) n xs ys (bx fun b => K (bv b))
  | .array n e, .neq => arrE (T e) n xs ys (bx fun b => K (bv (!b)))
  | _, _ => False

def binA (T : Nat → TI) (d : TypeDesc) (op : BinOp) (x y : AV) {K : AV → Prop} (k : Box K) : Prop :=
  match x, y with
  | .one (.d (.int k1 a)), .one (.d (.int k2 b)) => sameKind op k1 k2 ∧ binI op k1 a b k
  | .one (.d (.str a)), .one (.d (.str b)) => binS op a b k
  | .one (.d (.bool a)), .one (.d (.bool b)) => binB d op a b k
  | .agg xs, .agg ys => binG T d op xs ys k
  | _, _ => False

def unA (op : UnOp) (x : AV) {K : AV → Prop} (_ : Box K) : Prop :=
  match op, x with
  | .not, .one (.d (.bool b)) => K (bv (!b))
  | .neg, .one (.d (.int k n)) => K (iv k (k.wrap (0 - n)))
  | _, _ => False

/-- What stands behind a slice (or a string): how many, and the cells. -/
def contents (s : St) (str sl : Bool) (sz : Nat) (x : AV) {K : Nat → List C → Prop} (_ : Box K) : Prop :=
  match x with
  | .one (.d .nsl) => sl = true ∧ K 0 []
  | .one (.d (.sl es)) => sl = true ∧ (∀ e ∈ es, e.length = sz) ∧ K es.length (es.flatten.map .d)
  | .one (.d (.str bs)) => str = true ∧ sz = 1 ∧ K bs.length (bs.map fun b => .d (byteD b))
  | .one (.osl id g sz' off len) => sl = true ∧ s.gen id = g ∧ sz' = sz ∧ onSome (s.obj id) (bx fun cells => off + len * sz ≤ cells.length ∧ K len ((cells.drop off).take (len * sz)))
  | _ => False

/-- Cells that are bytes. -/
def u8s : List C → Option (List Int)
  | [] => some []
  | .d (.int .u8 n) :: r => (u8s r).map (n :: ·)
  | _ => none

def isU8 : TypeDesc → Bool
  | .int .u8 => true
  | _ => false

def convA (s : St) (el : TypeDesc) (src dst : TypeDesc) (x : AV) {K : AV → Prop} (_ : Box K) : Prop :=
  match src, dst, x with
  | sr, .int k, .one (.d (.int _ n)) => okD sr = true ∧ K (iv k (k.wrap n))
  | .string, .string, .one (.d (.str b)) => K (sv b)
  | .slice _, .string, y => isU8 el = true ∧ contents s false true 1 y (bx fun _ cs => onSome (u8s cs) (bx fun ns => K (sv (ns.map fun n => UInt8.ofNat n.toNat))))
  | _, _, _ => False

/-- So many elements of so many bytes may be appended to. -/
def roomOk (n bytes : Nat) : Prop := 0 < bytes ∧ (2 * n + 1024) * bytes ≤ 281474976710656

def appendA (e : Nat) (ti : TI) (str sl : Bool) (i d : Nat) (s : St) (x y : AV) {K : St → Prop} (_ : Box K) : Prop :=
  match x with
  | .one (.d .nsl) => contents s str sl ti.size y (bx fun n cs => roomOk n ti.bytes ∧ K ((s.newC (e + 1) i cs).put (some d) (.one (.osl i (nxC (e + 1) (s.gen i)) ti.size 0 n))))
  | .one (.osl id g sz off len) => s.gen id = g ∧ sz = ti.size ∧ onSome (s.obj id) (bx fun cells => off + len * sz ≤ cells.length ∧
      contents s str sl ti.size y (bx fun n cs => roomOk (len + n) ti.bytes ∧
        K ((s.newC (apC e (s.gen id) off) id ((cells.drop off).take (len * sz) ++ cs)).put (some d) (.one (.osl id (nxC (apC e (s.gen id) off) (s.gen id)) ti.size 0 (len + n))))))
  | _ => False

def lenA (s : St) (str sl : Bool) (x : AV) {K : AV → Prop} (_ : Box K) : Prop :=
  match x with
  | .one (.d .nsl) => sl = true ∧ K (iv .i64 0)
  | .one (.d (.sl es)) => sl = true ∧ K (iv .i64 es.length)
  | .one (.d (.str bs)) => str = true ∧ K (iv .i64 bs.length)
  | .one (.osl id g _ _ len) => sl = true ∧ s.gen id = g ∧ (s.obj id).isSome = true ∧ K (iv .i64 len)
  | .one (.lsl n) => sl = true ∧ K (iv .i64 n)
  | _ => False

def boundA (o : Option AV) (els : Nat) {K : Nat → Prop} (_ : Box K) : Prop :=
  match o with
  | none => K els
  | some (.one (.d (.int _ n))) => 0 ≤ n ∧ K n.toNat
  | _ => False

def sliceA (s : St) (str sl : Bool) (sz : Nat) (x : AV) (lo hi : Option AV) {K : AV → Prop} (_ : Box K) : Prop :=
  match x with
  | .one (.d (.str bs)) => str = true ∧ boundA hi bs.length (bx fun h => boundA lo 0 (bx fun l => l ≤ h ∧ h ≤ bs.length ∧ K (sv ((bs.take h).drop l))))
  | .one (.d (.sl es)) => sl = true ∧ boundA hi es.length (bx fun h => boundA lo 0 (bx fun l => l ≤ h ∧ h ≤ es.length ∧ (∀ x ∈ es, x.length = sz) ∧ K (.one (.d (.sl ((es.take h).drop l))))))
  | .one (.d .nsl) => sl = true ∧ boundA hi 0 (bx fun h => boundA lo 0 (bx fun l => l = 0 ∧ h = 0 ∧ K (.one (.d .nsl))))
  | .one (.osl id g sz' off len) => sl = true ∧ s.gen id = g ∧ (s.obj id).isSome = true ∧ boundA hi len (bx fun h => boundA lo 0 (bx fun l => l ≤ h ∧ h ≤ len ∧ sz' = sz ∧ K (.one (.osl id g sz (off + l * sz) (h - l)))))
  | _ => False

/-- The elements of a literal, one behind the other. -/
def catA (sz : Nat) : (k : Nat) → (ps : List (Nat × AV)) → {K : List C → Prop} → Box K → Prop
  | _, [], K, _ => K []
  | k, p :: r, K, _ => p.1 = k ∧ onSome (cellsOf p.2) (bx fun cs => cs.length = sz ∧ catA sz (k + 1) r (bx fun rest => K (cs ++ rest)))

def buildSliceA (e sz i d n : Nat) (s : St) (ps : List (Nat × AV)) {K : St → Prop} (_ : Box K) : Prop :=
  ps.length = n ∧ n * sz ≤ 16777216 ∧ catA sz 0 ps (bx fun cs => K ((s.newC (e + 1) i cs).put (some d) (.one (.osl i (nxC (e + 1) (s.gen i)) sz 0 n))))

def fieldOf (d : TypeDesc) (f : Nat) : Option Field :=
  match d with
  | .struct fs => fs[f]?
  | _ => none

/-- A field's address. -/
def fieldAddrA (T : Nat → TI) (t f : Nat) (s : St) (x : AV) {K : AV → Prop} (_ : Box K) : Prop :=
  match x with
  | .one (.ptr id g off) => s.gen id = g ∧ (s.obj id).isSome = true ∧ onSome (fieldOf (T t).desc f) (bx fun fl => (okD (T fl.type).desc = true ∧ (T fl.type).size ≠ 0) ∧ K (.one (.ptr id g (off + fl.offset))))
  | .one (.d (.iptr cs)) => onSome (fieldOf (T t).desc f) (bx fun fl => (okD (T fl.type).desc = true ∧ (T fl.type).size ≠ 0) ∧ K (.one (.d (.iptr (cs.drop fl.offset)))))
  | _ => False

/-- A field of a struct. -/
def fieldA (T : Nat → TI) (t f : Nat) (x : AV) {K : AV → Prop} (k : Box K) : Prop :=
  match x with
  | .agg cs => onSome (fieldOf (T t).desc f) (bx fun fl => okD (T fl.type).desc = true ∧ readC (T fl.type) cs fl.offset k)
  | _ => False

/-- Parts are laid into cells. -/
def fillA (pl : Nat → Option (Nat × Nat)) : (cells : List C) → (ps : List (Nat × AV)) → {K : List C → Prop} → Box K → Prop
  | cells, [], K, _ => K cells
  | cells, p :: r, _, k => onSome (pl p.1) (bx fun q => onSome (cellsOf p.2) (bx fun cs => cs.length = q.2 ∧ q.1 + q.2 ≤ cells.length ∧ fillA pl (setAt cells q.1 cs) r k))

/-- Where a struct's parts lie. -/
def placeOf (T : Nat → TI) (d : TypeDesc) (i : Nat) : Option (Nat × Nat) :=
  match d with
  | .array _ e => some (i * (T e).size, (T e).size)
  | d => (fieldOf d i).bind fun fl => bif okD (T fl.type).desc then some (fl.offset, (T fl.type).size) else none

/-- A struct's type, whose fields' types are known. -/
def okSt (T : Nat → TI) (t : Nat) : Bool := match (T t).desc with | .struct fs => fs.toList.all fun f => okD (T f.type).desc | .array _ e => okD (T e).desc | _ => false

def buildA (T : Nat → TI) (t : Nat) (ps : List (Nat × AV)) {K : AV → Prop} (_ : Box K) : Prop :=
  okSt T t = true ∧ fillA (placeOf T (T t).desc) ((T t).zero.map .d) ps (bx fun cs => K (.agg cs))

def boxA (t i d : Nat) (s : St) (x : AV) {K : St → Prop} (_ : Box K) : Prop :=
  onSome (cellsOf x) (bx fun cs => K ((s.newC (t + 1) i cs).put (some d) (.one (.ptr i (nxC (t + 1) (s.gen i)) 0))))

def allocA (t : Nat) (ti : TI) (i d : Nat) (s : St) {K : St → Prop} (_ : Box K) : Prop :=
  okD ti.desc = true ∧ K ((s.newC (t + 1) i (ti.zero.map .d)).put (some d) (.one (.ptr i (nxC (t + 1) (s.gen i)) 0)))

def nilCheckA (s : St) (x : AV) {K : AV → Prop} (_ : Box K) : Prop :=
  match x with
  | .one (.ptr id g off) => s.gen id = g ∧ (s.obj id).isSome = true ∧ K (.one (.ptr id g off))
  | .one (.d (.iptr cs)) => K (.one (.d (.iptr cs)))
  | _ => False

def extractA (x : AV) (i : Nat) {K : AV → Prop} (k : Box K) : Prop :=
  match x with
  | .tup ts => onSome (ts[i]?) k
  | _ => False

def mxA (mx : Bool) (x y : AV) {K : AV → Prop} (_ : Box K) : Prop :=
  match x, y with
  | .one (.d (.int k a)), .one (.d (.int _ b)) => K (iv k (if mx then max a b else min a b))
  | _, _ => False

def makeSliceA (e : Nat) (ti : TI) (i d : Nat) (s : St) (l c : AV) {K : St → Prop} (_ : Box K) : Prop :=
  match l, c with
  | .one (.d (.int _ n)), .one (.d (.int _ m)) => 0 ≤ n ∧ n ≤ m ∧ m ≤ 4611686018427387904 ∧ m * ti.bytes ≤ 281474976710656 ∧
      K ((s.newC (e + 1) i (List.replicate m.toNat (ti.zero.map C.d)).flatten).put (some d) (.one (.osl i (nxC (e + 1) (s.gen i)) ti.size 0 n.toNat)))
  | _, _ => False

/-- Kinds of keys, as numbers, and back. -/
def keyDesc : Nat → TypeDesc
  | 0 => .int .i8 | 1 => .int .i16 | 2 => .int .i32 | 3 => .int .i64 | 4 => .int .u8 | 5 => .int .u16 | 6 => .int .u32 | 7 => .int .u64
  | 8 => .string
  | 9 => .bool
  | _ => .invalid

def keyCode : TypeDesc → Nat
  | .int .i8 => 0 | .int .i16 => 1 | .int .i32 => 2 | .int .i64 => 3 | .int .u8 => 4 | .int .u16 => 5 | .int .u32 => 6 | .int .u64 => 7
  | .string => 8
  | _ => 9

/-- A key of a kind. -/
def okKey : TypeDesc → D → Bool
  | .int k, .int k' _ => k' = k
  | .string, .str _ => true
  | .bool, .bool _ => true
  | _, _ => false

def keyEq : D → D → Bool
  | .int k n, .int k' n' => k = k' && n = n'
  | .str s, .str s' => s = s'
  | .bool b, .bool b' => b = b'
  | _, _ => false

/-- A map's cells: its keys and their values, by turns. -/
def mget : List C → D → Option C
  | .d k' :: c :: r, k => if keyEq k' k then some c else mget r k
  | _, _ => none

def mset : List C → D → C → List C
  | .d k' :: c :: r, k, x => if keyEq k' k then .d k' :: x :: r else .d k' :: c :: mset r k x
  | _, k, x => [.d k, x]

/-- A map's kind: its keys', and 200 more where its values are aggregates. -/
def mapKd (agg : Bool) (n : Nat) : Nat := match agg with | true => 200 + n | false => n
def makeMapA (T : Nat → TI) (t i d : Nat) (s : St) {K : St → Prop} (_ : Box K) : Prop :=
  match (T t).desc with
  | .map kt et => keyDesc (keyCode (T kt).desc) = (T kt).desc ∧ K ((s.newC 0 i []).put (some d) (.one (.mp i (nxC 0 (s.gen i)) (mapKd (isAggD (T et).desc) (keyCode (T kt).desc)))))
  | _ => False

def lkRes (ok : Bool) (z : D) (c : Option C) : AV := if ok then .tup [.one (c.getD (.d z)), bv c.isSome] else .one (c.getD (.d z))

def zeroD (ti : TI) {K : D → Prop} (_ : Box K) : Prop :=
  match ti.zero with
  | [z] => (okD ti.desc = true ∧ isAggD ti.desc = false) ∧ K z
  | _ => False

/-- .. of aggregates: a map's cell tells one as what a pointer points to. -/
def lkDs (z : List D) : Option C → List D
  | some (.d (.iptr ds)) => ds
  | _ => z
def lkResG (ok : Bool) (z : List D) (c : Option C) : AV := match ok with | true => .tup [.agg ((lkDs z c).map .d), bv c.isSome] | false => .agg ((lkDs z c).map .d)
def zeroG (ti : TI) {K : List D → Prop} (_ : Box K) : Prop := (okD ti.desc = true ∧ 2 ≤ ti.zero.length) ∧ K ti.zero

def lookupA (T : Nat → TI) (t : Nat) (s : St) (x ix : AV) (ok : Bool) {K : AV → Prop} (_ : Box K) : Prop :=
  match (T t).desc, ix with
  | .map kt et, .one (.d k) => (okD (T kt).desc = true ∧ okKey (T kt).desc k = true) ∧
    match isAggD (T et).desc with
    | false => zeroD (T et) (bx fun z =>
      match x with
      | .one (.mp id g kd) => s.gen id = g ∧ keyDesc kd = (T kt).desc ∧ onSome (s.obj id) (bx fun cells => K (lkRes ok z (mget cells k)))
      | .one (.d .nilm) => K (lkRes ok z none)
      | _ => False)
    | true => zeroG (T et) (bx fun z =>
      match x with
      | .one (.mp id g kd) => s.gen id = g ∧ (200 ≤ kd ∧ keyDesc (kd - 200) = (T kt).desc) ∧ onSome (s.obj id) (bx fun cells => K (lkResG ok z (mget cells k)))
      | .one (.d .nilm) => K (lkResG ok z none)
      | _ => False)
  | _, _ => False

/-- Cells that are data. -/
def datas : List C → Option (List D)
  | [] => some []
  | .d x :: r => (datas r).map (x :: ·)
  | _ => none

def mapUpdateA (T : Nat → TI) (t : Nat) (s : St) (m ix x : AV) {K : St → Prop} (_ : Box K) : Prop :=
  match (T t).desc, ix, m, x with
  | .map kt _, .one (.d k), .one (.mp id g kd), .one c => (okD (T kt).desc = true ∧ okKey (T kt).desc k = true) ∧ s.gen id = g ∧ keyDesc kd = (T kt).desc ∧ onSome (s.obj id) (bx fun cells => K { s with obj := upd s.obj id (some (mset cells k c)) })
  | .map kt _, .one (.d k), .one (.mp id g kd), .agg cs => (okD (T kt).desc = true ∧ okKey (T kt).desc k = true) ∧ s.gen id = g ∧ (200 ≤ kd ∧ keyDesc (kd - 200) = (T kt).desc) ∧ onSome (datas cs) (bx fun ds => onSome (s.obj id) (bx fun cells => K { s with obj := upd s.obj id (some (mset cells k (.d (.iptr ds)))) }))
  | _, _, _, _ => False

/-- What a closure holds. -/
def pcOf : AV → Option PC
  | .one (.d x) => some (.d x)
  | .one (.ptr id g off) => some (.ptr id g off)
  | _ => none

def pcsOf : List AV → Option (List PC)
  | [] => some []
  | x :: xs => (pcOf x).bind fun p => (pcsOf xs).bind fun ps => some (p :: ps)

def makeFuncA (f : FuncId) (first caps : List AV) {K : AV → Prop} (_ : Box K) : Prop :=
  match first with
  | [] => f < 1000000 ∧ onSome (pcsOf caps) (bx fun l => K (.one (.clo f l)))
  | x :: r => caps = [] ∧ onSome (pcsOf (x :: r)) (bx fun l => K (.one (.clo (f + 1000000) l)))

def elemTy (T : Nat → TI) (t : Nat) : Nat :=
  match (T t).desc with
  | .slice e => e
  | _ => 0

def elemTI (T : Nat → TI) (t : Nat) : TI :=
  match (T t).desc with
  | .slice e => T e
  | _ => default

def argAt (s : St) (c : Call) (i : Nat) : AV := s.ev (c.args.getD i (.const .nilFunc))

/-- What abstract triples of an operation and of a piece of code say, and when one state may be told as another one; the meaning of all three is laid down where the concrete machine is. -/
structure Sp where
  op : Oper → St → (St → Prop) → Prop
  code : Code → St → (Exit → St → Prop) → Prop
  vs : St → St → Prop
  base : Nat

def hookA (S : Sp) (o : Oper) (s : St) {K : St → Prop} (_ : Box K) : Prop := ∃ R, S.op o s R ∧ ∀ s', R s' → K s'

def hookC (S : Sp) (c : Code) (s : St) {Q : Exit → St → Prop} (_ : Box Q) : Prop := ∃ R, S.code c s R ∧ ∀ e s', R e s' → Q e s'

def isSlice (d : TypeDesc) : Bool := match d with | .slice _ => true | _ => false

/-- Operations that leave the world alone, by the rules below. -/
def pureOp (T : Nat → TI) : Op → Bool
  | .indexAddr _ x _ => match x with | .global _ => false | _ => true
  | .move _ | .assign _ | .pick .. | .load .. | .index .. | .binOp .. | .unOp .. | .slice _ _ _ _ none | .fieldAddr .. | .field .. | .build .. | .nilCheck _ | .extract .. | .lookup .. | .makeFunc (.func _) _ _ => true
  | .convert _ d _ => !isSlice (T d).desc
  | .call c => match c.callee with | .builtin .len | .builtin .max | .builtin .min => true | _ => false
  | _ => false

/-- A region that draws its order, in which nothing is written but at its end: its text's order serves. -/
def drawOk (T : Nat → TI) (ops : Array Oper) : Bool :=
  (ops.toList.all (pureOp T ·.op) && Region.lexB .any ops) ||
  [1, 2, 3, 4].any fun k => (ops.toList.take (ops.size - k)).all (pureOp T ·.op) && Region.lexTailB .any ops (ops.size - k)

def isStr (d : TypeDesc) : Bool := match d with | .string => true | _ => false

/-- A slice's type, whose element's type is known. -/
def okSl (T : Nat → TI) (t : Nat) : Bool := isSlice (T t).desc && okD (elemTI T t).desc

/-- The bytes of a text: an object of its own. -/
def convSlA (T : Nat → TI) (src d base : Nat) (dst : Option Nat) (s : St) (x : AV) {K : St → Prop} (_ : Box K) : Prop :=
  match dst, x with
  | some dd, .one (.d (.str bs)) => isStr (T src).desc = true ∧ isU8 (elemTI T d).desc = true ∧ K ((s.newC (elemTy T d + 1) (base + dd) (bs.map fun b => .d (byteD b))).put (some dd) (.one (.osl (base + dd) (nxC (elemTy T d + 1) (s.gen (base + dd))) 1 0 bs.length)))
  | _, _ => False

def callA (S : Sp) (T : Nat → TI) (o : Oper) (c : Call) (s : St) {K : St → Prop} (k : Box K) : Prop :=
  match c.callee, o.dst with
  | .builtin .len, dst => (c.args.size = 1 ∧ c.argTypes.size = 1) ∧ lenA s (isStr (T (c.argTypes.getD 0 0)).desc) (okSl T (c.argTypes.getD 0 0)) (argAt s c 0) (bx fun v => K (s.put dst v))
  | .builtin .max, dst => c.args.size = 2 ∧ mxA true (argAt s c 0) (argAt s c 1) (bx fun v => K (s.put dst v))
  | .builtin .min, dst => c.args.size = 2 ∧ mxA false (argAt s c 0) (argAt s c 1) (bx fun v => K (s.put dst v))
  | .builtin .append, some d => (c.args.size = 2 ∧ c.argTypes.size = 2) ∧ okSl T (c.argTypes.getD 0 0) = true ∧ appendA (elemTy T (c.argTypes.getD 0 0)) (elemTI T (c.argTypes.getD 0 0)) (isStr (T (c.argTypes.getD 1 0)).desc) (okSl T (c.argTypes.getD 1 0)) (S.base + d) d s (argAt s c 0) (argAt s c 1) k
  | _, _ => hookA S o s k

def opA (S : Sp) (T : Nat → TI) (o : Oper) (s : St) {K : St → Prop} (k : Box K) : Prop :=
  match o.op, o.dst with
  | .move x, dst => K (s.put dst (s.ev x))
  | .assign x, dst => K (s.put dst (s.ev x))
  | .pick c a b, dst => onBool (s.ev c) (bx fun t => K (s.put dst (if t then s.ev a else s.ev b)))
  | .load t a, dst => loadA (T t) s (s.ev a) (bx fun v => K (s.put dst v))
  | .store t a x, dst => storeA (T t) s (s.ev a) (s.ev x) (bx fun s' => K (s'.put dst uv))
  | .indexAddr t x ix, dst => match x with
    | .global _ => hookA S o s k
    | x => bif isArr (T t).desc then arrAddrA T (T t).desc s (s.ev x) (s.ev ix) (bx fun v => K (s.put dst v)) else okSl T t = true ∧ indexAddrA s (elemTI T t).size (s.ev x) (s.ev ix) (bx fun v => K (s.put dst v))
  | .index t x ix, dst => isStr (T t).desc = true ∧ indexA (s.ev x) (s.ev ix) (bx fun v => K (s.put dst v))
  | .binOp op t x y _, dst => binA T (T t).desc op (s.ev x) (s.ev y) (bx fun v => K (s.put dst v))
  | .unOp op _ x, dst => unA op (s.ev x) (bx fun v => K (s.put dst v))
  | .convert src d x, dst => bif isSlice (T d).desc then convSlA T src d S.base dst s (s.ev x) k else convA s (elemTI T src).desc (T src).desc (T d).desc (s.ev x) (bx fun v => K (s.put dst v))
  | .slice t x lo hi none, dst => sliceA s (isStr (T t).desc) (okSl T t) (elemTI T t).size (s.ev x) (lo.map s.ev) (hi.map s.ev) (bx fun v => K (s.put dst v))
  | .buildSlice t n ps, some d => okSl T t = true ∧ buildSliceA (elemTy T t) (elemTI T t).size (S.base + d) d n s (ps.toList.map fun p => (p.1, s.ev p.2)) k
  | .makeSlice t l c, some d => okSl T t = true ∧ makeSliceA (elemTy T t) (elemTI T t) (S.base + d) d s (s.ev l) (s.ev c) k
  | .fieldAddr t x f, dst => fieldAddrA T t f s (s.ev x) (bx fun v => K (s.put dst v))
  | .field t x f, dst => fieldA T t f (s.ev x) (bx fun v => K (s.put dst v))
  | .build t ps, dst => buildA T t (ps.toList.map fun p => (p.1, s.ev p.2)) (bx fun v => K (s.put dst v))
  | .nilCheck x, dst => nilCheckA s (s.ev x) (bx fun v => K (s.put dst v))
  | .extract x i, dst => extractA (s.ev x) i (bx fun v => K (s.put dst v))
  | .box t x, some d => boxA t (S.base + d) d s (s.ev x) k
  | .alloc t, some d => allocA t (T t) (S.base + d) d s k
  | .makeMap t none, some d => makeMapA T t (S.base + d) d s k
  | .lookup t x ix ok, dst => lookupA T t s (s.ev x) (s.ev ix) ok (bx fun v => K (s.put dst v))
  | .mapUpdate t m ix x, dst => mapUpdateA T t s (s.ev m) (s.ev ix) (s.ev x) (bx fun s' => K (s'.put dst uv))
  | .makeFunc (.func f) first caps, dst => makeFuncA f (first.toList.map s.ev) (caps.toList.map s.ev) (bx fun v => K (s.put dst v))
  | .call c, _ => callA S T o c s k
  | _, _ => hookA S o s k

def wpO (S : Sp) (T : Nat → TI) (ops : Array Oper) : List Oper → (s : St) → {K : St → Prop} → (k : Box K) → Prop
  | [], s, K, _ => K s
  | o :: rest, s, K, k =>
    match o.guard with
    | none => opA S T o s (bx fun s' => wpO S T ops rest s' k)
    | some (j, want) =>
      onSome ((ops[j]?).bind (·.dst)) (bx fun d =>
        guardA (s.f d) (bx fun b => if b = want then opA S T o { s with f := upd s.f d (bv b) } (bx fun s' => wpO S T ops rest s' k)
          else wpO S T ops rest ({ s with f := upd s.f d (bv b) }.put o.dst uv) k) (bx (wpO S T ops rest (s.put o.dst uv) k)))

def thenA {next : St → Prop} (_ : Box next) {Q : Exit → St → Prop} (_ : Box Q) : Exit → St → Prop
  | .normal, s => next s
  | e, s => Q e s

def inBlockA (id : Nat) {Q : Exit → St → Prop} (_ : Box Q) : Exit → St → Prop
  | .exit id', s => if id' = id then Q .normal s else Q (.exit id') s
  | e, s => Q e s

/-- A loop: something that holds at every round's head, and a number that falls. -/
def LoopA (S : Sp) {B : (Exit → St → Prop) → St → Prop} (_ : Box B) {Q : Exit → St → Prop} (q : Box Q) (s : St) : Prop :=
  ∃ I : Nat → St → Prop, (∃ n s₁, S.vs s s₁ ∧ I n s₁) ∧ ∀ n s, I n s → B (thenA (bx fun s' => ∃ n' s₁, n' < n ∧ S.vs s' s₁ ∧ I n' s₁) q) s

/-- No way leads out by a goto. -/
def noGotoA {Q : Exit → St → Prop} (_ : Box Q) : Exit → St → Prop
  | .goto _, _ => False
  | e, s => Q e s

def DrawA (S : Sp) (T : Nat → TI) (id : Nat) (ops : Array Oper) (s : St) {Q : Exit → St → Prop} (q : Box Q) : Prop :=
  (drawOk T ops = true ∧ wpO S T ops ops.toList s (bx fun s' => Q .normal s')) ∨ hookC S (.region id ops true) s q

def wpC (S : Sp) (T : Nat → TI) : Code → {Q : Exit → St → Prop} → (q : Box Q) → St → Prop
  | .skip, Q, _, s => Q .normal s
  | .label _, Q, _, s => Q .normal s
  | .region id ops b, Q, q, s => match b with | true => DrawA S T id ops s q | false => wpO S T ops ops.toList s (bx fun s' => Q .normal s')
  | .seq x y, Q, q, s => wpC S T x (bx (thenA (bx fun s' => wpC S T y q s') q)) s
  | .cond c x y, Q, q, s => onBool (s.ev c) (bx fun b => if b then wpC S T x q s else wpC S T y q s)
  | .block id c, Q, q, s => wpC S T c (bx (inBlockA id q)) s
  | .loop c, Q, q, s => LoopA S (bx fun Q s => wpC S T c (bx Q) s) q s
  | .exit id, Q, _, s => Q (.exit id) s
  | .ret, Q, _, s => Q .ret s
  | .scope c, _, q, s => wpC S T c (bx (noGotoA q)) s
  | .goto l, Q, _, s => Q (.goto l) s
  | c, _, q, s => hookC S c s q

section equations
variable {S : Sp} {T : Nat → TI}
@[go_sem] theorem BSplit_true {K : Bool → Prop} (k : Box K) : BSplit true k = K true := by simp [BSplit]
@[go_sem] theorem BSplit_false {K : Bool → Prop} (k : Box K) : BSplit false k = K false := by simp [BSplit]
@[go_sem] theorem BSplit_decide (p : Prop) [Decidable p] {K : Bool → Prop} (k : Box K) : BSplit (decide p) k = ((p → K true) ∧ (¬ p → K false)) := by simp [BSplit]
@[go_sem] theorem BSplit_not (b : Bool) {K : Bool → Prop} (k : Box K) : BSplit (!b) k = BSplit b (bx fun t => K (!t)) := by cases b <;> simp [BSplit]
@[go_sem] theorem onSome_some {α : Type} (a : α) {K : α → Prop} (k : Box K) : onSome (some a) k = K a := Eq.trans rfl rfl
@[go_sem] theorem onSome_none {α : Type} {K : α → Prop} (k : Box K) : onSome (none : Option α) k = False := Eq.trans rfl rfl
@[go_sem] theorem onBool_eq (b : Bool) {K : Bool → Prop} (k : Box K) : onBool (.one (.d (.bool b))) k = BSplit b k := Eq.trans rfl rfl
@[go_sem] theorem guardA_eq (b : Bool) {K : Bool → Prop} (k : Box K) {U : Prop} (u : Box U) : guardA (.one (.d (.bool b))) k u = BSplit b k := Eq.trans rfl rfl
@[go_sem] theorem guardA_u {K : Bool → Prop} (k : Box K) {U : Prop} (u : Box U) : guardA (.tup []) k u = U := Eq.trans rfl rfl
@[go_sem] theorem isAggD_bool  : isAggD .bool = false := Eq.trans rfl rfl
@[go_sem] theorem isSlice_bool  : isSlice .bool = false := Eq.trans rfl rfl
@[go_sem] theorem isArr_bool  : isArr .bool = false := Eq.trans rfl rfl
@[go_sem] theorem okD_bool  : okD .bool = true := Eq.trans rfl rfl
@[go_sem] theorem isStr_bool  : isStr .bool = false := Eq.trans rfl rfl
@[go_sem] theorem isAggD_int (kd : IntKind) : isAggD (.int kd) = false := Eq.trans rfl rfl
@[go_sem] theorem isSlice_int (kd : IntKind) : isSlice (.int kd) = false := Eq.trans rfl rfl
@[go_sem] theorem isArr_int (kd : IntKind) : isArr (.int kd) = false := Eq.trans rfl rfl
@[go_sem] theorem okD_int (kd : IntKind) : okD (.int kd) = true := Eq.trans rfl rfl
@[go_sem] theorem isStr_int (kd : IntKind) : isStr (.int kd) = false := Eq.trans rfl rfl
@[go_sem] theorem isAggD_string  : isAggD .string = false := Eq.trans rfl rfl
@[go_sem] theorem isSlice_string  : isSlice .string = false := Eq.trans rfl rfl
@[go_sem] theorem isArr_string  : isArr .string = false := Eq.trans rfl rfl
@[go_sem] theorem okD_string  : okD .string = true := Eq.trans rfl rfl
@[go_sem] theorem isStr_string  : isStr .string = true := Eq.trans rfl rfl
@[go_sem] theorem isAggD_pointer (e : TypeId) : isAggD (.pointer e) = false := Eq.trans rfl rfl
@[go_sem] theorem isSlice_pointer (e : TypeId) : isSlice (.pointer e) = false := Eq.trans rfl rfl
@[go_sem] theorem isArr_pointer (e : TypeId) : isArr (.pointer e) = false := Eq.trans rfl rfl
@[go_sem] theorem okD_pointer (e : TypeId) : okD (.pointer e) = true := Eq.trans rfl rfl
@[go_sem] theorem isStr_pointer (e : TypeId) : isStr (.pointer e) = false := Eq.trans rfl rfl
@[go_sem] theorem isAggD_slice (e : TypeId) : isAggD (.slice e) = false := Eq.trans rfl rfl
@[go_sem] theorem isSlice_slice (e : TypeId) : isSlice (.slice e) = true := Eq.trans rfl rfl
@[go_sem] theorem isArr_slice (e : TypeId) : isArr (.slice e) = false := Eq.trans rfl rfl
@[go_sem] theorem okD_slice (e : TypeId) : okD (.slice e) = true := Eq.trans rfl rfl
@[go_sem] theorem isStr_slice (e : TypeId) : isStr (.slice e) = false := Eq.trans rfl rfl
@[go_sem] theorem isAggD_array (n : Nat) (e : TypeId) : isAggD (.array n e) = true := Eq.trans rfl rfl
@[go_sem] theorem isSlice_array (n : Nat) (e : TypeId) : isSlice (.array n e) = false := Eq.trans rfl rfl
@[go_sem] theorem isArr_array (n : Nat) (e : TypeId) : isArr (.array n e) = true := Eq.trans rfl rfl
@[go_sem] theorem okD_array (n : Nat) (e : TypeId) : okD (.array n e) = true := Eq.trans rfl rfl
@[go_sem] theorem isStr_array (n : Nat) (e : TypeId) : isStr (.array n e) = false := Eq.trans rfl rfl
@[go_sem] theorem isAggD_map (a b : TypeId) : isAggD (.map a b) = false := Eq.trans rfl rfl
@[go_sem] theorem isSlice_map (a b : TypeId) : isSlice (.map a b) = false := Eq.trans rfl rfl
@[go_sem] theorem isArr_map (a b : TypeId) : isArr (.map a b) = false := Eq.trans rfl rfl
@[go_sem] theorem okD_map (a b : TypeId) : okD (.map a b) = true := Eq.trans rfl rfl
@[go_sem] theorem isStr_map (a b : TypeId) : isStr (.map a b) = false := Eq.trans rfl rfl
@[go_sem] theorem isAggD_struct (fs : Array Field) : isAggD (.struct fs) = true := Eq.trans rfl rfl
@[go_sem] theorem isSlice_struct (fs : Array Field) : isSlice (.struct fs) = false := Eq.trans rfl rfl
@[go_sem] theorem isArr_struct (fs : Array Field) : isArr (.struct fs) = false := Eq.trans rfl rfl
@[go_sem] theorem okD_struct (fs : Array Field) : okD (.struct fs) = true := Eq.trans rfl rfl
@[go_sem] theorem isStr_struct (fs : Array Field) : isStr (.struct fs) = false := Eq.trans rfl rfl
@[go_sem] theorem isAggD_func (ps rs : Array TypeId) (v : Bool) : isAggD (.func ps rs v) = false := Eq.trans rfl rfl
@[go_sem] theorem isSlice_func (ps rs : Array TypeId) (v : Bool) : isSlice (.func ps rs v) = false := Eq.trans rfl rfl
@[go_sem] theorem isArr_func (ps rs : Array TypeId) (v : Bool) : isArr (.func ps rs v) = false := Eq.trans rfl rfl
@[go_sem] theorem okD_func (ps rs : Array TypeId) (v : Bool) : okD (.func ps rs v) = true := Eq.trans rfl rfl
@[go_sem] theorem isStr_func (ps rs : Array TypeId) (v : Bool) : isStr (.func ps rs v) = false := Eq.trans rfl rfl
@[go_sem] theorem isAggD_interface (ms : Array (String × TypeId)) : isAggD (.interface ms) = false := Eq.trans rfl rfl
@[go_sem] theorem isSlice_interface (ms : Array (String × TypeId)) : isSlice (.interface ms) = false := Eq.trans rfl rfl
@[go_sem] theorem isArr_interface (ms : Array (String × TypeId)) : isArr (.interface ms) = false := Eq.trans rfl rfl
@[go_sem] theorem okD_interface (ms : Array (String × TypeId)) : okD (.interface ms) = true := Eq.trans rfl rfl
@[go_sem] theorem isStr_interface (ms : Array (String × TypeId)) : isStr (.interface ms) = false := Eq.trans rfl rfl
theorem elemTI_slice {t e : Nat} (h : (T t).desc = .slice e) : elemTI T t = T e := by simp [elemTI, h]
@[go_sem] theorem readC_agg (d : TypeDesc) (n b : Nat) (z : List D) (cells : List C) (off : Nat) {K : AV → Prop} (k : Box K) : readC ⟨d, n, b, z⟩ cells off k = (match isAggD d with | true => off + n ≤ cells.length ∧ K (.agg ((cells.drop off).take n)) | false => onSome (cells[off]?) (bx fun c => K (.one c))) := Eq.trans rfl rfl
@[go_sem] theorem readD_agg (d : TypeDesc) (n b : Nat) (z : List D) (cs : List D) {K : AV → Prop} (k : Box K) : readD ⟨d, n, b, z⟩ cs k = (match isAggD d with | true => n ≤ cs.length ∧ K (.agg ((cs.take n).map .d)) | false => onSome (cs[0]?) (bx fun c => K (.one (.d c)))) := Eq.trans rfl rfl
@[go_sem] theorem loadA_ptr (ti : TI) (s : St) (id g off : Nat) {K : AV → Prop} (k : Box K) : loadA ti s (.one (.ptr id g off)) k = (okD ti.desc = true ∧ s.gen id = g ∧ onSome (s.obj id) (bx fun cells => readC ti cells off k)) := Eq.trans rfl rfl
@[go_sem] theorem loadA_iptr (ti : TI) (s : St) (cs : List D) {K : AV → Prop} (k : Box K) : loadA ti s (.one (.d (.iptr cs))) k = (okD ti.desc = true ∧ readD ti cs k) := Eq.trans rfl rfl
@[go_sem] theorem storeA_ptr (ti : TI) (s : St) (id g off : Nat) (x : AV) {K : St → Prop} (k : Box K) : storeA ti s (.one (.ptr id g off)) x k = (okD ti.desc = true ∧ s.gen id = g ∧ onSome (cellsOf x) (bx fun cs => cs.length = ti.size ∧ onSome (s.obj id) (bx fun cells => off + cs.length ≤ cells.length ∧ K { s with obj := upd s.obj id (some (setAt cells off cs)) }))) := Eq.trans rfl rfl
@[go_sem] theorem cellsOf_one (c : C) : cellsOf (.one c) = some [c] := Eq.trans rfl rfl
@[go_sem] theorem cellsOf_agg (cs : List C) : cellsOf (.agg cs) = some cs := Eq.trans rfl rfl
@[go_sem] theorem setAt_nil (cells : List C) (off : Nat) : setAt cells off [] = cells := Eq.trans rfl rfl
@[go_sem] theorem setAt_cons (cells : List C) (off : Nat) (c : C) (cs : List C) : setAt cells off (c :: cs) = setAt (cells.set off c) (off + 1) cs := Eq.trans rfl rfl
@[go_sem] theorem arrAddrA_ptr (T : Nat → TI) (n : Nat) (e : TypeId) (s : St) (id g off : Nat) (kd : IntKind) (i : Int) {K : AV → Prop} (k : Box K) : arrAddrA T (.array n e) s (.one (.ptr id g off)) (.one (.d (.int kd i))) k = (s.gen id = g ∧ (s.obj id).isSome = true ∧ okD (T e).desc = true ∧ 0 ≤ i ∧ i < n ∧ K (.one (.ptr id g (off + i.toNat * (T e).size)))) := Eq.trans rfl rfl
@[go_sem] theorem indexAddrA_sl (s : St) (sz : Nat) (es : List (List D)) (kd : IntKind) (i : Int) {K : AV → Prop} (k : Box K) : indexAddrA s sz (.one (.d (.sl es))) (.one (.d (.int kd i))) k = (0 ≤ i ∧ onSome (es[i.toNat]?) (bx fun c => c.length = sz ∧ K (.one (.d (.iptr c))))) := Eq.trans rfl rfl
@[go_sem] theorem indexAddrA_osl (s : St) (sz id g sz' off len : Nat) (kd : IntKind) (i : Int) {K : AV → Prop} (k : Box K) : indexAddrA s sz (.one (.osl id g sz' off len)) (.one (.d (.int kd i))) k = (s.gen id = g ∧ (s.obj id).isSome = true ∧ 0 ≤ i ∧ i < len ∧ sz' = sz ∧ K (.one (.ptr id g (off + i.toNat * sz)))) := Eq.trans rfl rfl
@[go_sem] theorem indexA_str (s : List UInt8) (kd : IntKind) (i : Int) {K : AV → Prop} (k : Box K) : indexA (.one (.d (.str s))) (.one (.d (.int kd i))) k = (0 ≤ i ∧ onSome (s[i.toNat]?) (bx fun c => K (iv .u8 c.toNat))) := Eq.trans rfl rfl
@[go_sem] theorem binI_add (kd : IntKind) (x y : Int) {K : AV → Prop} (k : Box K) : binI .add kd x y k = K (iv kd (kd.wrap (x + y))) := Eq.trans rfl rfl
@[go_sem] theorem sameKind_add (a b : IntKind) : sameKind .add a b = (a = b) := Eq.trans rfl rfl
@[go_sem] theorem binI_sub (kd : IntKind) (x y : Int) {K : AV → Prop} (k : Box K) : binI .sub kd x y k = K (iv kd (kd.wrap (x - y))) := Eq.trans rfl rfl
@[go_sem] theorem sameKind_sub (a b : IntKind) : sameKind .sub a b = (a = b) := Eq.trans rfl rfl
@[go_sem] theorem binI_mul (kd : IntKind) (x y : Int) {K : AV → Prop} (k : Box K) : binI .mul kd x y k = K (iv kd (kd.wrap (x * y))) := Eq.trans rfl rfl
@[go_sem] theorem sameKind_mul (a b : IntKind) : sameKind .mul a b = (a = b) := Eq.trans rfl rfl
@[go_sem] theorem binI_quo (kd : IntKind) (x y : Int) {K : AV → Prop} (k : Box K) : binI .quo kd x y k = (y ≠ 0 ∧ K (iv kd (kd.wrap (x.tdiv y)))) := Eq.trans rfl rfl
@[go_sem] theorem sameKind_quo (a b : IntKind) : sameKind .quo a b = (a = b) := Eq.trans rfl rfl
@[go_sem] theorem binI_rem (kd : IntKind) (x y : Int) {K : AV → Prop} (k : Box K) : binI .rem kd x y k = (y ≠ 0 ∧ K (iv kd (x.tmod y))) := Eq.trans rfl rfl
@[go_sem] theorem sameKind_rem (a b : IntKind) : sameKind .rem a b = (a = b) := Eq.trans rfl rfl
@[go_sem] theorem binI_eql (kd : IntKind) (x y : Int) {K : AV → Prop} (k : Box K) : binI .eql kd x y k = K (bv (decide (x = y))) := Eq.trans rfl rfl
@[go_sem] theorem sameKind_eql (a b : IntKind) : sameKind .eql a b = (a = b) := Eq.trans rfl rfl
@[go_sem] theorem binI_neq (kd : IntKind) (x y : Int) {K : AV → Prop} (k : Box K) : binI .neq kd x y k = K (bv (decide (x ≠ y))) := Eq.trans rfl rfl
@[go_sem] theorem sameKind_neq (a b : IntKind) : sameKind .neq a b = (a = b) := Eq.trans rfl rfl
@[go_sem] theorem binI_lss (kd : IntKind) (x y : Int) {K : AV → Prop} (k : Box K) : binI .lss kd x y k = K (bv (decide (x < y))) := Eq.trans rfl rfl
@[go_sem] theorem sameKind_lss (a b : IntKind) : sameKind .lss a b = (a = b) := Eq.trans rfl rfl
@[go_sem] theorem binI_leq (kd : IntKind) (x y : Int) {K : AV → Prop} (k : Box K) : binI .leq kd x y k = K (bv (decide (x ≤ y))) := Eq.trans rfl rfl
@[go_sem] theorem sameKind_leq (a b : IntKind) : sameKind .leq a b = (a = b) := Eq.trans rfl rfl
@[go_sem] theorem binI_gtr (kd : IntKind) (x y : Int) {K : AV → Prop} (k : Box K) : binI .gtr kd x y k = K (bv (decide (y < x))) := Eq.trans rfl rfl
@[go_sem] theorem sameKind_gtr (a b : IntKind) : sameKind .gtr a b = (a = b) := Eq.trans rfl rfl
@[go_sem] theorem binI_geq (kd : IntKind) (x y : Int) {K : AV → Prop} (k : Box K) : binI .geq kd x y k = K (bv (decide (y ≤ x))) := Eq.trans rfl rfl
@[go_sem] theorem sameKind_geq (a b : IntKind) : sameKind .geq a b = (a = b) := Eq.trans rfl rfl
@[go_sem] theorem binI_and (kd : IntKind) (x y : Int) {K : AV → Prop} (k : Box K) : binI .and kd x y k = K (iv kd (kd.wrap (BitVec.ofInt kd.bits x &&& BitVec.ofInt kd.bits y).toNat)) := Eq.trans rfl rfl
@[go_sem] theorem sameKind_and (a b : IntKind) : sameKind .and a b = (a = b) := Eq.trans rfl rfl
@[go_sem] theorem binI_or (kd : IntKind) (x y : Int) {K : AV → Prop} (k : Box K) : binI .or kd x y k = K (iv kd (kd.wrap (BitVec.ofInt kd.bits x ||| BitVec.ofInt kd.bits y).toNat)) := Eq.trans rfl rfl
@[go_sem] theorem sameKind_or (a b : IntKind) : sameKind .or a b = (a = b) := Eq.trans rfl rfl
@[go_sem] theorem binI_xor (kd : IntKind) (x y : Int) {K : AV → Prop} (k : Box K) : binI .xor kd x y k = K (iv kd (kd.wrap (BitVec.ofInt kd.bits x ^^^ BitVec.ofInt kd.bits y).toNat)) := Eq.trans rfl rfl
@[go_sem] theorem sameKind_xor (a b : IntKind) : sameKind .xor a b = (a = b) := Eq.trans rfl rfl
@[go_sem] theorem binI_shl (kd : IntKind) (x y : Int) {K : AV → Prop} (k : Box K) : binI .shl kd x y k = (0 ≤ y ∧ K (iv kd (kd.wrap (x * 2 ^ (min y.toNat kd.bits))))) := Eq.trans rfl rfl
@[go_sem] theorem sameKind_shl (a b : IntKind) : sameKind .shl a b = True := Eq.trans rfl rfl
@[go_sem] theorem binI_shr (kd : IntKind) (x y : Int) {K : AV → Prop} (k : Box K) : binI .shr kd x y k = (0 ≤ y ∧ K (iv kd (x.fdiv (2 ^ (min y.toNat kd.bits))))) := Eq.trans rfl rfl
@[go_sem] theorem sameKind_shr (a b : IntKind) : sameKind .shr a b = True := Eq.trans rfl rfl
@[go_sem] theorem binS_add (x y : List UInt8) {K : AV → Prop} (k : Box K) : binS .add x y k = (((x.length + y.length : Nat) : Int) ≤ 9223372036854775807 ∧ K (sv (x ++ y))) := Eq.trans rfl rfl
@[go_sem] theorem binS_eql (x y : List UInt8) {K : AV → Prop} (k : Box K) : binS .eql x y k = K (bv (decide (x = y))) := Eq.trans rfl rfl
@[go_sem] theorem binS_neq (x y : List UInt8) {K : AV → Prop} (k : Box K) : binS .neq x y k = K (bv (decide (x ≠ y))) := Eq.trans rfl rfl
@[go_sem] theorem binS_lss (x y : List UInt8) {K : AV → Prop} (k : Box K) : binS .lss x y k = K (bv (Op.bytesLess x y)) := Eq.trans rfl rfl
@[go_sem] theorem binS_leq (x y : List UInt8) {K : AV → Prop} (k : Box K) : binS .leq x y k = K (bv (Op.bytesLess x y || decide (x = y))) := Eq.trans rfl rfl
@[go_sem] theorem binS_gtr (x y : List UInt8) {K : AV → Prop} (k : Box K) : binS .gtr x y k = K (bv (!(Op.bytesLess x y || decide (x = y)))) := Eq.trans rfl rfl
@[go_sem] theorem binS_geq (x y : List UInt8) {K : AV → Prop} (k : Box K) : binS .geq x y k = K (bv (!Op.bytesLess x y)) := Eq.trans rfl rfl
@[go_sem] theorem binA_int (d : TypeDesc) (op : BinOp) (k1 k2 : IntKind) (a b : Int) {K : AV → Prop} (k : Box K) : binA T d op (.one (.d (.int k1 a))) (.one (.d (.int k2 b))) k = (sameKind op k1 k2 ∧ binI op k1 a b k) := Eq.trans rfl rfl
@[go_sem] theorem binA_str (d : TypeDesc) (op : BinOp) (a b : List UInt8) {K : AV → Prop} (k : Box K) : binA T d op (.one (.d (.str a))) (.one (.d (.str b))) k = binS op a b k := Eq.trans rfl rfl
@[go_sem] theorem binA_bool (d : TypeDesc) (op : BinOp) (a b : Bool) {K : AV → Prop} (k : Box K) : binA T d op (.one (.d (.bool a))) (.one (.d (.bool b))) k = binB d op a b k := Eq.trans rfl rfl
@[go_sem] theorem binA_agg (d : TypeDesc) (op : BinOp) (a b : List C) {K : AV → Prop} (k : Box K) : binA T d op (.agg a) (.agg b) k = binG T d op a b k := Eq.trans rfl rfl
@[go_sem] theorem binG_eql (n e : Nat) (a b : List C) {K : AV → Prop} (k : Box K) : binG T (.array n e) .eql a b k = arrE (T e) n a b (bx fun b => K (bv b)) := Eq.trans rfl rfl
@[go_sem] theorem binG_neq (n e : Nat) (a b : List C) {K : AV → Prop} (k : Box K) : binG T (.array n e) .neq a b k = arrE (T e) n a b (bx fun b => K (bv (!b))) := Eq.trans rfl rfl
@[go_sem] theorem arrE_int (kd : IntKind) (bt : Nat) (z : List D) (n : Nat) (xs ys : List C) {K : Bool → Prop} (k : Box K) : arrE ⟨.int kd, 1, bt, z⟩ n xs ys k = onSome (intsC kd xs) (bx fun a => onSome (intsC kd ys) (bx fun b => (a.length = n ∧ b.length = n) ∧ K (decide (a = b)))) := by simp [arrE]
@[go_sem] theorem intsC_nil (k : IntKind) : intsC k [] = some [] := Eq.trans rfl rfl
@[go_sem] theorem intsC_cons (k : IntKind) (n : Int) (r : List C) : intsC k (.d (.int k n) :: r) = (intsC k r).map (n :: ·) := by simp [intsC]
@[go_sem] theorem binB_eql (a b : Bool) {K : AV → Prop} (k : Box K) : binB .bool .eql a b k = K (bv (decide (a = b))) := Eq.trans rfl rfl
@[go_sem] theorem binB_neq (a b : Bool) {K : AV → Prop} (k : Box K) : binB .bool .neq a b k = K (bv (decide (a ≠ b))) := Eq.trans rfl rfl
@[go_sem] theorem unA_not (b : Bool) {K : AV → Prop} (k : Box K) : unA .not (.one (.d (.bool b))) k = K (bv (!b)) := Eq.trans rfl rfl
@[go_sem] theorem unA_neg (kd : IntKind) (n : Int) {K : AV → Prop} (k : Box K) : unA .neg (.one (.d (.int kd n))) k = K (iv kd (kd.wrap (0 - n))) := Eq.trans rfl rfl
@[go_sem] theorem convA_int (st : St) (el : TypeDesc) (src : TypeDesc) (kd k2 : IntKind) (n : Int) {K : AV → Prop} (k : Box K) : convA st el src (.int kd) (.one (.d (.int k2 n))) k = (okD src = true ∧ K (iv kd (kd.wrap n))) := by cases src <;> rfl
@[go_sem] theorem convA_str (st : St) (el : TypeDesc) (s : List UInt8) {K : AV → Prop} (k : Box K) : convA st el .string .string (.one (.d (.str s))) k = K (sv s) := Eq.trans rfl rfl
@[go_sem] theorem convA_bytes (st : St) (el : TypeDesc) (e : TypeId) (y : AV) {K : AV → Prop} (k : Box K) : convA st el (.slice e) .string y k = (isU8 el = true ∧ contents st false true 1 y (bx fun _ cs => onSome (u8s cs) (bx fun ns => K (sv (ns.map fun n => UInt8.ofNat n.toNat))))) := by cases y <;> rfl
@[go_sem] theorem isU8_u8 : isU8 (.int .u8) = true := Eq.trans rfl rfl
@[go_sem] theorem u8s_nil : u8s [] = some [] := Eq.trans rfl rfl
@[go_sem] theorem u8s_cons (n : Int) (r : List C) : u8s (.d (.int .u8 n) :: r) = (u8s r).map (n :: ·) := Eq.trans rfl rfl
@[go_sem] theorem contents_nsl (s : St) (bs bl : Bool) (sz : Nat) {K : Nat → List C → Prop} (k : Box K) : contents s bs bl sz (.one (.d .nsl)) k = (bl = true ∧ K 0 []) := Eq.trans rfl rfl
@[go_sem] theorem contents_sl (s : St) (bs bl : Bool) (sz : Nat) (es : List (List D)) {K : Nat → List C → Prop} (k : Box K) : contents s bs bl sz (.one (.d (.sl es))) k = (bl = true ∧ (∀ e ∈ es, e.length = sz) ∧ K es.length (es.flatten.map .d)) := Eq.trans rfl rfl
@[go_sem] theorem contents_str (s : St) (b1 b2 : Bool) (sz : Nat) (bs : List UInt8) {K : Nat → List C → Prop} (k : Box K) : contents s b1 b2 sz (.one (.d (.str bs))) k = (b1 = true ∧ sz = 1 ∧ K bs.length (bs.map fun b => .d (byteD b))) := Eq.trans rfl rfl
@[go_sem] theorem contents_osl (s : St) (bs bl : Bool) (sz id g sz' off len : Nat) {K : Nat → List C → Prop} (k : Box K) : contents s bs bl sz (.one (.osl id g sz' off len)) k = (bl = true ∧ s.gen id = g ∧ sz' = sz ∧ onSome (s.obj id) (bx fun cells => off + len * sz ≤ cells.length ∧ K len ((cells.drop off).take (len * sz)))) := Eq.trans rfl rfl
@[go_sem] theorem appendA_nsl (e : Nat) (ti : TI) (bs bl : Bool) (i d : Nat) (s : St) (y : AV) {K : St → Prop} (k : Box K) : appendA e ti bs bl i d s (.one (.d .nsl)) y k = contents s bs bl ti.size y (bx fun n cs => roomOk n ti.bytes ∧ K ((s.newC (e + 1) i cs).put (some d) (.one (.osl i (nxC (e + 1) (s.gen i)) ti.size 0 n)))) := Eq.trans rfl rfl
@[go_sem] theorem appendA_osl (e : Nat) (ti : TI) (bs bl : Bool) (i d : Nat) (s : St) (id g sz off len : Nat) (y : AV) {K : St → Prop} (k : Box K) : appendA e ti bs bl i d s (.one (.osl id g sz off len)) y k = (s.gen id = g ∧ sz = ti.size ∧ onSome (s.obj id) (bx fun cells => off + len * sz ≤ cells.length ∧
      contents s bs bl ti.size y (bx fun n cs => roomOk (len + n) ti.bytes ∧
        K ((s.newC (apC e (s.gen id) off) id ((cells.drop off).take (len * sz) ++ cs)).put (some d) (.one (.osl id (nxC (apC e (s.gen id) off) (s.gen id)) ti.size 0 (len + n))))))) := Eq.trans rfl rfl
@[go_sem] theorem lenA_nsl (s : St) (bs bl : Bool) {K : AV → Prop} (k : Box K) : lenA s bs bl (.one (.d .nsl)) k = (bl = true ∧ K (iv .i64 0)) := Eq.trans rfl rfl
@[go_sem] theorem lenA_sl (s : St) (bs bl : Bool) (es : List (List D)) {K : AV → Prop} (k : Box K) : lenA s bs bl (.one (.d (.sl es))) k = (bl = true ∧ K (iv .i64 es.length)) := Eq.trans rfl rfl
@[go_sem] theorem lenA_str (s : St) (bs bl : Bool) (es : List UInt8) {K : AV → Prop} (k : Box K) : lenA s bs bl (.one (.d (.str es))) k = (bs = true ∧ K (iv .i64 es.length)) := Eq.trans rfl rfl
@[go_sem] theorem lenA_lsl (s : St) (bs bl : Bool) (n : Nat) {K : AV → Prop} (k : Box K) : lenA s bs bl (.one (.lsl n)) k = (bl = true ∧ K (iv .i64 n)) := Eq.trans rfl rfl
@[go_sem] theorem lenA_osl (s : St) (bs bl : Bool) (id g sz off len : Nat) {K : AV → Prop} (k : Box K) : lenA s bs bl (.one (.osl id g sz off len)) k = (bl = true ∧ s.gen id = g ∧ (s.obj id).isSome = true ∧ K (iv .i64 len)) := Eq.trans rfl rfl
@[go_sem] theorem boundA_none (n : Nat) {K : Nat → Prop} (k : Box K) : boundA none n k = K n := Eq.trans rfl rfl
@[go_sem] theorem boundA_some (n : Nat) (kd : IntKind) (i : Int) {K : Nat → Prop} (k : Box K) : boundA (some (.one (.d (.int kd i)))) n k = (0 ≤ i ∧ K i.toNat) := Eq.trans rfl rfl
@[go_sem] theorem sliceA_str (st : St) (bs bl : Bool) (sz : Nat) (s : List UInt8) (lo hi : Option AV) {K : AV → Prop} (k : Box K) : sliceA st bs bl sz (.one (.d (.str s))) lo hi k = (bs = true ∧ boundA hi s.length (bx fun h => boundA lo 0 (bx fun l => l ≤ h ∧ h ≤ s.length ∧ K (sv ((s.take h).drop l))))) := Eq.trans rfl rfl
@[go_sem] theorem sliceA_sl (st : St) (bs bl : Bool) (sz : Nat) (es : List (List D)) (lo hi : Option AV) {K : AV → Prop} (k : Box K) : sliceA st bs bl sz (.one (.d (.sl es))) lo hi k = (bl = true ∧ boundA hi es.length (bx fun h => boundA lo 0 (bx fun l => l ≤ h ∧ h ≤ es.length ∧ (∀ x ∈ es, x.length = sz) ∧ K (.one (.d (.sl ((es.take h).drop l))))))) := Eq.trans rfl rfl
@[go_sem] theorem sliceA_nsl (st : St) (bs bl : Bool) (sz : Nat) (lo hi : Option AV) {K : AV → Prop} (k : Box K) : sliceA st bs bl sz (.one (.d .nsl)) lo hi k = (bl = true ∧ boundA hi 0 (bx fun h => boundA lo 0 (bx fun l => l = 0 ∧ h = 0 ∧ K (.one (.d .nsl))))) := Eq.trans rfl rfl
@[go_sem] theorem sliceA_osl (s : St) (bs bl : Bool) (sz id g sz' off len : Nat) (lo hi : Option AV) {K : AV → Prop} (k : Box K) : sliceA s bs bl sz (.one (.osl id g sz' off len)) lo hi k = (bl = true ∧ s.gen id = g ∧ (s.obj id).isSome = true ∧ boundA hi len (bx fun h => boundA lo 0 (bx fun l => l ≤ h ∧ h ≤ len ∧ sz' = sz ∧ K (.one (.osl id g sz (off + l * sz) (h - l)))))) := Eq.trans rfl rfl
@[go_sem] theorem catA_nil (sz n : Nat) {K : List C → Prop} (k : Box K) : catA sz n [] k = K [] := Eq.trans rfl rfl
@[go_sem] theorem catA_cons (sz n i : Nat) (x : AV) (r : List (Nat × AV)) {K : List C → Prop} (k : Box K) : catA sz n ((i, x) :: r) k = (i = n ∧ onSome (cellsOf x) (bx fun cs => cs.length = sz ∧ catA sz (n + 1) r (bx fun rest => K (cs ++ rest)))) := Eq.trans rfl rfl
@[go_sem] theorem buildSliceA_eq (e sz i d n : Nat) (s : St) (ps : List (Nat × AV)) {K : St → Prop} (k : Box K) : buildSliceA e sz i d n s ps k = (ps.length = n ∧ n * sz ≤ 16777216 ∧ catA sz 0 ps (bx fun cs => K ((s.newC (e + 1) i cs).put (some d) (.one (.osl i (nxC (e + 1) (s.gen i)) sz 0 n))))) := Eq.trans rfl rfl
@[go_sem] theorem fieldOf_struct (fs : Array Field) (f : Nat) : fieldOf (.struct fs) f = fs[f]? := Eq.trans rfl rfl
@[go_sem] theorem fieldAddrA_ptr (t f : Nat) (s : St) (id g off : Nat) {K : AV → Prop} (k : Box K) : fieldAddrA T t f s (.one (.ptr id g off)) k = (s.gen id = g ∧ (s.obj id).isSome = true ∧ onSome (fieldOf (T t).desc f) (bx fun fl => (okD (T fl.type).desc = true ∧ (T fl.type).size ≠ 0) ∧ K (.one (.ptr id g (off + fl.offset))))) := Eq.trans rfl rfl
@[go_sem] theorem fieldAddrA_iptr (t f : Nat) (s : St) (cs : List D) {K : AV → Prop} (k : Box K) : fieldAddrA T t f s (.one (.d (.iptr cs))) k = onSome (fieldOf (T t).desc f) (bx fun fl => (okD (T fl.type).desc = true ∧ (T fl.type).size ≠ 0) ∧ K (.one (.d (.iptr (cs.drop fl.offset))))) := Eq.trans rfl rfl
@[go_sem] theorem fieldA_agg (t f : Nat) (cs : List C) {K : AV → Prop} (k : Box K) : fieldA T t f (.agg cs) k = onSome (fieldOf (T t).desc f) (bx fun fl => okD (T fl.type).desc = true ∧ readC (T fl.type) cs fl.offset k) := Eq.trans rfl rfl
@[go_sem] theorem fillA_nil (pl : Nat → Option (Nat × Nat)) (cells : List C) {K : List C → Prop} (k : Box K) : fillA pl cells [] k = K cells := Eq.trans rfl rfl
@[go_sem] theorem fillA_cons (pl : Nat → Option (Nat × Nat)) (cells : List C) (i : Nat) (x : AV) (r : List (Nat × AV)) {K : List C → Prop} (k : Box K) : fillA pl cells ((i, x) :: r) k = onSome (pl i) (bx fun q => onSome (cellsOf x) (bx fun cs => cs.length = q.2 ∧ q.1 + q.2 ≤ cells.length ∧ fillA pl (setAt cells q.1 cs) r k)) := Eq.trans rfl rfl
@[go_sem] theorem placeOf_eq (fs : Array Field) (i : Nat) : placeOf T (.struct fs) i = (fieldOf (.struct fs) i).bind fun fl => bif okD (T fl.type).desc then some (fl.offset, (T fl.type).size) else none := Eq.trans rfl rfl
@[go_sem] theorem placeOf_arr (n e i : Nat) : placeOf T (.array n e) i = some (i * (T e).size, (T e).size) := Eq.trans rfl rfl
@[go_sem] theorem buildA_eq (t : Nat) (ps : List (Nat × AV)) {K : AV → Prop} (k : Box K) : buildA T t ps k = (okSt T t = true ∧ fillA (placeOf T (T t).desc) ((T t).zero.map .d) ps (bx fun cs => K (.agg cs))) := Eq.trans rfl rfl
@[go_sem] theorem boxA_eq (t i d : Nat) (s : St) (x : AV) {K : St → Prop} (k : Box K) : boxA t i d s x k = onSome (cellsOf x) (bx fun cs => K ((s.newC (t + 1) i cs).put (some d) (.one (.ptr i (nxC (t + 1) (s.gen i)) 0)))) := Eq.trans rfl rfl
@[go_sem] theorem allocA_eq (t : Nat) (ti : TI) (i d : Nat) (s : St) {K : St → Prop} (k : Box K) : allocA t ti i d s k = (okD ti.desc = true ∧ K ((s.newC (t + 1) i (ti.zero.map .d)).put (some d) (.one (.ptr i (nxC (t + 1) (s.gen i)) 0)))) := Eq.trans rfl rfl
@[go_sem] theorem nilCheckA_ptr (s : St) (id g off : Nat) {K : AV → Prop} (k : Box K) : nilCheckA s (.one (.ptr id g off)) k = (s.gen id = g ∧ (s.obj id).isSome = true ∧ K (.one (.ptr id g off))) := Eq.trans rfl rfl
@[go_sem] theorem nilCheckA_iptr (s : St) (cs : List D) {K : AV → Prop} (k : Box K) : nilCheckA s (.one (.d (.iptr cs))) k = K (.one (.d (.iptr cs))) := Eq.trans rfl rfl
@[go_sem] theorem extractA_tup (ts : List AV) (i : Nat) {K : AV → Prop} (k : Box K) : extractA (.tup ts) i k = onSome (ts[i]?) k := Eq.trans rfl rfl
@[go_sem] theorem mxA_max (k1 k2 : IntKind) (a b : Int) {K : AV → Prop} (k : Box K) : mxA true (.one (.d (.int k1 a))) (.one (.d (.int k2 b))) k = K (iv k1 (max a b)) := Eq.trans rfl rfl
@[go_sem] theorem mxA_min (k1 k2 : IntKind) (a b : Int) {K : AV → Prop} (k : Box K) : mxA false (.one (.d (.int k1 a))) (.one (.d (.int k2 b))) k = K (iv k1 (min a b)) := Eq.trans rfl rfl
@[go_sem] theorem makeSliceA_eq (e : Nat) (ti : TI) (i d : Nat) (s : St) (k1 k2 : IntKind) (n m : Int) {K : St → Prop} (k : Box K) : makeSliceA e ti i d s (.one (.d (.int k1 n))) (.one (.d (.int k2 m))) k = (0 ≤ n ∧ n ≤ m ∧ m ≤ 4611686018427387904 ∧ m * ti.bytes ≤ 281474976710656 ∧
      K ((s.newC (e + 1) i (List.replicate m.toNat (ti.zero.map C.d)).flatten).put (some d) (.one (.osl i (nxC (e + 1) (s.gen i)) ti.size 0 n.toNat)))) := Eq.trans rfl rfl
@[go_sem] theorem keyEq_int (k k' : IntKind) (n n' : Int) : keyEq (.int k n) (.int k' n') = (decide (k = k') && decide (n = n')) := Eq.trans rfl rfl
@[go_sem] theorem keyEq_str (a b : List UInt8) : keyEq (.str a) (.str b) = decide (a = b) := Eq.trans rfl rfl
@[go_sem] theorem okKey_int (k k' : IntKind) (n : Int) : okKey (.int k) (.int k' n) = decide (k' = k) := Eq.trans rfl rfl
@[go_sem] theorem okKey_str (s : List UInt8) : okKey .string (.str s) = true := Eq.trans rfl rfl
@[go_sem] theorem keyCode_i64 : keyCode (.int .i64) = 3 := Eq.trans rfl rfl
@[go_sem] theorem keyCode_u8 : keyCode (.int .u8) = 4 := Eq.trans rfl rfl
@[go_sem] theorem keyCode_u32 : keyCode (.int .u32) = 6 := Eq.trans rfl rfl
@[go_sem] theorem keyCode_str : keyCode .string = 8 := Eq.trans rfl rfl
@[go_sem] theorem keyDesc_3 : keyDesc 3 = .int .i64 := Eq.trans rfl rfl
@[go_sem] theorem keyDesc_4 : keyDesc 4 = .int .u8 := Eq.trans rfl rfl
@[go_sem] theorem keyDesc_6 : keyDesc 6 = .int .u32 := Eq.trans rfl rfl
@[go_sem] theorem keyDesc_8 : keyDesc 8 = .string := Eq.trans rfl rfl
@[go_sem] theorem mapKd_t (n : Nat) : mapKd true n = 200 + n := Eq.trans rfl rfl
@[go_sem] theorem mapKd_f (n : Nat) : mapKd false n = n := Eq.trans rfl rfl
@[go_sem] theorem zeroG_eq (d : TypeDesc) (a b : Nat) (z : List D) {K : List D → Prop} (k : Box K) : zeroG ⟨d, a, b, z⟩ k = ((okD d = true ∧ 2 ≤ z.length) ∧ K z) := Eq.trans rfl rfl
@[go_sem] theorem lkResG_t (z : List D) (c : Option C) : lkResG true z c = .tup [.agg ((lkDs z c).map .d), bv c.isSome] := Eq.trans rfl rfl
@[go_sem] theorem lkResG_f (z : List D) (c : Option C) : lkResG false z c = .agg ((lkDs z c).map .d) := Eq.trans rfl rfl
@[go_sem] theorem lkDs_none (z : List D) : lkDs z none = z := Eq.trans rfl rfl
@[go_sem] theorem lkDs_some (z ds : List D) : lkDs z (some (.d (.iptr ds))) = ds := Eq.trans rfl rfl
@[go_sem] theorem datas_nil : datas [] = some [] := Eq.trans rfl rfl
@[go_sem] theorem datas_cons (x : D) (r : List C) : datas (.d x :: r) = (datas r).map (x :: ·) := Eq.trans rfl rfl
@[go_sem] theorem makeMapA_eq (t i d : Nat) (s : St) {K : St → Prop} (k : Box K) : makeMapA T t i d s k = (match (T t).desc with
  | .map kt et => keyDesc (keyCode (T kt).desc) = (T kt).desc ∧ K ((s.newC 0 i []).put (some d) (.one (.mp i (nxC 0 (s.gen i)) (mapKd (isAggD (T et).desc) (keyCode (T kt).desc)))))
  | _ => False) := Eq.trans rfl rfl
@[go_sem] theorem lkRes_true (z : D) (c : Option C) : lkRes true z c = .tup [.one (c.getD (.d z)), bv c.isSome] := Eq.trans rfl rfl
@[go_sem] theorem lkRes_false (z : D) (c : Option C) : lkRes false z c = .one (c.getD (.d z)) := Eq.trans rfl rfl
@[go_sem] theorem zeroD_eq (d : TypeDesc) (a b : Nat) (z : D) {K : D → Prop} (k : Box K) : zeroD ⟨d, a, b, [z]⟩ k = ((okD d = true ∧ isAggD d = false) ∧ K z) := Eq.trans rfl rfl
@[go_sem] theorem lookupA_eq (t : Nat) (s : St) (x : AV) (k : D) (ok : Bool) {K : AV → Prop} (b : Box K) : lookupA T t s x (.one (.d k)) ok b = (match (T t).desc with
  | .map kt et => (okD (T kt).desc = true ∧ okKey (T kt).desc k = true) ∧
    match isAggD (T et).desc with
    | false => zeroD (T et) (bx fun z =>
      match x with
      | .one (.mp id g kd) => s.gen id = g ∧ keyDesc kd = (T kt).desc ∧ onSome (s.obj id) (bx fun cells => K (lkRes ok z (mget cells k)))
      | .one (.d .nilm) => K (lkRes ok z none)
      | _ => False)
    | true => zeroG (T et) (bx fun z =>
      match x with
      | .one (.mp id g kd) => s.gen id = g ∧ (200 ≤ kd ∧ keyDesc (kd - 200) = (T kt).desc) ∧ onSome (s.obj id) (bx fun cells => K (lkResG ok z (mget cells k)))
      | .one (.d .nilm) => K (lkResG ok z none)
      | _ => False)
  | _ => False) := by unfold lookupA; cases (T t).desc <;> rfl
@[go_sem] theorem mapUpdateA_agg (t : Nat) (s : St) (id g kd : Nat) (k : D) (cs : List C) {K : St → Prop} (b : Box K) : mapUpdateA T t s (.one (.mp id g kd)) (.one (.d k)) (.agg cs) b = (match (T t).desc with
  | .map kt _ => (okD (T kt).desc = true ∧ okKey (T kt).desc k = true) ∧ s.gen id = g ∧ (200 ≤ kd ∧ keyDesc (kd - 200) = (T kt).desc) ∧ onSome (datas cs) (bx fun ds => onSome (s.obj id) (bx fun cells => K { s with obj := upd s.obj id (some (mset cells k (.d (.iptr ds)))) }))
  | _ => False) := by unfold mapUpdateA; cases (T t).desc <;> rfl
@[go_sem] theorem mapUpdateA_eq (t : Nat) (s : St) (id g kd : Nat) (k : D) (c : C) {K : St → Prop} (b : Box K) : mapUpdateA T t s (.one (.mp id g kd)) (.one (.d k)) (.one c) b = (match (T t).desc with
  | .map kt _ => (okD (T kt).desc = true ∧ okKey (T kt).desc k = true) ∧ s.gen id = g ∧ keyDesc kd = (T kt).desc ∧ onSome (s.obj id) (bx fun cells => K { s with obj := upd s.obj id (some (mset cells k c)) })
  | _ => False) := by unfold mapUpdateA; cases (T t).desc <;> rfl
@[go_sem] theorem pcOf_d (x : D) : pcOf (.one (.d x)) = some (.d x) := Eq.trans rfl rfl
@[go_sem] theorem pcOf_ptr (id g off : Nat) : pcOf (.one (.ptr id g off)) = some (.ptr id g off) := Eq.trans rfl rfl
@[go_sem] theorem pcsOf_nil : pcsOf [] = some [] := Eq.trans rfl rfl
@[go_sem] theorem pcsOf_cons (x : AV) (xs : List AV) : pcsOf (x :: xs) = (pcOf x).bind fun p => (pcsOf xs).bind fun ps => some (p :: ps) := Eq.trans rfl rfl
@[go_sem] theorem makeFuncA_nil (f : FuncId) (caps : List AV) {K : AV → Prop} (k : Box K) : makeFuncA f [] caps k = (f < 1000000 ∧ onSome (pcsOf caps) (bx fun l => K (.one (.clo f l)))) := Eq.trans rfl rfl
@[go_sem] theorem makeFuncA_cons (f : FuncId) (x : AV) (r : List AV) {K : AV → Prop} (k : Box K) : makeFuncA f (x :: r) [] k = onSome (pcsOf (x :: r)) (bx fun l => K (.one (.clo (f + 1000000) l))) := propext ⟨fun h => h.2, fun h => ⟨rfl, h⟩⟩
@[go_sem] theorem opA_move {dst : Option Tmp} {ty : TypeId} {ps : String} {af : Array Edge} {gd : Option (Nat × Bool)} {s : St} {K : St → Prop} {k : Box K} {x : Operand} : opA S T ⟨dst, .move x, ty, ps, af, gd⟩ s k = K (s.put dst (s.ev x)) := Eq.trans rfl rfl
@[go_sem] theorem opA_assign {dst : Option Tmp} {ty : TypeId} {ps : String} {af : Array Edge} {gd : Option (Nat × Bool)} {s : St} {K : St → Prop} {k : Box K} {x : Operand} : opA S T ⟨dst, .assign x, ty, ps, af, gd⟩ s k = K (s.put dst (s.ev x)) := Eq.trans rfl rfl
@[go_sem] theorem opA_pick {dst : Option Tmp} {ty : TypeId} {ps : String} {af : Array Edge} {gd : Option (Nat × Bool)} {s : St} {K : St → Prop} {k : Box K} {c a b : Operand} : opA S T ⟨dst, .pick c a b, ty, ps, af, gd⟩ s k = onBool (s.ev c) (bx fun t => K (s.put dst (if t then s.ev a else s.ev b))) := Eq.trans rfl rfl
@[go_sem] theorem opA_load {dst : Option Tmp} {ty : TypeId} {ps : String} {af : Array Edge} {gd : Option (Nat × Bool)} {s : St} {K : St → Prop} {k : Box K} {t : TypeId} {a : Operand} : opA S T ⟨dst, .load t a, ty, ps, af, gd⟩ s k = loadA (T t) s (s.ev a) (bx fun v => K (s.put dst v)) := Eq.trans rfl rfl
@[go_sem] theorem opA_store {dst : Option Tmp} {ty : TypeId} {ps : String} {af : Array Edge} {gd : Option (Nat × Bool)} {s : St} {K : St → Prop} {k : Box K} {t : TypeId} {a x : Operand} : opA S T ⟨dst, .store t a x, ty, ps, af, gd⟩ s k = storeA (T t) s (s.ev a) (s.ev x) (bx fun s' => K (s'.put dst uv)) := Eq.trans rfl rfl
@[go_sem] theorem opA_indexAddr {dst : Option Tmp} {ty : TypeId} {ps : String} {af : Array Edge} {gd : Option (Nat × Bool)} {s : St} {K : St → Prop} {k : Box K} {t : TypeId} {x : Nat} {ix : Operand} : opA S T ⟨dst, .indexAddr t (.tmp x) ix, ty, ps, af, gd⟩ s k = (bif isArr (T t).desc then arrAddrA T (T t).desc s (s.f x) (s.ev ix) (bx fun v => K (s.put dst v)) else okSl T t = true ∧ indexAddrA s (elemTI T t).size (s.f x) (s.ev ix) (bx fun v => K (s.put dst v))) := Eq.trans rfl rfl
@[go_sem] theorem opA_gidx {dst : Option Tmp} {ty : TypeId} {ps : String} {af : Array Edge} {gd : Option (Nat × Bool)} {s : St} {K : St → Prop} {k : Box K} {t g : Nat} {ix : Operand} : opA S T ⟨dst, .indexAddr t (.global g) ix, ty, ps, af, gd⟩ s k = hookA S ⟨dst, .indexAddr t (.global g) ix, ty, ps, af, gd⟩ s k := Eq.trans rfl rfl
@[go_sem] theorem opA_index {dst : Option Tmp} {ty : TypeId} {ps : String} {af : Array Edge} {gd : Option (Nat × Bool)} {s : St} {K : St → Prop} {k : Box K} {t : TypeId} {x ix : Operand} : opA S T ⟨dst, .index t x ix, ty, ps, af, gd⟩ s k = (isStr (T t).desc = true ∧ indexA (s.ev x) (s.ev ix) (bx fun v => K (s.put dst v))) := Eq.trans rfl rfl
@[go_sem] theorem opA_binOp {dst : Option Tmp} {ty : TypeId} {ps : String} {af : Array Edge} {gd : Option (Nat × Bool)} {s : St} {K : St → Prop} {k : Box K} {o : BinOp} {t u : TypeId} {x y : Operand} : opA S T ⟨dst, .binOp o t x y u, ty, ps, af, gd⟩ s k = binA T (T t).desc o (s.ev x) (s.ev y) (bx fun v => K (s.put dst v)) := Eq.trans rfl rfl
@[go_sem] theorem opA_unOp {dst : Option Tmp} {ty : TypeId} {ps : String} {af : Array Edge} {gd : Option (Nat × Bool)} {s : St} {K : St → Prop} {k : Box K} {o : UnOp} {t : TypeId} {x : Operand} : opA S T ⟨dst, .unOp o t x, ty, ps, af, gd⟩ s k = unA o (s.ev x) (bx fun v => K (s.put dst v)) := Eq.trans rfl rfl
@[go_sem] theorem opA_convert {dst : Option Tmp} {ty : TypeId} {ps : String} {af : Array Edge} {gd : Option (Nat × Bool)} {s : St} {K : St → Prop} {k : Box K} {t u : TypeId} {x : Operand} : opA S T ⟨dst, .convert t u x, ty, ps, af, gd⟩ s k = (bif isSlice (T u).desc then convSlA T t u S.base dst s (s.ev x) k else convA s (elemTI T t).desc (T t).desc (T u).desc (s.ev x) (bx fun v => K (s.put dst v))) := Eq.trans rfl rfl
@[go_sem] theorem convSlA_str (T : Nat → TI) (src d base dd : Nat) (s : St) (bs : List UInt8) {K : St → Prop} (k : Box K) : convSlA T src d base (some dd) s (.one (.d (.str bs))) k = (isStr (T src).desc = true ∧ isU8 (elemTI T d).desc = true ∧ K ((s.newC (elemTy T d + 1) (base + dd) (bs.map fun b => .d (byteD b))).put (some dd) (.one (.osl (base + dd) (nxC (elemTy T d + 1) (s.gen (base + dd))) 1 0 bs.length)))) := Eq.trans rfl rfl
@[go_sem] theorem opA_slice {dst : Option Tmp} {ty : TypeId} {ps : String} {af : Array Edge} {gd : Option (Nat × Bool)} {s : St} {K : St → Prop} {k : Box K} {t : TypeId} {x : Operand} {lo hi : Option Operand} : opA S T ⟨dst, .slice t x lo hi none, ty, ps, af, gd⟩ s k = sliceA s (isStr (T t).desc) (okSl T t) (elemTI T t).size (s.ev x) (lo.map s.ev) (hi.map s.ev) (bx fun v => K (s.put dst v)) := Eq.trans rfl rfl
@[go_sem] theorem opA_buildSlice {d : Tmp} {ty : TypeId} {ps : String} {af : Array Edge} {gd : Option (Nat × Bool)} {s : St} {K : St → Prop} {k : Box K} {t n : Nat} {p : Array (Nat × Operand)} : opA S T ⟨(some d), .buildSlice t n p, ty, ps, af, gd⟩ s k = (okSl T t = true ∧ buildSliceA (elemTy T t) (elemTI T t).size (S.base + d) d n s (p.toList.map fun p => (p.1, s.ev p.2)) k) := Eq.trans rfl rfl
@[go_sem] theorem opA_makeSlice {d : Tmp} {ty : TypeId} {ps : String} {af : Array Edge} {gd : Option (Nat × Bool)} {s : St} {K : St → Prop} {k : Box K} {t : TypeId} {l c : Operand} : opA S T ⟨(some d), .makeSlice t l c, ty, ps, af, gd⟩ s k = (okSl T t = true ∧ makeSliceA (elemTy T t) (elemTI T t) (S.base + d) d s (s.ev l) (s.ev c) k) := Eq.trans rfl rfl
@[go_sem] theorem opA_len {dst : Option Tmp} {ty : TypeId} {ps : String} {af : Array Edge} {gd : Option (Nat × Bool)} {s : St} {K : St → Prop} {k : Box K} {a : Array Operand} {ts : Array TypeId} : opA S T ⟨dst, .call ⟨.builtin .len, a, ts⟩, ty, ps, af, gd⟩ s k = ((a.size = 1 ∧ ts.size = 1) ∧ lenA s (isStr (T (ts.getD 0 0)).desc) (okSl T (ts.getD 0 0)) (s.ev (a.getD 0 (.const .nilFunc))) (bx fun v => K (s.put dst v))) := Eq.trans rfl rfl
@[go_sem] theorem opA_append {d : Tmp} {ty : TypeId} {ps : String} {af : Array Edge} {gd : Option (Nat × Bool)} {s : St} {K : St → Prop} {k : Box K} {a : Array Operand} {ts : Array TypeId} : opA S T ⟨(some d), .call ⟨.builtin .append, a, ts⟩, ty, ps, af, gd⟩ s k = ((a.size = 2 ∧ ts.size = 2) ∧ okSl T (ts.getD 0 0) = true ∧ appendA (elemTy T (ts.getD 0 0)) (elemTI T (ts.getD 0 0)) (isStr (T (ts.getD 1 0)).desc) (okSl T (ts.getD 1 0)) (S.base + d) d s (s.ev (a.getD 0 (.const .nilFunc))) (s.ev (a.getD 1 (.const .nilFunc))) k) := Eq.trans rfl rfl
@[go_sem] theorem opA_fieldAddr {dst : Option Tmp} {ty : TypeId} {ps : String} {af : Array Edge} {gd : Option (Nat × Bool)} {s : St} {K : St → Prop} {k : Box K} {t f : Nat} {x : Operand} : opA S T ⟨dst, .fieldAddr t x f, ty, ps, af, gd⟩ s k = fieldAddrA T t f s (s.ev x) (bx fun v => K (s.put dst v)) := Eq.trans rfl rfl
@[go_sem] theorem opA_field {dst : Option Tmp} {ty : TypeId} {ps : String} {af : Array Edge} {gd : Option (Nat × Bool)} {s : St} {K : St → Prop} {k : Box K} {t f : Nat} {x : Operand} : opA S T ⟨dst, .field t x f, ty, ps, af, gd⟩ s k = fieldA T t f (s.ev x) (bx fun v => K (s.put dst v)) := Eq.trans rfl rfl
@[go_sem] theorem opA_build {dst : Option Tmp} {ty : TypeId} {ps : String} {af : Array Edge} {gd : Option (Nat × Bool)} {s : St} {K : St → Prop} {k : Box K} {t : Nat} {p : Array (Nat × Operand)} : opA S T ⟨dst, .build t p, ty, ps, af, gd⟩ s k = buildA T t (p.toList.map fun p => (p.1, s.ev p.2)) (bx fun v => K (s.put dst v)) := Eq.trans rfl rfl
@[go_sem] theorem opA_nilCheck {dst : Option Tmp} {ty : TypeId} {ps : String} {af : Array Edge} {gd : Option (Nat × Bool)} {s : St} {K : St → Prop} {k : Box K} {x : Operand} : opA S T ⟨dst, .nilCheck x, ty, ps, af, gd⟩ s k = nilCheckA s (s.ev x) (bx fun v => K (s.put dst v)) := Eq.trans rfl rfl
@[go_sem] theorem opA_extract {dst : Option Tmp} {ty : TypeId} {ps : String} {af : Array Edge} {gd : Option (Nat × Bool)} {s : St} {K : St → Prop} {k : Box K} {x : Operand} {i : Nat} : opA S T ⟨dst, .extract x i, ty, ps, af, gd⟩ s k = extractA (s.ev x) i (bx fun v => K (s.put dst v)) := Eq.trans rfl rfl
@[go_sem] theorem opA_box {d : Tmp} {ty : TypeId} {ps : String} {af : Array Edge} {gd : Option (Nat × Bool)} {s : St} {K : St → Prop} {k : Box K} {t : Nat} {x : Operand} : opA S T ⟨(some d), .box t x, ty, ps, af, gd⟩ s k = boxA t (S.base + d) d s (s.ev x) k := Eq.trans rfl rfl
@[go_sem] theorem opA_alloc {d : Tmp} {ty : TypeId} {ps : String} {af : Array Edge} {gd : Option (Nat × Bool)} {s : St} {K : St → Prop} {k : Box K} {t : Nat} : opA S T ⟨(some d), .alloc t, ty, ps, af, gd⟩ s k = allocA t (T t) (S.base + d) d s k := Eq.trans rfl rfl
@[go_sem] theorem opA_makeMap {d : Tmp} {ty : TypeId} {ps : String} {af : Array Edge} {gd : Option (Nat × Bool)} {s : St} {K : St → Prop} {k : Box K} {t : TypeId} : opA S T ⟨(some d), .makeMap t none, ty, ps, af, gd⟩ s k = makeMapA T t (S.base + d) d s k := Eq.trans rfl rfl
@[go_sem] theorem opA_lookup {dst : Option Tmp} {ty : TypeId} {ps : String} {af : Array Edge} {gd : Option (Nat × Bool)} {s : St} {K : St → Prop} {k : Box K} {t : TypeId} {x ix : Operand} {ok : Bool} : opA S T ⟨dst, .lookup t x ix ok, ty, ps, af, gd⟩ s k = lookupA T t s (s.ev x) (s.ev ix) ok (bx fun v => K (s.put dst v)) := Eq.trans rfl rfl
@[go_sem] theorem opA_mapUpdate {dst : Option Tmp} {ty : TypeId} {ps : String} {af : Array Edge} {gd : Option (Nat × Bool)} {s : St} {K : St → Prop} {k : Box K} {t : TypeId} {m ix x : Operand} : opA S T ⟨dst, .mapUpdate t m ix x, ty, ps, af, gd⟩ s k = mapUpdateA T t s (s.ev m) (s.ev ix) (s.ev x) (bx fun s' => K (s'.put dst uv)) := Eq.trans rfl rfl
@[go_sem] theorem opA_makeFunc {dst : Option Tmp} {ty : TypeId} {ps : String} {af : Array Edge} {gd : Option (Nat × Bool)} {s : St} {K : St → Prop} {k : Box K} {f : FuncId} {first caps : Array Operand} : opA S T ⟨dst, .makeFunc (.func f) first caps, ty, ps, af, gd⟩ s k = makeFuncA f (first.toList.map s.ev) (caps.toList.map s.ev) (bx fun v => K (s.put dst v)) := Eq.trans rfl rfl
@[go_sem] theorem opA_max {dst : Option Tmp} {ty : TypeId} {ps : String} {af : Array Edge} {gd : Option (Nat × Bool)} {s : St} {K : St → Prop} {k : Box K} {a : Array Operand} {ts : Array TypeId} : opA S T ⟨dst, .call ⟨.builtin .max, a, ts⟩, ty, ps, af, gd⟩ s k = (a.size = 2 ∧ mxA true (s.ev (a.getD 0 (.const .nilFunc))) (s.ev (a.getD 1 (.const .nilFunc))) (bx fun v => K (s.put dst v))) := Eq.trans rfl rfl
@[go_sem] theorem opA_min {dst : Option Tmp} {ty : TypeId} {ps : String} {af : Array Edge} {gd : Option (Nat × Bool)} {s : St} {K : St → Prop} {k : Box K} {a : Array Operand} {ts : Array TypeId} : opA S T ⟨dst, .call ⟨.builtin .min, a, ts⟩, ty, ps, af, gd⟩ s k = (a.size = 2 ∧ mxA false (s.ev (a.getD 0 (.const .nilFunc))) (s.ev (a.getD 1 (.const .nilFunc))) (bx fun v => K (s.put dst v))) := Eq.trans rfl rfl
@[go_sem] theorem opA_call {dst : Option Tmp} {ty : TypeId} {ps : String} {af : Array Edge} {gd : Option (Nat × Bool)} {s : St} {K : St → Prop} {k : Box K} {f : Operand} {a : Array Operand} {ts : Array TypeId} : opA S T ⟨dst, .call ⟨.value f, a, ts⟩, ty, ps, af, gd⟩ s k = hookA S ⟨dst, .call ⟨.value f, a, ts⟩, ty, ps, af, gd⟩ s k := Eq.trans rfl rfl
@[go_sem] theorem ev_tmp (s : St) (t : Nat) : s.ev (.tmp t) = s.f t := Eq.trans rfl rfl
@[go_sem] theorem ev_const (s : St) (v : Value) : s.ev (.const v) = absV v := Eq.trans rfl rfl
@[go_sem] theorem ev_func (s : St) (f : Nat) : s.ev (.func f) = .one (.d (.fn f)) := Eq.trans rfl rfl
@[go_sem] theorem absV_bool (b : Bool) : absV (.bool b) = bv b := Eq.trans rfl rfl
@[go_sem] theorem absV_int (k : IntKind) (n : Int) : absV (.int k n) = iv k n := Eq.trans rfl rfl
@[go_sem] theorem absV_string (s : ByteArray) : absV (.string s) = sv s.data.toList := Eq.trans rfl rfl
@[go_sem] theorem absV_nsl  : absV (.slice none 0 0) = .one (.d .nsl) := Eq.trans rfl rfl
@[go_sem] theorem absV_nilp  : absV (.pointer none) = .one (.d .nilp) := Eq.trans rfl rfl
@[go_sem] theorem thenA_normal {next : St → Prop} {b : Box next} {Q : Exit → St → Prop} {q : Box Q} {s : St} : thenA b q .normal s = next s := Eq.trans rfl rfl
@[go_sem] theorem thenA_ret {next : St → Prop} {b : Box next} {Q : Exit → St → Prop} {q : Box Q} {s : St} : thenA b q .ret s = Q .ret s := Eq.trans rfl rfl
@[go_sem] theorem thenA_exit {n : Nat} {next : St → Prop} {b : Box next} {Q : Exit → St → Prop} {q : Box Q} {s : St} : thenA b q (.exit n) s = Q (.exit n) s := Eq.trans rfl rfl
@[go_sem] theorem inBlockA_normal {n : Nat} {Q : Exit → St → Prop} {q : Box Q} {s : St} : inBlockA n q .normal s = Q .normal s := Eq.trans rfl rfl
@[go_sem] theorem inBlockA_ret {n : Nat} {Q : Exit → St → Prop} {q : Box Q} {s : St} : inBlockA n q .ret s = Q .ret s := Eq.trans rfl rfl
@[go_sem] theorem inBlockA_exit {n m : Nat} {Q : Exit → St → Prop} {q : Box Q} {s : St} : inBlockA n q (.exit m) s = (if m = n then Q .normal s else Q (.exit m) s) := Eq.trans rfl rfl
@[go_sem] theorem noGotoA_normal {Q : Exit → St → Prop} {q : Box Q} {s : St} : noGotoA q .normal s = Q .normal s := Eq.trans rfl rfl
@[go_sem] theorem noGotoA_ret {Q : Exit → St → Prop} {q : Box Q} {s : St} : noGotoA q .ret s = Q .ret s := Eq.trans rfl rfl
@[go_sem] theorem noGotoA_exit {n : Nat} {Q : Exit → St → Prop} {q : Box Q} {s : St} : noGotoA q (.exit n) s = Q (.exit n) s := Eq.trans rfl rfl
@[go_sem] theorem St_newC (c : Nat) (s : St) (d : Nat) (cs : List C) : s.newC c d cs = { s with gen := upd s.gen d (nxC c (s.gen d)), obj := upd s.obj d (some cs) } := Eq.trans rfl rfl

section steps
variable {f : Nat → AV} {g : Nat → Nat} {ob : Nat → Option (List C)} {Q : Exit → St → Prop} {q : Box Q} {K : St → Prop} {k : Box K} {ops : Array Oper} {rest : List Oper}
@[go_sem] theorem wpC_skip : wpC S T .skip q ⟨f, g, ob⟩ = Q .normal ⟨f, g, ob⟩ := Eq.trans rfl rfl
@[go_sem] theorem wpC_label {n : Nat} : wpC S T (.label n) q ⟨f, g, ob⟩ = Q .normal ⟨f, g, ob⟩ := Eq.trans rfl rfl
@[go_sem] theorem wpC_scope {c : Code} : wpC S T (.scope c) q ⟨f, g, ob⟩ = wpC S T c (bx (noGotoA q)) ⟨f, g, ob⟩ := Eq.trans rfl rfl
@[go_sem] theorem wpC_draw {n : Nat} {l : List Oper} : wpC S T (.region n l.toArray true) q ⟨f, g, ob⟩ = DrawA S T n l.toArray ⟨f, g, ob⟩ q := Eq.trans rfl rfl
@[go_sem] theorem wpC_region {n : Nat} {l : List Oper} : wpC S T (.region n l.toArray false) q ⟨f, g, ob⟩ = wpO S T l.toArray l ⟨f, g, ob⟩ (bx fun s' => Q .normal s') := by simp [wpC]
@[go_sem] theorem wpC_seq {x y : Code} : wpC S T (.seq x y) q ⟨f, g, ob⟩ = wpC S T x (bx (thenA (bx fun s' => wpC S T y q s') q)) ⟨f, g, ob⟩ := Eq.trans rfl rfl
@[go_sem] theorem wpC_cond {c : Operand} {x y : Code} : wpC S T (.cond c x y) q ⟨f, g, ob⟩ = onBool (St.ev ⟨f, g, ob⟩ c) (bx fun b => if b then wpC S T x q ⟨f, g, ob⟩ else wpC S T y q ⟨f, g, ob⟩) := Eq.trans rfl rfl
@[go_sem] theorem wpC_block {n : Nat} {c : Code} : wpC S T (.block n c) q ⟨f, g, ob⟩ = wpC S T c (bx (inBlockA n q)) ⟨f, g, ob⟩ := Eq.trans rfl rfl
@[go_sem] theorem wpC_loop {c : Code} : wpC S T (.loop c) q ⟨f, g, ob⟩ = LoopA S (bx fun Q s => wpC S T c (bx Q) s) q ⟨f, g, ob⟩ := Eq.trans rfl rfl
@[go_sem] theorem wpC_exit {n : Nat} : wpC S T (.exit n) q ⟨f, g, ob⟩ = Q (.exit n) ⟨f, g, ob⟩ := Eq.trans rfl rfl
@[go_sem] theorem wpC_ret : wpC S T .ret q ⟨f, g, ob⟩ = Q .ret ⟨f, g, ob⟩ := Eq.trans rfl rfl
@[go_sem] theorem wpO_nil : wpO S T ops [] ⟨f, g, ob⟩ k = K ⟨f, g, ob⟩ := Eq.trans rfl rfl
@[go_sem] theorem wpO_none {dst : Option Tmp} {op : Op} {ty : TypeId} {ps : String} {af : Array Edge} :
    wpO S T ops (⟨dst, op, ty, ps, af, none⟩ :: rest) ⟨f, g, ob⟩ k = opA S T ⟨dst, op, ty, ps, af, none⟩ ⟨f, g, ob⟩ (bx fun s' => wpO S T ops rest s' k) := Eq.trans rfl rfl
@[go_sem] theorem wpO_some {dst : Option Tmp} {op : Op} {ty : TypeId} {ps : String} {af : Array Edge} {j : Nat} {want : Bool} :
    wpO S T ops (⟨dst, op, ty, ps, af, some (j, want)⟩ :: rest) ⟨f, g, ob⟩ k =
      onSome ((ops[j]?).bind (·.dst)) (bx fun d =>
        guardA (f d) (bx fun b => if b = want then opA S T ⟨dst, op, ty, ps, af, some (j, want)⟩ ⟨upd f d (bv b), g, ob⟩ (bx fun s' => wpO S T ops rest s' k)
          else wpO S T ops rest (St.put ⟨upd f d (bv b), g, ob⟩ dst uv) k) (bx (wpO S T ops rest (St.put ⟨f, g, ob⟩ dst uv) k))) := Eq.trans rfl rfl
end steps

@[go_sem] theorem upd_apply {α : Type} (f : Nat → α) (i j : Nat) (v : α) : upd f i v j = if j = i then v else f j := Eq.trans rfl rfl
@[go_sem] theorem St.put_some (s : St) (d : Nat) (v : AV) : s.put (some d) v = { s with f := upd s.f d v } := Eq.trans rfl rfl
@[go_sem] theorem St.put_none (s : St) (v : AV) : s.put none v = s := Eq.trans rfl rfl
attribute [go_sem] Nat.reduceEqDiff Nat.reduceAdd Nat.reduceMul Nat.reduceSub Nat.reduceLT Nat.reduceLeDiff Int.reduceLT Int.reduceLE Int.reduceEq Int.reduceNe Int.reduceAdd Int.reduceNeg Int.reduceToNat
attribute [go_sem] if_true if_false ite_true ite_false and_true true_and List.length_map List.length_cons List.length_nil List.size_toArray Option.bind_some Option.map_some Option.map_none Option.bind_none cond_true cond_false List.append_nil List.cons_append List.set_cons_zero List.set_cons_succ List.set_nil List.drop_succ_cons List.take_succ_cons List.take_zero
attribute [go_sem] Array.getD_eq_getD_getElem? List.getElem?_toArray List.getElem?_cons_zero List.getElem?_cons_succ List.getElem?_nil Option.getD_some Option.getD_none List.getElem?_map
attribute [go_sem] List.drop_zero List.take_length Nat.mul_one Nat.zero_add List.map_cons List.map_nil List.nil_append reduceCtorEq not_true_eq_false not_false_eq_true implies_true Bool.not_true Bool.not_false Bool.true_eq_false Bool.false_eq_true
attribute [go_sem] Option.some.injEq Option.isSome_some decide_true decide_false ne_eq Int.toNat_natCast
end equations

end Go.Am
