/- A part of the proof; no conditions. -/
import Derived.Test.YtiaalcpkhlnpcabGreatDoorPart9
import Derived.Lib.Bytealg
import Derived.Shelf.Strings.IndexAnyAll
import Derived.Laws.RangeAny
import Derived.WalkMore
import Derived.Shelf.RegionOpenPlain
import Derived.BigQuiet
import Derived.Laws.Runes
import Derived.Shelf.Small.Utf8
import Derived.Lib.QuoteLoop
import Derived.Lib.TrimU
import Derived.Lib.OthersKept
import Derived.Shelf.Strings.SlTrimAscii
import Derived.Shelf.Strings.Runes
import Derived.Test.YtiaalcpkhlnpcabGreatDoorProg
set_option linter.unusedSimpArgs false
set_option linter.unusedVariables false
namespace Go.Asm

/-! ### Numbers -/
inductive PR where
  | ok (n : Nat)
  | syn
  | rng
  deriving DecidableEq
def decF (n : Nat) (c : UInt8) : Nat := 10 * n + (c.toNat - 48)
def decN (s : Str) : Nat := s.foldl decF 0
def parseN (s : Str) : PR :=
  if s = [] ∨ (1 < s.length ∧ s.head? = some 48) then .syn else if s.all digit = true then (if 4294967295 < decN s then .rng else .ok (decN s)) else .syn

def hexV (c : UInt8) : Option Nat :=
  if digit c = true then some (c.toNat - 48) else if 97 ≤ c.toNat ∧ c.toNat ≤ 102 then some (c.toNat - 87) else if 65 ≤ c.toNat ∧ c.toNat ≤ 70 then some (c.toNat - 55) else none
def hexGo : Nat → Str → Option Nat
  | n, [] => some n
  | n, c :: s => (hexV c).bind fun v => hexGo (16 * n + v) s
def hexN (s : Str) : Option Nat := if 1 ≤ s.length ∧ s.length ≤ 8 then hexGo 0 s else none

def charOk (c : UInt8) : Bool := decide (33 ≤ c.toNat) && decide (c.toNat ≤ 126) && decide (c ≠ 39) && decide (c ≠ 35) && decide (c ≠ 44) && decide (c ≠ 58)
def charOf : Str → Option Nat
  | [a, c, b] => if a = 39 ∧ b = 39 ∧ charOk c = true then some c.toNat else none
  | _ => none
def regOf (s : Str) : Option Nat :=
  match s with
  | 114 :: d => match parseN d with
    | .ok n => if n ≤ 15 then some n else none
    | _ => none
  | _ => none

inductive Opd where
  | reg (n : Nat)
  | num (n : Nat)
  | great
  | lab
  | other
  deriving DecidableEq
def restOpd (s : Str) : Opd :=
  match s with
  | 48 :: 120 :: d => match hexN d with
    | some n => .num n
    | none => .other
  | s => match charOf s with
    | some n => .num n
    | none => if isLabel s = true then .lab else .other
def operandA (s : Str) : Opd :=
  match regOf s with
  | some n => .reg n
  | none => match parseN s with
    | .ok n => .num n
    | .rng => .great
    | .syn => restOpd s

/-! ### Instructions -/
def names : List Str := [[108, 105], [108, 117, 105], [109, 111, 118], [97, 100, 100], [115, 117, 98], [109, 117, 108], [100, 105, 118], [109, 111, 100], [97, 110, 100], [111, 114], [120, 111, 114], [115, 104, 108], [115, 104, 114], [108, 116], [101, 113], [108, 100], [115, 116],
  [106, 109, 112], [106, 122], [106, 110, 122], [99, 97, 108, 108], [114, 101, 116], [103, 101, 116], [112, 117, 116], [99, 104, 107], [104, 97, 108, 116], [108, 100, 99]]
/-- An operation's number; 0: there is none of that name. -/
def opNum (s : Str) : Nat := match names.idxOf? s with | some i => i + 1 | none => 0
/-- Has it A, has it B, what is C (0: nothing, 1: a number, 2: a register)? -/
def shape (op : Nat) : Bool × Bool × Nat :=
  if op = 1 ∨ op = 2 ∨ op = 19 ∨ op = 20 ∨ op = 21 ∨ op = 25 then (true, false, 1)
  else if op = 3 then (true, true, 0)
  else if 4 ≤ op ∧ op ≤ 15 then (true, true, 2)
  else if op = 16 ∨ op = 17 ∨ op = 27 then (true, true, 1)
  else if op = 18 then (false, false, 1)
  else if op = 22 ∨ op = 23 ∨ op = 24 then (true, false, 0)
  else (false, false, 0)
def nRegs (op : Nat) : Nat := (if (shape op).1 then 1 else 0) + (if (shape op).2.1 then 1 else 0) + (if (shape op).2.2 = 2 then 1 else 0)
def nArgs (op : Nat) : Nat := nRegs op + (if (shape op).2.2 = 1 then 1 else 0)
def word (op a b c : Nat) : Nat := op * 16777216 + a * 1048576 + b * 65536 + c

structure Sta where
  code : List Nat
  data : Nat
  hasD : Bool
  labs : List (Str × Nat)
  uses : List (Nat × Nat × Str)

inductive Res (α : Type) where
  | ok (x : α)
  | err (e : Nat)

def regOf? (s : Str) : Option Nat := match operandA s with | .reg n => some n | _ => none
/-- The registers, in order; none: one of them is none. -/
def regsOf : List Str → Option (List Nat)
  | [] => some []
  | a :: l => (regOf? a).bind fun n => (regsOf l).map (n :: ·)
/-- A word is added. -/
def addW (st : Sta) (w : Nat) : Res Sta := if 16384 ≤ st.code.length then .err 2 else .ok { st with code := st.code ++ [w] }
def wordR (op : Nat) (rs : List Nat) (c : Nat) : Nat :=
  match (shape op).1, (shape op).2.1, (shape op).2.2 with
  | true, true, 2 => word op (rs.getD 0 0) (rs.getD 1 0) (rs.getD 2 0)
  | true, true, _ => word op (rs.getD 0 0) (rs.getD 1 0) c
  | true, false, _ => word op (rs.getD 0 0) 0 c
  | false, _, _ => word op 0 0 c
def insA (n : Nat) (st : Sta) (op : Nat) (args : List Str) : Res Sta :=
  if args.length ≠ nArgs op then .err 1 else
  match regsOf (args.take (nRegs op)) with
  | none => .err 1
  | some rs =>
    if (shape op).2.2 = 1 then
      match operandA (args.getD (nRegs op) []) with
      | .lab => addW { st with uses := st.uses ++ [(n, st.code.length, args.getD (nRegs op) [])] } (wordR op rs 0)
      | .num v => if 65535 < v then .err 2 else addW st (wordR op rs v)
      | .great => .err 2
      | _ => .err 1
    else addW st (wordR op rs 0)
def wordW : Str := [46, 119, 111, 114, 100]
def dataW : Str := [46, 100, 97, 116, 97]
def dirA (st : Sta) (isData : Bool) (args : List Str) : Res Sta :=
  match args with
  | [a] =>
    if isData = true ∧ st.hasD = true then .err 1 else
    match operandA a with
    | .num v => if isData = true then (if 32768 < v then .err 2 else .ok { st with data := v, hasD := true }) else addW st v
    | .great => .err 2
    | _ => .err 1
  | _ => .err 1
def placeOf (labs : List (Str × Nat)) (s : Str) : Option Nat := (labs.find? (fun p => p.1 = s)).map (·.2)
def opA (n : Nat) (st : Sta) (op : Str) (args : List Str) : Res Sta :=
  if op = [] then .ok st else if op = wordW then dirA st false args else if op = dataW then dirA st true args
  else if opNum op = 0 then .err 4 else insA n st (opNum op) args
/-- The line of the number n. -/
def stepA (n : Nat) (st : Sta) (s : Str) : Res Sta :=
  match lineA s with
  | none => .err 3
  | some (l, op, args) =>
    if l = [] then opA n st op args else
    if (placeOf st.labs l).isSome = true then .err 4 else opA n { st with labs := st.labs ++ [(l, st.code.length)] } op args
/-- Lines, from the number n + 1 on: what comes of them, or the wrong one's number and the error. -/
def linesA : Nat → Sta → List Str → Sta ⊕ (Nat × Nat)
  | _, st, [] => .inl st
  | n, st, s :: ls => match stepA (n + 1) st s with
    | .ok st' => linesA (n + 1) st' ls
    | .err e => .inr (n + 1, e)
def addAt (code : List Nat) (i v : Nat) : List Nat := code.set i (code.getD i 0 + v)
def usesA (labs : List (Str × Nat)) : List Nat → List (Nat × Nat × Str) → List Nat ⊕ (Nat × Nat)
  | code, [] => .inl code
  | code, u :: us => match placeOf labs u.2.2 with
    | none => .inr (u.1, 4)
    | some p => usesA labs (addAt code u.2.1 p) us
def st0 : Sta := ⟨[], 0, false, [], []⟩
/-- A text's image (its code, its data), the wrong line's number, the error. -/
def readA (t : Str) : (List Nat × Nat) × Nat × Nat :=
  if 20000 < t.length then (([], 0), 0, 2) else
  match linesA 0 st0 (splitC 10 t) with
  | .inr (n, e) => (([], 0), n, e)
  | .inl st => match usesA st.labs st.code st.uses with
    | .inr (n, e) => (([], 0), n, e)
    | .inl code => ((code, st.data), 0, 0)

end Go.Asm

namespace Go.Asm

/-- The pieces of a text, without blanks at their ends, if none is empty. -/
def argsP (rest : Str) : Option (List Str) := if ((splitC 44 rest).map trimW).all (fun x => decide (x ≠ [])) = true then some ((splitC 44 rest).map trimW) else none

theorem argsOf_P {rest : Str} (h : rest ≠ []) : argsOf rest = argsP rest := by unfold argsOf argsP; rw [if_neg h]

theorem splitC_pre {c : UInt8} : ∀ (w : Str) {s : Str} {x : Str} {xs : List Str}, c ∉ w → splitC c s = x :: xs → splitC c (w ++ s) = (w ++ x) :: xs
  | [], s, x, xs, _, h => h
  | b :: w, s, x, xs, hw, h => by
    simp only [List.mem_cons, not_or] at hw
    rw [List.cons_append, splitC_cons, if_neg (fun e => hw.1 e.symm), splitC_pre w hw.2 h]
    rfl
theorem splitC_post {c : UInt8} : ∀ (s : Str) {t : Str}, c ∉ t → ∃ xs x, splitC c s = xs ++ [x] ∧ splitC c (s ++ t) = xs ++ [x ++ t]
  | [], t, h => ⟨[], [], rfl, by rw [List.nil_append, splitC_none h]; rfl⟩
  | b :: l, t, h => by
    obtain ⟨xs, x, h1, h2⟩ := splitC_post l h
    rw [List.cons_append, splitC_cons, splitC_cons, h1, h2]
    by_cases hb : b = c
    · exact ⟨[] :: xs, x, by simp [hb], by simp [hb]⟩
    · simp only [hb, if_false]
      cases xs with
      | nil => exact ⟨[], b :: x, rfl, rfl⟩
      | cons y ys => exact ⟨(b :: y) :: ys, x, rfl, rfl⟩

theorem wht_free {s : Str} (h : s.all wht = true) {c : UInt8} (hc : wht c = false) : c ∉ s := by
  intro hm
  rw [List.all_eq_true.1 h c hm] at hc; cases hc
theorem trim_parts (s : Str) : ∃ a b, a.all wht = true ∧ b.all wht = true ∧ s = a ++ (trimW s ++ b) := by
  have hl : ∀ s : Str, ∃ a, a.all wht = true ∧ s = a ++ trimL s := by
    intro s
    refine ⟨s.takeWhile wht, List.all_takeWhile, ?_⟩
    unfold trimL; exact (List.takeWhile_append_dropWhile).symm
  have hr : ∀ s : Str, ∃ b, b.all wht = true ∧ s = trimR s ++ b := by
    intro s
    obtain ⟨a, h1, h2⟩ := hl s.reverse
    refine ⟨a.reverse, by rw [List.all_reverse]; exact h1, ?_⟩
    have := congrArg List.reverse h2
    rw [List.reverse_reverse, List.reverse_append, ← trimR_eq, List.reverse_reverse] at this
    exact this
  obtain ⟨b, hb1, hb2⟩ := hr s
  obtain ⟨a, ha1, ha2⟩ := hl (trimR s)
  refine ⟨a, b, ha1, hb1, ?_⟩
  rw [← List.append_assoc]
  unfold trimW
  rw [← ha2]; exact hb2

/-- Blanks at the ends play no part in the pieces. -/
theorem splitC_trim (s : Str) : (splitC 44 (trimW s)).map trimW = (splitC 44 s).map trimW := by
  obtain ⟨a, b, ha, hb, e⟩ := trim_parts s
  have h44 : wht 44 = false := by decide
  obtain ⟨xs, x, h1, h2⟩ := splitC_post (trimW s) (wht_free hb h44)
  conv => rhs; rw [e]
  cases xs with
  | nil =>
    rw [splitC_pre a (wht_free ha h44) (x := x ++ b) (xs := []) (by rw [h2]; rfl), h1]
    simp only [List.nil_append, List.map_cons, List.map_nil]
    rw [trimW_white_app ha, trimW_app_white hb]
  | cons y ys =>
    rw [splitC_pre a (wht_free ha h44) (x := y) (xs := ys ++ [x ++ b]) (by rw [h2]; rfl), h1]
    simp only [List.cons_append, List.map_cons, List.map_append, List.map_nil]
    rw [trimW_white_app ha, trimW_app_white hb]
theorem argsP_trim (s : Str) : argsP (trimW s) = argsP s := by unfold argsP; rw [splitC_trim]

/-- One piece, and the others. -/
theorem argsP_one {s : Str} (h : 44 ∉ s) : argsP s = if trimW s = [] then none else some [trimW s] := by
  unfold argsP
  rw [splitC_none h]
  by_cases ht : trimW s = []
  · simp [ht]
  · simp [ht]
theorem argsP_cons {p q : Str} (h : 44 ∉ p) : argsP (p ++ 44 :: q) = if trimW p = [] then none else (argsP q).map (trimW p :: ·) := by
  unfold argsP
  rw [splitC_join, splitC_none h]
  by_cases ht : trimW p = []
  · simp [ht]
  · by_cases hq : ((splitC 44 q).map trimW).all (fun x => decide (x ≠ [])) = true
    · rw [if_neg ht, if_pos hq, if_pos (by simp only [List.map_append, List.map_cons, List.map_nil, List.all_append, List.all_cons, List.all_nil, hq]; simp [ht])]
      rfl
    · rw [if_neg ht, if_neg hq, if_neg (by
        simp only [List.map_append, List.all_append, Bool.and_eq_true]; exact fun e => hq e.2)]
      rfl
theorem argsP_white {s : Str} (h : trimW s = []) : argsP s = none := by
  rw [← argsP_trim, h]; rfl

end Go.Asm

namespace Go.Proofs.YtiaalcpkhlnpcabGreatDoor
open Go Go.Am Go.Asm

theorem getq {α : Type} {l : List α} {k : Nat} (h : k < l.length) : ∃ x, l[k]? = some x := ⟨_, List.getElem?_eq_getElem h⟩
theorem all_take {α : Type} {l : List α} {k : Nat} {p : α → Bool} {x : α} (hx : l[k]? = some x) (h : (l.take k).all p = true) (hp : p x = true) : (l.take (k + 1)).all p = true := by
  rw [List.take_add_one, hx, List.all_append, h]; simpa using hp
theorem u8_eq {c d : UInt8} (h : (c.toNat : Int) = (d.toNat : Int)) : c = d := UInt8.toNat_inj.1 (by omega)
theorem u8_ne {c d : UInt8} (h : c ≠ d) : ¬ (c.toNat : Int) = (d.toNat : Int) := fun e => h (u8_eq e)
theorem drop_cons {α : Type} {l : List α} {k : Nat} {x : α} (h : l[k]? = some x) : l.drop k = x :: l.drop (k + 1) := by
  obtain ⟨hk, rfl⟩ := List.getElem?_eq_some_iff.1 h
  exact List.drop_eq_getElem_cons hk

theorem small_iff {c : UInt8} : small c = true ↔ 97 ≤ c.toNat ∧ c.toNat ≤ 122 := by simp [small]
theorem letter_iff {c : UInt8} : letter c = true ↔ (97 ≤ c.toNat ∧ c.toNat ≤ 122) ∨ (65 ≤ c.toNat ∧ c.toNat ≤ 90) := by simp [letter, small]
theorem digit_iff {c : UInt8} : digit c = true ↔ 48 ≤ c.toNat ∧ c.toNat ≤ 57 := by simp [digit]
theorem wht_iff {c : UInt8} : wht c = true ↔ c.toNat = 32 ∨ c.toNat = 9 := by
  simp only [wht, Bool.or_eq_true, beq_iff_eq]
  constructor
  · rintro (rfl | rfl) <;> simp
  · rintro (h | h)
    · exact .inl (UInt8.toNat_inj.1 h)
    · exact .inr (UInt8.toNat_inj.1 h)

end Go.Proofs.YtiaalcpkhlnpcabGreatDoor

namespace Go.Proofs.YtiaalcpkhlnpcabGreatDoor
open Go Go.Am Go.Asm

def preB (p s : Str) : Bool := decide (s.take p.length = p)
theorem HasPrefix_A (s p : Str) : PureR Tryz.prog 119 [sv s, sv p] (· = bv (preB p s)) := by
  refine pure_of_wp Tt_ok mixed Tryz.func119 rfl (by rfl) [4] rfl (by kernel_rfl) (by simp [Tryz.ntmps119]) fun g => ?_
  simp (config := { maxSteps := 1000000 }) only [go_sem,↓reduceIte]
  refine ⟨fun h => ?_, fun h => ?_⟩
  · exact ⟨Nat.zero_le _, by omega, rfl⟩
  · have : ¬ s.take p.length = p := fun e => by
      have := congrArg List.length e
      simp only [List.length_take] at this; omega
    simp [preB, this]
theorem bareWord_pre (s : Str) : (if preB [46] s = true then s.drop 1 else s) = bareWord s := by
  unfold bareWord
  cases s with
  | nil => rfl
  | cons c r => simp [preB]
theorem bareWord_le (s : Str) : (bareWord s).length ≤ s.length := by
  unfold bareWord; split <;> simp

theorem trim_snoc {s : Str} (h : s ≠ []) : ∃ r c, s = r ++ [c] := ⟨s.dropLast, s.getLast h, (List.dropLast_concat_getLast h).symm⟩

theorem upto_len (c : UInt8) (s : Str) : (upto c s).length ≤ s.length := (List.takeWhile_prefix _).length_le
theorem upto_at {c : UInt8} {s : Str} {k : Nat} (hk : k ≤ s.length) (h : c ∉ s.take k) (he : ∀ d, s[k]? = some d → d = c) : upto c s = s.take k := by
  by_cases hlt : k < s.length
  · obtain ⟨d, hd⟩ := getq hlt
    have e := he d hd
    have : s = s.take k ++ c :: s.drop (k + 1) := by
      conv => lhs; rw [← List.take_append_drop k s, drop_cons hd, e]
    conv => lhs; rw [this]
    exact upto_app _ h
  · have : s.take k = s := List.take_of_length_le (by omega)
    rw [this] at h ⊢
    exact upto_none h

def strs (l : List Str) : D := .sl (l.map fun w => [.str w])
theorem strs_get {l : List Str} {k : Nat} {w : Str} (h : l[k]? = some w) : (l.map fun w => [D.str w])[k]? = some [.str w] := by rw [List.getElem?_map, h]; rfl
theorem take_next_eq {α : Type} {a b : List α} {k : Nat} {x y : α} (hx : a[k]? = some x) (hy : b[k]? = some y) (h : a.take k = b.take k) (e : x = y) : a.take (k + 1) = b.take (k + 1) := by
  rw [List.take_add_one, List.take_add_one, hx, hy, h, e]
theorem get_ne {α : Type} {a b : List α} {k : Nat} {x y : α} (hx : a[k]? = some x) (hy : b[k]? = some y) (e : x ≠ y) : a ≠ b := by
  rintro rfl; rw [hx] at hy; exact e (Option.some.inj hy)

end Go.Proofs.YtiaalcpkhlnpcabGreatDoor

namespace Go.Proofs.YtiaalcpkhlnpcabGreatDoor
open Go Go.Am Go.Asm

def lineV : Option (Str × Str × List Str) → AV
  | some (l, o, a) => .tup [sv l, sv o, .one (.d (strs a)), iv .i64 0]
  | none => .tup [sv [], sv [], .one (.d (.sl [])), iv .i64 3]

theorem upto_take (c : UInt8) (s : Str) : s.take (upto c s).length = upto c s := by
  by_cases h : c ∈ s
  · obtain ⟨t, ht⟩ := upto_split h
    conv => lhs; arg 2; rw [ht]
    rw [List.take_left]
  · rw [upto_none h, List.take_length]
theorem upto_lt (c : UInt8) (s : Str) : (upto c s).length < s.length ↔ c ∈ s := by
  constructor
  · intro h
    by_cases hc : c ∈ s
    · exact hc
    · rw [upto_none hc] at h; omega
  · intro h
    obtain ⟨t, ht⟩ := upto_split h
    have := congrArg List.length ht
    simp only [List.length_append, List.length_cons] at this; omega
theorem opOf_le (s : Str) : (opOf s).length ≤ s.length := (List.takeWhile_prefix _).length_le
theorem opOf_take (s : Str) : s.take (opOf s).length = opOf s := by
  have := List.takeWhile_append_dropWhile (p := fun c => !wht c) (l := s)
  conv => lhs; arg 2; rw [← this]
  exact List.take_left
theorem opOf_at {s : Str} {k : Nat} (hk : k ≤ s.length) (h : (s.take k).all (fun c => !wht c) = true) (he : ∀ d, s[k]? = some d → wht d = true) : opOf s = s.take k := by
  have e : s = s.take k ++ s.drop k := (List.take_append_drop k s).symm
  unfold opOf
  conv => lhs; rw [e]
  rw [List.takeWhile_append_of_pos (by simpa [List.all_eq_true] using h)]
  have : (s.drop k).takeWhile (fun c => !wht c) = [] := by
    cases hd : s.drop k with
    | nil => rfl
    | cons d t =>
      have : s[k]? = some d := by rw [← List.head?_drop, hd]; rfl
      rw [List.takeWhile_cons, he d this]; rfl
  rw [this, List.append_nil]

theorem drop_upto {c : UInt8} {r t : Str} (h : r = upto c r ++ c :: t) : r.drop ((upto c r).length + 1) = t := by
  conv => lhs; arg 2; rw [h]
  rw [← List.drop_drop, List.drop_left]; rfl
theorem argsP_bad {r : Str} (h : trimW (upto 44 r) = []) : argsP r = none := by
  by_cases hm : 44 ∈ r
  · obtain ⟨t, ht⟩ := upto_split hm
    rw [ht, argsP_cons (upto_free 44 r), if_pos h]
  · rw [argsP_one hm, if_pos (by rw [← upto_none hm]; exact h)]
theorem argsP_last {r : Str} (hm : 44 ∉ r) (h : trimW (upto 44 r) ≠ []) : argsP r = some [trimW (upto 44 r)] := by
  rw [upto_none hm] at h ⊢
  rw [argsP_one hm, if_neg h]
theorem argsP_more {r : Str} (hm : 44 ∈ r) (h : trimW (upto 44 r) ≠ []) : argsP r = (argsP (r.drop ((upto 44 r).length + 1))).map (trimW (upto 44 r) :: ·) := by
  obtain ⟨t, ht⟩ := upto_split hm
  rw [drop_upto ht]
  conv => lhs; rw [ht]
  rw [argsP_cons (upto_free 44 r), if_neg h]

/-- The words so far: nil, or an object of the call's own. -/
def AllW (t : Nat) (ids : List Nat) (L : List Str) (st : St) : Prop := (st.f t = .one (.d .nsl) ∧ L = []) ∨ ∃ id ∈ ids, st.f t = .one (.osl id (st.gen id) 1 0 L.length) ∧ st.obj id = some (L.map fun w => .d (.str w))
theorem frz_strs {s : St} {id g n : Nat} {L : List Str} (hg : s.gen id = g) (ho : s.obj id = some (L.map fun w => .d (.str w))) (hn : n = L.length) : Frz s (.osl id g 1 0 n) (strs L) := by
  subst hn
  exact frz_map hg ho L (fun w => .str w) (fun _ => rfl) rfl (fun j a h => by simp [h]) (by simp)

@[go_sem] theorem RetQ_four {s : St} {t u v x : Nat} {R : AV → Prop} : RetQ [t, u, v, x] R .ret s = ∃ rs, FrzVs s [s.f t, s.f u, s.f v, s.f x] rs ∧ R (.tup rs) := Eq.trans rfl rfl

end Go.Proofs.YtiaalcpkhlnpcabGreatDoor

namespace Go.Proofs.YtiaalcpkhlnpcabGreatDoor
open Go Go.Am Go.Asm

/-- Where the byte stands: -1, where it does not. -/
def idx (s : Str) (c : UInt8) : Int := if c ∈ s then ((upto c s).length : Int) else -1

theorem indexByte_idx (s : Str) (c : UInt8) : Lib.indexByte s c = idx s c := by
  induction s with
  | nil => rfl
  | cons b l ih =>
    unfold Lib.indexByte idx
    by_cases hb : b = c
    · subst hb; simp [upto]
    · have hb' : (b == c) = false := by simpa using hb
      have e : upto c (b :: l) = b :: upto c l := by unfold upto; rw [List.takeWhile_cons, if_pos (by simpa using hb)]
      rw [ih, hb', e]
      unfold idx
      by_cases hm : c ∈ l
      · have : ¬ ((upto c l).length : Int) = -1 := by omega
        simp [hm, this]
      · have : ¬ c = b := fun h => hb h.symm
        simp [hm, this]

def cutV (s : Str) (c : UInt8) : AV := if c ∈ s then .tup [sv (upto c s), sv (s.drop ((upto c s).length + 1)), bv true] else .tup [sv s, sv [], bv false]

theorem splitC_count (c : UInt8) : ∀ s : Str, (splitC c s).length = s.count c + 1
  | [] => rfl
  | b :: l => by
    have ih := splitC_count c l
    rw [splitC_cons]
    by_cases hb : b = c
    · subst hb; simp [ih]
    · have : (b == c) = false := by simpa using hb
      simp only [hb, if_false, List.count_cons, this, Nat.add_zero]
      cases hs : splitC c l with
      | nil => exact absurd hs (splitC_ne c l)
      | cons x xs => rw [hs] at ih; simpa using ih
theorem splitC_upto {c : UInt8} {s : Str} (h : c ∈ s) : splitC c s = upto c s :: splitC c (s.drop ((upto c s).length + 1)) := by
  obtain ⟨t, ht⟩ := upto_split h
  rw [drop_upto ht]
  conv => lhs; rw [ht]
  rw [splitC_join, splitC_none (upto_free c s)]; rfl

theorem count_upto {c : UInt8} {s : Str} (h : c ∈ s) : s.count c = (s.drop ((upto c s).length + 1)).count c + 1 := by
  have h1 := splitC_count c s
  rw [splitC_upto h, List.length_cons, splitC_count] at h1
  omega
def cellsS (done : List Str) (k : Nat) : List C := done.map (fun w => .d (.str w)) ++ List.replicate k (.d (.str []))
theorem cellsS_len (done : List Str) (k : Nat) : (cellsS done k).length = done.length + k := by simp [cellsS]
theorem cellsS_set (done : List Str) (k : Nat) (x : Str) : (cellsS done (k + 1)).set done.length (.d (.str x)) = cellsS (done ++ [x]) k := by
  unfold cellsS
  rw [List.set_append_right _ _ (by simp)]
  simp [List.replicate_succ]
theorem cellsS_zero (done : List Str) : cellsS done 0 = done.map fun w => .d (.str w) := by simp [cellsS]

end Go.Proofs.YtiaalcpkhlnpcabGreatDoor

namespace Go.Proofs
open Go.Shelf Go.RowKit Go.Lib
variable {P : Program} {ρ : Ren}

abbrev blanks2 : ByteArray := ⟨#[32, 9]⟩

set_option maxHeartbeats 8000000 in
set_option maxRecDepth 1000000 in
theorem IndexRune_high (L : Lays.n152 P ρ) (r : Int) (w : World) (h0 : 128 ≤ r) (h1 : Utf8.valid r = true) (h2 : r ≠ 65533) :
    Calls P (ρ.f 152) #[.string blanks2, .int .i32 r] w fun e w' => e = .returned (.int .i64 (-1)) ∧ Below w.heap.size w w' := by
  have mixed := L.mixed
  have t3 := L.t3; have a3 := L.a3; have z3 := L.z3; have v3 := L.v3
  have t4 := L.t4; have a4 := L.a4; have z4 := L.z4; have v4 := L.v4
  have t5 := L.t5; have a5 := L.a5; have z5 := L.z5; have v5 := L.v5
  have t9 := L.t9; have a9 := L.a9; have z9 := L.z9; have v9 := L.v9
  have t21 := L.t21; have a21 := L.a21; have z21 := L.z21; have v21 := L.v21
  have e137 : ∀ args w, (callFunc (ρ.f 137) args).run P w = .ok (.enter (ρ.f 137) args) w := enters_of L.f137 (by kernel_rfl) rfl
  go_enter L.f152, Body.n152_ntmps ρ
  have hlt : ¬ r < 128 := by omega
  have hge : (0 : Int) ≤ r := by omega
  have e119 : ∀ args w, (callFunc (ρ.f 119) args).run P w = .ok (.enter (ρ.f 119) args) w := enters_of L.f119 (by kernel_rfl) rfl
  obtain ⟨f1, f2, f3⟩ := encode_facts r h1 h0
  have hv : Lib.validRune r = true := by simp only [Utf8.valid] at h1; simp only [Lib.validRune]; simp at h1 ⊢; omega
  generalize hE : Utf8.encode r = E at f1 f2 f3
  go_wp2_with (first
    | (go_at_fn (ρ.f 119); refine (Any.utf8_ValidRune { L with } _ _).mono ?_; rintro e w' ⟨rfl, hw⟩; rw [hw, hv]))
  have hcv := fun w => run_convert_int_string (P := P) w (ρ.t 21) (ρ.t 9) .i32 r (by rw [t21]; rfl) t9
  rw [hE] at hcv
  go_step3
  go_wp2
  have hsz : blanks2.size = 2 := rfl
  go_loopg [9] 0 (fun gk s9 wx => gk = 0 ∧ s9 = .int .i64 ((E.size : Int) - 1) ∧ wx = w)
  case atStart => exact ⟨rfl, rfl, rfl⟩
  case round =>
    obtain ⟨rfl, rfl, rfl⟩ := hrel
    by_cases h22 : E.size = 2
    · have e1 : (E.size : Int) - 1 = 1 := by omega
      simp only [e1]
      have f4 : 1 < E.size := by omega
      have f5 : 128 ≤ (E[1]'f4).toNat := by have := f3 (by omega); simpa [h22] using this
      have f6 : ((blanks2)[1]'(by decide)).toNat = 9 := rfl
      go_wp2
      go_step3
      go_wp2
      go_quiet_o (fail)
      have hw2 : IntKind.i64.wrap 2 = 2 := by decide
      have f7 : ¬ ((9 : Int) = ((E[1]'f4).toNat : Int)) := by omega
      go_wp2
      have hb : Below wr.heap.size wr (wr.drewN nq) := ⟨rfl, rfl, rfl, Nat.le_refl _, fun _ _ => rfl⟩
      generalize wr.drewN nq = w2 at hb ⊢
      go_quiet_o (first | (go_at_fn (ρ.f 137); refine Calls.quiet_of_same (Any.strings_IndexByte { L with } _ _ _)))
      simp only [Lib.indexByte]
      go_wp2
      simp only [Exit.noGoto_ret, Exit.inBlock, Exit.then]
      go_ret
      exact ⟨rfl, hb.os, hb.tape, hb.output, hb.size, hb.block⟩
    · have e1 : ¬ (E.size : Int) - 1 < 2 := by omega
      go_wp2
      go_ret
      exact ⟨rfl, Below.refl _ _⟩

set_option maxHeartbeats 8000000 in
set_option maxRecDepth 1000000 in
theorem IndexRune_error (L : Lays.n152 P ρ) (w : World) :
    Calls P (ρ.f 152) #[.string blanks2, .int .i32 65533] w fun e w' => e = .returned (.int .i64 (-1)) ∧ Below w.heap.size w w' := by
  have mixed := L.mixed
  have t3 := L.t3; have a3 := L.a3; have z3 := L.z3; have v3 := L.v3
  have t4 := L.t4; have a4 := L.a4; have z4 := L.z4; have v4 := L.v4
  have t5 := L.t5; have a5 := L.a5; have z5 := L.z5; have v5 := L.v5
  have t9 := L.t9; have a9 := L.a9; have z9 := L.z9; have v9 := L.v9
  have t21 := L.t21; have a21 := L.a21; have z21 := L.z21; have v21 := L.v21
  go_enter L.f152, Body.n152_ntmps ρ
  go_wp2
  go_loopg [5, 6] 2 (fun gk _ _ wx => ∃ i : Nat, i + gk = 2 ∧ wx = w.iter blanks2 i)
  case atStart => exact ⟨0, rfl, rfl⟩
  case round =>
    obtain ⟨i, hig, rfl⟩ := hrel
    match i, hig with
    | 0, hig =>
      obtain rfl : gk = 2 := by omega
      have hnx := fun ty => run_next_ascii (P := P) w blanks2 0 ty (by decide) (by decide)
      go_wp2
      go_roundg 1
      case measure => omega
      case rel => exact ⟨1, rfl, rfl⟩
    | 1, hig =>
      obtain rfl : gk = 1 := by omega
      have hnx := fun ty => run_next_ascii (P := P) w blanks2 1 ty (by decide) (by decide)
      go_wp2
      go_roundg 0
      case measure => omega
      case rel => exact ⟨2, rfl, rfl⟩
    | 2, hig =>
      obtain rfl : gk = 0 := by omega
      have hnx := run_next_end (P := P) w blanks2 2
      go_wp2
      go_ret
      exact ⟨rfl, (Below.refl _ _).alloc (Nat.le_refl _) _⟩
    | k + 3, hig => omega

end Go.Proofs

namespace Go.Proofs
open Go.Shelf Go.RowKit Go.Lib
variable {P : Program} {ρ : Ren}

theorem decodeN_parts (n b0 b1 b2 b3 : Nat) (hn : 1 ≤ n) : (decodeN n b0 b1 b2 b3).2 = 1 ∨ ((decodeN n b0 b1 b2 b3).2 = 2 ∧ 1 < n ∧ 128 ≤ b1) ∨ ((decodeN n b0 b1 b2 b3).2 = 3 ∧ 2 < n ∧ 128 ≤ b1 ∧ 128 ≤ b2) ∨ ((decodeN n b0 b1 b2 b3).2 = 4 ∧ 3 < n ∧ 128 ≤ b1 ∧ 128 ≤ b2 ∧ 128 ≤ b3) := by
  unfold decodeN
  repeat' split
  all_goals first
    | exact .inl rfl
    | exact .inr (.inl ⟨rfl, by omega, by omega⟩)
    | exact .inr (.inr (.inl ⟨rfl, by omega, by omega, by omega⟩))
    | exact .inr (.inr (.inr ⟨rfl, by omega, by omega, by omega, by omega⟩))

theorem get_list (s : ByteArray) (j : Nat) (b : UInt8) (h : s.data.toList[j]? = some b) : s.get! j = b := by
  have hj : j < s.data.toList.length := (List.getElem?_eq_some_iff.1 h).1
  have hsz : j < s.size := by rw [← Lib.size_eq] at hj; exact hj
  have h1 := get_at s j hsz
  rw [Nat.add_zero] at h1
  rw [h1]
  have h2 := Lib.data_getElem? s j hsz
  rw [h] at h2
  exact (Option.some.inj h2).symm

theorem decode_step (s : ByteArray) (pos : Nat) (h : pos < s.size) (hb : 128 ≤ (s.get! pos).toNat) :
    128 ≤ (Utf8.decode s pos).1 ∧ Utf8.valid ((Utf8.decode s pos).1 : Int) = true ∧ 1 ≤ (Utf8.decode s pos).2 ∧ pos + (Utf8.decode s pos).2 ≤ s.size ∧ ∀ j, pos ≤ j → j < pos + (Utf8.decode s pos).2 → 128 ≤ (s.get! j).toNat := by
  have hs : s[pos]'h = s.get! pos := by
    have := Lib.data_getElem? s pos h
    rw [get_list s pos _ this]
  have h1 := decode_high s pos h (by rw [hs]; exact hb)
  have h2 := decodeN_valid (s.size - pos) (s.get! pos).toNat (s.get! (pos + 1)).toNat (s.get! (pos + 2)).toNat (s.get! (pos + 3)).toNat (UInt8.toNat_lt _)
  have h3 := decodeN_parts (s.size - pos) (s.get! pos).toNat (s.get! (pos + 1)).toNat (s.get! (pos + 2)).toNat (s.get! (pos + 3)).toNat (by omega)
  rw [← decode_at] at h2 h3
  refine ⟨h1.1, ?_, h1.2, by omega, fun j hj1 hj2 => ?_⟩
  · simp only [Utf8.valid]; simp; omega
  · obtain ⟨d, rfl⟩ : ∃ d, j = pos + d := ⟨j - pos, by omega⟩
    match d, hj2 with
    | 0, _ => exact hb
    | 1, hj2 => omega
    | 2, hj2 => omega
    | 3, hj2 => omega
    | d + 4, hj2 => omega

theorem noAny_jump {s : ByteArray} {i k : Nat} (h : NoAny s.data.toList blanks2.data.toList i) (hk : ∀ j, i ≤ j → j < i + k → 128 ≤ (s.get! j).toNat) : NoAny s.data.toList blanks2.data.toList (i + k) := by
  intro j b hj hb
  by_cases hji : j < i
  · exact h j b hji hb
  · have := hk j (by omega) hj
    rw [get_list s j b hb] at this
    have n1 : ¬ b = 32 := fun e => by rw [e] at this; exact absurd this (by decide)
    have n2 : ¬ b = 9 := fun e => by rw [e] at this; exact absurd this (by decide)
    show [(32 : UInt8), 9].contains b = false
    simp [n1, n2]

theorem IndexRune_any (L : Lays.n152 P ρ) (r : Nat) (w : World) (h0 : 128 ≤ r) (h1 : Utf8.valid (r : Int) = true) :
    Calls P (ρ.f 152) #[.string blanks2, .int .i32 r] w fun e w' => e = .returned (.int .i64 (-1)) ∧ Below w.heap.size w w' := by
  by_cases he : r = 65533
  · subst he; exact IndexRune_error L w
  · exact IndexRune_high L r w (by omega) h1 (by omega)

set_option maxHeartbeats 8000000 in
set_option maxRecDepth 1000000 in
theorem IndexAny_blank_short (L : Lays.n153 P ρ) (s : ByteArray) (w : World) (h8 : s.size ≤ 8) :
    Calls P (ρ.f 153) #[.string s, .string blanks2] w fun e w' => e = .returned (.int .i64 (Lib.indexAny s.data.toList blanks2.data.toList)) ∧ Below w.heap.size w w' := by
  have hemp : blanks2.toList.isEmpty = false := by rw [Lib.toList_data]; rfl
  have hn1 : ((blanks2.size : Int) == 1) = false := by decide
  have h8z : decide ((8 : Int) < (s.size : Int)) = false := decide_eq_false (by omega)
  have t3 := L.t3; have a3 := L.a3; have z3 := L.z3; have v3 := L.v3
  have t4 := L.t4; have a4 := L.a4; have z4 := L.z4; have v4 := L.v4
  have t5 := L.t5; have a5 := L.a5; have z5 := L.z5; have v5 := L.v5
  have t9 := L.t9; have a9 := L.a9; have z9 := L.z9; have v9 := L.v9
  have t21 := L.t21; have a21 := L.a21; have z21 := L.z21; have v21 := L.v21
  have e152 : ∀ args w, (callFunc (ρ.f 152) args).run P w = .ok (.enter (ρ.f 152) args) w := enters_of L.f152 (by kernel_rfl) rfl
  have e226 : ∀ args w, (callFunc (ρ.f 226) args).run P w = .ok (.enter (ρ.f 226) args) w := enters_of L.f226 (by kernel_rfl) rfl
  go_enter L.f153, Body.n153_ntmps ρ
  go_wp2_with (go_at_fn (ρ.f 226); refine (Any.strings_shouldUseASCIISet { L with } _ _).mono ?_; rintro e w' ⟨rfl, hw⟩; rw [hw, h8z])
  go_loopg [9, 10] s.size (fun gk _ _ wx => ∃ i : Nat, i + gk ≤ s.size ∧ s.size ≤ i + gk ∧ wx.heap[w.heap.size]? = some (.stringIter s i) ∧ Below w.heap.size w wx ∧ Lib.NoAny s.data.toList blanks2.data.toList i)
  case atStart =>
    refine ⟨0, by omega, by omega, ?_, (Below.refl _ _).alloc (Nat.le_refl _) _, Lib.NoAny.zero _ _⟩
    have := World.iter_heap w s 0
    simpa using this
  case round =>
    obtain ⟨i, hig, hig2, hit, hbw, hno⟩ := hrel
    have HN : Aside (Lib.NoAny s.data.toList blanks2.data.toList i) := hno
    clear hno
    by_cases hi : i < s.size
    · obtain ⟨g, rfl⟩ : ∃ g, gk = g + 1 := ⟨gk - 1, by omega⟩
      obtain ⟨x, hx⟩ : ∃ x : UInt8, s[i]'hi = x := ⟨_, rfl⟩
      have hxl : s.data.toList[i]? = some x := by rw [← hx]; exact Lib.data_getElem? s i hi
      have hxg := get_list s i x hxl
      have Hx : Aside (s.data.toList[i]? = some x) := hxl
      clear hxl
      have hsz : w.heap.size < wr.heap.size := (Array.getElem?_eq_some_iff.1 hit).1
      by_cases hx128 : x.toNat < 128
      · have hnx : ∀ ty, (Instr.next (.pointer (some ⟨w.heap.size, 0, none⟩)) true ty).run P wr = _ := fun ty => Lib.run_next_ascii_at wr w.heap.size s i ty hit hi (by rw [hx]; exact hx128)
        rw [hx] at hnx
        have hit2 := Lib.iterAt_heap wr w.heap.size s i (i + 1) hit
        have hbw2 := Lib.below_iterAt hbw (Nat.le_refl _) s (i + 1)
        have hcon := Lib.contains_iff_indexByte blanks2.data.toList x
        have hback : ((x.toNat : Int)).toNat.toUInt8 = x := by simp
        cases hin : blanks2.data.toList.contains x
        · rw [hin] at hcon
          have hlt : ¬ ((0 : Int) ≤ Lib.indexByte blanks2.data.toList x) := of_decide_eq_false hcon.symm
          clear hcon
          go_wp2_with (go_at_fn (ρ.f 152); refine (Any.strings_IndexRune_ascii { L with } _ _ _ (by omega) (by omega)).mono ?_; rintro e w' ⟨rfl, hw⟩; rw [hw, hback])
          go_roundg g
          case measure => omega
          case rel => exact ⟨i + 1, by omega, by omega, hit2, hbw2, HN.out.succ Hx.out hin⟩
        · rw [hin] at hcon
          have hge : (0 : Int) ≤ Lib.indexByte blanks2.data.toList x := of_decide_eq_true hcon.symm
          clear hcon
          go_wp2_with (go_at_fn (ρ.f 152); refine (Any.strings_IndexRune_ascii { L with } _ _ _ (by omega) (by omega)).mono ?_; rintro e w' ⟨rfl, hw⟩; rw [hw, hback])
          go_ret
          exact ⟨by rw [Lib.indexAny_hit HN.out Hx.out hin]; rfl, hbw2⟩
      · have hnx : ∀ ty, (Instr.next (.pointer (some ⟨w.heap.size, 0, none⟩)) true ty).run P wr = _ := fun ty => Lib.run_next_any_at wr w.heap.size s i ty hit hi
        obtain ⟨d1, d2, d3, d4, d5⟩ := decode_step s i hi (by rw [hxg]; omega)
        have hit2 := Lib.iterAt_heap wr w.heap.size s i (i + (Utf8.decode s i).2) hit
        have hbw2 := Lib.below_iterAt hbw (Nat.le_refl _) s (i + (Utf8.decode s i).2)
        have hsz2 : w.heap.size < (wr.iterAt w.heap.size s (i + (Utf8.decode s i).2)).heap.size := by rw [Lib.iterAt_size]; exact hsz
        have HJ : Aside (Lib.NoAny s.data.toList blanks2.data.toList (i + (Utf8.decode s i).2)) := noAny_jump HN.out d5
        clear d5
        generalize (Utf8.decode s i).1 = rr at d1 d2 hnx
        generalize (Utf8.decode s i).2 = kk at d3 d4 hnx hit2 hbw2 hsz2 HJ
        go_wp2_with (go_at_fn (ρ.f 152); refine (IndexRune_any { L with } rr _ d1 d2).mono ?_; rintro e w' ⟨rfl, hw⟩)
        go_roundg (g + 1 - kk)
        case measure => omega
        case rel =>
          refine ⟨i + kk, by omega, by omega, ?_, hbw2.trans ⟨hw.os, hw.tape, hw.output, hw.size, fun b hb => hw.block b (by omega)⟩, HJ.out⟩
          rw [hw.block _ hsz2]; exact hit2
    · obtain rfl : gk = 0 := by omega
      have hnx : ∀ ty, (Instr.next (.pointer (some ⟨w.heap.size, 0, none⟩)) true ty).run P wr = _ := fun ty => Lib.run_next_end_at wr w.heap.size s i ty hit hi
      go_wp2
      go_ret
      have e : i = s.data.toList.length := by rw [← Lib.size_eq]; omega
      exact ⟨by rw [Lib.indexAny_none (by rw [← e]; exact HN.out)]; rfl, hbw⟩

theorem IndexAny_blank (L : Lays.n153 P ρ) (h116 : (P.info? (ρ.t 116)).map (fun i => (i.zero, i.size)) = some (some (.agg (Array.replicate 256 (.bool false))), 256)) (s : ByteArray) (w : World) (hs : s.size < 4294967281) :
    Calls P (ρ.f 153) #[.string s, .string blanks2] w fun e w' => e = .returned (.int .i64 (Lib.indexAny s.data.toList blanks2.data.toList)) ∧ Below w.heap.size w w' := by
  by_cases h8 : s.size ≤ 8
  · exact IndexAny_blank_short L s w h8
  · refine (Any.strings_IndexAny_long L (zero_of_info h116).1 (zero_of_info h116).2 s blanks2 w (by decide) (by omega) hs (by decide) ?_).mono fun e w' ⟨h1, h2⟩ => ⟨h1, ?_⟩
    · intro j b hb
      have hm := List.mem_of_getElem? hb
      have : b = 32 ∨ b = 9 := by simpa using hm
      rcases this with rfl | rfl <;> decide
    · rw [h2]
      exact ((Below.refl _ _).alloc (Nat.le_refl _) _).alloc (by simp) _

end Go.Proofs

namespace Go.Proofs
open Go.Shelf
end Go.Proofs

namespace Go.Proofs.YtiaalcpkhlnpcabGreatDoor
open Go Go.Am Go.Asm

theorem has_wht (x : UInt8) : [(32 : UInt8), 9].contains x = wht x := by
  simp only [List.contains_cons, List.contains_nil, Bool.or_false, wht]
theorem trimS_W (s : Str) : Lib.trimS s [32, 9] = trimW s := by
  have e : (fun x => [(32 : UInt8), 9].contains x) = wht := funext has_wht
  unfold Lib.trimS Lib.trimLeftS Lib.trimRightS trimW trimL trimR
  rw [e]
def idxW (s : Str) : Int := if (opOf s).length < s.length then ((opOf s).length : Int) else -1
theorem indexAny_W (s : Str) : Lib.indexAny s [32, 9] = idxW s := by
  induction s with
  | nil => rfl
  | cons b l ih =>
    unfold Lib.indexAny
    rw [has_wht, ih]
    cases hb : wht b
    · have e : opOf (b :: l) = b :: opOf l := by simp [opOf, hb]
      unfold idxW
      rw [e]
      by_cases h : (opOf l).length < l.length
      · have : ¬ ((opOf l).length : Int) = -1 := by omega
        simp [h, this]
      · simp [h]
    · have e : opOf (b :: l) = [] := by simp [opOf, hb]
      unfold idxW
      rw [e]; simp

def trimsOf (rest : Str) : List Str := (splitC 44 rest).map trimW

end Go.Proofs.YtiaalcpkhlnpcabGreatDoor

namespace Go.Proofs.YtiaalcpkhlnpcabGreatDoor
open Go Go.Am Go.Asm

def nameOf (op : Nat) : Str := match op with | 0 => [] | k + 1 => names.getD k []
def shapeV (op : Nat) : AV := .agg [.d (.str (nameOf op)), .d (.bool (Asm.shape op).1), .d (.bool (Asm.shape op).2.1), .d (.int .i64 ((Asm.shape op).2.2 : Nat))]

theorem shapeV_none {op : Nat} (h : op = 0 ∨ 28 ≤ op) : shapeV op = .agg [.d (.str []), .d (.bool false), .d (.bool false), .d (.int .i64 0)] := by
  rcases h with rfl | h
  · rfl
  · have h1 : nameOf op = [] := by
      obtain ⟨k, rfl⟩ : ∃ k, op = k + 1 := ⟨op - 1, by omega⟩
      have : names.length ≤ k := by show 27 ≤ k; omega
      simp [nameOf, this]
    have h2 : Asm.shape op = (false, false, 0) := by
      unfold Asm.shape
      repeat rw [if_neg (by omega)]
    unfold shapeV; rw [h1, h2]; rfl

theorem frzV_shape {s : St} {n : Str} {a b : Bool} {c : Int} : FrzV s (.agg [.d (.str n), .d (.bool a), .d (.bool b), .d (.int .i64 c)]) (.agg [.d (.str n), .d (.bool a), .d (.bool b), .d (.int .i64 c)]) := by
  refine ⟨[.str n, .bool a, .bool b, .int .i64 c], rfl, fun i c hc => ?_, rfl⟩
  match i, hc with
  | 0, hc => cases hc; exact ⟨_, rfl, .d _⟩
  | 1, hc => cases hc; exact ⟨_, rfl, .d _⟩
  | 2, hc => cases hc; exact ⟨_, rfl, .d _⟩
  | 3, hc => cases hc; exact ⟨_, rfl, .d _⟩
theorem frzR_shape {s : St} {n : Str} {a b : Bool} {c : Int} : FrzR s [.agg [.d (.str n), .d (.bool a), .d (.bool b), .d (.int .i64 c)]] (.agg [.d (.str n), .d (.bool a), .d (.bool b), .d (.int .i64 c)]) := by
  exact frzV_shape

set_option maxHeartbeats 4000000 in
set_option maxRecDepth 100000 in
theorem shapeOf_A (op : Int) : PureR Tryz.prog 39 [iv .i64 op] (· = shapeV op.toNat) := by
  refine pure_of_wpR Tt_ok mixed Tryz.func39 rfl (by rfl) [.cell 2 84] rfl (by kernel_rfl) (by simp [Tryz.ntmps39]) fun g => ?_
  simp (config := { maxSteps := 1000000 }) only [go_sem,↓reduceIte]
  repeat' (first | refine And.intro (fun h => ?_) (fun h => ?_) | fail)
  all_goals first
    | (subst h
       exact ⟨_, frzV_shape, rfl⟩)
    | (have e : op.toNat = 0 ∨ 28 ≤ op.toNat := by omega
       refine ⟨_, frzV_shape, ?_⟩
       rw [shapeV_none e])

def knownN (op : Nat) : Bool := decide (1 ≤ op) && decide (op ≤ 27)
theorem nameOf_ne (op : Nat) : (decide (¬ nameOf op = [])) = knownN op := by
  unfold knownN
  by_cases h : op ≤ 27
  · have : ∀ k, k ≤ 27 → decide (¬ nameOf k = []) = (decide (1 ≤ k) && decide (k ≤ 27)) := by decide
    exact this op h
  · have h1 : nameOf op = [] := by
      obtain ⟨k, rfl⟩ : ∃ k, op = k + 1 := ⟨op - 1, by omega⟩
      have : names.length ≤ k := by show 27 ≤ k; omega
      simp [nameOf, this]
    simp [h1, h]
theorem known_A (op : Int) : PureR Tryz.prog 38 [iv .i64 op] (· = bv (knownN op.toNat)) := by
  refine pure_of_wp Tt_ok mixed Tryz.func38 rfl (by rfl) [2] rfl (by kernel_rfl) (by simp [Tryz.ntmps38]) fun g => ?_
  simp (config := { maxSteps := 1000000 }) only [go_sem,↓reduceIte]
  refine hook_call rfl (by simp (config := { maxSteps := 1000000 }) only [go_sem,↓reduceIte]; exact shapeOf_A op) (by simp (config := { maxSteps := 1000000 }) only [go_sem,↓reduceIte]; rfl) ?_
  rintro _ rfl
  unfold shapeV
  simp (config := { maxSteps := 1000000 }) only [go_sem,↓reduceIte]
  rw [← nameOf_ne]

def inW (v most : Int) (b : Bool) : Bool := if b = true then decide (0 ≤ v) && decide (v ≤ most) else decide (v = 0)
theorem within_A (v most : Int) (b : Bool) : PureR Tryz.prog 40 [iv .i64 v, iv .i64 most, bv b] (· = bv (inW v most b)) := by
  refine pure_of_wp Tt_ok mixed Tryz.func40 rfl (by rfl) [6] rfl (by kernel_rfl) (by simp [Tryz.ntmps40]) fun g => ?_
  unfold inW
  cases b
  · simp (config := { maxSteps := 1000000 }) only [go_sem,↓reduceIte]
  · simp (config := { maxSteps := 1000000 }) only [go_sem,↓reduceIte]
    exact ⟨fun h => by simp [h], fun h => by simp [h]⟩

/-- Is it an instruction that can be encoded? -/
def mostC (op : Nat) : Int := if (Asm.shape op).2.2 = 2 then 15 else 65535
def rightI (op a b c : Int) : Bool := knownN op.toNat && (inW a 15 (Asm.shape op.toNat).1 && (inW b 15 (Asm.shape op.toNat).2.1 && inW c (mostC op.toNat) (decide ((Asm.shape op.toNat).2.2 ≠ 0))))
def instV (op a b c : Int) : AV := .agg [.d (.int .i64 op), .d (.int .i64 a), .d (.int .i64 b), .d (.int .i64 c)]

set_option maxHeartbeats 2000000 in
theorem Right_A (op a b c : Int) : PureR Tryz.prog 25 [instV op a b c] (· = bv (rightI op a b c)) := by
  refine pure_of_wp Tt_ok mixed Tryz.func25 rfl (by rfl) [2] rfl (by kernel_rfl) (by simp [Tryz.ntmps25]) fun g => ?_
  unfold instV
  simp (config := { maxSteps := 1000000 }) only [go_sem,↓reduceIte]
  refine hook_call rfl (by simp (config := { maxSteps := 1000000 }) only [go_sem,↓reduceIte]; exact known_A op) (by simp (config := { maxSteps := 1000000 }) only [go_sem,↓reduceIte]; rfl) ?_
  rintro _ rfl
  cases hk : knownN op.toNat
  · simp (config := { maxSteps := 1000000 }) only [go_sem,↓reduceIte]
    simp [rightI, hk]
  simp (config := { maxSteps := 1000000 }) only [go_sem,↓reduceIte]
  refine hook_call rfl (by simp (config := { maxSteps := 1000000 }) only [go_sem,↓reduceIte]; exact shapeOf_A op) (by simp (config := { maxSteps := 1000000 }) only [go_sem,↓reduceIte]; rfl) ?_
  rintro _ rfl
  have hrr : rightI op a b c = (inW a 15 (Asm.shape op.toNat).1 && (inW b 15 (Asm.shape op.toNat).2.1 && inW c (mostC op.toNat) (decide ((Asm.shape op.toNat).2.2 ≠ 0)))) := by unfold rightI; rw [hk, Bool.true_and]
  rw [hrr]
  unfold shapeV mostC
  generalize (Asm.shape op.toNat).1 = p
  generalize (Asm.shape op.toNat).2.1 = q
  generalize (Asm.shape op.toNat).2.2 = r
  have hr0 : decide (¬ ((r : Nat) : Int) = 0) = decide (r ≠ 0) := by
    have : (((r : Nat) : Int) = 0) = (r = 0) := by apply propext; omega
    simp only [this, ne_eq]
  by_cases hr : r = 2
  case' pos =>
    have hri : ((r : Nat) : Int) = 2 := by omega
    rw [if_pos hr]
    simp (config := { maxSteps := 1000000 }) only [go_sem,↓reduceIte,hri]
  case' neg =>
    have hri : ¬ ((r : Nat) : Int) = 2 := by omega
    rw [if_neg hr]
    simp (config := { maxSteps := 1000000 }) only [go_sem,↓reduceIte,hri]
  all_goals
    refine hook_call rfl (by simp (config := { maxSteps := 1000000 }) only [go_sem,↓reduceIte]; exact within_A a 15 p) (by simp (config := { maxSteps := 1000000 }) only [go_sem,↓reduceIte]; rfl) ?_
    rintro _ rfl
    cases h1 : inW a 15 p
    · simp (config := { maxSteps := 1000000 }) only [go_sem,↓reduceIte]
      try simp
    simp (config := { maxSteps := 1000000 }) only [go_sem,↓reduceIte]
    refine hook_call rfl (by simp (config := { maxSteps := 1000000 }) only [go_sem,↓reduceIte]; exact within_A b 15 q) (by simp (config := { maxSteps := 1000000 }) only [go_sem,↓reduceIte]; rfl) ?_
    rintro _ rfl
    cases h2 : inW b 15 q
    · simp (config := { maxSteps := 1000000 }) only [go_sem,↓reduceIte]
      try simp
    simp (config := { maxSteps := 1000000 }) only [go_sem,↓reduceIte,hr0]
    refine hook_call rfl (by simp (config := { maxSteps := 1000000 }) only [go_sem,↓reduceIte,hr0]; exact within_A c _ _) (by simp (config := { maxSteps := 1000000 }) only [go_sem,↓reduceIte]; rfl) ?_
    rintro _ rfl
    simp (config := { maxSteps := 1000000 }) only [go_sem,↓reduceIte]
    first | done | (subst hr; simp; done) | simp

theorem or32 (x y : Nat) (hx : x < 4294967296) (hy : y < 4294967296) : (BitVec.ofInt 32 (x : Int) ||| BitVec.ofInt 32 (y : Int)).toNat = x ||| y := by
  rw [BitVec.toNat_or]
  have h : ∀ n : Nat, n < 4294967296 → (BitVec.ofInt 32 (n : Int)).toNat = n := fun n hn => by
    rw [BitVec.toNat_ofInt]
    omega
  rw [h x hx, h y hy]
theorem wrapN (n : Nat) (h : n < 4294967296) : IntKind.u32.wrap (n : Int) = n := by rw [IntKind.wrap_u32]; omega
theorem orAdd (a b k : Nat) (h : b < 2 ^ k) : (a * 2 ^ k) ||| b = a * 2 ^ k + b := by
  rw [Nat.mul_comm, Nat.two_pow_add_eq_or_of_lt h]
theorem word_or (o a b c : Nat) (h1 : o ≤ 27) (h2 : a ≤ 15) (h3 : b ≤ 15) (h4 : c ≤ 65535) : IntKind.u32.wrap
      ((BitVec.ofInt 32
              (IntKind.u32.wrap
                ((BitVec.ofInt 32
                        (IntKind.u32.wrap
                          ((BitVec.ofInt 32 (IntKind.u32.wrap ((o : Int) * 2 ^ min 24 32)) |||
                                BitVec.ofInt 32 (IntKind.u32.wrap ((a : Int) * 2 ^ min 20 32))).toNat : Int)) |||
                      BitVec.ofInt 32 (IntKind.u32.wrap ((b : Int) * 2 ^ min 16 32))).toNat : Int)) |||
            BitVec.ofInt 32 (c : Int)).toNat : Int) = (word o a b c : Nat) := by
  have e1 : ((o : Int) * 2 ^ min 24 32) = ((o * 2 ^ 24 : Nat) : Int) := by rw [Int.natCast_mul]; rfl
  have e2 : ((a : Int) * 2 ^ min 20 32) = ((a * 2 ^ 20 : Nat) : Int) := by rw [Int.natCast_mul]; rfl
  have e3 : ((b : Int) * 2 ^ min 16 32) = ((b * 2 ^ 16 : Nat) : Int) := by rw [Int.natCast_mul]; rfl
  rw [e1, e2, e3, wrapN (o * 2 ^ 24) (by omega), wrapN (a * 2 ^ 20) (by omega), wrapN (b * 2 ^ 16) (by omega), or32 (o * 2 ^ 24) (a * 2 ^ 20) (by omega) (by omega), orAdd o (a * 2 ^ 20) 24 (by omega),
    wrapN (o * 2 ^ 24 + a * 2 ^ 20) (by omega), or32 (o * 2 ^ 24 + a * 2 ^ 20) (b * 2 ^ 16) (by omega) (by omega),
    show o * 2 ^ 24 + a * 2 ^ 20 = (o * 16 + a) * 2 ^ 20 by omega, orAdd (o * 16 + a) (b * 2 ^ 16) 20 (by omega), wrapN ((o * 16 + a) * 2 ^ 20 + b * 2 ^ 16) (by omega), or32 ((o * 16 + a) * 2 ^ 20 + b * 2 ^ 16) c (by omega) (by omega),
    show (o * 16 + a) * 2 ^ 20 + b * 2 ^ 16 = ((o * 16 + a) * 16 + b) * 2 ^ 16 by omega, orAdd ((o * 16 + a) * 16 + b) c 16 (by omega), wrapN (((o * 16 + a) * 16 + b) * 2 ^ 16 + c) (by omega)]
  have e : ((o * 16 + a) * 16 + b) * 2 ^ 16 + c = word o a b c := by unfold word; omega
  rw [e]

theorem encode_bounds {op a b c : Int} (h : rightI op a b c = true) : 1 ≤ op ∧ op ≤ 27 ∧ 0 ≤ a ∧ a ≤ 15 ∧ 0 ≤ b ∧ b ≤ 15 ∧ 0 ≤ c ∧ c ≤ 65535 := by
  unfold rightI at h
  simp only [Bool.and_eq_true] at h
  obtain ⟨h1, h2, h3, h4⟩ := h
  have hin : ∀ {v m : Int} {p : Bool}, 0 ≤ m → inW v m p = true → 0 ≤ v ∧ v ≤ m := by
    intro v m p hm hv
    unfold inW at hv
    split at hv
    · simpa using hv
    · have : v = 0 := by simpa using hv
      omega
  have h2 := hin (by decide) h2
  have h3 := hin (by decide) h3
  have hm : 0 ≤ mostC op.toNat ∧ mostC op.toNat ≤ 65535 := by unfold mostC; split <;> decide
  have h4 := hin hm.1 h4
  simp only [knownN, Bool.and_eq_true, decide_eq_true_eq] at h1
  omega

set_option maxHeartbeats 2000000 in
theorem Encode_A (op a b c : Int) : PureR Tryz.prog 56 [instV op a b c] (· = if rightI op a b c = true then .tup [iv .u32 (word op.toNat a.toNat b.toNat c.toNat : Nat), iv .i64 0] else .tup [iv .u32 0, iv .i64 1]) := by
  refine pure_of_wp Tt_ok mixed Tryz.func56 rfl (by rfl) [2, 3] rfl (by kernel_rfl) (by simp [Tryz.ntmps56]) fun g => ?_
  unfold instV
  simp (config := { maxSteps := 1000000 }) only [go_sem,↓reduceIte]
  refine hook_call rfl (by simp (config := { maxSteps := 1000000 }) only [go_sem,↓reduceIte]; exact Right_A op a b c) (by simp (config := { maxSteps := 1000000 }) only [go_sem,↓reduceIte]; rfl) ?_
  rintro _ rfl
  cases hk : rightI op a b c
  · simp (config := { maxSteps := 1000000 }) only [go_sem,↓reduceIte]
    try rfl
  obtain ⟨b1, b2, b3, b4, b5, b6, b7, b8⟩ := encode_bounds hk
  have w1 : IntKind.u32.wrap op = op := by rw [IntKind.wrap_u32] <;> omega
  have w2 : IntKind.u32.wrap a = a := by rw [IntKind.wrap_u32] <;> omega
  have w3 : IntKind.u32.wrap b = b := by rw [IntKind.wrap_u32] <;> omega
  have w4 : IntKind.u32.wrap c = c := by rw [IntKind.wrap_u32] <;> omega
  simp (config := { maxSteps := 1000000 }) only [go_sem,↓reduceIte,w1, w2, w3, w4]
  obtain ⟨o, rfl⟩ : ∃ n : Nat, op = n := ⟨op.toNat, by omega⟩
  obtain ⟨a, rfl⟩ : ∃ n : Nat, a = n := ⟨a.toNat, by omega⟩
  obtain ⟨b, rfl⟩ : ∃ n : Nat, b = n := ⟨b.toNat, by omega⟩
  obtain ⟨c, rfl⟩ : ∃ n : Nat, c = n := ⟨c.toNat, by omega⟩
  simp only [Int.toNat_natCast]
  exact word_or o a b c (by omega) (by omega) (by omega) (by omega)

end Go.Proofs.YtiaalcpkhlnpcabGreatDoor
