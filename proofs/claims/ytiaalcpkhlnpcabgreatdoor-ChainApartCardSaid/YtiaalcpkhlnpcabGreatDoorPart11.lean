/- A part of the proof; no conditions. -/
import Derived.Test.YtiaalcpkhlnpcabGreatDoorPart10
import Derived.Test.YtiaalcpkhlnpcabGreatDoorProg
set_option linter.unusedSimpArgs false
set_option linter.unusedVariables false
namespace Go.Proofs.YtiaalcpkhlnpcabGreatDoor
open Go Go.Am Go.Asm

theorem names_get {k : Nat} (h : k < names.length) : names.getD k [] = names[k] := by simp [h]
theorem opNum_hit {s : Str} {k : Nat} (hk : k < 27) (h : names.getD k [] = s) (hno : ∀ j, j < k → names.getD j [] ≠ s) : opNum s = k + 1 := by
  have hl : names.length = 27 := rfl
  have : names.idxOf? s = some k := List.idxOf?_eq_some_iff.2 ⟨by omega, by rw [← names_get (by omega)]; exact h, fun j hj => by rw [← names_get (by omega)]; exact hno j hj⟩
  unfold opNum; rw [this]
theorem opNum_none {s : Str} (hno : ∀ j, j < 27 → names.getD j [] ≠ s) : opNum s = 0 := by
  have hl : names.length = 27 := rfl
  have : names.idxOf? s = none := List.idxOf?_eq_none_iff.2 fun hm => by
    obtain ⟨j, hj, e⟩ := List.getElem_of_mem hm
    exact hno j (by omega) (by rw [names_get hj]; exact e)
  unfold opNum; rw [this]
theorem opNum_le (s : Str) : opNum s ≤ 27 := by
  unfold opNum
  split
  · rename_i i h
    obtain ⟨h1, _⟩ := List.idxOf?_eq_some_iff.1 h
    have hl : names.length = 27 := rfl
    omega
  · omega

end Go.Proofs.YtiaalcpkhlnpcabGreatDoor

namespace Go.Proofs.YtiaalcpkhlnpcabGreatDoor
open Go Go.Am Go.Asm

def prV : PR → AV
  | .ok n => .tup [iv .u32 (n : Nat), iv .i64 0]
  | .syn => .tup [iv .u32 0, iv .i64 3]
  | .rng => .tup [iv .u32 0, iv .i64 2]

theorem decN_snoc (s : Str) (c : UInt8) : decN (s ++ [c]) = 10 * decN s + (c.toNat - 48) := by simp [decN, decF]
theorem dec_pow {s : Str} (n : Nat) : n * 10 ^ s.length ≤ s.foldl decF n := by
  induction s generalizing n with
  | nil => simp
  | cons c s ih =>
    simp only [List.foldl_cons, List.length_cons]
    refine Nat.le_trans ?_ (ih (decF n c))
    rw [Nat.pow_succ, show n * (10 ^ s.length * 10) = (10 * n) * 10 ^ s.length by rw [Nat.mul_comm (10 ^ s.length) 10, ← Nat.mul_assoc, Nat.mul_comm n 10]]
    exact Nat.mul_le_mul_right _ (by unfold decF; omega)
theorem dec_lt {s : Str} (h : s.all digit = true) : ∀ n, s.foldl decF n < (n + 1) * 10 ^ s.length := by
  induction s with
  | nil => intro n; simp
  | cons c s ih =>
    intro n
    simp only [List.all_cons, Bool.and_eq_true] at h
    simp only [List.foldl_cons, List.length_cons]
    refine Nat.lt_of_lt_of_le (ih h.2 (decF n c)) ?_
    rw [Nat.pow_succ, show (n + 1) * (10 ^ s.length * 10) = (10 * (n + 1)) * 10 ^ s.length by rw [Nat.mul_comm (10 ^ s.length) 10, ← Nat.mul_assoc, Nat.mul_comm (n + 1) 10]]
    have hc := h.1
    simp only [digit, Bool.and_eq_true, decide_eq_true_eq] at hc
    exact Nat.mul_le_mul_right _ (by unfold decF; omega)
theorem dec_big {c : UInt8} {r : Str} (hd : digit c = true) (hc : c ≠ 48) (hl : 10 ≤ r.length) : 4294967295 < decN (c :: r) := by
  have h1 : 1 ≤ c.toNat - 48 := by
    simp only [digit, Bool.and_eq_true, decide_eq_true_eq] at hd
    have : c.toNat ≠ 48 := fun e => hc (UInt8.toNat_inj.1 e)
    omega
  have h2 := dec_pow (s := r) (c.toNat - 48)
  have h3 : 10 ^ 10 ≤ 10 ^ r.length := Nat.pow_le_pow_right (by decide) hl
  have h4 : 10 ^ r.length ≤ (c.toNat - 48) * 10 ^ r.length := Nat.le_mul_of_pos_left _ h1
  have e : decN (c :: r) = r.foldl decF (c.toNat - 48) := by simp [decN, decF]
  rw [e]
  have : (10 : Nat) ^ 10 = 10000000000 := by decide
  omega

theorem digit_dom {c : UInt8} (h : digit c = true) : 48 ≤ c.toNat ∧ c.toNat ≤ 57 := by
  simpa only [digit, Bool.and_eq_true, decide_eq_true_eq] using h
theorem digit_not {c : UInt8} (h : digit c = false) : c.toNat < 48 ∨ 57 < c.toNat := by
  by_cases h1 : 48 ≤ c.toNat
  · by_cases h2 : c.toNat ≤ 57
    · simp [digit, h1, h2] at h
    · omega
  · omega
theorem decN_take {s : Str} {k : Nat} {c : UInt8} (h : s[k]? = some c) : decN (s.take (k + 1)) = 10 * decN (s.take k) + (c.toNat - 48) := by
  rw [List.take_add_one, h]; exact decN_snoc _ _
theorem all_pre {s : Str} {p : UInt8 → Bool} (h : s.all p = true) (k : Nat) : (s.take k).all p = true := by
  rw [List.all_eq_true] at h ⊢
  exact fun x hx => h x (List.mem_of_mem_take hx)

end Go.Proofs.YtiaalcpkhlnpcabGreatDoor

namespace Go.Proofs.YtiaalcpkhlnpcabGreatDoor
open Go Go.RowKit Go.Shelf

def hexs (i : Nat) : Int := if i < 10 then 48 + i else 87 + i
/-- A digit's number; below 0: it is none. -/
def valI (c : UInt8) : Int := if 48 ≤ c.toNat ∧ c.toNat ≤ 57 then c.toNat - 48 else if 97 ≤ c.toNat ∧ c.toNat ≤ 102 then c.toNat - 87 else if 65 ≤ c.toNat ∧ c.toNat ≤ 70 then c.toNat - 55 else -1

theorem valI_hit {c : UInt8} {x : Int} {i : Nat} (hi : i < 16) (hx : (65 ≤ c.toNat ∧ c.toNat ≤ 70 ∧ x = c.toNat + 32) ∨ (¬ (65 ≤ c.toNat ∧ c.toNat ≤ 70) ∧ x = c.toNat)) (h : hexs i = x) : valI c = i := by
  unfold hexs at h
  unfold valI
  repeat' split
  all_goals (split at h <;> omega)
theorem valI_none {c : UInt8} {x : Int} (hx : (65 ≤ c.toNat ∧ c.toNat ≤ 70 ∧ x = c.toNat + 32) ∨ (¬ (65 ≤ c.toNat ∧ c.toNat ≤ 70) ∧ x = c.toNat)) (h : ∀ j, j < 16 → hexs j ≠ x) : valI c = -1 := by
  have e1 : ∀ j : Nat, j < 10 → x ≠ 48 + j := fun j hj e => h j (by omega) (by unfold hexs; rw [if_pos hj]; omega)
  have e2 : ∀ j : Nat, 10 ≤ j → j < 16 → x ≠ 87 + j := fun j hj hj2 e => h j hj2 (by unfold hexs; rw [if_neg (by omega)]; omega)
  unfold valI
  split
  · rename_i hc
    exact absurd (by omega : x = 48 + ((c.toNat - 48 : Nat) : Int)) (e1 (c.toNat - 48) (by omega))
  split
  · rename_i hc
    exact absurd (by omega : x = 87 + ((c.toNat - 87 : Nat) : Int)) (e2 (c.toNat - 87) (by omega) (by omega))
  split
  · rename_i hc
    exact absurd (by omega : x = 87 + ((c.toNat - 55 : Nat) : Int)) (e2 (c.toNat - 55) (by omega) (by omega))
  · rfl

end Go.Proofs.YtiaalcpkhlnpcabGreatDoor

namespace Go.Am
/-- A kit's contract under a premise on one old block. -/
theorem pureG_of_shelf {P : Program} {gb : Nat} {o : Hold} {f : FuncId} {args : List AV} (hf : Fine P f) (hs : (args.all fun x => match x with | .one c => scalarC c | _ => false) = true) {r : AV} (hr : scalarAV r = true)
    (h : ∀ w : World, Held gb o w → Calls P f (args.map scVal).toArray w fun e w' => e = .returned (scVal r) ∧ w.heap.size ≤ w'.heap.size ∧ (∀ b, b < w.heap.size → w'.heap[b]? = w.heap[b]?) ∧ (w'.os = w.os ∧ w'.output = w.output)) : PureG P gb o f args (· = r) := by
  refine ⟨hf, fun J w vs hG hJ hv => ?_⟩
  have hvs : vs = args.map scVal := by
    clear h hf
    induction args generalizing vs with
    | nil => simp only [RVs] at hv; exact hv
    | cons x xs ih =>
      simp only [RVs] at hv
      obtain ⟨u, us, rfl, h1, h2⟩ := hv
      simp only [List.all_cons, Bool.and_eq_true] at hs
      rw [List.map_cons, ← ih hs.2 us h2]
      congr 1
      cases x with
      | one c =>
        simp only [RV, RVc] at h1
        obtain ⟨x, rfl, h1⟩ := h1
        simp only [scVal, scC]
        exact RepD.scalar hs.1 h1
      | _ => simp at hs
  rw [hvs]
  refine (h w hG).mono fun e w' ⟨he, h1, h2, h3⟩ => ⟨_, r, he, rfl, h1, h2, h3, ?_⟩
  exact scVal_rep hr
end Go.Am
namespace Go.Proofs.YtiaalcpkhlnpcabGreatDoor
open Go Go.Am Go.Asm

/-- The table's block. -/
def SmallO (o : Hold) : Prop := ∀ w : World, Held 0 o w → ∀ i : Nat, i < 16 → w.cell? ⟨0, i, none⟩ = some (.int .u8 (hexs i))

/-- The bytes of a text in sixteens: an odd length or another byte: none. -/
def pairs : Str → List UInt8
  | a :: b :: r => UInt8.ofNat (16 * (valI a).toNat + (valI b).toNat) :: pairs r
  | _ => []
theorem pairs_snoc : ∀ (p : Str) (a : UInt8), p.length % 2 = 0 → pairs (p ++ [a]) = pairs p
  | [], _, _ => rfl
  | [_], _, h => by simp at h
  | x :: y :: r, a, h => by
    have ih := pairs_snoc r a (by simp only [List.length_cons] at h; omega)
    simp only [List.cons_append, pairs, ih]
theorem pairs_two : ∀ (p : Str) (a b : UInt8), p.length % 2 = 0 → pairs (p ++ [a, b]) = pairs p ++ [UInt8.ofNat (16 * (valI a).toNat + (valI b).toNat)]
  | [], _, _, _ => rfl
  | [_], _, _, h => by simp at h
  | x :: y :: r, a, b, h => by
    have ih := pairs_two r a b (by simp only [List.length_cons] at h; omega)
    simp only [List.cons_append, pairs, ih]
theorem pairs_len : ∀ (p : Str), (pairs p).length = p.length / 2
  | [] => rfl
  | [_] => by simp [pairs]
  | x :: y :: r => by
    have ih := pairs_len r
    simp only [pairs, List.length_cons, ih]; omega
theorem valI_le (c : UInt8) : valI c ≤ 15 := by unfold valI; repeat' split <;> omega
def allHex (s : Str) : Bool := s.all fun c => decide (0 ≤ valI c)

theorem u8s_pairs : ∀ l : List UInt8, u8s (l.map fun b => .d (.int .u8 (b.toNat : Nat))) = some (l.map fun b => ((b.toNat : Nat) : Int))
  | [] => rfl
  | b :: l => by
    have ih := u8s_pairs l
    simp only [List.map_cons, u8s] at ih ⊢
    rw [ih]; rfl
theorem frz1 {s : St} (x : D) : FrzV s (.one (.d x)) (.one (.d (normD x))) := ⟨_, .d x, rfl⟩

end Go.Proofs.YtiaalcpkhlnpcabGreatDoor

namespace Go.Src
open Go.Asm (Str digit letter nameC decN)

structure Tok where
  kind : Nat
  text : Str
  num : Nat
  place : Nat
  deriving DecidableEq

def wordsT : List Str := [[118, 97, 114], [97, 114, 114, 97, 121], [102, 117, 110, 99], [119, 111, 114, 100], [105, 102], [101, 108, 115, 101], [119, 104, 105, 108, 101], [114, 101, 116, 117, 114, 110], [112, 117, 116], [103, 101, 116]]
def signsT : List Str := [[60, 60], [62, 62], [61, 61], [38, 38], [124, 124], [40], [41], [123], [125], [91], [93], [59], [44], [61], [43], [45], [42], [47], [37], [38], [124], [94], [60], [33]]

inductive R (α : Type) where
  | ok (a : α)
  | err (e : Nat)

/-- The token with which a text begins: kind, text, number. -/
def firstT (s : Str) : R (Nat × Str × Nat) :=
  match s with
  | [] => .err 3
  | c :: _ =>
    if digit c = true then (if 4294967295 < decN (s.takeWhile digit) then .err 2 else .ok (2, s.takeWhile digit, decN (s.takeWhile digit)))
    else if c = 39 then
      (match s with
       | _ :: x :: y :: _ => if y = 39 ∧ 32 ≤ x.toNat ∧ x.toNat ≤ 126 ∧ x ≠ 39 ∧ x ≠ 92 then .ok (2, [c, x, y], x.toNat) else .err 3
       | _ => .err 3)
    else if letter c = true then
      (if 20 < (s.takeWhile nameC).length then .err 2 else if (s.takeWhile nameC) ∈ wordsT then .ok (3, s.takeWhile nameC, 0) else .ok (1, s.takeWhile nameC, 0))
    else match signsT.find? (fun t => t.isPrefixOf s) with
      | some t => .ok (4, t, 0)
      | none => .err 3

/-- From a place on: all tokens, or a place and an error. -/
def lexGo : Nat → Nat → Str → R (List Tok) × Nat
  | 0, _, _ => (.ok [], 0)
  | _ + 1, _, [] => (.ok [], 0)
  | n + 1, k, c :: r =>
    if c = 32 ∨ c = 9 ∨ c = 10 then lexGo n (k + 1) r
    else if c = 47 ∧ r.head? = some 47 then lexGo n (k + ((c :: r).takeWhile (· != 10)).length) ((c :: r).dropWhile (· != 10))
    else match firstT (c :: r) with
      | .err e => (.err e, k)
      | .ok (kd, t, v) => match lexGo n (k + t.length) ((c :: r).drop t.length) with
        | (.ok l, p) => (.ok (⟨kd, t, v, k⟩ :: l), p)
        | (.err e, p) => (.err e, p)

/-- All tokens of a text, a place, an error. -/
def lexA (s : Str) : List Tok × Nat × Nat :=
  if 20000 < s.length then ([], 0, 2)
  else match lexGo (s.length + 1) 0 s with
    | (.ok l, _) => (l, 0, 0)
    | (.err e, p) => ([], p, e)

inductive Ex where
  | mk (kind op num : Int) (name : Str) (kids : List Ex)
inductive Stm where
  | mk (kind : Int) (name : Str) (e : List Ex) (th el : List Stm)
structure Fn where
  name : Str
  params : List Str
  locals : List Str
  word : Bool
  body : List Stm
structure Prog where
  vars : List Str
  arrays : List (Str × Int)
  funcs : List Fn

/-- What a reader's method makes of the tokens that come: something and the tokens behind it, or nothing: the tokens at which it fails. -/
inductive P (α : Type) where
  | ok (a : α) (ts : List Tok)
  | no (ts : List Tok)

def P.bind {α β : Type} (x : P α) (f : α → List Tok → P β) : P β := match x with | .ok a ts => f a ts | .no ts => .no ts

def kindP : List Tok → Nat | t :: _ => t.kind | [] => 0
def peekP : List Tok → Str | t :: _ => if t.kind = 3 ∨ t.kind = 4 then t.text else [] | [] => []
def failAt (fin : Nat) : List Tok → Nat | t :: _ => t.place | [] => fin
def takeP (k : Nat) : List Tok → P Tok
  | t :: ts => if t.kind = k then .ok t ts else .no (t :: ts)
  | [] => .no []
def mayP (s : Str) (ts : List Tok) : Option (List Tok) := if peekP ts = s then some (ts.drop 1) else none
def mustP : List Str → List Tok → P Unit
  | [], ts => .ok () ts
  | s :: l, ts => if peekP ts = s then mustP l (ts.drop 1) else .no ts

/-- A sign's kind, operation and strength; strength 0: none. -/
def signP (s : Str) : Int × Int × Nat :=
  if s = [124, 124] then (9, 0, 1) else if s = [38, 38] then (8, 0, 2) else if s = [61, 61] then (6, 15, 3) else if s = [60] then (6, 14, 4)
  else if s = [124] then (6, 10, 5) else if s = [94] then (6, 11, 5) else if s = [38] then (6, 9, 6) else if s = [60, 60] then (6, 12, 7) else if s = [62, 62] then (6, 13, 7)
  else if s = [43] then (6, 4, 8) else if s = [45] then (6, 5, 8) else if s = [42] then (6, 6, 9) else if s = [47] then (6, 7, 9) else if s = [37] then (6, 8, 9) else (0, 0, 0)

def sOpen : Str := [40]
def sClose : Str := [41]
def sComma : Str := [44]
def sSemi : Str := [59]

mutual
def exprP : Nat → Nat → List Tok → P Ex
  | 0, _, ts => .no ts
  | n + 1, least, ts => (atomP n ts).bind fun left ts => restP n least left ts
def restP : Nat → Nat → Ex → List Tok → P Ex
  | 0, _, _, ts => .no ts
  | n + 1, least, left, ts =>
    if (signP (peekP ts)).2.2 < least then .ok left ts
    else (exprP n ((signP (peekP ts)).2.2 + 1) (ts.drop 1)).bind fun right ts' => restP n least (.mk (signP (peekP ts)).1 (signP (peekP ts)).2.1 0 [] [left, right]) ts'
def atomP : Nat → List Tok → P Ex
  | 0, ts => .no ts
  | n + 1, ts =>
    if kindP ts = 2 then (takeP 2 ts).bind fun t ts => .ok (.mk 1 0 t.num [] []) ts
    else if peekP ts = [103, 101, 116] then (mustP [sOpen, sClose] (ts.drop 1)).bind fun _ ts => .ok (.mk 5 0 0 [] []) ts
    else if peekP ts = sOpen then (exprP n 1 (ts.drop 1)).bind fun e ts => (mustP [sClose] ts).bind fun _ ts => .ok e ts
    else if peekP ts = [33] then (atomP n (ts.drop 1)).bind fun e ts => .ok (.mk 7 0 0 [] [e]) ts
    else (takeP 1 ts).bind fun t ts =>
      if peekP ts = [91] then (exprP n 1 (ts.drop 1)).bind fun e ts => (mustP [[93]] ts).bind fun _ ts => .ok (.mk 3 0 0 t.text [e]) ts
      else if peekP ts = sOpen then (argsP n (ts.drop 1)).bind fun l ts => .ok (.mk 4 0 0 t.text l) ts
      else .ok (.mk 2 0 0 t.text []) ts
def argsP : Nat → List Tok → P (List Ex)
  | 0, ts => .no ts
  | n + 1, ts =>
    if peekP ts = sClose then .ok [] (ts.drop 1)
    else (exprP n 1 ts).bind fun e ts => moreP n [e] ts
def moreP : Nat → List Ex → List Tok → P (List Ex)
  | 0, _, ts => .no ts
  | n + 1, l, ts =>
    if peekP ts = sComma then (exprP n 1 (ts.drop 1)).bind fun e ts => moreP n (l ++ [e]) ts
    else (mustP [sClose] ts).bind fun _ ts => .ok l ts
end

/-- Fuel enough for so many tokens. -/
def fuelP (ts : List Tok) : Nat := 20 * ts.length + 40

def roundP (ts : List Tok) : P (List Ex) := (mustP [sOpen] ts).bind fun _ ts => (exprP (fuelP ts) 1 ts).bind fun e ts => (mustP [sClose] ts).bind fun _ ts => .ok [e] ts

def namedP (ts : List Tok) : P Stm :=
  (takeP 1 ts).bind fun t ts =>
    (if peekP ts = [61] then (exprP (fuelP ts) 1 (ts.drop 1)).bind fun e ts => .ok (.mk 1 t.text [e] [] []) ts
     else if peekP ts = [91] then (exprP (fuelP ts) 1 (ts.drop 1)).bind fun i ts => (mustP [[93], [61]] ts).bind fun _ ts => (exprP (fuelP ts) 1 ts).bind fun e ts => .ok (.mk 2 t.text [i, e] [] []) ts
     else if peekP ts = sOpen then (argsP (fuelP ts) (ts.drop 1)).bind fun l ts => .ok (.mk 6 t.text l [] []) ts
     else .no ts).bind fun s ts => (mustP [sSemi] ts).bind fun _ ts => .ok s ts

mutual
def stmtP : Nat → List Tok → P Stm
  | 0, ts => .no ts
  | n + 1, ts =>
    if peekP ts = [112, 117, 116] then (roundP (ts.drop 1)).bind fun e ts => (mustP [sSemi] ts).bind fun _ ts => .ok (.mk 3 [] e [] []) ts
    else if peekP ts = [114, 101, 116, 117, 114, 110] then
      (if peekP (ts.drop 1) = sSemi then .ok (.mk 7 [] [] [] []) (ts.drop 2)
       else (exprP (fuelP ts) 1 (ts.drop 1)).bind fun e ts => (mustP [sSemi] ts).bind fun _ ts => .ok (.mk 7 [] [e] [] []) ts)
    else if peekP ts = [105, 102] then
      (roundP (ts.drop 1)).bind fun e ts => (bodyP n ts).bind fun th ts =>
        if peekP ts = [101, 108, 115, 101] then (bodyP n (ts.drop 1)).bind fun el ts => .ok (.mk 4 [] e th el) ts
        else .ok (.mk 4 [] e th []) ts
    else if peekP ts = [119, 104, 105, 108, 101] then
      (roundP (ts.drop 1)).bind fun e ts => (bodyP n ts).bind fun th ts => .ok (.mk 5 [] e th []) ts
    else namedP ts
def bodyP : Nat → List Tok → P (List Stm)
  | 0, ts => .no ts
  | n + 1, ts => (mustP [[123]] ts).bind fun _ ts => stmtsP n [] ts
def stmtsP : Nat → List Stm → List Tok → P (List Stm)
  | 0, _, ts => .no ts
  | n + 1, l, ts =>
    if peekP ts = [125] then .ok l (ts.drop 1)
    else (stmtP n ts).bind fun s ts => stmtsP n (l ++ [s]) ts
end

/-- Names, the first ones read. -/
def namesGo : Nat → List Str → List Tok → P (List Str)
  | 0, _, ts => .no ts
  | n + 1, l, ts => if peekP ts = sComma then (takeP 1 (ts.drop 1)).bind fun t ts => namesGo n (l ++ [t.text]) ts else .ok l ts
def namesP (ts : List Tok) : P (List Str) := (takeP 1 ts).bind fun t ts => namesGo (ts.length + 1) [t.text] ts
def localsP : Nat → List Str → List Tok → P (List Str)
  | 0, _, ts => .no ts
  | n + 1, l, ts => if peekP ts = [118, 97, 114] then (namesP (ts.drop 1)).bind fun m ts => (mustP [sSemi] ts).bind fun _ ts => localsP n (l ++ m) ts else .ok l ts
def funP (ts : List Tok) : P Fn :=
  (mustP [[102, 117, 110, 99]] ts).bind fun _ ts => (takeP 1 ts).bind fun t ts => (mustP [sOpen] ts).bind fun _ ts =>
    (if kindP ts = 1 then namesP ts else .ok [] ts).bind fun ps ts => (mustP [sClose] ts).bind fun _ ts =>
      let word := decide (peekP ts = [119, 111, 114, 100])
      (mustP [[123]] (if word then ts.drop 1 else ts)).bind fun _ ts => (localsP (ts.length + 1) [] ts).bind fun ls ts =>
        (stmtsP (fuelP ts) [] ts).bind fun b ts => .ok ⟨t.text, ps, ls, word, b⟩ ts
/-- Variables and arrays. -/
def headP : Nat → List Str → List (Str × Int) → List Tok → P (List Str × List (Str × Int))
  | 0, _, _, ts => .no ts
  | n + 1, vs, ars, ts =>
    if peekP ts = [118, 97, 114] then (namesP (ts.drop 1)).bind fun m ts => (mustP [sSemi] ts).bind fun _ ts => headP n (vs ++ m) ars ts
    else if peekP ts = [97, 114, 114, 97, 121] then
      (takeP 1 (ts.drop 1)).bind fun t ts => (mustP [[91]] ts).bind fun _ ts => (takeP 2 ts).bind fun k ts => (mustP [[93]] ts).bind fun _ ts => (mustP [sSemi] ts).bind fun _ ts => headP n vs (ars ++ [(t.text, (k.num : Int))]) ts
    else .ok (vs, ars) ts
def funsP : Nat → List Fn → List Tok → P (List Fn)
  | 0, _, ts => .no ts
  | n + 1, l, ts => if ts = [] then .ok l [] else (funP ts).bind fun f ts => funsP n (l ++ [f]) ts
def progP (ts : List Tok) : P Prog :=
  (headP (ts.length + 1) [] [] ts).bind fun h ts => (funP ts).bind fun f ts => (funsP (ts.length + 1) [f] ts).bind fun fs ts => .ok ⟨h.1, h.2, fs⟩ ts

end Go.Src

namespace Go.Proofs.YtiaalcpkhlnpcabGreatDoor
open Go Go.Am Go.Asm

theorem digitT_A (c : UInt8) : PureR Tryz.prog 120 [iv .u8 c.toNat] (· = bv (digit c)) := by
  refine pure_of_wp Tt_ok mixed Tryz.func120 rfl (by rfl) [2] rfl (by kernel_rfl) (by simp [Tryz.ntmps120]) fun g => ?_
  simp (config := { maxSteps := 1000000 }) only [go_sem,↓reduceIte]
  have e := @digit_iff c
  cases hs : digit c <;> rw [hs] at e <;> simp at e <;> ((repeat' (first | refine ⟨?_, ?_⟩ | intro _)) <;> (first | rfl | (exfalso; omega) | (simp; omega)))
theorem letterT_A (c : UInt8) : PureR Tryz.prog 123 [iv .u8 c.toNat] (· = bv (letter c)) := by
  refine pure_of_wp Tt_ok mixed Tryz.func123 rfl (by rfl) [2] rfl (by kernel_rfl) (by simp [Tryz.ntmps123]) fun g => ?_
  simp (config := { maxSteps := 1000000 }) only [go_sem,↓reduceIte]
  have e := @letter_iff c
  cases hs : letter c <;> rw [hs] at e <;> simp at e <;> ((repeat' (first | refine ⟨?_, ?_⟩ | intro _)) <;> (first | rfl | (exfalso; omega) | (simp; omega)))
theorem lineT_A (c : UInt8) : PureR Tryz.prog 94 [iv .u8 c.toNat] (· = bv (c != 10)) := by
  refine pure_of_wp Tt_ok mixed Tryz.func94 rfl (by rfl) [2] rfl (by kernel_rfl) (by simp [Tryz.ntmps94]) fun g => ?_
  by_cases h : c = 10
  · subst h
    have hi : (((10 : UInt8).toNat : Nat) : Int) = 10 := rfl
    simp (config := { maxSteps := 1000000 }) only [go_sem,↓reduceIte,hi]
    rfl
  · have hi : ¬ ((c.toNat : Nat) : Int) = 10 := u8_ne (d := 10) h
    have hb : (c != 10) = true := by simpa using h
    simp (config := { maxSteps := 1000000 }) only [go_sem,↓reduceIte,hi, hb]
theorem inNameT_A (c : UInt8) : PureR Tryz.prog 125 [iv .u8 c.toNat] (· = bv (nameC c)) := by
  refine pure_of_wp Tt_ok mixed Tryz.func125 rfl (by rfl) [2] rfl (by kernel_rfl) (by simp [Tryz.ntmps125]) fun g => ?_
  simp (config := { maxSteps := 1000000 }) only [go_sem,↓reduceIte]
  refine hook_call rfl (by simp (config := { maxSteps := 1000000 }) only [go_sem,↓reduceIte]; exact letterT_A c) (by simp (config := { maxSteps := 1000000 }) only [go_sem,↓reduceIte]; rfl) ?_
  rintro _ rfl
  unfold nameC
  cases hl : letter c
  · simp (config := { maxSteps := 1000000 }) only [go_sem,↓reduceIte]
    refine hook_call rfl (by simp (config := { maxSteps := 1000000 }) only [go_sem,↓reduceIte]; exact digitT_A c) (by simp (config := { maxSteps := 1000000 }) only [go_sem,↓reduceIte]; rfl) ?_
    rintro _ rfl
    cases hd : digit c
    · by_cases h : c = 95
      · subst h
        have hi : (((95 : UInt8).toNat : Nat) : Int) = 95 := rfl
        simp (config := { maxSteps := 1000000 }) only [go_sem,↓reduceIte,hi]
        rfl
      · have hi : ¬ ((c.toNat : Nat) : Int) = 95 := u8_ne (d := 95) h
        have hb : (c == 95) = false := by simpa using h
        simp (config := { maxSteps := 1000000 }) only [go_sem,↓reduceIte,hi, hb, Bool.or_false]
    · simp (config := { maxSteps := 1000000 }) only [go_sem,↓reduceIte,Bool.or_true, Bool.true_or]
  · simp (config := { maxSteps := 1000000 }) only [go_sem,↓reduceIte,Bool.true_or]

theorem takeWhile_at {p : UInt8 → Bool} : ∀ {s : Str} {k : Nat}, (s.take k).all p = true → (s[k]?).all (fun c => !p c) = true → s.takeWhile p = s.take k
  | [], k, _, _ => by simp
  | a :: s, 0, _, h => by
    simp only [List.getElem?_cons_zero, Option.all_some, Bool.not_eq_true'] at h
    simp [h]
  | a :: s, k + 1, h1, h2 => by
    simp only [List.take_succ_cons, List.all_cons, Bool.and_eq_true] at h1
    rw [List.getElem?_cons_succ] at h2
    rw [List.takeWhile_cons, if_pos h1.1, List.take_succ_cons, takeWhile_at h1.2 h2]

set_option maxHeartbeats 2000000 in
/-- As many bytes at a text's beginning as are of a kind. -/
theorem front_A {f : FuncId} {p : UInt8 → Bool} (hp : ∀ c, PureR Tryz.prog f [iv .u8 c.toNat] (· = bv (p c))) (s : Str) (hs : s.length ≤ 1000000000) : PureR Tryz.prog 93 [sv s, .one (.d (.fn f))] (· = sv (s.takeWhile p)) := by
  refine pure_of_wp Tt_ok mixed Tryz.func93 rfl (by rfl) [4] rfl (by kernel_rfl) (by simp [Tryz.ntmps93]) fun g => ?_
  simp (config := { maxSteps := 1000000 }) only [go_sem,↓reduceIte]
  refine loop_intro (fun n st => ∃ k : Nat, n + k = s.length ∧ st.f 0 = sv s ∧ st.f 1 = .one (.d (.fn f)) ∧ st.f 5 = iv .i64 k ∧ (s.take k).all p = true) s.length ?_ ?_
  · refine ⟨0, by omega, ?_⟩
    simp (config := { maxSteps := 1000000 }) only [go_sem,↓reduceIte]
    rfl
  rintro n fs g ob ⟨k, hk, q0, q1, q5, hall⟩
  simp only at q0 q1 q5
  have hw := wrap_succ (k := k) (by omega)
  have hk0 : (0 : Int) ≤ (k : Int) := by omega
  by_cases hlt : k < s.length
  · obtain ⟨c, hc⟩ := getq hlt
    have hlti : (k : Int) < (s.length : Int) := by omega
    simp (config := { maxSteps := 1000000 }) only [go_sem,↓reduceIte,q0, q1, q5, hlti, hc, hk0]
    refine hook_fnv (f := f) rfl (by simp (config := { maxSteps := 1000000 }) only [go_sem,↓reduceIte,q1]) (by simp (config := { maxSteps := 1000000 }) only [go_sem,↓reduceIte]; exact hp c) (by simp (config := { maxSteps := 1000000 }) only [go_sem,↓reduceIte]; rfl) ?_
    rintro _ rfl
    cases hpc : p c
    · have ht := takeWhile_at (p := p) hall (by rw [hc]; simp [hpc])
      simp (config := { maxSteps := 1000000 }) only [go_sem,↓reduceIte,q0, q5]
      refine ⟨by omega, by omega, ?_⟩
      rw [ht]
      try rfl
    · simp (config := { maxSteps := 1000000 }) only [go_sem,↓reduceIte,q5, hw]
      refine round_end (n - 1) (by omega) ⟨k + 1, by omega, ?_⟩
      simp (config := { maxSteps := 1000000 }) only [go_sem,↓reduceIte,q0, q1]
      rw [List.take_add_one, hc]
      simp [hall, hpc]
  · obtain rfl : k = s.length := by omega
    have hlti : ¬ (s.length : Int) < (s.length : Int) := by omega
    have ht := takeWhile_at (p := p) hall (by rw [List.getElem?_eq_none (Nat.le_refl _)]; rfl)
    rw [ht, List.take_length]
    simp (config := { maxSteps := 1000000 }) only [go_sem,↓reduceIte,q0, q1, q5, hlti]
    exact ⟨by omega, by omega⟩

theorem prefix_take {s t : Str} : t.isPrefixOf s = decide (t.length ≤ s.length ∧ s.take t.length = t) := by
  rw [Bool.eq_iff_iff, List.isPrefixOf_iff_prefix, decide_eq_true_eq]
  constructor
  · rintro ⟨r, rfl⟩; exact ⟨by simp, by simp⟩
  · rintro ⟨h1, h2⟩; exact ⟨s.drop t.length, (congrArg (· ++ s.drop t.length) h2.symm).trans (List.take_append_drop _ _)⟩

theorem preB_pre (s p : Str) : preB p s = p.isPrefixOf s := by
  rw [prefix_take]
  unfold preB
  rw [decide_eq_decide]
  constructor
  · intro h
    have := congrArg List.length h
    rw [List.length_take] at this
    exact ⟨by omega, h⟩
  · exact fun h => h.2
theorem StrPrefix_A (s t : Str) : PureR Tryz.prog 92 [sv s, sv t] (· = bv (t.isPrefixOf s)) := by
  refine pure_of_wp Tt_ok mixed Tryz.func92 rfl (by rfl) [4] rfl (by kernel_rfl) (by simp [Tryz.ntmps92]) fun g => ?_
  simp (config := { maxSteps := 1000000 }) only [go_sem,↓reduceIte]
  refine hook_call rfl (by simp (config := { maxSteps := 1000000 }) only [go_sem,↓reduceIte]; exact HasPrefix_A s t) (by simp (config := { maxSteps := 1000000 }) only [go_sem,↓reduceIte]; rfl) ?_
  rintro _ rfl
  simp (config := { maxSteps := 1000000 }) only [go_sem,↓reduceIte,preB_pre]

theorem frzOneT {s : St} {c : C} {x : D} (h : Frz s c x) : FrzV s (.one c) (.one (.d x)) := ⟨_, h, rfl⟩

/-- A token: its kind, its text, its number, its place. -/
def tokC (t : Src.Tok) : List D := [.int .i64 (t.kind : Nat), .str t.text, .int .u32 (t.num : Nat), .int .i64 (t.place : Nat)]
def tokV (t : Src.Tok) : AV := .agg ((tokC t).map .d)
/-- What a token's reading gives: it, or an error. -/
def oneV : Src.R (Nat × Str × Nat) → AV
  | .ok (k, t, v) => .tup [tokV ⟨k, t, v, 0⟩, iv .i64 0]
  | .err e => .tup [tokV ⟨0, [], 0, 0⟩, iv .i64 (e : Nat)]
theorem frz_tok {s : St} {k v e : Nat} {t : Str} : FrzR s [.agg [.d (.int .i64 (k : Nat)), .d (.str t), .d (.int .u32 (v : Nat)), .d (.int .i64 0)], iv .i64 (e : Nat)] (.tup [tokV ⟨k, t, v, 0⟩, iv .i64 (e : Nat)]) := by
  refine ⟨_, ⟨_, _, rfl, ⟨[.int .i64 (k : Nat), .str t, .int .u32 (v : Nat), .int .i64 0], rfl, fun i c hc' => ?_, rfl⟩, _, _, rfl, frz1 _, rfl⟩, rfl⟩
  match i, hc' with
  | 0, hc' => cases hc'; exact ⟨_, rfl, .d _⟩
  | 1, hc' => cases hc'; exact ⟨_, rfl, .d _⟩
  | 2, hc' => cases hc'; exact ⟨_, rfl, .d _⟩
  | 3, hc' => cases hc'; exact ⟨_, rfl, .d _⟩

theorem decF_ge (c : UInt8) (n : Nat) : n ≤ decF n c := by unfold decF; omega
theorem decN_mono (s : Str) (k : Nat) : decN (s.take k) ≤ decN s := by
  have h : ∀ (l : Str) (n : Nat), n ≤ l.foldl decF n := fun l => by
    induction l with
    | nil => intro n; exact Nat.le_refl _
    | cons c l ih => intro n; exact Nat.le_trans (decF_ge c n) (ih _)
  conv => rhs; rw [← List.take_append_drop k s]
  unfold decN
  rw [List.foldl_append]
  exact h _ _

set_option maxHeartbeats 4000000 in
/-- Digits' number. -/
theorem numberOf_A (s : Str) (hs : s.length ≤ 1000000000) (hd : s.all digit = true) : PureR Tryz.prog 121 [sv s] (· = oneV (if 4294967295 < decN s then .err 2 else .ok (2, s, decN s))) := by
  refine pure_of_wpR Tt_ok mixed Tryz.func121 rfl (by rfl) [.cell 2 139, .tmp 3] rfl (by kernel_rfl) (by simp [Tryz.ntmps121]) fun g => ?_
  simp (config := { maxSteps := 1000000 }) only [go_sem,↓reduceIte]
  refine loop_intro (fun n st => ∃ k : Nat, n + k = s.length ∧ st.f 0 = sv s ∧ st.f 2 = .one (.ptr 2 (nxC 140 (g 2)) 0) ∧ st.gen 2 = nxC 140 (g 2) ∧ st.obj 2 = some [.d (.int .i64 0), .d (.str []), .d (.int .u32 0), .d (.int .i64 0)] ∧ st.f 4 = iv .u64 (decN (s.take k) : Nat) ∧ st.f 5 = iv .i64 k ∧ decN (s.take k) ≤ 4294967295) s.length ?_ ?_
  · refine ⟨0, by omega, ?_⟩
    simp (config := { maxSteps := 1000000 }) only [go_sem,↓reduceIte]
    exact ⟨rfl, by decide⟩
  rintro n f g' ob ⟨k, hk, q0, q2, g2, o2, q4, q5, hle⟩
  simp only at q0 q2 g2 o2 q4 q5
  have hw := wrap_succ (k := k) (by omega)
  have hk0 : (0 : Int) ≤ (k : Int) := by omega
  by_cases hlt : k < s.length
  · obtain ⟨c, hc⟩ := getq hlt
    have hlti : (k : Int) < (s.length : Int) := by omega
    have hnx := decN_take hc
    have hmono := decN_mono s (k + 1)
    have hdc := digit_iff.1 (List.all_eq_true.1 hd c (List.mem_of_getElem? hc))
    have w1 : IntKind.u64.wrap ((decN (s.take k) : Int) * 10) = ((decN (s.take k) * 10 : Nat) : Int) := by rw [IntKind.wrap_u64]; omega
    have w2 : IntKind.u8.wrap ((c.toNat : Int) - 48) = ((c.toNat - 48 : Nat) : Int) := by rw [IntKind.wrap_u8]; omega
    have w3 : IntKind.u64.wrap ((c.toNat - 48 : Nat) : Int) = ((c.toNat - 48 : Nat) : Int) := by rw [IntKind.wrap_u64]; omega
    have w4 : IntKind.u64.wrap (((decN (s.take k) * 10 : Nat) : Int) + ((c.toNat - 48 : Nat) : Int)) = (decN (s.take (k + 1)) : Int) := by rw [IntKind.wrap_u64, hnx]; omega
    by_cases hbig : 4294967295 < decN (s.take (k + 1))
    · have hbi : (4294967295 : Int) < (decN (s.take (k + 1)) : Int) := by omega
      rw [if_pos (by omega)]
      simp (config := { maxSteps := 1000000 }) only [go_sem,↓reduceIte,q0, q2, g2, o2, q4, q5, hlti, hk0, hc, w1, w2, w3, w4, hbi]
      exact ⟨_, frz_tok (k := 0) (v := 0) (e := 2), rfl⟩
    · have hbi : ¬ (4294967295 : Int) < (decN (s.take (k + 1)) : Int) := by omega
      simp (config := { maxSteps := 1000000 }) only [go_sem,↓reduceIte,q0, q2, g2, o2, q4, q5, hlti, hk0, hc, w1, w2, w3, w4, hbi, hw]
      refine round_end (n - 1) (by omega) ⟨k + 1, by omega, ?_⟩
      simp (config := { maxSteps := 1000000 }) only [go_sem,↓reduceIte,q0, q2, g2, o2]
      omega
  · obtain rfl : k = s.length := by omega
    have hlti : ¬ (s.length : Int) < (s.length : Int) := by omega
    rw [List.take_of_length_le (Nat.le_refl _)] at q4 hle
    have w5 : IntKind.u32.wrap (decN s : Int) = (decN s : Int) := by rw [IntKind.wrap_u32]; omega
    rw [if_neg (by omega)]
    simp (config := { maxSteps := 1000000 }) only [go_sem,↓reduceIte,q0, q2, g2, o2, q4, q5, hlti, w5]
    exact ⟨_, frz_tok (k := 2) (e := 0), rfl⟩

end Go.Proofs.YtiaalcpkhlnpcabGreatDoor
