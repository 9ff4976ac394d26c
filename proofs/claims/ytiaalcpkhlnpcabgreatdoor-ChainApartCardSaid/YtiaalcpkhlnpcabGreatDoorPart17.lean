/- A part of the proof; no conditions. -/
import Derived.Test.YtiaalcpkhlnpcabGreatDoorPart16
set_option linter.unusedSimpArgs false
set_option linter.unusedVariables false
namespace Go.Proofs.YtiaalcpkhlnpcabGreatDoor
open Go Go.Am Go.Asm

theorem known_in {op : Nat} (h : 1 ≤ op) (h' : op ≤ 27) : knownN op = true := by simp [knownN, h, h']
theorem inW_in {v : Nat} {m : Int} (h : (v : Int) ≤ m) : inW (v : Int) m true = true := by simp [inW, h]
theorem inW_0 {m : Int} : inW ((0 : Nat) : Int) m false = true := rfl

theorem insP_A {n op : Nat} {st : Sta} {args : List Str} (h1 : 1 ≤ op) (h2 : op ≤ 27) : insP n st op args = insA n st op args := by
  unfold insP insA
  split
  · rfl
  rename_i hl
  have hlen : args.length = nArgs op := by simpa using hl
  cases hr : regsOf (args.take (nRegs op)) with
  | none => rfl
  | some rs =>
    obtain ⟨hrl, hrx⟩ := regsOf_le hr
    rw [List.length_take] at hrl
    have hna := nArgs_eq op
    have hrn : rs.length = nRegs op := by omega
    have hk := known_in h1 h2
    simp only []
    have hx : ∀ i, rs.getD i 0 ≤ 15 := fun i => by
      rw [List.getD_eq_getElem?_getD]
      cases hi : rs[i]? with
      | none => simp
      | some x => simpa using hrx x (List.mem_of_getElem? hi)
    have h0 : ∀ i, rs.length ≤ i → rs.getD i 0 = 0 := fun i hi => by rw [List.getD_eq_getElem?_getD, List.getElem?_eq_none hi]; rfl
    have x0 := hx 0
    have x1 := hx 1
    have x2 := hx 2
    have key : ∀ (s' : Sta) (v : Nat), v ≤ 65535 → ((Asm.shape op).2.2 = 1 → encR s' op (rs.getD 0 0) (rs.getD 1 0) v = addW s' (wordR op rs v)) ∧ (¬ (Asm.shape op).2.2 = 1 → encR s' op (rs.getD 0 0) (rs.getD 1 0) (rs.getD 2 0) = addW s' (wordR op rs 0)) := by
      intro s' v hv
      unfold nRegs at hrn
      have hvi : (v : Int) ≤ 65535 := by omega
      have y0 : ((rs.getD 0 0 : Nat) : Int) ≤ 15 := by omega
      have y1 : ((rs.getD 1 0 : Nat) : Int) ≤ 15 := by omega
      have y2 : ((rs.getD 2 0 : Nat) : Int) ≤ 15 := by omega
      rcases shape_cases op with hs | hs | hs | hs | hs | hs | hs
      all_goals
        rw [hs] at hrn
        simp only [if_true, Bool.false_eq_true, if_false, Nat.reduceEqDiff, Nat.reduceAdd] at hrn
        try have z0 := h0 0 (by omega)
        try have z1 := h0 1 (by omega)
        try have z2 := h0 2 (by omega)
        refine ⟨fun hc => ?_, fun hc => ?_⟩
        all_goals
          first
          | (rw [hs] at hc; exact absurd hc (by decide))
          | (rw [hs] at hc; exact absurd rfl hc)
          | (unfold encR
             rw [if_pos (by
               unfold rightI mostC
               rw [Int.toNat_natCast, hs, hk]
               simp only [*, inW_in, inW_0, Bool.true_and, Bool.and_true, if_true, if_false, Nat.reduceEqDiff]
               try simp [inW, *]
               try simpa using y2)]
             unfold wordR
             rw [hs]
             try simp only [*])
    split
    · rename_i hc
      unfold withCA
      split
      · rename_i ho; rw [ho]; exact (key _ 0 (by decide)).1 hc
      · rename_i v ho
        rw [ho]
        simp only []
        split
        · rfl
        · exact (key _ v (by omega)).1 hc
      · rename_i ho; rw [ho]
      · rename_i h3 h4 h5
        split
        · rename_i ho; exact absurd ho h3
        · rename_i ho; exact absurd ho (h4 _)
        · rename_i ho; exact absurd ho h5
        · rfl
    · rename_i hc
      exact (key _ 0 (by decide)).2 hc

theorem dirA_len {st : Sta} {b : Bool} {args : List Str} (h : ¬ args.length = 1) : dirA st b args = .err 1 := by
  match args, h with
  | [], _ => rfl
  | [a], h => exact absurd rfl h
  | a :: b :: l, _ => rfl

/-- .word: b is false; .data: b is true. -/
def dirW (b : Bool) : Str := if b = true then dataW else wordW

end Go.Proofs.YtiaalcpkhlnpcabGreatDoor

namespace Go.Proofs.YtiaalcpkhlnpcabGreatDoor
open Go Go.Am Go.Asm

theorem place_cons (t s : Str) (n : Nat) (l : List (Str × Nat)) : Asm.placeOf ((t, n) :: l) s = if t = s then some n else Asm.placeOf l s := by
  unfold Asm.placeOf
  rw [List.find?_cons]
  by_cases h : t = s <;> simp [h]
theorem mget_labs (s : Str) : ∀ labs : List (Str × Nat), mget (labs.flatMap labC) (.str s) = (Asm.placeOf labs s).map fun p => .d (.int .i64 (p : Nat))
  | [] => rfl
  | (t, n) :: l => by
    have ih := mget_labs s l
    rw [List.flatMap_cons, place_cons]
    simp only [labC, List.cons_append, List.nil_append, mget, keyEq]
    by_cases h : t = s
    · simp [h]
    · simp only [h, decide_false, Bool.false_eq_true, if_false]
      exact ih
theorem mset_labs (s : Str) (n : Nat) : ∀ {labs : List (Str × Nat)}, Asm.placeOf labs s = none → mset (labs.flatMap labC) (.str s) (.d (.int .i64 (n : Nat))) = (labs ++ [(s, n)]).flatMap labC
  | [], _ => rfl
  | (t, k) :: l, h => by
    rw [place_cons] at h
    by_cases e : t = s
    · rw [if_pos e] at h; cases h
    rw [if_neg e] at h
    have ih := mset_labs s n h
    rw [List.cons_append, List.flatMap_cons, List.flatMap_cons]
    simp only [labC, List.cons_append, List.nil_append, mset, keyEq, e, decide_false, Bool.false_eq_true, if_false] at ih ⊢
    rw [ih]

theorem lineA_len {s l op : Str} {args : List Str} (h : lineA s = some (l, op, args)) : args.length ≤ s.length + 1 ∧ (∀ x ∈ args, x.length ≤ s.length) ∧ op.length ≤ s.length := by
  have b1 : (upto 35 s).length ≤ s.length := (List.takeWhile_prefix _).length_le
  have b2 := trimW_le (upto 35 s)
  unfold lineA at h
  cases hx : labelOf (trimW (upto 35 s)) with
  | none => rw [hx] at h; cases h
  | some x =>
    rw [hx] at h
    simp only [Option.bind_some] at h
    have b3 : x.2.length ≤ s.length := by
      unfold labelOf at hx
      split at hx
      · split at hx
        · cases hx
          have := trimW_le ((trimW (upto 35 s)).drop ((upto 58 (trimW (upto 35 s))).length + 1))
          rw [List.length_drop] at this
          simp only; omega
        · cases hx
      · cases hx; simp only; omega
    split at h
    · cases h; simp
    · split at h
      · cases ha : argsOf (trimW (x.2.drop (opOf x.2).length)) with
        | none => rw [ha] at h; cases h
        | some a =>
          rw [ha] at h
          cases h
          have b4 := trimW_le (x.2.drop (opOf x.2).length)
          rw [List.length_drop] at b4
          have b5 : (opOf x.2).length ≤ x.2.length := (List.takeWhile_prefix _).length_le
          refine ⟨?_, ?_, by omega⟩
          · unfold argsOf at ha
            split at ha
            · cases ha; simp
            · split at ha
              · cases ha
                have := splitC_len (c := 44) (trimW (x.2.drop (opOf x.2).length))
                rw [List.length_map]; omega
              · cases ha
          · intro y hy
            unfold argsOf at ha
            split at ha
            · cases ha; cases hy
            · split at ha
              · cases ha
                obtain ⟨z, hz, rfl⟩ := List.mem_map.1 hy
                have := splitC_text (c := 44) _ z hz
                have := trimW_le z
                omega
              · cases ha
      · cases h

theorem op_cases (op : Str) : ((op = []) = True ∧ (op = [46, 119, 111, 114, 100]) = False ∧ (op = [46, 100, 97, 116, 97]) = False) ∨ ((op = []) = False ∧ (op = [46, 119, 111, 114, 100]) = True ∧ (op = [46, 100, 97, 116, 97]) = False) ∨
    ((op = []) = False ∧ (op = [46, 119, 111, 114, 100]) = False ∧ (op = [46, 100, 97, 116, 97]) = True) ∨ ((op = []) = False ∧ (op = [46, 119, 111, 114, 100]) = False ∧ (op = [46, 100, 97, 116, 97]) = False) := by
  by_cases h1 : op = []
  · subst h1; simp
  by_cases h2 : op = [46, 119, 111, 114, 100]
  · subst h2; simp
  by_cases h3 : op = [46, 100, 97, 116, 97]
  · subst h3; simp
  simp [h1, h2, h3]
theorem opA_none {n : Nat} {st : Sta} {op : Str} {args : List Str} (h : (op = []) = True) : Asm.opA n st op args = .ok st := by unfold Asm.opA; rw [if_pos (by rw [h]; trivial)]
theorem opA_word {n : Nat} {st : Sta} {op : Str} {args : List Str} (h : (op = [46, 119, 111, 114, 100]) = True) : op = dirW false ∧ Asm.opA n st op args = dirA st false args := by
  have : op = [46, 119, 111, 114, 100] := by rw [h]; trivial
  subst this; exact ⟨rfl, rfl⟩
theorem opA_data {n : Nat} {st : Sta} {op : Str} {args : List Str} (h : (op = [46, 100, 97, 116, 97]) = True) : op = dirW true ∧ Asm.opA n st op args = dirA st true args := by
  have : op = [46, 100, 97, 116, 97] := by rw [h]; trivial
  subst this; exact ⟨rfl, rfl⟩
theorem opA_other {n : Nat} {st : Sta} {op : Str} {args : List Str} (h1 : (op = []) = False) (h2 : (op = [46, 119, 111, 114, 100]) = False) (h3 : (op = [46, 100, 97, 116, 97]) = False) : Asm.opA n st op args = if opNum op = 0 then .err 4 else insA n st (opNum op) args := by
  unfold Asm.opA
  rw [if_neg (by rw [h1]; exact id), if_neg (by unfold wordW; rw [h2]; exact id), if_neg (by unfold dataW; rw [h3]; exact id)]

end Go.Proofs.YtiaalcpkhlnpcabGreatDoor

namespace Go.Asm

/-! ### Blanks and notes -/
theorem upto_append_mem {c : UInt8} {s : Str} (h : c ∈ s) (t : Str) : upto c (s ++ t) = upto c s := by
  obtain ⟨r, hr⟩ := upto_split h
  conv => lhs; rw [hr]
  rw [List.append_assoc, List.cons_append, upto_app _ (upto_free c s)]
theorem upto_append_not {c : UInt8} {s : Str} (h : c ∉ s) (t : Str) : upto c (s ++ t) = s ++ upto c t := by
  unfold upto
  rw [List.takeWhile_append_of_pos]
  intro a ha
  have : a ≠ c := fun e => h (by rw [← e]; exact ha)
  simpa using this
theorem lineA_congr {s t : Str} (h : trimW (upto 35 s) = trimW (upto 35 t)) : lineA s = lineA t := by unfold lineA; rw [h]
theorem lineA_ahead {b s : Str} (hb : b.all wht = true) : lineA (b ++ s) = lineA s := by
  apply lineA_congr
  rw [upto_append_not (wht_free hb (by decide)), trimW_white_app hb]
theorem lineA_behind {b s : Str} (hb : b.all wht = true) : lineA (s ++ b) = lineA s := by
  apply lineA_congr
  by_cases h : 35 ∈ s
  · rw [upto_append_mem h]
  · rw [upto_append_not h, upto_none (wht_free hb (by decide)), trimW_app_white hb, upto_none h]
theorem lineA_note {b s n : Str} (hb : b.all wht = true) : lineA (s ++ b ++ 35 :: n) = lineA s := by
  rw [← lineA_behind (s := s) hb]
  apply lineA_congr
  by_cases h : 35 ∈ s ++ b
  · rw [upto_append_mem h]
  · rw [upto_append_not h]
    rw [show upto 35 (35 :: n) = [] from by simp [upto], List.append_nil, upto_none h]

theorem stepA_congr {n : Nat} {st : Sta} {s t : Str} (h : lineA s = lineA t) : stepA n st s = stepA n st t := by unfold stepA; rw [h]
theorem linesA_congr : ∀ (n : Nat) (st : Sta) {l m : List Str}, l.map lineA = m.map lineA → linesA n st l = linesA n st m
  | _, _, [], [], _ => rfl
  | _, _, [], _ :: _, h => by simp at h
  | _, _, _ :: _, [], h => by simp at h
  | n, st, s :: l, t :: m, h => by
    simp only [List.map_cons, List.cons.injEq] at h
    unfold linesA
    rw [stepA_congr h.1]
    split
    · exact linesA_congr _ _ h.2
    · rfl

/-- Texts joined by a byte. -/
def joinC (c : UInt8) : List Str → Str
  | [] => []
  | [x] => x
  | x :: y :: l => x ++ c :: joinC c (y :: l)
theorem splitC_joinC {c : UInt8} : ∀ {l : List Str}, l ≠ [] → (∀ x ∈ l, c ∉ x) → splitC c (joinC c l) = l
  | [], h, _ => absurd rfl h
  | [x], _, h => splitC_none (h x (by simp))
  | x :: y :: l, _, h => by
    unfold joinC
    rw [splitC_join, splitC_none (h x (by simp)), splitC_joinC (l := y :: l) (by simp) (fun z hz => h z (by simp [hz]))]
    rfl
theorem joinC_snoc {c : UInt8} : ∀ {l : List Str} (x : Str), l ≠ [] → joinC c (l ++ [x]) = joinC c l ++ c :: x
  | [], _, h => absurd rfl h
  | [y], x, _ => rfl
  | y :: z :: l, x, _ => by
    have := joinC_snoc (c := c) (l := z :: l) x (by simp)
    rw [List.cons_append, List.cons_append]
    unfold joinC
    rw [← List.cons_append, this]
    simp
theorem joinC_len {c : UInt8} : ∀ l : List Str, (joinC c l).length + 1 = (l.map fun x => x.length + 1).sum ∨ l = []
  | [] => .inr rfl
  | [x] => by left; simp [joinC]
  | x :: y :: l => by
    left
    rcases joinC_len (c := c) (y :: l) with h | h
    · unfold joinC
      rw [List.map_cons, List.sum_cons, ← h]
      simp only [List.length_append, List.length_cons]; omega
    · cases h
theorem joinC_splitC {c : UInt8} : ∀ s : Str, joinC c (splitC c s) = s
  | [] => rfl
  | b :: l => by
    have ih := joinC_splitC (c := c) l
    rw [splitC_cons]
    split
    · rename_i h
      have := splitC_ne c l
      cases hs : splitC c l with
      | nil => exact absurd hs this
      | cons x xs => rw [hs] at ih; unfold joinC; rw [ih, h]; rfl
    · split
      · rename_i hs; exact absurd hs (splitC_ne c l)
      · rename_i x xs hs
        rw [hs] at ih
        cases xs with
        | nil => simp only [joinC] at ih ⊢; rw [ih]
        | cons y ys => simp only [joinC] at ih ⊢; rw [List.cons_append, ih]

/-- What AsmBlanks makes of the line of the number k. -/
def noteB : Str := [32, 35, 32, 97, 32, 110, 111, 116, 101, 58, 32, 111, 102, 32, 97, 100, 100, 44, 32, 55]
def blankL (k : Nat) (x : Str) : Str :=
  if k % 4 = 0 then [32, 32] ++ x else if k % 4 = 1 then x ++ noteB else if k % 4 = 2 then [9] ++ x ++ [9, 32] else x
theorem blankL_lineA (k : Nat) (x : Str) : lineA (blankL k x) = lineA x := by
  unfold blankL
  split
  · exact lineA_ahead (by decide)
  split
  · have := lineA_note (b := [32]) (s := x) (n := noteB.drop 2) (by decide)
    rw [List.append_assoc] at this
    exact this
  split
  · rw [lineA_behind (by decide), lineA_ahead (by decide)]
  · rfl
theorem blankL_len (k : Nat) (x : Str) : (blankL k x).length ≤ x.length + 20 := by
  unfold blankL
  have : noteB.length = 20 := rfl
  repeat' split
  all_goals (try simp only [List.length_append, List.length_cons, List.length_nil])
  all_goals omega
theorem blankL_free (k : Nat) {x : Str} (h : 10 ∉ x) : 10 ∉ blankL k x := by
  unfold blankL
  repeat' split
  all_goals simp [h, noteB]
def blankLs (n : Nat) : List Str → List Str
  | [] => []
  | x :: l => blankL n x :: blankLs (n + 1) l
theorem blankLs_len (n : Nat) : ∀ l : List Str, (blankLs n l).length = l.length
  | [] => rfl
  | x :: l => by simp [blankLs, blankLs_len (n + 1) l]
theorem blankLs_lineA : ∀ (n : Nat) (l : List Str), (blankLs n l).map lineA = l.map lineA
  | _, [] => rfl
  | n, x :: l => by simp [blankLs, blankL_lineA, blankLs_lineA (n + 1) l]
theorem blankLs_free : ∀ (n : Nat) {l : List Str}, (∀ x ∈ l, 10 ∉ x) → ∀ x ∈ blankLs n l, 10 ∉ x
  | _, [], _, x, h => by simp [blankLs] at h
  | n, y :: l, h, x, hx => by
    simp only [blankLs, List.mem_cons] at hx
    rcases hx with rfl | hx
    · exact blankL_free n (h y (by simp))
    · exact blankLs_free (n + 1) (fun z hz => h z (by simp [hz])) x hx
theorem blankLs_sum : ∀ (n : Nat) (l : List Str), ((blankLs n l).map fun x => x.length + 1).sum ≤ (l.map fun x => x.length + 1).sum + 20 * l.length
  | _, [] => by simp [blankLs]
  | n, x :: l => by
    have := blankLs_sum (n + 1) l
    have := blankL_len n x
    simp only [blankLs, List.map_cons, List.sum_cons, List.length_cons]; omega
def blankT (n : Nat) (t : Str) : Str := joinC 10 (blankLs n (splitC 10 t))
theorem blankT_len (n : Nat) (t : Str) : (blankT n t).length ≤ 21 * t.length + 20 := by
  have h1 := joinC_len (c := 10) (blankLs n (splitC 10 t))
  have h2 := joinC_len (c := 10) (splitC 10 t)
  have h3 := blankLs_sum n (splitC 10 t)
  have h4 := splitC_len (c := 10) t
  have h5 := splitC_ne 10 t
  have h6 := blankLs_len n (splitC 10 t)
  rw [joinC_splitC] at h2
  rcases h2 with h2 | h2
  · rcases h1 with h1 | h1
    · unfold blankT; omega
    · rw [h1] at h6; exact absurd (List.eq_nil_of_length_eq_zero h6.symm) h5
  · exact absurd h2 h5
/-- AsmBlanks, plainly. -/
theorem readA_blank (n : Nat) {t : Str} (ht : t.length ≤ 500) : readA (blankT n t) = readA t := by
  have hl := blankT_len n t
  unfold readA
  rw [if_neg (by omega), if_neg (by omega)]
  have hne : blankLs n (splitC 10 t) ≠ [] := by
    intro e
    have := blankLs_len n (splitC 10 t)
    rw [e] at this
    exact splitC_ne 10 t (List.eq_nil_of_length_eq_zero this.symm)
  rw [show splitC 10 (blankT n t) = blankLs n (splitC 10 t) from splitC_joinC hne (blankLs_free n (splitC_free t))]
  rw [linesA_congr 0 st0 (blankLs_lineA n (splitC 10 t))]

/-! ### One text behind another one -/
/-- A line without a label and without .data, which is one. -/
def bareL (s : Str) : Bool := match lineA s with | some (l, op, _) => decide (l = []) && decide (op ≠ dataW) | none => false
def shU (c k : Nat) (u : Nat × Nat × Str) : Nat × Nat × Str := (u.1 + k, u.2.1 + c, u.2.2)
/-- A state, behind one of code and lines. -/
def shS (c0 : List Nat) (u0 : List (Nat × Nat × Str)) (k : Nat) (st : Sta) : Sta := { st with code := c0 ++ st.code, uses := u0 ++ st.uses.map (shU c0.length k) }
def shR (c0 : List Nat) (u0 : List (Nat × Nat × Str)) (k : Nat) : Res Sta → Res Sta
  | .ok st => .ok (shS c0 u0 k st)
  | .err e => .err e

theorem addW_sh {c0 : List Nat} {u0 : List (Nat × Nat × Str)} {k : Nat} {st : Sta} (w : Nat) (h : c0.length + st.code.length < 16384) : addW (shS c0 u0 k st) w = shR c0 u0 k (addW st w) := by
  unfold addW
  rw [if_neg (by simp only [shS, List.length_append]; omega), if_neg (by omega)]
  simp [shR, shS]
theorem insA_sh {c0 : List Nat} {u0 : List (Nat × Nat × Str)} {k n : Nat} {st : Sta} (op : Nat) (args : List Str) (h : c0.length + st.code.length < 16384) : insA (n + k) (shS c0 u0 k st) op args = shR c0 u0 k (insA n st op args) := by
  unfold insA
  split
  · rfl
  · split
    · rfl
    · split
      · split
        · rw [← addW_sh _ (by exact h)]
          congr 1
          simp [shS, shU, Nat.add_comm]
        · split
          · rfl
          · exact addW_sh _ h
        · rfl
        · rfl
      · exact addW_sh _ h
theorem stepA_sh {c0 : List Nat} {u0 : List (Nat × Nat × Str)} {k n : Nat} {st : Sta} {s : Str} (hs : bareL s = true) (h : c0.length + st.code.length < 16384) : stepA (n + k) (shS c0 u0 k st) s = shR c0 u0 k (stepA n st s) := by
  unfold bareL at hs
  unfold stepA
  split at hs
  · rename_i l op args he
    simp only [Bool.and_eq_true, decide_eq_true_eq] at hs
    rw [he]
    simp only [hs.1, if_true]
    unfold opA
    split
    · rfl
    · split
      · unfold dirA
        split
        · simp only [Bool.false_eq_true, false_and, if_false]
          split
          · exact addW_sh _ h
          · rfl
          · rfl
        · rfl
      · split
        · rename_i h1; exact absurd h1 hs.2
        · split
          · rfl
          · exact insA_sh _ _ h
  · cases hs
theorem addW_len {st st' : Sta} {w : Nat} (h : addW st w = .ok st') : st'.code.length = st.code.length + 1 ∧ st'.labs = st.labs ∧ st'.data = st.data ∧ st'.hasD = st.hasD := by
  unfold addW at h
  split at h
  · cases h
  · cases h; simp
theorem insA_len {n op : Nat} {args : List Str} {st st' : Sta} (h : insA n st op args = .ok st') : st'.code.length = st.code.length + 1 ∧ st'.labs = st.labs ∧ st'.data = st.data ∧ st'.hasD = st.hasD := by
  unfold insA at h
  repeat' split at h
  all_goals first | (cases h; done) | (have := addW_len h; exact this)
theorem stepA_len {n : Nat} {st st' : Sta} {s : Str} (hs : bareL s = true) (h : stepA n st s = .ok st') : st'.code.length ≤ st.code.length + 1 ∧ st'.labs = st.labs ∧ st'.data = st.data ∧ st'.hasD = st.hasD := by
  unfold bareL at hs
  unfold stepA at h
  split at hs
  · rename_i l op args he
    simp only [Bool.and_eq_true, decide_eq_true_eq] at hs
    rw [he] at h
    simp only [hs.1, if_true] at h
    unfold opA at h
    split at h
    · cases h; simp
    · split at h
      · unfold dirA at h
        split at h
        · simp only [Bool.false_eq_true, false_and, if_false] at h
          split at h
          · have := addW_len h; exact ⟨by omega, this.2⟩
          · cases h
          · cases h
        · cases h
      · split at h
        · rename_i h1; exact absurd h1 hs.2
        · split at h
          · cases h
          · have := insA_len h; exact ⟨by omega, this.2⟩
  · cases hs
def shL (c0 : List Nat) (u0 : List (Nat × Nat × Str)) (k : Nat) : Sta ⊕ (Nat × Nat) → Sta ⊕ (Nat × Nat)
  | .inl st => .inl (shS c0 u0 k st)
  | .inr (n, e) => .inr (n + k, e)
theorem linesA_sh {c0 : List Nat} {u0 : List (Nat × Nat × Str)} {k : Nat} : ∀ {n : Nat} {st : Sta} {l : List Str}, (∀ x ∈ l, bareL x = true) → c0.length + st.code.length + l.length ≤ 16384 → linesA (n + k) (shS c0 u0 k st) l = shL c0 u0 k (linesA n st l)
  | _, _, [], _, _ => rfl
  | n, st, s :: l, hb, hl => by
    simp only [List.length_cons] at hl
    unfold linesA
    rw [show n + k + 1 = n + 1 + k from by omega, stepA_sh (hb s (by simp)) (by omega)]
    cases hs : stepA (n + 1) st s with
    | err e => rfl
    | ok st' =>
      have := (stepA_len (hb s (by simp)) hs).1
      exact linesA_sh (fun x hx => hb x (by simp [hx])) (by omega)
theorem linesA_app : ∀ {n : Nat} {st : Sta} {l m : List Str}, linesA n st (l ++ m) = match linesA n st l with | .inl st' => linesA (n + l.length) st' m | .inr x => .inr x
  | _, _, [], _ => rfl
  | n, st, s :: l, m => by
    rw [List.cons_append]
    unfold linesA
    cases hs : stepA (n + 1) st s with
    | err e => rfl
    | ok st' =>
      have := linesA_app (n := n + 1) (st := st') (l := l) (m := m)
      simp only []
      rw [this, show n + 1 + l.length = n + (s :: l).length from by simp only [List.length_cons]; omega]
      cases linesA (n + 1) st' l with
      | inl x => cases m <;> rfl
      | inr x => rfl
theorem linesA_len : ∀ {n : Nat} {st st' : Sta} {l : List Str}, (∀ x ∈ l, bareL x = true) → linesA n st l = .inl st' → st'.code.length ≤ st.code.length + l.length ∧ st'.labs = st.labs ∧ st'.data = st.data ∧ st'.hasD = st.hasD
  | _, _, _, [], _, h => by cases h; simp
  | n, st, st', s :: l, hb, h => by
    unfold linesA at h
    cases hs : stepA (n + 1) st s with
    | err e => rw [hs] at h; cases h
    | ok st1 =>
      rw [hs] at h
      obtain ⟨a1, a2, a3, a4⟩ := stepA_len (hb s (by simp)) hs
      obtain ⟨b1, b2, b3, b4⟩ := linesA_len (fun x hx => hb x (by simp [hx])) h
      exact ⟨by simp only [List.length_cons]; omega, b2.trans a2, b3.trans a3, b4.trans a4⟩
theorem linesA_err : ∀ {n : Nat} {st : Sta} {l : List Str} {m e : Nat}, linesA n st l = .inr (m, e) → m ≤ n + l.length
  | _, _, [], _, _, h => by cases h
  | n, st, s :: l, m, e, h => by
    unfold linesA at h
    cases hs : stepA (n + 1) st s with
    | err e => rw [hs] at h; cases h; simp only [List.length_cons]; omega
    | ok st1 => rw [hs] at h; have := linesA_err h; simp only [List.length_cons]; omega
theorem addW_ne {st : Sta} {w e : Nat} (h : addW st w = .err e) : e ≠ 0 := by
  unfold addW at h
  split at h <;> cases h
  decide
theorem insA_ne {n op : Nat} {args : List Str} {st : Sta} {e : Nat} (h : insA n st op args = .err e) : e ≠ 0 := by
  unfold insA at h
  repeat' split at h
  all_goals first | (cases h; decide) | exact addW_ne h
theorem dirA_ne {b : Bool} {args : List Str} {st : Sta} {e : Nat} (h : dirA st b args = .err e) : e ≠ 0 := by
  unfold dirA at h
  repeat' split at h
  all_goals first | (cases h; done) | (cases h; decide) | exact addW_ne h
theorem opA_ne {n : Nat} {op : Str} {args : List Str} {st : Sta} {e : Nat} (h : opA n st op args = .err e) : e ≠ 0 := by
  unfold opA at h
  repeat' split at h
  all_goals first | (cases h; done) | (cases h; decide) | exact dirA_ne h | exact insA_ne h
theorem stepA_ne {n : Nat} {st : Sta} {s : Str} {e : Nat} (h : stepA n st s = .err e) : e ≠ 0 := by
  unfold stepA at h
  repeat' split at h
  all_goals first | (cases h; decide) | exact opA_ne h
theorem linesA_ne : ∀ {n : Nat} {st : Sta} {l : List Str} {m e : Nat}, linesA n st l = .inr (m, e) → e ≠ 0
  | _, _, [], _, _, h => by cases h
  | n, st, s :: l, m, e, h => by
    unfold linesA at h
    cases hs : stepA (n + 1) st s with
    | err e => rw [hs] at h; cases h; exact stepA_ne hs
    | ok st1 => rw [hs] at h; exact linesA_ne h
theorem usesA_nolab (code : List Nat) : ∀ us : List (Nat × Nat × Str), usesA [] code us = match us with | [] => .inl code | u :: _ => .inr (u.1, 4)
  | [] => rfl
  | u :: us => rfl

/-- What AsmBehind asks of the three readings. -/
def behindOk (s : Str) (a b c : (List Nat × Nat) × Nat × Nat) : Prop :=
  (a.2.2 ≠ 0 → c.2.2 ≠ 0) ∧ (a.2.2 = 0 → b.2.2 ≠ 0 → c.2.2 = b.2.2 ∧ c.2.1 = b.2.1 + (splitC 10 s).length) ∧ (a.2.2 = 0 → b.2.2 = 0 → c.2.2 = 0 ∧ c.1 = (a.1.1 ++ b.1.1, 0))
theorem readA_behind {s t : Str} (hs : s.length ≤ 500) (ht : t.length ≤ 500) (hb : ∀ x ∈ splitC 10 (s ++ 10 :: t), bareL x = true) : behindOk s (readA s) (readA t) (readA (s ++ 10 :: t)) := by
  rw [splitC_join] at hb
  have hbs : ∀ x ∈ splitC 10 s, bareL x = true := fun x hx => hb x (by simp [hx])
  have hbt : ∀ x ∈ splitC 10 t, bareL x = true := fun x hx => hb x (by simp [hx])
  have ls := splitC_len (c := 10) s
  have lt := splitC_len (c := 10) t
  unfold readA
  rw [if_neg (by omega), if_neg (by omega), if_neg (by simp only [List.length_append, List.length_cons]; omega), splitC_join, linesA_app]
  unfold behindOk
  cases h1 : linesA 0 st0 (splitC 10 s) with
  | inr x =>
    obtain ⟨m, e⟩ := x
    have := linesA_ne h1
    simp [this]
  | inl st1 =>
    obtain ⟨a1, a2, a3, a4⟩ := linesA_len hbs h1
    have hsh : st1 = shS st1.code st1.uses (splitC 10 s).length st0 := by
      cases st1
      simp only [shS, st0] at *
      subst a2 a3 a4
      simp
    simp only []
    rw [show linesA (0 + (splitC 10 s).length) st1 (splitC 10 t) = shL st1.code st1.uses (splitC 10 s).length (linesA 0 st0 (splitC 10 t)) from by
      conv => lhs; rw [hsh]
      exact linesA_sh hbt (by simp only [st0, List.length_nil] at a1 ⊢; omega)]
    rw [a2, show st0.labs = [] from rfl, usesA_nolab]
    cases h2 : linesA 0 st0 (splitC 10 t) with
    | inr x =>
      obtain ⟨m, e⟩ := x
      have := linesA_ne h2
      simp only [shL]
      cases hu : st1.uses <;> simp [this]
    | inl st2 =>
      obtain ⟨b1, b2, b3, b4⟩ := linesA_len hbt h2
      simp only [shL, shS]
      simp only [b2, show st0.labs = [] from rfl, usesA_nolab]
      cases hu : st1.uses with
      | cons u us => simp
      | nil =>
        cases hv : st2.uses with
        | cons u us => simp [shU]
        | nil => simp [b3, st0]

end Go.Asm

namespace Go.Asm

def UseOk (code : List Nat) (u : Nat × Nat × Str) : Prop := u.2.1 < code.length ∧ code.getD u.2.1 0 % 65536 = 0 ∧ code.getD u.2.1 0 < 4294967296
structure WF (st : Sta) : Prop where
  uses : ∀ u ∈ st.uses, UseOk st.code u
  nd : (st.uses.map (·.2.1)).Nodup
  labs : ∀ p ∈ st.labs, p.2 ≤ st.code.length
  len : st.code.length ≤ 16384

theorem WF.zero : WF st0 := ⟨fun u h => (by cases h), List.nodup_nil, fun p h => (by cases h), by decide⟩

theorem getD_app {α : Type} {l : List α} {x d : α} {i : Nat} (h : i < l.length) : (l ++ [x]).getD i d = l.getD i d := by
  rw [List.getD_eq_getElem?_getD, List.getD_eq_getElem?_getD, List.getElem?_append_left h]
theorem getD_new {α : Type} {l : List α} {x d : α} : (l ++ [x]).getD l.length d = x := by
  rw [List.getD_eq_getElem?_getD, List.getElem?_append_right (Nat.le_refl _)]; simp
theorem UseOk.app {code : List Nat} {u : Nat × Nat × Str} (h : UseOk code u) (w : Nat) : UseOk (code ++ [w]) u := by
  obtain ⟨h1, h2, h3⟩ := h
  unfold UseOk
  rw [getD_app h1]
  exact ⟨by rw [List.length_append]; omega, h2, h3⟩

theorem WF.addW {st st' : Sta} {w : Nat} (h : WF st) (ha : addW st w = .ok st') : WF st' := by
  unfold Asm.addW at ha
  split at ha
  · cases ha
  · rename_i hl
    cases ha
    refine ⟨fun u hu => (h.uses u hu).app w, h.nd, fun p hp => ?_, ?_⟩
    · have := h.labs p hp; simp only [List.length_append, List.length_cons, List.length_nil]; omega
    · simp only [List.length_append, List.length_cons, List.length_nil]; omega
theorem WF.addU {st st' : Sta} {w n : Nat} {s : Str} (h : WF st) (hw : w % 65536 = 0) (hw2 : w < 4294967296) (ha : Asm.addW { st with uses := st.uses ++ [(n, st.code.length, s)] } w = .ok st') : WF st' := by
  unfold Asm.addW at ha
  split at ha
  · cases ha
  · rename_i hl
    cases ha
    simp only at hl
    refine ⟨fun u hu => ?_, ?_, fun p hp => ?_, ?_⟩
    · rcases List.mem_append.1 hu with hu | hu
      · exact (h.uses u hu).app w
      · rw [List.mem_singleton] at hu
        subst hu
        refine ⟨by simp, ?_, ?_⟩
        · simp only; rw [getD_new]; exact hw
        · simp only; rw [getD_new]; exact hw2
    · simp only [List.map_append, List.map_cons, List.map_nil]
      refine List.nodup_append.2 ⟨h.nd, by simp, ?_⟩
      intro a ha b hb
      obtain ⟨u, hu, rfl⟩ := List.mem_map.1 ha
      have := (h.uses u hu).1
      simp only [List.mem_singleton] at hb
      omega
    · have := h.labs p hp; simp only [List.length_append, List.length_cons, List.length_nil]; omega
    · simp only [List.length_append, List.length_cons, List.length_nil]; omega

theorem word_lt {op a b : Nat} (h1 : op ≤ 27) (h2 : a ≤ 15) (h3 : b ≤ 15) : word op a b 0 < 4294967296 := by unfold word; omega
theorem word_low (op a b : Nat) : word op a b 0 % 65536 = 0 := by unfold word; omega
theorem wordR_num {op : Nat} {rs : List Nat} (hc : (shape op).2.2 = 1) (x0 : rs.getD 0 0 ≤ 15) (x1 : rs.getD 1 0 ≤ 15) : ∃ a b, wordR op rs 0 = word op a b 0 ∧ a ≤ 15 ∧ b ≤ 15 := by
  unfold wordR
  generalize shape op = p at hc ⊢
  obtain ⟨p1, p2, p3⟩ := p
  simp only at hc
  subst hc
  cases p1
  · exact ⟨0, 0, rfl, Nat.zero_le _, Nat.zero_le _⟩
  · cases p2
    · exact ⟨rs.getD 0 0, 0, rfl, x0, Nat.zero_le _⟩
    · exact ⟨rs.getD 0 0, rs.getD 1 0, rfl, x0, x1⟩
theorem WF.insA {n op : Nat} {args : List Str} {st st' : Sta} (h : WF st) (hop : op ≤ 27) (hr : ∀ s n, operandA s = .reg n → n ≤ 15) (ha : insA n st op args = .ok st') : WF st' := by
  have hrs : ∀ {l : List Str} {rs : List Nat}, regsOf l = some rs → ∀ x ∈ rs, x ≤ 15 := by
    intro l
    induction l with
    | nil => intro rs h; cases h; simp
    | cons a l ih =>
      intro rs h
      unfold regsOf at h
      cases ha : regOf? a with
      | none => rw [ha] at h; cases h
      | some n =>
        rw [ha] at h
        cases hl : regsOf l with
        | none => rw [hl] at h; cases h
        | some ns =>
          rw [hl] at h
          cases h
          intro x hx
          rcases List.mem_cons.1 hx with rfl | hx
          · unfold regOf? at ha
            split at ha
            · rename_i m hm; cases ha; exact hr _ _ hm
            · cases ha
          · exact ih hl x hx
  unfold Asm.insA at ha
  split at ha
  · cases ha
  · split at ha
    · cases ha
    · rename_i rs hrg
      have hx : ∀ i, rs.getD i 0 ≤ 15 := fun i => by
        rw [List.getD_eq_getElem?_getD]
        cases hi : rs[i]? with
        | none => simp
        | some x => simpa using hrs hrg x (List.mem_of_getElem? hi)
      have x0 := hx 0
      have x1 := hx 1
      split at ha
      · rename_i hc
        split at ha
        · obtain ⟨a, b, e, ha1, hb1⟩ := wordR_num hc x0 x1
          rw [e] at ha
          exact h.addU (word_low _ _ _) (word_lt hop ha1 hb1) ha
        · split at ha
          · cases ha
          · exact h.addW ha
        · cases ha
        · cases ha
      · exact h.addW ha
theorem WF.dirA {b : Bool} {args : List Str} {st st' : Sta} (h : WF st) (ha : dirA st b args = .ok st') : WF st' := by
  unfold Asm.dirA at ha
  repeat' split at ha
  all_goals first | (cases ha; done) | exact h.addW ha | (cases ha; exact ⟨h.uses, h.nd, h.labs, h.len⟩)
theorem opNum_le' (s : Str) : opNum s ≤ 27 := by
  unfold opNum
  split
  · rename_i i h
    obtain ⟨h1, _⟩ := List.idxOf?_eq_some_iff.1 h
    have hl : names.length = 27 := rfl
    omega
  · omega
theorem WF.stepA {n : Nat} {st st' : Sta} {s : Str} (h : WF st) (hr : ∀ s n, operandA s = .reg n → n ≤ 15) (ha : stepA n st s = .ok st') : WF st' := by
  have hop : ∀ (st : Sta) (op : Str) (args : List Str), WF st → opA n st op args = .ok st' → WF st' := by
    intro st op args h ha
    unfold Asm.opA at ha
    repeat' split at ha
    all_goals first | (cases ha; done) | (cases ha; exact h) | exact h.dirA ha | exact h.insA (opNum_le' _) hr ha
  unfold Asm.stepA at ha
  split at ha
  · cases ha
  · split at ha
    · exact hop _ _ _ h ha
    · split at ha
      · cases ha
      · refine hop _ _ _ ?_ ha
        refine ⟨h.uses, h.nd, fun p hp => ?_, h.len⟩
        rcases List.mem_append.1 hp with hp | hp
        · exact h.labs p hp
        · rw [List.mem_singleton] at hp; subst hp; exact Nat.le_refl _

theorem addW_grow {st st' : Sta} {w : Nat} (h : Asm.addW st w = .ok st') : st'.code.length = st.code.length + 1 ∧ st'.uses = st.uses := by
  unfold Asm.addW at h
  split at h
  · cases h
  · cases h; simp
theorem stepA_grow {n : Nat} {st st' : Sta} {s : Str} (h : Asm.stepA n st s = .ok st') : st'.code.length ≤ st.code.length + 1 ∧ st'.uses.length ≤ st.uses.length + 1 := by
  have hop : ∀ (st : Sta) (op : Str) (args : List Str), Asm.opA n st op args = .ok st' → st'.code.length ≤ st.code.length + 1 ∧ st'.uses.length ≤ st.uses.length + 1 := by
    intro st op args ha
    have hins : ∀ {op : Nat}, Asm.insA n st op args = .ok st' → st'.code.length ≤ st.code.length + 1 ∧ st'.uses.length ≤ st.uses.length + 1 := by
      intro op ha
      unfold Asm.insA at ha
      repeat' split at ha
      all_goals first
        | (cases ha; done)
        | (have := addW_grow ha; simp only [List.length_append, List.length_cons, List.length_nil, this.2] at *; omega)
    have hdir : ∀ {b : Bool}, Asm.dirA st b args = .ok st' → st'.code.length ≤ st.code.length + 1 ∧ st'.uses.length ≤ st.uses.length + 1 := by
      intro b ha
      unfold Asm.dirA at ha
      repeat' split at ha
      all_goals first
        | (cases ha; done)
        | (have := addW_grow ha; rw [this.2]; omega)
        | (cases ha; simp)
    unfold Asm.opA at ha
    repeat' split at ha
    all_goals first | (cases ha; done) | (cases ha; simp; done) | exact hdir ha | exact hins ha
  unfold Asm.stepA at h
  repeat' split at h
  all_goals first | (cases h; done) | (have := hop _ _ _ h; exact this)

/-- The places are put in. -/
theorem UseOk.set {code : List Nat} {u : Nat × Nat × Str} {i v : Nat} (h : UseOk code u) (hi : i ≠ u.2.1) : UseOk (addAt code i v) u := by
  obtain ⟨h1, h2, h3⟩ := h
  have e : (addAt code i v).getD u.2.1 0 = code.getD u.2.1 0 := by
    unfold addAt
    rw [List.getD_eq_getElem?_getD, List.getElem?_set_ne hi, ← List.getD_eq_getElem?_getD]
  unfold UseOk
  rw [e]
  exact ⟨by unfold addAt; rw [List.length_set]; exact h1, h2, h3⟩
theorem addAt_len (code : List Nat) (i v : Nat) : (addAt code i v).length = code.length := by unfold addAt; rw [List.length_set]
theorem placeOf_mem {labs : List (Str × Nat)} {s : Str} {p : Nat} (h : placeOf labs s = some p) : ∃ t, (t, p) ∈ labs := by
  unfold placeOf at h
  cases hf : labs.find? (fun p => p.1 = s) with
  | none => rw [hf] at h; cases h
  | some q =>
    rw [hf] at h
    cases h
    exact ⟨q.1, List.mem_of_find?_eq_some hf⟩

end Go.Asm

namespace Go.Proofs.YtiaalcpkhlnpcabGreatDoor
open Go Go.Am Go.Asm

def codeD (code : List Nat) : D := .sl (code.map fun n => [.int .u32 (n : Nat)])
def imgV (m : List Nat × Nat) : AV := .agg [.d (codeD m.1), .d (.int .i64 (m.2 : Nat))]
def readV (r : (List Nat × Nat) × Nat × Nat) : AV := .tup [imgV r.1, iv .i64 (r.2.1 : Nat), iv .i64 (r.2.2 : Nat)]

theorem frz_read {s : St} {cc : C} {code : List Nat} {d : Nat} (hc : Frz s cc (codeD code)) {n e : Nat} : FrzR s [.agg [cc, .d (.int .i64 (d : Nat))], iv .i64 (n : Nat), iv .i64 (e : Nat)] (readV ((code, d), n, e)) := by
  refine ⟨_, ⟨imgV (code, d), _, rfl, ⟨[codeD code, .int .i64 (d : Nat)], rfl, fun i c hc' => ?_, rfl⟩, _, _, rfl, ⟨_, .d _, rfl⟩, _, _, rfl, ⟨_, .d _, rfl⟩, rfl⟩, rfl⟩
  match i, hc' with
  | 0, hc' => cases hc'; exact ⟨_, rfl, hc⟩
  | 1, hc' => cases hc'; exact ⟨_, rfl, .d _⟩
theorem frz_code {s : St} {id g n : Nat} {code : List Nat} (hg : s.gen id = g) (ho : s.obj id = some (code.map fun n => C.d (.int .u32 (n : Nat)))) (hn : code.length = n) : Frz s (.osl id g 1 0 n) (codeD code) := by
  refine frz_rows hg code (fun n => [.int .u32 (n : Nat)]) ho ?_ (fun a _ x hx => ?_) (fun a _ => rfl) hn
  · clear ho hn; induction code with | nil => rfl | cons a l ih => simpa using ih
  · simp at hx; subst hx; rfl

theorem use_at {us : List (Nat × Nat × Str)} {j : Nat} {u : Nat × Nat × Str} (h : us[j]? = some u) : ((us.flatMap useD).drop (j * 3)).take 3 = useD u := by
  induction us generalizing j with
  | nil => simp at h
  | cons v us ih =>
    cases j with
    | zero => simp at h; subst h; simp [useD]
    | succ j =>
      have := ih (j := j) (by simpa using h)
      rw [List.flatMap_cons, show (j + 1) * 3 = (useD v).length + j * 3 by simp [useD]; omega, ← List.drop_drop, List.drop_left]
      exact this

theorem or_add {x p : Nat} (h1 : x % 65536 = 0) (h2 : x < 4294967296) (h3 : p < 65536) : IntKind.u32.wrap ((BitVec.ofInt 32 (x : Int) ||| BitVec.ofInt 32 (IntKind.u32.wrap (p : Int))).toNat : Int) = ((x + p : Nat) : Int) := by
  rw [wrapN p (by omega), or32 x p h2 (by omega)]
  have e : x = (x / 65536) * 2 ^ 16 := by omega
  rw [e, orAdd _ p 16 (by omega), wrapN _ (by omega)]

theorem linesA_ok {n : Nat} {st st' : Sta} {s : Str} {ls : List Str} (h : stepA (n + 1) st s = .ok st') : linesA n st (s :: ls) = linesA (n + 1) st' ls := by
  conv => lhs; unfold linesA
  rw [h]
theorem linesA_bad {n e : Nat} {st : Sta} {s : Str} {ls : List Str} (h : stepA (n + 1) st s = .err e) : linesA n st (s :: ls) = .inr (n + 1, e) := by
  conv => lhs; unfold linesA
  rw [h]
theorem usesA_cons {labs : List (Str × Nat)} {code : List Nat} {u : Nat × Nat × Str} {us : List (Nat × Nat × Str)} {p : Nat} (h : Asm.placeOf labs u.2.2 = some p) : usesA labs code (u :: us) = usesA labs (addAt code u.2.1 p) us := by
  conv => lhs; unfold usesA
  rw [h]
theorem usesA_bad {labs : List (Str × Nat)} {code : List Nat} {u : Nat × Nat × Str} {us : List (Nat × Nat × Str)} (h : Asm.placeOf labs u.2.2 = none) : usesA labs code (u :: us) = .inr (u.1, 4) := by
  conv => lhs; unfold usesA
  rw [h]
theorem readA_bad {s : Str} (hs : ¬ 20000 < s.length) {n e : Nat} (h : linesA 0 st0 (splitC 10 s) = .inr (n, e)) : readA s = (([], 0), n, e) := by unfold readA; rw [if_neg hs, h]
theorem readA_use {s : Str} (hs : ¬ 20000 < s.length) {st : Sta} {n e : Nat} (h : linesA 0 st0 (splitC 10 s) = .inl st) (h2 : usesA st.labs st.code st.uses = .inr (n, e)) : readA s = (([], 0), n, e) := by unfold readA; rw [if_neg hs, h]; simp only; rw [h2]
theorem readA_good {s : Str} (hs : ¬ 20000 < s.length) {st : Sta} {code : List Nat} (h : linesA 0 st0 (splitC 10 s) = .inl st) (h2 : usesA st.labs st.code st.uses = .inl code) : readA s = ((code, st.data), 0, 0) := by unfold readA; rw [if_neg hs, h]; simp only; rw [h2]

end Go.Proofs.YtiaalcpkhlnpcabGreatDoor

namespace Go.Proofs.YtiaalcpkhlnpcabGreatDoor
open Go Go.Am Go.Asm

def partsI (op : Nat) : Str := (if (Asm.shape op).1 = true then [97] else []) ++ (if (Asm.shape op).2.1 = true then [98] else []) ++ (if (Asm.shape op).2.2 = 2 then [114] else if (Asm.shape op).2.2 = 1 then [99] else [])
def partsT (op : Int) : Str := if knownN op.toNat = true then partsI op.toNat else [63]
theorem partsT_other {op : Int} (h : op.toNat = 0 ∨ 28 ≤ op.toNat) : partsT op = [63] := by
  unfold partsT
  rw [if_neg]
  unfold knownN
  simp; omega

theorem partsT_mid {op : Int} (h1 : 4 ≤ op) (h2 : op ≤ 15) : partsT op = [97, 98, 114] := by
  obtain ⟨k, rfl⟩ : ∃ k : Nat, op = k := ⟨op.toNat, by omega⟩
  have key : ∀ k : Nat, k < 16 → 4 ≤ k → partsT (k : Int) = [97, 98, 114] := by decide
  exact key k (by omega) (by omega)

def hasC (s : Str) (c : UInt8) : Bool := s.contains c
/-- The shapes, and what the reference calls them. -/
theorem parts_cases (op : Int) : (knownN op.toNat = false ∧ partsT op = [63]) ∨ (knownN op.toNat = true ∧ (
    (Asm.shape op.toNat = (true, false, 1) ∧ partsT op = [97, 99]) ∨ (Asm.shape op.toNat = (true, true, 0) ∧ partsT op = [97, 98]) ∨ (Asm.shape op.toNat = (true, true, 2) ∧ partsT op = [97, 98, 114]) ∨ (Asm.shape op.toNat = (true, true, 1) ∧ partsT op = [97, 98, 99]) ∨
    (Asm.shape op.toNat = (false, false, 1) ∧ partsT op = [99]) ∨ (Asm.shape op.toNat = (true, false, 0) ∧ partsT op = [97]) ∨ (Asm.shape op.toNat = (false, false, 0) ∧ partsT op = []))) := by
  unfold partsT
  cases hk : knownN op.toNat
  · exact .inl ⟨rfl, by simp⟩
  · refine .inr ⟨rfl, ?_⟩
    unfold partsI
    rcases shape_cases op.toNat with h | h | h | h | h | h | h <;> simp [h]

end Go.Proofs.YtiaalcpkhlnpcabGreatDoor

namespace Go.Proofs.YtiaalcpkhlnpcabGreatDoor
open Go Go.Am Go.Asm

theorem and32N {a b : Nat} (ha : a < 4294967296) (hb : b < 4294967296) : (BitVec.ofInt 32 (a : Int) &&& BitVec.ofInt 32 (b : Int)).toNat = a &&& b := by
  rw [BitVec.toNat_and, BitVec.toNat_ofInt, BitVec.toNat_ofInt, show ((a : Int) % (2 ^ 32 : Nat)).toNat = a by omega, show ((b : Int) % (2 ^ 32 : Nat)).toNat = b by omega]
theorem w32N {n : Nat} (h : n < 4294967296) : IntKind.u32.wrap (n : Int) = (n : Int) := by rw [IntKind.wrap_u32]; omega
theorem fdivNN (a b : Nat) : (a : Int).fdiv (b : Int) = ((a / b : Nat) : Int) := by rw [Int.fdiv_eq_ediv_of_nonneg _ (by omega)]; rfl

/-- What comes of a word's decoding. -/
def decV (w : Nat) : AV := if rightI (w / 16777216 : Nat) (w / 1048576 % 16 : Nat) (w / 65536 % 16 : Nat) (w % 65536 : Nat) = true then .tup [instV (w / 16777216 : Nat) (w / 1048576 % 16 : Nat) (w / 65536 % 16 : Nat) (w % 65536 : Nat), iv .i64 0] else .tup [instV 0 0 0 0, iv .i64 7]
theorem frz_ins {s : St} {a b c d e : Int} : FrzR s [.agg [.d (.int .i64 a), .d (.int .i64 b), .d (.int .i64 c), .d (.int .i64 d)], iv .i64 e] (.tup [instV a b c d, iv .i64 e]) :=
  ⟨_, ⟨_, _, rfl, frzD [.int .i64 a, .int .i64 b, .int .i64 c, .int .i64 d], _, _, rfl, frz1 _, rfl⟩, rfl⟩

set_option maxHeartbeats 4000000 in
theorem Decode_A (w : Nat) (hw : w < 4294967296) : PureR Tryz.prog 12 [iv .u32 w] (· = decV w) := by
  refine pure_of_wpR Tt_ok mixed Tryz.func12 rfl (by rfl) [.cell 2 45, .tmp 3] rfl (by kernel_rfl) (by simp [Tryz.ntmps12]) fun g => ?_
  have s24 : ((w : Nat) : Int).fdiv ((2 : Int) ^ min 24 32) = ((w / 16777216 : Nat) : Int) := fdivNN w 16777216
  have s20 : ((w : Nat) : Int).fdiv ((2 : Int) ^ min 20 32) = ((w / 1048576 : Nat) : Int) := fdivNN w 1048576
  have s16 : ((w : Nat) : Int).fdiv ((2 : Int) ^ min 16 32) = ((w / 65536 : Nat) : Int) := fdivNN w 65536
  have m15 : ∀ x : Nat, x < 4294967296 → IntKind.u32.wrap ((BitVec.ofInt 32 ((x : Nat) : Int) &&& BitVec.ofInt 32 15).toNat : Int) = ((x % 16 : Nat) : Int) := fun x hx => by
    rw [show (15 : Int) = ((15 : Nat) : Int) from rfl, and32N hx (by decide), show x &&& 15 = x % 16 from Nat.and_two_pow_sub_one_eq_mod x 4, w32N (by omega)]
  have mFF : ∀ x : Nat, x < 4294967296 → IntKind.u32.wrap ((BitVec.ofInt 32 ((x : Nat) : Int) &&& BitVec.ofInt 32 65535).toNat : Int) = ((x % 65536 : Nat) : Int) := fun x hx => by
    rw [show (65535 : Int) = ((65535 : Nat) : Int) from rfl, and32N hx (by decide), show x &&& 65535 = x % 65536 from Nat.and_two_pow_sub_one_eq_mod x 16, w32N (by omega)]
  have c64 : ∀ x : Nat, x < 4294967296 → IntKind.i64.wrap ((x : Nat) : Int) = ((x : Nat) : Int) := fun x hx => by rw [wrap_i64] <;> omega
  simp (config := { maxSteps := 1000000 }) only [go_sem,↓reduceIte,s24, s20, s16]
  erw [m15 (w / 1048576) (by omega), m15 (w / 65536) (by omega), mFF w hw, c64 (w / 16777216) (by omega), c64 (w / 1048576 % 16) (by omega), c64 (w / 65536 % 16) (by omega), c64 (w % 65536) (by omega)]
  refine hook_call rfl (by simp (config := { maxSteps := 1000000 }) only [go_sem,↓reduceIte]; exact Right_A (w / 16777216 : Nat) (w / 1048576 % 16 : Nat) (w / 65536 % 16 : Nat) (w % 65536 : Nat)) (by simp (config := { maxSteps := 1000000 }) only [go_sem,↓reduceIte]; rfl) ?_
  rintro _ rfl
  unfold decV
  cases hR : rightI (w / 16777216 : Nat) (w / 1048576 % 16 : Nat) (w / 65536 % 16 : Nat) (w % 65536 : Nat)
  · simp (config := { maxSteps := 1000000 }) only [go_sem,↓reduceIte,buildA]
    exact ⟨_, frz_ins, rfl⟩
  · simp (config := { maxSteps := 1000000 }) only [go_sem,↓reduceIte,buildA]
    exact ⟨_, frz_ins, rfl⟩

def imgZ (code : List Nat) (d : Int) : AV := .agg [.d (codeD code), .d (.int .i64 d)]
abbrev mayI (code : List Nat) (d : Int) : Bool := decide (code.length ≤ 16384 ∧ 0 ≤ d ∧ d ≤ 32768)

set_option maxHeartbeats 4000000 in
theorem ImgRight_A (code : List Nat) (d : Int) : PureR Tryz.prog 9 [imgZ code d] (· = bv (mayI code d)) := by
  refine pure_of_wp Tt_ok mixed Tryz.func9 rfl (by rfl) [2] rfl (by kernel_rfl) (by simp [Tryz.ntmps9]) fun g => ?_
  unfold imgZ codeD mayI
  by_cases h1 : code.length ≤ 16384
  · have h1i : ((code.length : Nat) : Int) ≤ 16384 := by omega
    by_cases h0 : 0 ≤ d
    · by_cases h2 : d ≤ 32768
      · rw [decide_eq_true ⟨h1, h0, h2⟩]
        simp (config := { maxSteps := 1000000 }) only [go_sem,↓reduceIte,List.length_map, h1i, h2, h0]
      · rw [decide_eq_false (fun h => h2 h.2.2)]
        simp (config := { maxSteps := 1000000 }) only [go_sem,↓reduceIte,List.length_map, h1i, h2, h0]
    · rw [decide_eq_false (fun h => h0 h.2.1)]
      simp (config := { maxSteps := 1000000 }) only [go_sem,↓reduceIte,List.length_map, h1i, h0]
  · have h1i : ¬ ((code.length : Nat) : Int) ≤ 16384 := by omega
    rw [decide_eq_false (fun h => h1 h.1)]
    simp (config := { maxSteps := 1000000 }) only [go_sem,↓reduceIte,List.length_map, h1i]

set_option maxHeartbeats 4000000 in
theorem ImgRightR_A (code : List Nat) (d : Int) : PureR Tryz.prog 5 [imgZ code d] (· = bv (mayI code d)) := by
  refine pure_of_wp Tt_ok mixed Tryz.func5 rfl (by rfl) [2] rfl (by kernel_rfl) (by simp [Tryz.ntmps5]) fun g => ?_
  unfold imgZ codeD mayI
  by_cases h1 : code.length ≤ 16384
  · have h1i : ((code.length : Nat) : Int) ≤ 16384 := by omega
    by_cases h0 : 0 ≤ d
    · by_cases h2 : d ≤ 32768
      · rw [decide_eq_true ⟨h1, h0, h2⟩]
        simp (config := { maxSteps := 1000000 }) only [go_sem,↓reduceIte,List.length_map, h1i, h2, h0]
      · rw [decide_eq_false (fun h => h2 h.2.2)]
        simp (config := { maxSteps := 1000000 }) only [go_sem,↓reduceIte,List.length_map, h1i, h2, h0]
    · rw [decide_eq_false (fun h => h0 h.2.1)]
      simp (config := { maxSteps := 1000000 }) only [go_sem,↓reduceIte,List.length_map, h1i, h0]
  · have h1i : ¬ ((code.length : Nat) : Int) ≤ 16384 := by omega
    rw [decide_eq_false (fun h => h1 h.1)]
    simp (config := { maxSteps := 1000000 }) only [go_sem,↓reduceIte,List.length_map, h1i]

end Go.Proofs.YtiaalcpkhlnpcabGreatDoor

namespace Go.Proofs.YtiaalcpkhlnpcabGreatDoor
open Go Go.Am Go.Asm

abbrev dec (n : Nat) : Str := Lib.decDigits n
theorem decs_big {n : Nat} (h : ¬ n < 10) : dec n = dec (n / 10) ++ [UInt8.ofNat (48 + n % 10)] := by
  show Lib.decDigits n = _
  rw [Lib.decDigits, dif_neg h]
theorem decs_small {n : Nat} (h : n < 10) : dec n = [UInt8.ofNat (48 + n)] := by
  show Lib.decDigits n = _
  rw [Lib.decDigits, dif_pos h]
theorem dec_ne (n : Nat) : dec n ≠ [] := by
  by_cases h : n < 10
  · rw [decs_small h]; simp
  · rw [decs_big h]; simp
theorem dec_len {n : Nat} (h : n < 18446744073709551616) : (dec n).length ≤ 20 := by
  show (Lib.decDigits n).length ≤ 20
  rw [Lib.decDigits_length]
  by_cases h0 : n = 0
  · subst h0; rw [Lib.nDigits_small (by omega)]; omega
  · have := Lib.numDigits_eq n (by omega) h
    split at this <;> omega

/-- Numbers with blanks between. -/
def jn : List Nat → Str
  | [] => []
  | x :: r => dec x ++ r.flatMap fun y => 32 :: dec y
theorem jn_snoc {l : List Nat} (h : l ≠ []) (y : Nat) : jn (l ++ [y]) = (jn l ++ [32]) ++ dec y := by
  cases l with
  | nil => exact absurd rfl h
  | cons x r => simp only [jn, List.cons_append, List.flatMap_append, List.flatMap_cons, List.flatMap_nil, List.append_nil, List.append_assoc]; rfl
theorem jn_one (y : Nat) : jn [y] = dec y := by simp [jn]
theorem jn_len : ∀ {l : List Nat}, (∀ x ∈ l, x < 18446744073709551616) → (jn l).length ≤ 21 * l.length := by
  intro l h
  cases l with
  | nil => simp [jn]
  | cons x r =>
    have h1 : ∀ (r : List Nat), (∀ x ∈ r, x < 18446744073709551616) → (r.flatMap fun y => 32 :: dec y).length ≤ 21 * r.length := by
      intro r
      induction r with
      | nil => intro _; simp
      | cons y r ih =>
        intro h
        have h2 := dec_len (h y (by simp))
        have h3 := ih (fun x hx => h x (by simp [hx]))
        simp only [List.flatMap_cons, List.length_append, List.length_cons] at h3 ⊢
        omega
    have h2 := dec_len (h x (by simp))
    have h3 := h1 r (fun x hx => h x (by simp [hx]))
    simp only [jn, List.length_append, List.length_cons] at h3 ⊢
    omega
def numL (l : List Nat) : Str := jn l ++ [10]
abbrev numsD (l : List Nat) : D := .sl (l.map fun x => [.int .i64 (x : Nat)])

set_option maxHeartbeats 8000000 in
theorem numberLine_G {o : Hold} (ho : PowO o) (l : List Nat) (hl : l.length ≤ 1000) (hne : l ≠ []) (hx : ∀ x ∈ l, x ≤ 9223372036854775807) : PureG Tryz.prog 5 o 11 [.one (.d (numsD l))] (· = sv (numL l)) := by
  refine pure_of_wpG2 0 5 o Tt_ok mixed Tryz.func11 rfl (by rfl) [.tmp 2] rfl (by kernel_rfl) (by kernel_rfl) (by simp [Tryz.ntmps11]) fun b₀ β0 s0 w0 g => ?_
  simp (config := { maxSteps := 1000000 }) only [go_sem,↓reduceIte,List.length_map]
  refine loop_introF (fun n st => ∃ k : Nat, n + k = l.length ∧ st.f 3 = .one (.ptr 3 (nxC 39 (g 3)) 0) ∧ st.f 6 = .one (.d (numsD l)) ∧ st.f 7 = iv .i64 l.length ∧ st.f 8 = iv .i64 k ∧ Bld 3 (100 + 14) (nxC 39 (g 3)) (jn (l.take k)) st.gen st.obj ∧ ∀ i, 100 ≤ i → i ≠ 114 → st.obj i = none) l.length ?_ ?_
  · refine ⟨0, rfl, ?_⟩
    simp (config := { maxSteps := 1000000 }) only [go_sem,↓reduceIte,List.take_zero]
    exact ⟨⟨by simp [upd], by simp [code_nxC], ⟨_, .inl rfl, .inl ⟨rfl, by simp [upd], by simp [upd]⟩⟩, by decide⟩, fun i hi h => by (try simp only [upd]); rw [if_neg (by omega)]⟩
  rintro n f g1 ob1 ⟨k, hk, q3, q6, q7, q8, hB, hfree⟩
  simp only at q3 q6 q7 q8 hB hfree
  have hw := wrap_succ (k := k) (by omega)
  have hlk : (jn (l.take k)).length ≤ 100000 := by
    have := jn_len (l := l.take k) (fun x h => by have := hx x (List.mem_of_mem_take h); omega)
    rw [List.length_take] at this
    omega
  by_cases hlt : k < l.length
  case neg =>
    have hki : ¬ (k : Int) < (l.length : Int) := by omega
    obtain rfl : k = l.length := by omega
    rw [List.take_of_length_le (Nat.le_refl _)] at hB hlk
    simp (config := { maxSteps := 1000000 }) only [go_sem,↓reduceIte,q7, q8, hki, q3]
    refine hook_funF kept_phiG rfl (by simp (config := { maxSteps := 1000000 }) only [go_sem,↓reduceIte,q3]; exact String_A hB (by omega)) ?_
    rintro _ g2 ob2 ⟨rfl, rfl, f2⟩
    simp (config := { maxSteps := 1000000 }) only [go_sem,↓reduceIte]
    exact ⟨by omega, rfl⟩
  have hki : (k : Int) < (l.length : Int) := by omega
  have hk0 : (0 : Int) ≤ (k : Int) := by omega
  obtain ⟨y, hy⟩ := getq hlt
  have hy2 : (l.map fun x => ([.int .i64 (x : Nat)] : List D))[k]? = some [.int .i64 (y : Nat)] := by rw [List.getElem?_map, hy]; rfl
  have hyx := hx y (List.mem_of_getElem? hy)
  have htk : l.take (k + 1) = l.take k ++ [y] := by rw [List.take_add_one, hy]; rfl
  have hdl := dec_len (n := y) (by omega)
  by_cases h0 : k = 0
  · subst h0
    rw [List.take_zero] at hB htk
    have hl0 : (0 : Int) < (l.length : Int) := by omega
    simp (config := { maxSteps := 1000000 }) only [go_sem,↓reduceIte,q3, q6, q7, q8, hl0, hy2, List.length_map]
    refine hook_callG kept_phiG (fun s β ds w h => h.1.2) rfl (by simp (config := { maxSteps := 1000000 }) only [go_sem,↓reduceIte]; exact Itoa_G ho y hyx) (by simp (config := { maxSteps := 1000000 }) only [go_sem,↓reduceIte]; rfl) ?_
    rintro _ rfl
    simp (config := { maxSteps := 1000000 }) only [go_sem,↓reduceIte,q3]
    refine hook_funF kept_phiG rfl (by simp (config := { maxSteps := 1000000 }) only [go_sem,↓reduceIte,q3]; exact WriteString_A (dec y) hB (by decide) (dec_ne y) (by simp [jn]) (by omega) hfree) ?_
    rintro _ g2 ob2 ⟨rfl, hB2, _, _, hfree2⟩
    simp (config := { maxSteps := 1000000 }) only [go_sem,↓reduceIte,q8, hw]
    refine round_endF (n - 1) (by omega) ⟨1, by omega, ?_⟩
    simp (config := { maxSteps := 1000000 }) only [go_sem,↓reduceIte,q3, q6, q7]
    rw [htk, List.nil_append, jn_one]
    exact ⟨by decide, hB2, hfree2⟩
  · have hkp : (0 : Int) < (k : Int) := by omega
    have hne2 : l.take k ≠ [] := by
      intro h
      have := congrArg List.length h
      rw [List.length_take, List.length_nil] at this
      omega
    simp (config := { maxSteps := 1000000 }) only [go_sem,↓reduceIte,q3, q6, q7, q8, hki, hk0, hkp, hy2, List.length_map]
    refine hook_funF kept_phiG rfl (by simp (config := { maxSteps := 1000000 }) only [go_sem,↓reduceIte,q3]; exact WriteString_A [32] hB (by decide) (by decide) (by omega) (by decide) hfree) ?_
    rintro _ g2 ob2 ⟨rfl, hB2, _, _, hfree2⟩
    simp (config := { maxSteps := 1000000 }) only [go_sem,↓reduceIte]
    refine hook_callG kept_phiG (fun s β ds w h => h.1.2) rfl (by simp (config := { maxSteps := 1000000 }) only [go_sem,↓reduceIte]; exact Itoa_G ho y hyx) (by simp (config := { maxSteps := 1000000 }) only [go_sem,↓reduceIte]; rfl) ?_
    rintro _ rfl
    simp (config := { maxSteps := 1000000 }) only [go_sem,↓reduceIte,q3]
    refine hook_funF kept_phiG rfl (by simp (config := { maxSteps := 1000000 }) only [go_sem,↓reduceIte,q3]; exact WriteString_A (dec y) hB2 (by decide) (dec_ne y) (by rw [List.length_append, List.length_singleton]; omega) (by omega) hfree2) ?_
    rintro _ g3 ob3 ⟨rfl, hB3, _, _, hfree3⟩
    simp (config := { maxSteps := 1000000 }) only [go_sem,↓reduceIte,q8, hw]
    refine round_endF (n - 1) (by omega) ⟨k + 1, by omega, ?_⟩
    simp (config := { maxSteps := 1000000 }) only [go_sem,↓reduceIte,q3, q6, q7]
    rw [htk, jn_snoc hne2]
    exact ⟨hB3, hfree3⟩

end Go.Proofs.YtiaalcpkhlnpcabGreatDoor

namespace Go.Am
section
variable {P : Program} {T : Nat → TI} {b₀ : Bs} {rd : Option Nat} {gb : Nat} {o : Hold} {Ψ : PanF} {B0 : Nat}

theorem hook_viewG {Φ : St → Loc → List Deferred → World → Prop} (hΦ : KeptTr b₀ Φ) (hG : ∀ s β ds w, Φ s β ds w → HeldI b₀ gb o w) {op : Oper} {s : St} {K : St → Prop} {k : Box K} {f : FuncId} {args : Array Operand} {tys : Array TypeId} (ho : op.op = .call ⟨.value (.func f), args, tys⟩) {R : AV → Prop} {xs : List AV}
    (hx : FrzVs s (args.toList.map s.ev) xs) (hp : PureG P gb o f xs R) (hd : ∀ r, R r → scalarAV r = true) (hk : ∀ r, R r → K (s.put op.dst r)) : hookA (spF P rd b₀ Φ B0 Ψ) op s k := by
  refine ⟨fun s' => ∃ r, R r ∧ s' = s.put op.dst r, ?_, fun _ ⟨r, hr, e⟩ => e ▸ hk r hr⟩
  intro N β a ds w hr hφ hdst next Q hn _
  have hnd : noDefer op = true := by simp [noDefer, ho]
  refine wp_fen hnd ?_
  unfold Oper.wp
  rw [run_call ho hp.1 w]
  simp only [Oper.upon]
  have hargs : ∀ (l : List Operand) (xs : List AV), FrzVs s (l.map s.ev) xs → RVs (Own b₀ w) w xs (l.map a.eval) := by
    intro l
    induction l with
    | nil => intro xs h; simp only [List.map_nil, FrzVs] at h; subst h; simp only [List.map_nil, RVs]
    | cons x l ih =>
      intro xs h
      simp only [List.map_cons, FrzVs] at h
      obtain ⟨r, rs, rfl, h1, h2⟩ := h
      simp only [List.map_cons, RVs]
      exact ⟨_, _, rfl, h1.rep hr (hr.ev x), ih rs h2⟩
  have := hp.2 (Own b₀ w) w (args.toList.map a.eval) (hG _ _ _ _ hφ).2 (fun _ h => h.1) (hargs _ _ hx)
  rw [show (args.toList.map a.eval).toArray = args.map a.eval from Array.ext' (by simp)] at this
  refine this.mono fun e w' ⟨v, r, he, hR, hs, hh, hos, hv⟩ => ?_
  subst he
  obtain ⟨g1, g2⟩ := hr.grow hs hh hos
  have h1 := g1.put hdst (RV.rep r (RV.of_scalar (hd r hR) hv))
  exact ⟨h1.defers, hn _ β _ w' ⟨r, hR, rfl⟩ h1 (hΦ _ _ _ _ _ _ _ hφ (g2.trans (Tr.same (St.put_gen _ _ _) (St.put_obj _ _ _) rfl)))⟩
end
end Go.Am

namespace Go.Proofs.YtiaalcpkhlnpcabGreatDoor
open Go Go.Am Go.Asm

theorem frz_nums {s : St} {id g n : Nat} {l : List Nat} (hg : s.gen id = g) (ho : s.obj id = some (l.map fun n => C.d (.int .i64 (n : Nat)))) (hn : l.length = n) : Frz s (.osl id g 1 0 n) (numsD l) := by
  refine frz_rows hg l (fun n => [.int .i64 (n : Nat)]) ho ?_ (fun a _ x hx => ?_) (fun a _ => rfl) hn
  · clear ho hn; induction l with | nil => rfl | cons a l ih => simpa using ih
  · simp at hx; subst hx; rfl

theorem Bld.put {b ib gb j : Nat} {bs : Str} {g : Nat → Nat} {ob : Obs} {y : Option (List C)} (h : Bld b ib gb bs g ob) (h1 : j ≠ b) (h2 : j ≠ ib) : Bld b ib gb bs g (upd ob j y) := by
  obtain ⟨hg, hc, ⟨a, ha, ho⟩, hn⟩ := h
  have e1 : upd ob j y b = ob b := by simp only [upd]; rw [if_neg (Ne.symm h1)]
  have e2 : upd ob j y ib = ob ib := by simp only [upd]; rw [if_neg (Ne.symm h2)]
  exact ⟨hg, hc, ⟨a, ha, by rw [e1, e2]; exact ho⟩, hn⟩
theorem Bld.newG {b ib gb j x : Nat} {bs : Str} {g : Nat → Nat} {ob : Obs} (h : Bld b ib gb bs g ob) (h1 : j ≠ b) (h2 : j ≠ ib) : Bld b ib gb bs (upd g j x) ob := by
  obtain ⟨hg, hc, ⟨a, ha, ho⟩, hn⟩ := h
  have e1 : upd g j x b = g b := by simp only [upd]; rw [if_neg (Ne.symm h1)]
  have e2 : upd g j x ib = g ib := by simp only [upd]; rw [if_neg (Ne.symm h2)]
  exact ⟨e1.trans hg, hc, ⟨a, ha, by rw [e2]; exact ho⟩, hn⟩

/-- A word's line. -/
def lineW (w : Nat) : Str := if rightI (w / 16777216 : Nat) (w / 1048576 % 16 : Nat) (w / 65536 % 16 : Nat) (w % 65536 : Nat) = true then numL [w / 16777216, w / 1048576 % 16, w / 65536 % 16, w % 65536] else [48, 32] ++ dec w ++ [10]
def numsT (code : List Nat) (d : Nat) : Str := numL [code.length, d] ++ code.flatMap lineW
def numbersV (code : List Nat) (d : Int) : AV := if mayI code d = true then .tup [sv (numsT code d.toNat), iv .i64 0] else .tup [sv [], iv .i64 1]

theorem numL_len {l : List Nat} (h : ∀ x ∈ l, x < 18446744073709551616) : (numL l).length ≤ 21 * l.length + 1 := by
  have := jn_len h
  unfold numL
  rw [List.length_append, List.length_singleton]
  omega
theorem numL_ne (l : List Nat) : numL l ≠ [] := by unfold numL; simp
theorem lineW_len {w : Nat} (h : w < 4294967296) : (lineW w).length ≤ 100 := by
  unfold lineW
  split
  · have := numL_len (l := [w / 16777216, w / 1048576 % 16, w / 65536 % 16, w % 65536]) (by simp; omega)
    simp at this
    omega
  · have := dec_len (n := w) (by omega)
    simp only [List.length_append, List.length_cons, List.length_nil]
    omega
theorem lines_len : ∀ {l : List Nat}, (∀ w ∈ l, w < 4294967296) → (l.flatMap lineW).length ≤ 100 * l.length
  | [], _ => by simp
  | w :: l, h => by
    have h1 := lineW_len (h w (by simp))
    have h2 := lines_len (l := l) (fun x hx => h x (by simp [hx]))
    simp only [List.flatMap_cons, List.length_append, List.length_cons]
    omega

set_option maxHeartbeats 8000000 in
theorem Numbers_G {o : Hold} (ho : PowO o) (code : List Nat) (d : Int) (hcw : ∀ w ∈ code, w < 4294967296) : PureG Tryz.prog 5 o 6 [imgZ code d] (· = numbersV code d) := by
  refine pure_of_wpG2 0 5 o Tt_ok mixed Tryz.func6 rfl (by rfl) [.tmp 2, .tmp 3] rfl (by kernel_rfl) (by kernel_rfl) (by simp [Tryz.ntmps6]) fun b₀ β0 s0 w0 g => ?_
  have hR := ImgRight_A code d
  unfold numbersV
  cases hm : mayI code d
  · rw [hm] at hR
    unfold imgZ codeD at hR ⊢
    simp (config := { maxSteps := 1000000 }) only [go_sem,↓reduceIte]
    refine hook_callF kept_phiG rfl (by simp (config := { maxSteps := 1000000 }) only [go_sem,↓reduceIte]; exact hR) (by simp (config := { maxSteps := 1000000 }) only [go_sem,↓reduceIte]; rfl) ?_
    rintro _ rfl
    simp (config := { maxSteps := 1000000 }) only [go_sem,↓reduceIte]
    exact ⟨_, ⟨_, ⟨_, _, rfl, frz1 _, _, _, rfl, frz1 _, rfl⟩, rfl⟩, rfl⟩
  rw [hm] at hR
  obtain ⟨hl, hd0, hd1⟩ := of_decide_eq_true hm
  obtain ⟨e, rfl⟩ : ∃ e : Nat, d = e := ⟨d.toNat, by omega⟩
  rw [Int.toNat_natCast]
  unfold imgZ codeD at hR ⊢
  simp (config := { maxSteps := 1000000 }) only [go_sem,↓reduceIte]
  refine hook_callF kept_phiG rfl (by simp (config := { maxSteps := 1000000 }) only [go_sem,↓reduceIte]; exact hR) (by simp (config := { maxSteps := 1000000 }) only [go_sem,↓reduceIte]; rfl) ?_
  rintro _ rfl
  simp (config := { maxSteps := 1000000 }) only [go_sem,↓reduceIte,List.length_map]
  refine hook_viewG (xs := [.one (.d (numsD [code.length, e]))]) kept_phiG (fun s β ds w h => h.1.2) rfl ?_ (numberLine_G ho [code.length, e] (by simp) (by simp) (by simp; omega)) (by rintro _ rfl; rfl) ?_
  · simp (config := { maxSteps := 1000000 }) only [go_sem,↓reduceIte]
    exact ⟨_, _, rfl, ⟨_, frz_nums (l := [code.length, e]) (by simp [upd]) (by simp [upd]) rfl, rfl⟩, rfl⟩
  rintro _ rfl
  have hn2 := numL_len (l := [code.length, e]) (by simp; omega)
  simp only [List.length_cons, List.length_nil] at hn2
  simp (config := { maxSteps := 1000000 }) only [go_sem,↓reduceIte]
  refine hook_funF kept_phiG rfl (by simp (config := { maxSteps := 1000000 }) only [go_sem,↓reduceIte]; exact WriteString_A (B := 100) (bs := []) (numL [code.length, e]) ⟨by simp [upd], by simp [code_nxC], ⟨_, .inl rfl, .inl ⟨rfl, by simp [upd], by simp [upd]⟩⟩, by decide⟩ (by decide) (numL_ne _) (by simp) (by omega) (fun i hi h => by simp only [upd]; (repeat rw [if_neg (by omega)]))) ?_
  rintro _ g2 ob2 ⟨rfl, hB, eg, eo, hfree⟩
  have e1 := eg 1 (by decide)
  have o1 := eo 1 (by decide) (by decide)
  simp [upd] at e1 o1
  simp (config := { maxSteps := 1000000 }) only [go_sem,↓reduceIte,e1, o1, List.length_map]
  clear e1 o1 eg eo
  refine loop_introF (fun n st => ∃ k : Nat, n + k = code.length ∧ st.f 4 = .one (.ptr 4 (nxC 39 (g 4)) 0) ∧ st.f 21 = .one (.d (codeD code)) ∧ st.f 22 = iv .i64 code.length ∧ st.f 23 = iv .i64 k ∧ Bld 4 (100 + 14) (nxC 39 (g 4)) (numL [code.length, e] ++ (code.take k).flatMap lineW) st.gen st.obj ∧ ∀ i, 100 ≤ i → i ≠ 114 → st.obj i = none) code.length ?_ ?_
  · refine ⟨0, rfl, ?_⟩
    simp (config := { maxSteps := 1000000 }) only [go_sem,↓reduceIte,List.take_zero, List.flatMap_nil, List.append_nil]
    exact ⟨rfl, hB, hfree⟩
  clear hB hfree g2 ob2
  rintro n f g2 ob2 ⟨k, hk, q4, q21, q22, q23, hB, hfree⟩
  simp only at q4 q21 q22 q23 hB hfree
  unfold codeD at q21
  have hw := wrap_succ (k := k) (by omega)
  have hll := lines_len (l := code.take k) (fun w h => hcw w (List.mem_of_mem_take h))
  rw [List.length_take] at hll
  have hbl : (numL [code.length, e] ++ (code.take k).flatMap lineW).length ≤ 100000000 := by rw [List.length_append]; omega
  by_cases hlt : k < code.length
  case neg =>
    have hki : ¬ (k : Int) < (code.length : Int) := by omega
    obtain rfl : k = code.length := by omega
    rw [List.take_of_length_le (Nat.le_refl _)] at hB hbl
    simp (config := { maxSteps := 1000000 }) only [go_sem,↓reduceIte,q22, q23, hki, q4]
    refine hook_funF kept_phiG rfl (by simp (config := { maxSteps := 1000000 }) only [go_sem,↓reduceIte,q4]; exact String_A hB (by omega)) ?_
    rintro _ g3 ob3 ⟨rfl, rfl, f2⟩
    simp (config := { maxSteps := 1000000 }) only [go_sem,↓reduceIte]
    exact ⟨_, ⟨_, ⟨_, _, rfl, frz1 _, _, _, rfl, frz1 _, rfl⟩, rfl⟩, rfl⟩
  have hki : (k : Int) < (code.length : Int) := by omega
  have hk0 : (0 : Int) ≤ (k : Int) := by omega
  obtain ⟨w, hcg⟩ := getq hlt
  have hc2 : (code.map fun n => ([.int .u32 (n : Nat)] : List D))[k]? = some [.int .u32 (w : Nat)] := by rw [List.getElem?_map, hcg]; rfl
  have hww := hcw w (List.mem_of_getElem? hcg)
  have htk : (code.take (k + 1)).flatMap lineW = (code.take k).flatMap lineW ++ lineW w := by rw [List.take_add_one, hcg, List.flatMap_append]; simp
  rw [show k + 1 = k + 1 from rfl] at htk
  simp (config := { maxSteps := 1000000 }) only [go_sem,↓reduceIte,q4, q21, q22, q23, hki, hk0, hc2, List.length_map]
  refine hook_callF kept_phiG rfl (by simp (config := { maxSteps := 1000000 }) only [go_sem,↓reduceIte]; exact Decode_A w hww) (by simp (config := { maxSteps := 1000000 }) only [go_sem,↓reduceIte]; rfl) ?_
  rintro _ rfl
  have hlw : lineW w = if rightI (w / 16777216 : Nat) (w / 1048576 % 16 : Nat) (w / 65536 % 16 : Nat) (w % 65536 : Nat) = true then numL [w / 16777216, w / 1048576 % 16, w / 65536 % 16, w % 65536] else [48, 32] ++ dec w ++ [10] := rfl
  have hB' : ∀ x y z, Bld 4 (100 + 14) (nxC 39 (g 4)) (numL [code.length, e] ++ (code.take k).flatMap lineW) (upd g2 7 x) (upd (upd ob2 7 y) 7 z) := fun x y z => ((hB.newG (by decide) (by decide)).put (by decide) (by decide)).put (by decide) (by decide)
  have hfree' : ∀ y z i, 100 ≤ i → i ≠ 114 → upd (upd ob2 7 y) 7 z i = none := fun y z i hi h => by simp only [upd]; (repeat rw [if_neg (by omega)]); exact hfree i hi h
  have hlwl := lineW_len hww
  have hlne : lineW w ≠ [] := by unfold lineW; split <;> simp [numL]
  unfold decV
  cases hR : rightI (w / 16777216 : Nat) (w / 1048576 % 16 : Nat) (w / 65536 % 16 : Nat) (w % 65536 : Nat)
  · rw [hR, if_neg (by decide)] at hlw
    unfold instV
    have hdl : (Lib.decDigits w).length ≤ 20 := dec_len (n := w) (by omega)
    simp (config := { maxSteps := 1000000 }) only [go_sem,↓reduceIte,q4]
    refine hook_callG kept_phiG (fun s β ds w h => h.1.2) rfl (by simp (config := { maxSteps := 1000000 }) only [go_sem,↓reduceIte]; exact Text_G ho w hww) (by simp (config := { maxSteps := 1000000 }) only [go_sem,↓reduceIte]; rfl) ?_
    rintro _ rfl
    simp (config := { maxSteps := 1000000 }) only [go_sem,↓reduceIte,q4]
    refine ⟨by omega, by omega, ?_⟩
    rw [show (48 :: 32 :: (Lib.decDigits w ++ [10]) : Str) = lineW w from hlw.symm]
    refine hook_funF kept_phiG rfl (by simp (config := { maxSteps := 1000000 }) only [go_sem,↓reduceIte,q4]; exact WriteString_A (lineW w) (hB' _ _ _) (by decide) hlne (by omega) (by omega) (hfree' _ _)) ?_
    rintro _ g3 ob3 ⟨rfl, hB3, _, _, hfree3⟩
    simp (config := { maxSteps := 1000000 }) only [go_sem,↓reduceIte,q23, hw]
    refine round_endF (n - 1) (by omega) ⟨k + 1, by omega, ?_⟩
    simp (config := { maxSteps := 1000000 }) only [go_sem,↓reduceIte,q4, q21, q22]
    rw [htk, ← List.append_assoc]
    exact ⟨rfl, hB3, hfree3⟩
  · rw [hR, if_pos rfl] at hlw
    unfold instV
    simp (config := { maxSteps := 1000000 }) only [go_sem,↓reduceIte,q4]
    refine hook_viewG (xs := [.one (.d (numsD [w / 16777216, w / 1048576 % 16, w / 65536 % 16, w % 65536]))]) kept_phiG (fun s β ds w h => h.1.2) rfl ?_ (numberLine_G ho [w / 16777216, w / 1048576 % 16, w / 65536 % 16, w % 65536] (by simp) (by simp) (by simp; omega)) (by rintro _ rfl; rfl) ?_
    · simp (config := { maxSteps := 1000000 }) only [go_sem,↓reduceIte]
      exact ⟨_, _, rfl, ⟨_, frz_nums (l := [w / 16777216, w / 1048576 % 16, w / 65536 % 16, w % 65536]) (by simp [upd]) (by simp [upd]) rfl, rfl⟩, rfl⟩
    rintro _ rfl
    rw [← hlw]
    simp (config := { maxSteps := 1000000 }) only [go_sem,↓reduceIte,q4]
    refine hook_funF kept_phiG rfl (by simp (config := { maxSteps := 1000000 }) only [go_sem,↓reduceIte,q4]; exact WriteString_A (lineW w) (((hB' _ _ _).newG (by decide) (by decide)).put (j := 47) (by decide) (by decide)) (by decide) hlne (by omega) (by omega) (fun i hi h => by simp only [upd]; rw [if_neg (by omega)]; exact hfree' _ _ i hi h)) ?_
    rintro _ g3 ob3 ⟨rfl, hB3, _, _, hfree3⟩
    simp (config := { maxSteps := 1000000 }) only [go_sem,↓reduceIte,q23, hw]
    refine round_endF (n - 1) (by omega) ⟨k + 1, by omega, ?_⟩
    simp (config := { maxSteps := 1000000 }) only [go_sem,↓reduceIte,q4, q21, q22]
    rw [htk, ← List.append_assoc]
    exact ⟨rfl, hB3, hfree3⟩

end Go.Proofs.YtiaalcpkhlnpcabGreatDoor
