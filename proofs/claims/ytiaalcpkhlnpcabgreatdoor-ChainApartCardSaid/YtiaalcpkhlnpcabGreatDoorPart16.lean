/- A part of the proof; no conditions. -/
import Derived.Test.YtiaalcpkhlnpcabGreatDoorPart15
set_option linter.unusedSimpArgs false
set_option linter.unusedVariables false
namespace Go.Proofs.YtiaalcpkhlnpcabGreatDoor
open Go Go.Am Go.Asm

/-- An instruction, as the program reads it. -/
def insP (n : Nat) (st : Sta) (op : Nat) (args : List Str) : Res Sta :=
  if args.length ≠ nArgs op then .err 1 else
  match regsOf (args.take (nRegs op)) with
  | none => .err 1
  | some rs => if (Asm.shape op).2.2 = 1 then withCA n st op (rs.getD 0 0) (rs.getD 1 0) (args.getD (nRegs op) []) else encR st op (rs.getD 0 0) (rs.getD 1 0) (rs.getD 2 0)

theorem shape_cases (op : Nat) : (Asm.shape op = (true, false, 1) ∨ Asm.shape op = (true, true, 0) ∨ Asm.shape op = (true, true, 2) ∨ Asm.shape op = (true, true, 1) ∨ Asm.shape op = (false, false, 1) ∨ Asm.shape op = (true, false, 0) ∨ Asm.shape op = (false, false, 0)) := by
  unfold Asm.shape
  repeat' split
  all_goals simp

theorem regOf_le {s : Str} {n : Nat} (h : regOf s = some n) : n ≤ 15 := by
  unfold regOf at h
  repeat' split at h
  all_goals first | (cases h; done) | (cases h; assumption)
theorem operand_reg {s : Str} {n : Nat} (h : operandA s = .reg n) : n ≤ 15 := by
  unfold operandA at h
  split at h
  · rename_i m hm; cases h; exact regOf_le hm
  · split at h
    · cases h
    · cases h
    · unfold restOpd at h
      repeat' split at h
      all_goals first | (cases h; done)
theorem regOf?_le {s : Str} {n : Nat} (h : regOf? s = some n) : n ≤ 15 := by
  unfold regOf? at h
  split at h
  · rename_i m hm; cases h; exact operand_reg hm
  · cases h
theorem regsOf_le : ∀ {l : List Str} {rs : List Nat}, regsOf l = some rs → rs.length = l.length ∧ ∀ x ∈ rs, x ≤ 15
  | [], rs, h => by cases h; simp
  | a :: l, rs, h => by
    unfold regsOf at h
    cases ha : regOf? a with
    | none => rw [ha] at h; cases h
    | some n =>
      rw [ha] at h
      cases hl : regsOf l with
      | none => rw [hl] at h; cases h
      | some ns =>
        rw [hl] at h
        cases h
        obtain ⟨h1, h2⟩ := regsOf_le hl
        exact ⟨by simp [h1], fun x hx => by rcases List.mem_cons.1 hx with rfl | hx; exact regOf?_le ha; exact h2 x hx⟩
theorem regsOf_take {l : List Str} {k : Nat} {s : Str} {rs : List Nat} (hs : l[k]? = some s) (h : regsOf (l.take k) = some rs) : regsOf (l.take (k + 1)) = (regOf? s).map fun n => rs ++ [n] := by
  induction l generalizing k rs with
  | nil => simp at hs
  | cons a l ih =>
    cases k with
    | zero =>
      simp at hs
      subst hs
      simp only [List.take_zero] at h
      cases h
      simp [regsOf]
      cases regOf? a <;> rfl
    | succ k =>
      simp only [List.take_succ_cons] at h ⊢
      unfold regsOf at h ⊢
      cases ha : regOf? a with
      | none => rw [ha] at h; cases h
      | some m =>
        rw [ha] at h
        cases hl : regsOf (l.take k) with
        | none => rw [hl] at h; cases h
        | some ns =>
          rw [hl] at h
          cases h
          rw [ih (by simpa using hs) hl]
          cases regOf? s <;> rfl
theorem regsOf_fail {l : List Str} {k m : Nat} {s : Str} (hs : l[k]? = some s) (hk : k < m) (h : regOf? s = none) : regsOf (l.take m) = none := by
  induction l generalizing k m with
  | nil => simp at hs
  | cons a l ih =>
    obtain ⟨m, rfl⟩ : ∃ j, m = j + 1 := ⟨m - 1, by omega⟩
    rw [List.take_succ_cons]
    unfold regsOf
    cases k with
    | zero => simp at hs; subst hs; rw [h]; rfl
    | succ k =>
      rw [ih (k := k) (by simpa using hs) (by omega)]
      cases regOf? a <;> rfl

/-- The cells of an instruction, of which some registers were read. -/
def insC (op : Nat) (rs : List Nat) : List C := [.d (.int .i64 (op : Nat)), .d (.int .i64 (rs.getD 0 0 : Nat)), .d (.int .i64 (rs.getD 1 0 : Nat)), .d (.int .i64 (rs.getD 2 0 : Nat))]
theorem insC_set (op v : Nat) {rs : List Nat} (h : rs.length < 3) : setAt (insC op rs) (rs.length + 1) [.d (.int .i64 (v : Nat))] = insC op (rs ++ [v]) := by
  match rs, h with
  | [], _ => rfl
  | [a], _ => rfl
  | [a, b], _ => rfl
def ptrs (gi m : Nat) : List C := (List.range m).map fun j => C.ptr 4012 gi (j + 1)
theorem ptrs_get {gi m k : Nat} (h : k < m) : (ptrs gi m)[k]? = some (.ptr 4012 gi (k + 1)) := by simp [ptrs, h]

theorem nRegs_le (op : Nat) : nRegs op ≤ 3 := by unfold nRegs; repeat' split
                                                 all_goals omega
theorem nRegs_num {op : Nat} (h : (Asm.shape op).2.2 = 1) : nRegs op ≤ 2 := by unfold nRegs; rw [h]; repeat' split
                                                                               all_goals first | omega | simp
theorem nArgs_eq (op : Nat) : nArgs op = nRegs op + (if (Asm.shape op).2.2 = 1 then 1 else 0) := rfl
theorem insP_len {n op : Nat} {st : Sta} {args : List Str} (h : ¬ args.length = nArgs op) : insP n st op args = .err 1 := by unfold insP; rw [if_pos h]
theorem insP_bad {n op : Nat} {st : Sta} {args : List Str} (h : regsOf (args.take (nRegs op)) = none) : insP n st op args = .err 1 := by
  unfold insP
  by_cases hl : args.length ≠ nArgs op
  · rw [if_pos hl]
  · rw [if_neg hl, h]
theorem insP_num {n op : Nat} {st : Sta} {args : List Str} {rs : List Nat} (hl : args.length = nArgs op) (h : regsOf (args.take (nRegs op)) = some rs) (hc : (Asm.shape op).2.2 = 1) : insP n st op args = withCA n st op (rs.getD 0 0) (rs.getD 1 0) (args.getD (nRegs op) []) := by
  unfold insP
  rw [if_neg (by simp [hl]), h]
  simp only [hc, if_true]
theorem insP_reg {n op : Nat} {st : Sta} {args : List Str} {rs : List Nat} (hl : args.length = nArgs op) (h : regsOf (args.take (nRegs op)) = some rs) (hc : ¬ (Asm.shape op).2.2 = 1) : insP n st op args = encR st op (rs.getD 0 0) (rs.getD 1 0) (rs.getD 2 0) := by
  unfold insP
  rw [if_neg (by simp [hl]), h]
  simp only [hc, if_false]

def InvI (n op : Nat) (args : List Str) (gr : Nat) (g : Nat → Nat) (ob : Obs) (nn : Nat) (s : St) : Prop :=
  ∃ (k : Nat) (rs : List Nat), nn + k = nRegs op ∧ rs.length = k ∧ regsOf (args.take k) = some rs ∧ s.f 0 = .one (.ptr 5 gr 0) ∧ s.f 1 = iv .i64 n ∧ s.f 3 = .one (.d (.sl (args.map fun w => [D.str w]))) ∧
    s.f 11 = iv .i64 ((Asm.shape op).2.2 : Nat) ∧ s.f 12 = .one (.ptr 4012 (nxC 46 (g 4012)) 0) ∧ s.f 14 = iv .i64 (nArgs op : Nat) ∧ s.f 54 = iv .i64 k ∧ s.f 53 = iv .i64 (nRegs op : Nat) ∧
    (nRegs op = 0 ∨ s.f 52 = .one (.osl 4030 (s.gen 4030) 1 0 (nRegs op)) ∧ s.obj 4030 = some (ptrs (nxC 46 (g 4012)) (nRegs op))) ∧
    s.gen 4012 = nxC 46 (g 4012) ∧ s.obj 4012 = some (insC op rs) ∧ (∀ i, i < 3000 → s.gen i = g i) ∧ (∀ i, i < 3000 → s.obj i = ob i)

end Go.Proofs.YtiaalcpkhlnpcabGreatDoor
