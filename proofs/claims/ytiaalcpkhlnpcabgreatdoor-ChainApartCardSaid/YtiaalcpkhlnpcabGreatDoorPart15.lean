/- A part of the proof; no conditions. -/
import Derived.Test.YtiaalcpkhlnpcabGreatDoorPart14
set_option linter.unusedSimpArgs false
set_option linter.unusedVariables false
namespace Go.Proofs.YtiaalcpkhlnpcabGreatDoor
open Go Go.Am Go.Asm

theorem preB_one {c : UInt8} {s : Str} (h : preB [c] s = true) : s = c :: s.drop 1 := by
  have h2 : s.take 1 = [c] := of_decide_eq_true h
  have := List.take_append_drop 1 s
  rw [h2] at this; exact this.symm
theorem preB_two {c d : UInt8} {s : Str} (h : preB [c, d] s = true) : s = c :: d :: s.drop 2 := by
  have h2 : s.take 2 = [c, d] := of_decide_eq_true h
  have := List.take_append_drop 2 s
  rw [h2] at this; exact this.symm
theorem regOf_no {s : Str} (h : preB [114] s = false) : regOf s = none := by
  unfold regOf
  split
  · rename_i d
    simp [preB] at h
  · rfl

theorem restOpd_hex {s : Str} (h : preB [48, 120] s = true) : restOpd s = hexO (s.drop 2) := by
  conv => lhs; rw [preB_two h]
  rfl
theorem restOpd_no {s : Str} (h : preB [48, 120] s = false) : restOpd s = (match charOf s with | some n => .num n | none => if isLabel s = true then .lab else .other) := by
  unfold restOpd
  split
  · simp [preB] at h
  · rfl

theorem charOf_len {s : Str} (h : ¬ s.length = 3) : charOf s = none := by
  unfold charOf
  split
  · simp at h
  · rfl
theorem three {s : Str} (h : s.length = 3) : ∃ a c b, s = [a, c, b] := by
  match s, h with
  | [a, c, b], _ => exact ⟨a, c, b, rfl⟩
theorem charOf_ok {a b c : UInt8} (ha : a = 39) (hb : b = 39) (h1 : 33 ≤ c.toNat) (h2 : c.toNat ≤ 126) (h : badC c = false) : charOf [a, c, b] = some c.toNat := by
  simp only [badC, Bool.or_eq_false_iff, beq_eq_false_iff_ne] at h
  simp [charOf, charOk, ha, hb, h1, h2, h.1.1.1, h.1.1.2, h.1.2, h.2]
theorem charOf_bad {a b c : UInt8} (h : badC c = true) : charOf [a, c, b] = none := by
  simp only [badC, Bool.or_eq_true, beq_iff_eq] at h
  rcases h with ((h | h) | h) | h <;> simp [charOf, charOk, h]

end Go.Proofs.YtiaalcpkhlnpcabGreatDoor

namespace Go.Proofs.YtiaalcpkhlnpcabGreatDoor
open Go Go.Am Go.Asm

def useD (x : Nat × Nat × Str) : List C := [.d (.int .i64 x.1), .d (.int .i64 x.2.1), .d (.str x.2.2)]
def labC (x : Str × Nat) : List C := [.d (.str x.1), .d (.int .i64 x.2)]
/-- The reader lies at 5, its map at 17, its code at 1020, its uses at 2000. -/
structure Rdr (gr kd : Nat) (st : Sta) (g : Nat → Nat) (ob : Obs) : Prop where
  gen : g 5 = gr
  obj : ∃ cc uc, ob 5 = some [cc, .d (.int .i64 (st.data : Nat)), .d (.bool st.hasD), .mp 17 (g 17) kd, uc] ∧
    ((st.code = [] ∧ cc = .d .nsl ∧ ob 1020 = none) ∨ (st.code ≠ [] ∧ cc = .osl 1020 (g 1020) 1 0 st.code.length ∧ ob 1020 = some (st.code.map fun n => .d (.int .u32 (n : Nat))))) ∧
    ((st.uses = [] ∧ uc = .d .nsl ∧ ob 2000 = none) ∨ (st.uses ≠ [] ∧ uc = .osl 2000 (g 2000) 3 0 st.uses.length ∧ ob 2000 = some (st.uses.flatMap useD)))
  map : ob 17 = some (st.labs.flatMap labC)

end Go.Proofs.YtiaalcpkhlnpcabGreatDoor

namespace Go.Proofs.YtiaalcpkhlnpcabGreatDoor
open Go Go.Am Go.Asm

theorem Rdr.of {gr kd : Nat} {st : Sta} {g g' : Nat → Nat} {ob ob' : Obs} (h : Rdr gr kd st g ob) (hg : ∀ i, i = 5 ∨ i = 17 ∨ i = 1020 ∨ i = 2000 → g' i = g i) (ho : ∀ i, i = 5 ∨ i = 17 ∨ i = 1020 ∨ i = 2000 → ob' i = ob i) : Rdr gr kd st g' ob' := by
  obtain ⟨h1, ⟨cc, uc, h2, h3, h4⟩, h5⟩ := h
  refine ⟨by rw [hg 5 (by decide)]; exact h1, ⟨cc, uc, ?_, ?_, ?_⟩, by rw [ho 17 (by decide)]; exact h5⟩
  · rw [ho 5 (by decide), hg 17 (by decide)]; exact h2
  · rw [ho 1020 (by decide), hg 1020 (by decide)]; exact h3
  · rw [ho 2000 (by decide), hg 2000 (by decide)]; exact h4

/-- What a method of the reader's owes. -/
def Out (gr kd : Nat) (R : Res Sta) (g : Nat → Nat) (ob : Obs) (r : AV) (g' : Nat → Nat) (ob' : Obs) : Prop :=
  (∀ i, i < 1000 → g' i = g i) ∧ (∀ i, i ≠ 5 → i ≠ 17 → i < 1000 → ob' i = ob i) ∧ match R with | .ok st => r = iv .i64 0 ∧ Rdr gr kd st g' ob' | .err e => r = iv .i64 (e : Nat)

theorem Out.from {gr kd : Nat} {R : Res Sta} {g g1 g' : Nat → Nat} {ob ob1 ob' : Obs} {r : AV} (h : Out gr kd R g1 ob1 r g' ob') (hg : ∀ i, i < 1000 → g1 i = g i) (ho : ∀ i, i ≠ 5 → i ≠ 17 → i < 1000 → ob1 i = ob i) : Out gr kd R g ob r g' ob' :=
  ⟨fun i hi => (h.1 i hi).trans (hg i hi), fun i h5 h17 hi => (h.2.1 i h5 h17 hi).trans (ho i h5 h17 hi), h.2.2⟩

theorem retF_at {res : List Nat} {R : AV → (Nat → Nat) → Obs → Prop} {s : St} (h : R (resAV s.f res) s.gen s.obj) : RetF res R .ret s := ⟨_, SemVs.refl _, h⟩

end Go.Proofs.YtiaalcpkhlnpcabGreatDoor

namespace Go.Proofs.YtiaalcpkhlnpcabGreatDoor
open Go Go.Am Go.Asm

theorem retFR_at {T : Nat → TI} {t : Nat} {R : AV → (Nat → Nat) → Obs → Prop} {s : St} (h : R (s.f t) s.gen s.obj) : RetFR T [.tmp t] R .ret s := ⟨_, SemVs.refl _, h⟩

/-- The word of an instruction, if it may be. -/
def encR (st : Sta) (op a b c : Nat) : Res Sta := if rightI op a b c = true then addW st (word op a b c) else .err 1
theorem uses_flat (us : List (Nat × Nat × Str)) : (us.flatMap useD).length = us.length * 3 := by
  induction us with
  | nil => rfl
  | cons u us ih => rw [List.flatMap_cons, List.length_append, ih]; simp [useD]; omega

theorem uses_take (us : List (Nat × Nat × Str)) : (us.flatMap useD).take (us.length * 3) = us.flatMap useD := List.take_of_length_le (Nat.le_of_eq (uses_flat us))

/-- What withC does: op, a, b: the instruction's; n: the line's number. -/
def withCA (n : Nat) (st : Sta) (op a b : Nat) (s : Str) : Res Sta :=
  match operandA s with
  | .lab => encR { st with uses := st.uses ++ [(n, st.code.length, s)] } op a b 0
  | .num v => if 65535 < v then .err 2 else encR st op a b v
  | .great => .err 2
  | _ => .err 1

end Go.Proofs.YtiaalcpkhlnpcabGreatDoor
