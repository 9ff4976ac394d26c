/- A part of the proof; no conditions. -/
import Derived.Test.YtfhmibodjfpdfaaGTab
set_option linter.unusedSimpArgs false
set_option linter.unusedVariables false
namespace Go.Proofs.Ytfhmibodjfpdfaa
open Go Go.Am

def ints (r : List Int) : D := .sl (r.map fun n => [.int .i64 n])
def intss (xs : List (List Int)) : D := .sl (xs.map fun r => [ints r])

def mayBe (xs : List (List Int)) : Bool := xs.all fun r => r.all fun k => decide (0 ≤ k ∧ k < xs.length)

theorem all_take_succ {α : Type} {p : α → Prop} {l : List α} {k : Nat} {x : α} (hx : l[k]? = some x) (h : ∀ y ∈ l.take k, p y) (hp : p x) : ∀ y ∈ l.take (k + 1), p y := by
  intro y hy
  rw [List.take_add_one, hx] at hy
  simp only [Option.toList_some, List.mem_append, List.mem_singleton] at hy
  rcases hy with hy | rfl
  · exact h y hy
  · exact hp

def Right (xs : List (List Int)) : Prop := ∀ r ∈ xs, ∀ m ∈ r, 0 ≤ m ∧ m < (xs.length : Int)
instance (xs : List (List Int)) : Decidable (Right xs) := by unfold Right; exact inferInstance

theorem not_Right {xs : List (List Int)} {k j : Nat} {r : List Int} {m : Int} (hr : xs[k]? = some r) (hm : r[j]? = some m) (h : m < 0 ∨ (xs.length : Int) ≤ m) : ¬ Right xs := fun hR => by
  have := hR r (List.mem_of_getElem? hr) m (List.mem_of_getElem? hm); omega

/-- So many rows, and of the next one so many numbers, are right. -/
def RightTo (xs : List (List Int)) (k : Nat) : Prop := ∀ r ∈ xs.take k, ∀ m ∈ r, 0 ≤ m ∧ m < (xs.length : Int)
def RowTo (n : Nat) (r : List Int) (j : Nat) : Prop := ∀ m ∈ r.take j, 0 ≤ m ∧ m < (n : Int)

theorem RowTo.succ {n : Nat} {r : List Int} {j : Nat} {m : Int} (h : RowTo n r j) (hm : r[j]? = some m) (h0 : ¬ m < 0) (h1 : ¬ (n : Int) ≤ m) : RowTo n r (j + 1) := all_take_succ hm h ⟨by omega, by omega⟩
theorem RightTo.succ {xs : List (List Int)} {k : Nat} {r : List Int} (h : RightTo xs k) (hr : xs[k]? = some r) {j : Nat} (hj : ¬ j < r.length) (h2 : RowTo xs.length r j) : RightTo xs (k + 1) :=
  all_take_succ hr h (by rw [RowTo, List.take_of_length_le (by omega)] at h2; exact h2)
theorem RightTo.all {xs : List (List Int)} {k : Nat} (h : RightTo xs k) (hk : ¬ k < xs.length) : Right xs := by rw [RightTo, List.take_of_length_le (by omega)] at h; exact h

/-- The bounds that keep counters from wrapping. -/
structure Fits (xs : List (List Int)) : Prop where
  n : xs.length ≤ 1000000
  rows : ∀ r ∈ xs, r.length ≤ 1000000

theorem mayBe_A (xs : List (List Int)) (hb : Fits xs) : PureR Try.prog 22 [.one (.d (intss xs))] (· = bv (decide (Right xs))) := by
  have hbn := hb.n
  refine pure_of_wp Tt_ok mixed Try.func22 rfl (by rfl) [2] rfl (by kernel_rfl) (by simp [Try.ntmps22]) fun g => ?_
  simp (config := { maxSteps := 1000000 }) only [go_sem, ↓reduceIte, Nat.reduceEqDiff, Nat.reduceAdd, Nat.reduceMul, Nat.reduceSub, Nat.reduceLT, Nat.reduceLeDiff, Int.reduceLT, Int.reduceLE, Int.reduceEq, Int.reduceNe, Int.reduceAdd, Int.reduceNeg, Int.reduceToNat, intss]
  refine loop_intro (fun n s => ∃ k : Nat, n + k = xs.length ∧ s.f 0 = .one (.d (intss xs)) ∧ s.f 7 = .one (.d (intss xs)) ∧ s.f 8 = iv .i64 xs.length ∧ s.f 9 = iv .i64 k ∧ RightTo xs k) xs.length ?_ ?_
  · refine ⟨0, ?_⟩
    simp (config := { maxSteps := 1000000 }) only [go_sem, ↓reduceIte, Nat.reduceEqDiff, Nat.reduceAdd, Nat.reduceMul, Nat.reduceSub, Nat.reduceLT, Nat.reduceLeDiff, Int.reduceLT, Int.reduceLE, Int.reduceEq, Int.reduceNe, Int.reduceAdd, Int.reduceNeg, Int.reduceToNat, intss]
    simp [RightTo]
  · rintro n f g ob ⟨k, hk, h0, h7, h8, h9, hall⟩
    simp only at h0 h7 h8 h9
    have hw := wrap_succ (k := k) (by omega)
    by_cases hlt : k < xs.length
    · obtain ⟨r, hr⟩ : ∃ r, xs[k]? = some r := ⟨_, List.getElem?_eq_getElem hlt⟩
      have hrl : r.length ≤ 1000000 := hb.rows r (List.mem_of_getElem? hr)
      simp (config := { maxSteps := 1000000 }) only [go_sem, ↓reduceIte, Nat.reduceEqDiff, Nat.reduceAdd, Nat.reduceMul, Nat.reduceSub, Nat.reduceLT, Nat.reduceLeDiff, Int.reduceLT, Int.reduceLE, Int.reduceEq, Int.reduceNe, Int.reduceAdd, Int.reduceNeg, Int.reduceToNat, h0, h7, h8, h9, intss, hr, hlt, ints]
      refine loop_intro (fun n s => ∃ j : Nat, n + j = r.length ∧ s.f 0 = .one (.d (intss xs)) ∧ s.f 7 = .one (.d (intss xs)) ∧ s.f 8 = iv .i64 xs.length ∧ s.f 9 = iv .i64 k ∧ s.f 13 = .one (.d (ints r)) ∧ s.f 14 = iv .i64 r.length ∧ s.f 15 = iv .i64 j ∧ RowTo xs.length r j) r.length ?_ ?_
      · refine ⟨0, ?_⟩
        simp (config := { maxSteps := 1000000 }) only [go_sem, ↓reduceIte, Nat.reduceEqDiff, Nat.reduceAdd, Nat.reduceMul, Nat.reduceSub, Nat.reduceLT, Nat.reduceLeDiff, Int.reduceLT, Int.reduceLE, Int.reduceEq, Int.reduceNe, Int.reduceAdd, Int.reduceNeg, Int.reduceToNat, h0, h7, h8, h9, intss, ints]
        simp [RowTo]
      · rintro n2 f g ob ⟨j, hj, h0, h7, h8, h9, h13, h14, h15, hall2⟩
        simp only at h0 h7 h8 h9 h13 h14 h15
        have hw2 := wrap_succ (k := j) (by omega)
        by_cases hjl : j < r.length
        · obtain ⟨m, hm⟩ : ∃ m, r[j]? = some m := ⟨_, List.getElem?_eq_getElem hjl⟩
          simp (config := { maxSteps := 1000000 }) only [go_sem, ↓reduceIte, Nat.reduceEqDiff, Nat.reduceAdd, Nat.reduceMul, Nat.reduceSub, Nat.reduceLT, Nat.reduceLeDiff, Int.reduceLT, Int.reduceLE, Int.reduceEq, Int.reduceNe, Int.reduceAdd, Int.reduceNeg, Int.reduceToNat, h0, h7, h8, h9, h13, h14, h15, intss, ints, hm, hjl, hw2]
          refine ⟨fun hneg => ?_, fun hneg => ⟨fun hge => ?_, fun hge => ?_⟩⟩
          · simp [not_Right hr hm (.inl hneg)]
          · simp [not_Right hr hm (.inr hge)]
          · refine round_end (n2 - 1) (by omega) ⟨j + 1, by omega, ?_⟩
            simp (config := { maxSteps := 1000000 }) only [go_sem, ↓reduceIte, Nat.reduceEqDiff, Nat.reduceAdd, Nat.reduceMul, Nat.reduceSub, Nat.reduceLT, Nat.reduceLeDiff, Int.reduceLT, Int.reduceLE, Int.reduceEq, Int.reduceNe, Int.reduceAdd, Int.reduceNeg, Int.reduceToNat, h0, h7, h8, h9, h13, h14, intss, ints]
            exact hall2.succ hm hneg hge
        · simp (config := { maxSteps := 1000000 }) only [go_sem, ↓reduceIte, Nat.reduceEqDiff, Nat.reduceAdd, Nat.reduceMul, Nat.reduceSub, Nat.reduceLT, Nat.reduceLeDiff, Int.reduceLT, Int.reduceLE, Int.reduceEq, Int.reduceNe, Int.reduceAdd, Int.reduceNeg, Int.reduceToNat, h0, h7, h8, h9, h13, h14, h15, intss, ints, hjl, hw]
          refine round_end (n - 1) (by omega) ⟨k + 1, by omega, ?_⟩
          simp (config := { maxSteps := 1000000 }) only [go_sem, ↓reduceIte, Nat.reduceEqDiff, Nat.reduceAdd, Nat.reduceMul, Nat.reduceSub, Nat.reduceLT, Nat.reduceLeDiff, Int.reduceLT, Int.reduceLE, Int.reduceEq, Int.reduceNe, Int.reduceAdd, Int.reduceNeg, Int.reduceToNat, h0, h7, h8, h9, h13, h14, intss, ints]
          exact hall.succ hr hjl hall2
    · simp (config := { maxSteps := 1000000 }) only [go_sem, ↓reduceIte, Nat.reduceEqDiff, Nat.reduceAdd, Nat.reduceMul, Nat.reduceSub, Nat.reduceLT, Nat.reduceLeDiff, Int.reduceLT, Int.reduceLE, Int.reduceEq, Int.reduceNe, Int.reduceAdd, Int.reduceNeg, Int.reduceToNat, h0, h7, h8, h9, intss, hlt]
      simp [hall.all hlt]

end Go.Proofs.Ytfhmibodjfpdfaa
