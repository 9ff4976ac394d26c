/- A part of the proof; no conditions. -/
import Derived.Test.YtfhmibodjfpdfaaG1
import Derived.Test.YtfhmibodjfpdfaaAm12
set_option linter.unusedSimpArgs false
set_option linter.unusedVariables false
namespace Go.Proofs.Ytfhmibodjfpdfaa
open Go Go.Am

theorem getq {α : Type} {l : List α} {k : Nat} (h : k < l.length) : ∃ x, l[k]? = some x := ⟨_, List.getElem?_eq_getElem h⟩

/-! ### has -/
theorem has_A (l : List Int) (i : Int) (hl : l.length ≤ 1000000) : PureR Try.prog 26 [.one (.d (ints l)), iv .i64 i] (· = bv (decide (i ∈ l))) := by
  refine pure_of_wp Tt_ok mixed Try.func26 rfl (by rfl) [4] rfl (by kernel_rfl) (by simp [Try.ntmps26]) fun g => ?_
  simp (config := { maxSteps := 1000000 }) only [go_sem, ↓reduceIte, Nat.reduceEqDiff, Nat.reduceAdd, Nat.reduceMul, Nat.reduceSub, Nat.reduceLT, Nat.reduceLeDiff, Int.reduceLT, Int.reduceLE, Int.reduceEq, Int.reduceNe, Int.reduceAdd, Int.reduceNeg, Int.reduceToNat, ints]
  refine loop_intro (fun n s => ∃ k : Nat, n + k = l.length ∧ s.f 0 = .one (.d (ints l)) ∧ s.f 1 = iv .i64 i ∧ s.f 5 = iv .i64 k ∧ ∀ m ∈ l.take k, ¬ m = i) l.length ?_ ?_
  · refine ⟨0, ?_⟩
    simp (config := { maxSteps := 1000000 }) only [go_sem, ↓reduceIte, Nat.reduceEqDiff, Nat.reduceAdd, Nat.reduceMul, Nat.reduceSub, Nat.reduceLT, Nat.reduceLeDiff, Int.reduceLT, Int.reduceLE, Int.reduceEq, Int.reduceNe, Int.reduceAdd, Int.reduceNeg, Int.reduceToNat, ints]
    simp
  · rintro n f g ob ⟨k, hk, h0, h1, h5, hall⟩
    simp only at h0 h1 h5
    have hw := wrap_succ (k := k) (by omega)
    by_cases hlt : k < l.length
    · obtain ⟨m, hm⟩ := getq hlt
      simp (config := { maxSteps := 1000000 }) only [go_sem, ↓reduceIte, Nat.reduceEqDiff, Nat.reduceAdd, Nat.reduceMul, Nat.reduceSub, Nat.reduceLT, Nat.reduceLeDiff, Int.reduceLT, Int.reduceLE, Int.reduceEq, Int.reduceNe, Int.reduceAdd, Int.reduceNeg, Int.reduceToNat, h0, h1, h5, ints, hm, hlt, hw]
      refine ⟨fun he => ?_, fun he => ?_⟩
      · have : i ∈ l := he ▸ List.mem_of_getElem? hm
        simp [this]
      · refine round_end (n - 1) (by omega) ⟨k + 1, by omega, ?_⟩
        simp (config := { maxSteps := 1000000 }) only [go_sem, ↓reduceIte, Nat.reduceEqDiff, Nat.reduceAdd, Nat.reduceMul, Nat.reduceSub, Nat.reduceLT, Nat.reduceLeDiff, Int.reduceLT, Int.reduceLE, Int.reduceEq, Int.reduceNe, Int.reduceAdd, Int.reduceNeg, Int.reduceToNat, h0, h1, ints]
        exact all_take_succ hm hall he
    · simp (config := { maxSteps := 1000000 }) only [go_sem, ↓reduceIte, Nat.reduceEqDiff, Nat.reduceAdd, Nat.reduceMul, Nat.reduceSub, Nat.reduceLT, Nat.reduceLeDiff, Int.reduceLT, Int.reduceLE, Int.reduceEq, Int.reduceNe, Int.reduceAdd, Int.reduceNeg, Int.reduceToNat, h0, h1, h5, ints, hlt]
      rw [List.take_of_length_le (by omega)] at hall
      have : ¬ i ∈ l := fun h => hall i h rfl
      simp [this]

/-! ### Right -/
theorem Right_A (xs : List (List Int)) (hb : Fits xs) : PureR Try.prog 21 [.one (.d (intss xs))] (· = bv (decide (Right xs))) := by
  have hbn := hb.n
  refine pure_of_wp Tt_ok mixed Try.func21 rfl (by rfl) [2] rfl (by kernel_rfl) (by simp [Try.ntmps21]) fun g => ?_
  simp (config := { maxSteps := 1000000 }) only [go_sem, ↓reduceIte, Nat.reduceEqDiff, Nat.reduceAdd, Nat.reduceMul, Nat.reduceSub, Nat.reduceLT, Nat.reduceLeDiff, Int.reduceLT, Int.reduceLE, Int.reduceEq, Int.reduceNe, Int.reduceAdd, Int.reduceNeg, Int.reduceToNat, intss]
  refine loop_intro (fun n s => ∃ k : Nat, n + k = xs.length ∧ s.f 0 = .one (.d (intss xs)) ∧ s.f 3 = iv .i64 k ∧ RightTo xs k) xs.length ?_ ?_
  · refine ⟨0, ?_⟩
    simp (config := { maxSteps := 1000000 }) only [go_sem, ↓reduceIte, Nat.reduceEqDiff, Nat.reduceAdd, Nat.reduceMul, Nat.reduceSub, Nat.reduceLT, Nat.reduceLeDiff, Int.reduceLT, Int.reduceLE, Int.reduceEq, Int.reduceNe, Int.reduceAdd, Int.reduceNeg, Int.reduceToNat, intss]
    simp [RightTo]
  · rintro n f g ob ⟨k, hk, h0, h3, hall⟩
    simp only at h0 h3
    have hw := wrap_succ (k := k) (by omega)
    by_cases hlt : k < xs.length
    · obtain ⟨r, hr⟩ := getq hlt
      have hrl : r.length ≤ 1000000 := hb.rows r (List.mem_of_getElem? hr)
      simp (config := { maxSteps := 1000000 }) only [go_sem, ↓reduceIte, Nat.reduceEqDiff, Nat.reduceAdd, Nat.reduceMul, Nat.reduceSub, Nat.reduceLT, Nat.reduceLeDiff, Int.reduceLT, Int.reduceLE, Int.reduceEq, Int.reduceNe, Int.reduceAdd, Int.reduceNeg, Int.reduceToNat, h0, h3, intss, hr, hlt, ints]
      refine loop_intro (fun n s => ∃ j : Nat, n + j = r.length ∧ s.f 0 = .one (.d (intss xs)) ∧ s.f 3 = iv .i64 k ∧ s.f 4 = iv .i64 j ∧ RowTo xs.length r j) r.length ?_ ?_
      · refine ⟨0, ?_⟩
        simp (config := { maxSteps := 1000000 }) only [go_sem, ↓reduceIte, Nat.reduceEqDiff, Nat.reduceAdd, Nat.reduceMul, Nat.reduceSub, Nat.reduceLT, Nat.reduceLeDiff, Int.reduceLT, Int.reduceLE, Int.reduceEq, Int.reduceNe, Int.reduceAdd, Int.reduceNeg, Int.reduceToNat, h0, h3, intss, ints]
        simp [RowTo]
      · rintro n2 f g ob ⟨j, hj, h0, h3, h4, hall2⟩
        simp only at h0 h3 h4
        have hw2 := wrap_succ (k := j) (by omega)
        by_cases hjl : j < r.length
        · obtain ⟨m, hm⟩ := getq hjl
          simp (config := { maxSteps := 1000000 }) only [go_sem, ↓reduceIte, Nat.reduceEqDiff, Nat.reduceAdd, Nat.reduceMul, Nat.reduceSub, Nat.reduceLT, Nat.reduceLeDiff, Int.reduceLT, Int.reduceLE, Int.reduceEq, Int.reduceNe, Int.reduceAdd, Int.reduceNeg, Int.reduceToNat, h0, h3, h4, intss, ints, hr, hm, hjl, hw2]
          refine ⟨fun hneg => ?_, fun hneg => ⟨fun hge => ?_, fun hge => ?_⟩⟩
          · simp [not_Right hr hm (.inl hneg)]
          · simp [not_Right hr hm (.inr hge)]
          · refine round_end (n2 - 1) (by omega) ⟨j + 1, by omega, ?_⟩
            simp (config := { maxSteps := 1000000 }) only [go_sem, ↓reduceIte, Nat.reduceEqDiff, Nat.reduceAdd, Nat.reduceMul, Nat.reduceSub, Nat.reduceLT, Nat.reduceLeDiff, Int.reduceLT, Int.reduceLE, Int.reduceEq, Int.reduceNe, Int.reduceAdd, Int.reduceNeg, Int.reduceToNat, h0, h3, intss, ints]
            exact hall2.succ hm hneg hge
        · simp (config := { maxSteps := 1000000 }) only [go_sem, ↓reduceIte, Nat.reduceEqDiff, Nat.reduceAdd, Nat.reduceMul, Nat.reduceSub, Nat.reduceLT, Nat.reduceLeDiff, Int.reduceLT, Int.reduceLE, Int.reduceEq, Int.reduceNe, Int.reduceAdd, Int.reduceNeg, Int.reduceToNat, h0, h3, h4, intss, ints, hr, hjl, hw]
          refine round_end (n - 1) (by omega) ⟨k + 1, by omega, ?_⟩
          simp (config := { maxSteps := 1000000 }) only [go_sem, ↓reduceIte, Nat.reduceEqDiff, Nat.reduceAdd, Nat.reduceMul, Nat.reduceSub, Nat.reduceLT, Nat.reduceLeDiff, Int.reduceLT, Int.reduceLE, Int.reduceEq, Int.reduceNe, Int.reduceAdd, Int.reduceNeg, Int.reduceToNat, h0, h3, intss, ints]
          exact hall.succ hr hjl hall2
    · simp (config := { maxSteps := 1000000 }) only [go_sem, ↓reduceIte, Nat.reduceEqDiff, Nat.reduceAdd, Nat.reduceMul, Nat.reduceSub, Nat.reduceLT, Nat.reduceLeDiff, Int.reduceLT, Int.reduceLE, Int.reduceEq, Int.reduceNe, Int.reduceAdd, Int.reduceNeg, Int.reduceToNat, h0, h3, intss, hlt]
      simp [hall.all hlt]

/-! ### Same -/
theorem Same_A (a b : List Int) (ha : a.length ≤ 1000000) (hb : b.length ≤ 1000000) : PureR Try.prog 15 [.one (.d (ints a)), .one (.d (ints b))] (· = bv (decide (a = b))) := by
  refine pure_of_wp Tt_ok mixed Try.func15 rfl (by rfl) [4] rfl (by kernel_rfl) (by simp [Try.ntmps15]) fun g => ?_
  simp (config := { maxSteps := 1000000 }) only [go_sem, ↓reduceIte, Nat.reduceEqDiff, Nat.reduceAdd, Nat.reduceMul, Nat.reduceSub, Nat.reduceLT, Nat.reduceLeDiff, Int.reduceLT, Int.reduceLE, Int.reduceEq, Int.reduceNe, Int.reduceAdd, Int.reduceNeg, Int.reduceToNat, ints]
  refine ⟨fun hne => ?_, fun hne => ?_⟩
  · have : ¬ a = b := fun h => hne (by rw [h])
    simp [this]
  have hlen : a.length = b.length := by
    have := Classical.not_not.1 hne; omega
  refine loop_intro (fun n s => ∃ k : Nat, n + k = a.length ∧ s.f 0 = .one (.d (ints a)) ∧ s.f 1 = .one (.d (ints b)) ∧ s.f 5 = iv .i64 k ∧ a.take k = b.take k) a.length ?_ ?_
  · refine ⟨0, ?_⟩
    simp (config := { maxSteps := 1000000 }) only [go_sem, ↓reduceIte, Nat.reduceEqDiff, Nat.reduceAdd, Nat.reduceMul, Nat.reduceSub, Nat.reduceLT, Nat.reduceLeDiff, Int.reduceLT, Int.reduceLE, Int.reduceEq, Int.reduceNe, Int.reduceAdd, Int.reduceNeg, Int.reduceToNat, ints]
    simp
  · rintro n f g ob ⟨k, hk, h0, h1, h5, hall⟩
    simp only at h0 h1 h5
    have hw := wrap_succ (k := k) (by omega)
    by_cases hlt : k < a.length
    · obtain ⟨m, hm⟩ := getq hlt
      obtain ⟨m', hm'⟩ := getq (l := b) (k := k) (by omega)
      simp (config := { maxSteps := 1000000 }) only [go_sem, ↓reduceIte, Nat.reduceEqDiff, Nat.reduceAdd, Nat.reduceMul, Nat.reduceSub, Nat.reduceLT, Nat.reduceLeDiff, Int.reduceLT, Int.reduceLE, Int.reduceEq, Int.reduceNe, Int.reduceAdd, Int.reduceNeg, Int.reduceToNat, h0, h1, h5, ints, hlt]
      refine draw_intro (by decide +kernel) ?_
      simp (config := { maxSteps := 1000000 }) only [go_sem, ↓reduceIte, Nat.reduceEqDiff, Nat.reduceAdd, Nat.reduceMul, Nat.reduceSub, Nat.reduceLT, Nat.reduceLeDiff, Int.reduceLT, Int.reduceLE, Int.reduceEq, Int.reduceNe, Int.reduceAdd, Int.reduceNeg, Int.reduceToNat, h0, h1, h5, ints, hm, hm', hlt, hw]
      refine ⟨fun he => ?_, fun he => ?_⟩
      · have : ¬ a = b := fun h => he (by rw [h, hm'] at hm; exact (Option.some.inj hm).symm)
        simp [this]
      · have he := Classical.not_not.1 he
        refine round_end (n - 1) (by omega) ⟨k + 1, by omega, ?_⟩
        simp (config := { maxSteps := 1000000 }) only [go_sem, ↓reduceIte, Nat.reduceEqDiff, Nat.reduceAdd, Nat.reduceMul, Nat.reduceSub, Nat.reduceLT, Nat.reduceLeDiff, Int.reduceLT, Int.reduceLE, Int.reduceEq, Int.reduceNe, Int.reduceAdd, Int.reduceNeg, Int.reduceToNat, h0, h1, ints]
        rw [List.take_add_one, List.take_add_one, hall, hm, hm', he]
    · simp (config := { maxSteps := 1000000 }) only [go_sem, ↓reduceIte, Nat.reduceEqDiff, Nat.reduceAdd, Nat.reduceMul, Nat.reduceSub, Nat.reduceLT, Nat.reduceLeDiff, Int.reduceLT, Int.reduceLE, Int.reduceEq, Int.reduceNe, Int.reduceAdd, Int.reduceNeg, Int.reduceToNat, h0, h1, h5, ints, hlt]
      rw [List.take_of_length_le (by omega), List.take_of_length_le (by omega)] at hall
      simp [hall]

/-! ### ready -/
def bools (r : List Bool) : D := .sl (r.map fun n => [.bool n])

theorem ready_A (l : List Int) (done : List Bool) (hl : l.length ≤ 1000000) (hin : ∀ m ∈ l, 0 ≤ m ∧ m < (done.length : Int)) :
    PureR Try.prog 25 [.one (.d (ints l)), .one (.d (bools done))] (· = bv (decide (∀ m ∈ l, done[m.toNat]? = some true))) := by
  refine pure_of_wp Tt_ok mixed Try.func25 rfl (by rfl) [4] rfl (by kernel_rfl) (by simp [Try.ntmps25]) fun g => ?_
  simp (config := { maxSteps := 1000000 }) only [go_sem, ↓reduceIte, Nat.reduceEqDiff, Nat.reduceAdd, Nat.reduceMul, Nat.reduceSub, Nat.reduceLT, Nat.reduceLeDiff, Int.reduceLT, Int.reduceLE, Int.reduceEq, Int.reduceNe, Int.reduceAdd, Int.reduceNeg, Int.reduceToNat, ints, bools]
  refine loop_intro (fun n s => ∃ k : Nat, n + k = l.length ∧ s.f 0 = .one (.d (ints l)) ∧ s.f 1 = .one (.d (bools done)) ∧ s.f 5 = iv .i64 k ∧ ∀ m ∈ l.take k, done[m.toNat]? = some true) l.length ?_ ?_
  · refine ⟨0, ?_⟩
    simp (config := { maxSteps := 1000000 }) only [go_sem, ↓reduceIte, Nat.reduceEqDiff, Nat.reduceAdd, Nat.reduceMul, Nat.reduceSub, Nat.reduceLT, Nat.reduceLeDiff, Int.reduceLT, Int.reduceLE, Int.reduceEq, Int.reduceNe, Int.reduceAdd, Int.reduceNeg, Int.reduceToNat, ints, bools]
    simp
  · rintro n f g ob ⟨k, hk, h0, h1, h5, hall⟩
    simp only at h0 h1 h5
    have hw := wrap_succ (k := k) (by omega)
    by_cases hlt : k < l.length
    · obtain ⟨m, hm⟩ := getq hlt
      have hmi := hin m (List.mem_of_getElem? hm)
      obtain ⟨b, hb⟩ := getq (l := done) (k := m.toNat) (by omega)
      have hm0 := hmi.1
      cases b with
      | true =>
        simp (config := { maxSteps := 1000000 }) only [go_sem, ↓reduceIte, Nat.reduceEqDiff, Nat.reduceAdd, Nat.reduceMul, Nat.reduceSub, Nat.reduceLT, Nat.reduceLeDiff, Int.reduceLT, Int.reduceLE, Int.reduceEq, Int.reduceNe, Int.reduceAdd, Int.reduceNeg, Int.reduceToNat, h0, h1, h5, ints, bools, hm, hb, hlt, hw, hm0]
        refine round_end (n - 1) (by omega) ⟨k + 1, by omega, ?_⟩
        simp (config := { maxSteps := 1000000 }) only [go_sem, ↓reduceIte, Nat.reduceEqDiff, Nat.reduceAdd, Nat.reduceMul, Nat.reduceSub, Nat.reduceLT, Nat.reduceLeDiff, Int.reduceLT, Int.reduceLE, Int.reduceEq, Int.reduceNe, Int.reduceAdd, Int.reduceNeg, Int.reduceToNat, h0, h1, ints, bools]
        exact all_take_succ hm hall hb
      | false =>
        simp (config := { maxSteps := 1000000 }) only [go_sem, ↓reduceIte, Nat.reduceEqDiff, Nat.reduceAdd, Nat.reduceMul, Nat.reduceSub, Nat.reduceLT, Nat.reduceLeDiff, Int.reduceLT, Int.reduceLE, Int.reduceEq, Int.reduceNe, Int.reduceAdd, Int.reduceNeg, Int.reduceToNat, h0, h1, h5, ints, bools, hm, hb, hlt, hw, hm0]
        have : ¬ ∀ m ∈ l, done[m.toNat]? = some true := fun h => by
          have := h m (List.mem_of_getElem? hm); rw [hb] at this; cases this
        simp only [this, decide_false]
    · simp (config := { maxSteps := 1000000 }) only [go_sem, ↓reduceIte, Nat.reduceEqDiff, Nat.reduceAdd, Nat.reduceMul, Nat.reduceSub, Nat.reduceLT, Nat.reduceLeDiff, Int.reduceLT, Int.reduceLE, Int.reduceEq, Int.reduceNe, Int.reduceAdd, Int.reduceNeg, Int.reduceToNat, h0, h1, h5, ints, bools, hlt]
      rw [List.take_of_length_le (by omega)] at hall
      simp only [decide_eq_true hall]

end Go.Proofs.Ytfhmibodjfpdfaa
