/- A part of the proof; no conditions. -/
import Derived.Test.YtfhmibodjfpdfaaG6
set_option linter.unusedSimpArgs false
set_option linter.unusedVariables false
namespace Go.Proofs.Ytfhmibodjfpdfaa
open Go Go.Am

theorem LevelsOut.flat {xs : List (List Int)} (hbn : xs.length ≤ 1000000) {r : AV} (h : LevelsOut xs r) : ∃ (gs : List (List Nat)) (e : Int), r = .tup [.one (.d (natss gs)), iv .i64 e] ∧ gs.flatten.length ≤ 1000000 ∧ gs.length ≤ 1000000 ∧
    OrderOut xs (.tup [.one (.d (nats gs.flatten)), iv .i64 e]) := by
  rcases h with ⟨hR, rfl⟩ | ⟨ys, rfl, hRt, ⟨lv, hLv, rfl⟩ | ⟨hno, rfl⟩⟩
  · exact ⟨[], 1, rfl, by simp, by simp, .inl ⟨hR, rfl⟩⟩
  · have hyl : (toI ys).length = ys.length := by simp [toI]
    have hdl := hLv.depth_le hRt
    have hfl := groups_flat (lv := lv)
    have hll := hLv.len
    have hgl : (groups lv).length = depth lv := by simp [groups]
    exact ⟨groups lv, 0, rfl, by omega, by omega, .inr ⟨ys, rfl, hRt, .inl ⟨lv, hLv, rfl⟩⟩⟩
  · exact ⟨[], 11, rfl, by simp, by simp, .inr ⟨ys, rfl, hRt, .inr ⟨hno, rfl⟩⟩⟩

theorem ROrder_A (xs : List (List Int)) (hb : Fits xs) : PureR Try.prog 17 [.one (.d (intss xs))] (OrderOut xs) := by
  have hbn := hb.n
  refine pure_of_wp Tt_ok mixed Try.func17 rfl (by rfl) [2, 3] rfl (by kernel_rfl) (by simp [Try.ntmps17]) fun g => ?_
  simp (config := { maxSteps := 1000000 }) only [go_sem, ↓reduceIte, Nat.reduceEqDiff, Nat.reduceAdd, Nat.reduceMul, Nat.reduceSub, Nat.reduceLT, Nat.reduceLeDiff, Int.reduceLT, Int.reduceLE, Int.reduceEq, Int.reduceNe, Int.reduceAdd, Int.reduceNeg, Int.reduceToNat]
  refine hook_call rfl (RLevels_A xs hb) (by rfl) ?_
  intro r hr
  obtain ⟨gs, e, rfl, hfl, hgl, hOut⟩ := hr.flat hbn
  simp (config := { maxSteps := 1000000 }) only [go_sem, ↓reduceIte, Nat.reduceEqDiff, Nat.reduceAdd, Nat.reduceMul, Nat.reduceSub, Nat.reduceLT, Nat.reduceLeDiff, Int.reduceLT, Int.reduceLE, Int.reduceEq, Int.reduceNe, Int.reduceAdd, Int.reduceNeg, Int.reduceToNat]
  refine loop_vs _ (vs_grab (t := 6) (id := 24) (sz := 1) ?_)
    (fun n s => ∃ k : Nat, n + k = gs.length ∧ s.f 4 = .one (.d (natss gs)) ∧ s.f 5 = iv .i64 e ∧ s.f 7 = iv .i64 k ∧ s.f 6 = .one (.osl 24 (s.gen 24) 1 0 (gs.take k).flatten.length) ∧ s.obj 24 = some (ncells (gs.take k).flatten)) gs.length ?_ ?_
  · simp (config := { maxSteps := 1000000 }) only [go_sem, ↓reduceIte, Nat.reduceEqDiff, Nat.reduceAdd, Nat.reduceMul, Nat.reduceSub, Nat.reduceLT, Nat.reduceLeDiff, Int.reduceLT, Int.reduceLE, Int.reduceEq, Int.reduceNe, Int.reduceAdd, Int.reduceNeg, Int.reduceToNat]
  · refine ⟨0, ?_⟩
    simp (config := { maxSteps := 1000000 }) only [go_sem, ↓reduceIte, Nat.reduceEqDiff, Nat.reduceAdd, Nat.reduceMul, Nat.reduceSub, Nat.reduceLT, Nat.reduceLeDiff, Int.reduceLT, Int.reduceLE, Int.reduceEq, Int.reduceNe, Int.reduceAdd, Int.reduceNeg, Int.reduceToNat, St.grab, List.flatten_nil]
    exact ⟨rfl, rfl, rfl⟩
  · rintro n f g ob ⟨k, hk, h4, h5, h7, h6, h24⟩
    simp only at h4 h5 h7 h6 h24
    have hw := wrap_succ (k := k) (by omega)
    by_cases hlt : k < gs.length
    · obtain ⟨l, hl⟩ := getq hlt
      have h1 := take_flat_le gs (k + 1)
      have hs := take_flat_succ hl
      rw [hs, List.length_append] at h1
      simp (config := { maxSteps := 1000000 }) only [go_sem, ↓reduceIte, Nat.reduceEqDiff, Nat.reduceAdd, Nat.reduceMul, Nat.reduceSub, Nat.reduceLT, Nat.reduceLeDiff, Int.reduceLT, Int.reduceLE, Int.reduceEq, Int.reduceNe, Int.reduceAdd, Int.reduceNeg, Int.reduceToNat, h4, h5, h7, h6, h24, natss, nats, hl, hlt, hw]
      refine ⟨by rw [ncells_len]; exact Nat.le_refl _, nats_ones l, room8 (by omega), ?_⟩
      refine round_end (n - 1) (by omega) ⟨k + 1, by omega, ?_⟩
      simp (config := { maxSteps := 1000000 }) only [go_sem, ↓reduceIte, Nat.reduceEqDiff, Nat.reduceAdd, Nat.reduceMul, Nat.reduceSub, Nat.reduceLT, Nat.reduceLeDiff, Int.reduceLT, Int.reduceLE, Int.reduceEq, Int.reduceNe, Int.reduceAdd, Int.reduceNeg, Int.reduceToNat, h4, h5, natss, nats, hs, List.length_append, ncells_take, ncells_app, nats_flat]
    · simp (config := { maxSteps := 1000000 }) only [go_sem, ↓reduceIte, Nat.reduceEqDiff, Nat.reduceAdd, Nat.reduceMul, Nat.reduceSub, Nat.reduceLT, Nat.reduceLeDiff, Int.reduceLT, Int.reduceLE, Int.reduceEq, Int.reduceNe, Int.reduceAdd, Int.reduceNeg, Int.reduceToNat, h4, h5, h7, h6, h24, natss, hlt]
      rw [List.take_of_length_le (by omega)] at h24
      rw [List.take_of_length_le (by omega)]
      exact ⟨_, ⟨_, frz_nats rfl h24 rfl, rfl⟩, hOut⟩

/-! ### Few -/
def total (xs : List (List Int)) : Nat := xs.length + (xs.map List.length).sum

theorem total_take (xs : List (List Int)) (k : Nat) : ((xs.take k).map List.length).sum ≤ (xs.map List.length).sum := by
  conv => rhs; rw [← List.take_append_drop k xs]
  rw [List.map_append, List.sum_append]; omega

def part (xs : List (List Int)) (k : Nat) : Nat := xs.length + ((xs.take k).map List.length).sum

theorem part_succ {xs : List (List Int)} {k : Nat} {r : List Int} (h : xs[k]? = some r) : part xs (k + 1) = part xs k + r.length := by
  simp only [part, List.take_add_one, h, Option.toList_some, List.map_append, List.sum_append, List.map_cons, List.map_nil, List.sum_cons, List.sum_nil]; omega
theorem part_le (xs : List (List Int)) (k : Nat) : part xs k ≤ total xs := by
  have := total_take xs k
  simp only [part, total]; omega
theorem part_all {xs : List (List Int)} {k : Nat} (h : xs.length ≤ k) : part xs k = total xs := by
  simp only [part, total, List.take_of_length_le h]

theorem Few_A (xs : List (List Int)) (most : Nat) (hm : most ≤ 1000000) (h1 : xs.length ≤ 140737488355328) (h2 : ∀ r ∈ xs, r.length ≤ 140737488355328) : PureR Try.prog 13 [.one (.d (intss xs)), iv .i64 most] (· = bv (decide (total xs ≤ most))) := by
  refine pure_of_wp Tt_ok mixed Try.func13 rfl (by rfl) [4] rfl (by kernel_rfl) (by simp [Try.ntmps13]) fun g => ?_
  simp (config := { maxSteps := 1000000 }) only [go_sem, ↓reduceIte, Nat.reduceEqDiff, Nat.reduceAdd, Nat.reduceMul, Nat.reduceSub, Nat.reduceLT, Nat.reduceLeDiff, Int.reduceLT, Int.reduceLE, Int.reduceEq, Int.reduceNe, Int.reduceAdd, Int.reduceNeg, Int.reduceToNat, intss]
  refine loop_intro (fun n s => ∃ k : Nat, n + k = xs.length ∧ s.f 0 = .one (.d (intss xs)) ∧ s.f 1 = iv .i64 most ∧ s.f 5 = iv .i64 (part xs k) ∧ s.f 6 = iv .i64 k) xs.length ?_ ?_
  · refine ⟨0, ?_⟩
    simp (config := { maxSteps := 1000000 }) only [go_sem, ↓reduceIte, Nat.reduceEqDiff, Nat.reduceAdd, Nat.reduceMul, Nat.reduceSub, Nat.reduceLT, Nat.reduceLeDiff, Int.reduceLT, Int.reduceLE, Int.reduceEq, Int.reduceNe, Int.reduceAdd, Int.reduceNeg, Int.reduceToNat, intss, part]
    simp
  · rintro n f g ob ⟨k, hk, h0, h1', h5, h6⟩
    simp only at h0 h1' h5 h6
    have hw := wrap_succ (k := k) (by omega)
    have hpl := part_le xs k
    by_cases hlt : k < xs.length
    · obtain ⟨r, hr⟩ := getq hlt
      have hrl := h2 r (List.mem_of_getElem? hr)
      have hps := part_succ hr
      by_cases hle : part xs k ≤ most
      · have hw2 : IntKind.i64.wrap ((part xs k : Int) + (r.length : Int)) = ((part xs (k + 1) : Nat) : Int) := by rw [wrap_i64] <;> omega
        simp (config := { maxSteps := 1000000 }) only [go_sem, ↓reduceIte, Nat.reduceEqDiff, Nat.reduceAdd, Nat.reduceMul, Nat.reduceSub, Nat.reduceLT, Nat.reduceLeDiff, Int.reduceLT, Int.reduceLE, Int.reduceEq, Int.reduceNe, Int.reduceAdd, Int.reduceNeg, Int.reduceToNat, intss, h0, h1', h5, h6, hlt, hle, ints, hr, hw2, hw]
        refine round_end (n - 1) (by omega) ⟨k + 1, by omega, ?_⟩
        simp (config := { maxSteps := 1000000 }) only [go_sem, ↓reduceIte, Nat.reduceEqDiff, Nat.reduceAdd, Nat.reduceMul, Nat.reduceSub, Nat.reduceLT, Nat.reduceLeDiff, Int.reduceLT, Int.reduceLE, Int.reduceEq, Int.reduceNe, Int.reduceAdd, Int.reduceNeg, Int.reduceToNat, intss, h0, h1', ints]
      · simp (config := { maxSteps := 1000000 }) only [go_sem, ↓reduceIte, Nat.reduceEqDiff, Nat.reduceAdd, Nat.reduceMul, Nat.reduceSub, Nat.reduceLT, Nat.reduceLeDiff, Int.reduceLT, Int.reduceLE, Int.reduceEq, Int.reduceNe, Int.reduceAdd, Int.reduceNeg, Int.reduceToNat, intss, h0, h1', h5, h6, hlt, hle]
        have : ¬ total xs ≤ most := by omega
        rw [decide_eq_false this]
    · have hpa := part_all (xs := xs) (k := k) (by omega)
      simp (config := { maxSteps := 1000000 }) only [go_sem, ↓reduceIte, Nat.reduceEqDiff, Nat.reduceAdd, Nat.reduceMul, Nat.reduceSub, Nat.reduceLT, Nat.reduceLeDiff, Int.reduceLT, Int.reduceLE, Int.reduceEq, Int.reduceNe, Int.reduceAdd, Int.reduceNeg, Int.reduceToNat, intss, h0, h1', h5, h6, hlt, hpa]

end Go.Proofs.Ytfhmibodjfpdfaa
