/- GraphBehind. -/
import Derived.Test.YtfhmibodjfpdfaaG15
set_option linter.unusedSimpArgs false
set_option linter.unusedVariables false
namespace Go.Proofs.Ytfhmibodjfpdfaa
open Go Go.Am

theorem Right_toI {ys : List (List Nat)} (hR : Rt ys) : Right (toI ys) := by
  intro r hr m hm
  simp only [toI, List.mem_map] at hr
  obtain ⟨r0, hr0, rfl⟩ := hr
  obtain ⟨m0, hm0, rfl⟩ := List.mem_map.1 hm
  have := hR r0 hr0 m0 hm0
  simp [toI]; omega

theorem BehindOut.same {xs : List (List Int)} {i : Int} {r r' : AV} (h : BehindOut xs i r) (h' : BehindOut xs i r') : r = r' := by
  rcases h with ⟨hn, rfl⟩ | ⟨ys, i', S, rfl, hR, rfl, hi, hl, hS, rfl⟩
  · rcases h' with ⟨_, rfl⟩ | ⟨ys, i', S, rfl, hR, rfl, hi, _⟩
    · rfl
    · exact absurd ⟨Right_toI hR, by omega, by simp [toI]; omega⟩ hn
  · rcases h' with ⟨hn, _⟩ | ⟨zs, j', S', e, _, e2, _, _, hS', rfl⟩
    · exact absurd ⟨Right_toI hR, by omega, by simp [toI]; omega⟩ hn
    · obtain rfl := toI_inj e
      have : j' = i' := by omega
      subst this
      rw [behindOf_eq (fun k => (hS k).trans (hS' k).symm)]

theorem BehindOut.form {xs : List (List Int)} {i : Int} (hbn : xs.length ≤ 1000000) {r : AV} (h : BehindOut xs i r) : ∃ (l : List Nat) (e : Int), r = .tup [.one (.d (nats l)), iv .i64 e] ∧ l.length ≤ 1000000 := by
  rcases h with ⟨hn, rfl⟩ | ⟨ys, i', S, rfl, hR, rfl, hi, hl, hS, rfl⟩
  · exact ⟨[], 1, rfl, by simp⟩
  · have := behindOf_len S i' ys.length
    exact ⟨_, 0, rfl, by simp [toI] at hbn; omega⟩

set_option maxHeartbeats 4000000 in
set_option maxRecDepth 100000 in
theorem GraphBehind_A (xs : List (List Int)) (h1 : xs.length ≤ 140737488355328) (h2 : ∀ r ∈ xs, r.length ≤ 140737488355328) (i : Int) : PureR Try.prog 8 [.one (.d (intss xs)), iv .i64 i] (· = bv true) := by
  refine pure_of_wp Tt_ok mixed Try.func8 rfl (by rfl) [4] rfl (by kernel_rfl) (by simp [Try.ntmps8]) fun g => ?_
  simp (config := { maxSteps := 1000000 }) only [go_sem, ↓reduceIte, Nat.reduceEqDiff, Nat.reduceAdd, Nat.reduceMul, Nat.reduceSub, Nat.reduceLT, Nat.reduceLeDiff, Int.reduceLT, Int.reduceLE, Int.reduceEq, Int.reduceNe, Int.reduceAdd, Int.reduceNeg, Int.reduceToNat, intss]
  refine hook_call rfl (Few_A xs 300 (by decide) h1 h2) (by rfl) ?_
  rintro _ rfl
  by_cases hf : total xs ≤ 300
  · have hb := fits_total (by decide) hf
    have hbn := hb.n
    simp (config := { maxSteps := 1000000 }) only [go_sem, ↓reduceIte, Nat.reduceEqDiff, Nat.reduceAdd, Nat.reduceMul, Nat.reduceSub, Nat.reduceLT, Nat.reduceLeDiff, Int.reduceLT, Int.reduceLE, Int.reduceEq, Int.reduceNe, Int.reduceAdd, Int.reduceNeg, Int.reduceToNat, hf]
    refine hook_call rfl (Behind_A xs hb i) (by rfl) ?_
    intro r hr
    obtain ⟨l, e, rfl, hl⟩ := hr.form hbn
    simp (config := { maxSteps := 1000000 }) only [go_sem, ↓reduceIte, Nat.reduceEqDiff, Nat.reduceAdd, Nat.reduceMul, Nat.reduceSub, Nat.reduceLT, Nat.reduceLeDiff, Int.reduceLT, Int.reduceLE, Int.reduceEq, Int.reduceNe, Int.reduceAdd, Int.reduceNeg, Int.reduceToNat]
    refine hook_call rfl (RBehind_A xs hb i) (by rfl) ?_
    intro r' hr'
    obtain rfl := hr.same hr'
    simp (config := { maxSteps := 1000000 }) only [go_sem, ↓reduceIte, Nat.reduceEqDiff, Nat.reduceAdd, Nat.reduceMul, Nat.reduceSub, Nat.reduceLT, Nat.reduceLeDiff, Int.reduceLT, Int.reduceLE, Int.reduceEq, Int.reduceNe, Int.reduceAdd, Int.reduceNeg, Int.reduceToNat, nats]
    refine hook_call rfl awake_A (by rfl) ?_
    rintro _ rfl
    simp (config := { maxSteps := 1000000 }) only [go_sem, ↓reduceIte, Nat.reduceEqDiff, Nat.reduceAdd, Nat.reduceMul, Nat.reduceSub, Nat.reduceLT, Nat.reduceLeDiff, Int.reduceLT, Int.reduceLE, Int.reduceEq, Int.reduceNe, Int.reduceAdd, Int.reduceNeg, Int.reduceToNat]
    refine hook_call rfl (Same_N l l hl hl) (by rfl) ?_
    rintro _ rfl
    simp (config := { maxSteps := 1000000 }) only [go_sem, ↓reduceIte, Nat.reduceEqDiff, Nat.reduceAdd, Nat.reduceMul, Nat.reduceSub, Nat.reduceLT, Nat.reduceLeDiff, Int.reduceLT, Int.reduceLE, Int.reduceEq, Int.reduceNe, Int.reduceAdd, Int.reduceNeg, Int.reduceToNat]
  · simp (config := { maxSteps := 1000000 }) only [go_sem, ↓reduceIte, Nat.reduceEqDiff, Nat.reduceAdd, Nat.reduceMul, Nat.reduceSub, Nat.reduceLT, Nat.reduceLeDiff, Int.reduceLT, Int.reduceLE, Int.reduceEq, Int.reduceNe, Int.reduceAdd, Int.reduceNeg, Int.reduceToNat, hf]
    refine hook_call rfl awake_A (by rfl) ?_
    rintro _ rfl
    simp (config := { maxSteps := 1000000 }) only [go_sem, ↓reduceIte, Nat.reduceEqDiff, Nat.reduceAdd, Nat.reduceMul, Nat.reduceSub, Nat.reduceLT, Nat.reduceLeDiff, Int.reduceLT, Int.reduceLE, Int.reduceEq, Int.reduceNe, Int.reduceAdd, Int.reduceNeg, Int.reduceToNat]

end Go.Proofs.Ytfhmibodjfpdfaa
