/- Told true, a program may be; small. -/
import Derived.Test.YthengcpckdlpgaaL15
set_option linter.unusedSimpArgs false
set_option linter.unusedVariables false
namespace Go.Proofs.Ythengcpckdlpgaa
open Go Go.Am Go.Lower

def fnOk (w : Int) (x : Fn) : Prop := 0 ≤ x.params ∧ x.params ≤ x.slots ∧ within w x.first x.slots

set_option maxHeartbeats 8000000 in
set_option maxRecDepth 100000 in
theorem Right_A {w : Int} {fs : List Fn} (hw400 : w ≤ 400) (hF : fs.length ≤ 1000000) (hS : sizeC fs ≤ 100000000000) : PureR Try.prog 9 [coreC w fs] (fun r => ∃ b, r = bv b ∧ (b = true → OkC w fs)) := by
  refine pure_of_wp Tt_ok mixed Try.func9 rfl (by rfl) [2] rfl (by kernel_rfl) (by simp [Try.ntmps9]) fun g => ?_
  unfold coreC
  by_cases hw0 : w < 0
  · simp (config := { maxSteps := 1000000 }) only [go_sem, ↓reduceIte, Nat.reduceEqDiff, Nat.reduceAdd, Nat.reduceMul, Nat.reduceSub, Nat.reduceLT, Nat.reduceLeDiff, Int.reduceLT, Int.reduceLE, Int.reduceEq, Int.reduceNe, Int.reduceAdd, Int.reduceNeg, Int.reduceToNat, hw0]
    exact ⟨false, rfl, fun h => by cases h⟩
  have hw1 : ¬ 32768 < w := by omega
  by_cases hn0 : (fs.length : Int) < 1
  · simp (config := { maxSteps := 1000000 }) only [go_sem, ↓reduceIte, Nat.reduceEqDiff, Nat.reduceAdd, Nat.reduceMul, Nat.reduceSub, Nat.reduceLT, Nat.reduceLeDiff, Int.reduceLT, Int.reduceLE, Int.reduceEq, Int.reduceNe, Int.reduceAdd, Int.reduceNeg, Int.reduceToNat, hw0, hw1, hn0, List.length_map]
    exact ⟨false, rfl, fun h => by cases h⟩
  by_cases hn1 : (64 : Int) < fs.length
  · simp (config := { maxSteps := 1000000 }) only [go_sem, ↓reduceIte, Nat.reduceEqDiff, Nat.reduceAdd, Nat.reduceMul, Nat.reduceSub, Nat.reduceLT, Nat.reduceLeDiff, Int.reduceLT, Int.reduceLE, Int.reduceEq, Int.reduceNe, Int.reduceAdd, Int.reduceNeg, Int.reduceToNat, hw0, hw1, hn0, hn1, List.length_map]
    exact ⟨false, rfl, fun h => by cases h⟩
  simp (config := { maxSteps := 1000000 }) only [go_sem, ↓reduceIte, Nat.reduceEqDiff, Nat.reduceAdd, Nat.reduceMul, Nat.reduceSub, Nat.reduceLT, Nat.reduceLeDiff, Int.reduceLT, Int.reduceLE, Int.reduceEq, Int.reduceNe, Int.reduceAdd, Int.reduceNeg, Int.reduceToNat, hw0, hw1, hn0, hn1, List.length_map]
  refine loop_introB (fun m s => ∃ k : Nat, m + k = fs.length ∧ (∀ x ∈ fs.take k, fnOk w x) ∧ s.f 1 = .one (.ptr 1 (s.gen 1) 0) ∧ s.f 3 = iv .i64 k ∧ s.obj 1 = some [.d (.int .i64 w), .d (.sl (fs.map fnD))]) fs.length ?_ ?_
  · refine ⟨0, rfl, fun x hx => (by simp at hx), ?_⟩
    simp (config := { maxSteps := 1000000 }) only [go_sem, ↓reduceIte, Nat.reduceEqDiff, Nat.reduceAdd, Nat.reduceMul, Nat.reduceSub, Nat.reduceLT, Nat.reduceLeDiff, Int.reduceLT, Int.reduceLE, Int.reduceEq, Int.reduceNe, Int.reduceAdd, Int.reduceNeg, Int.reduceToNat]
    try rfl
  · clear g
    rintro m g gn ob ⟨k, hk, hall, f1, f3, o1⟩
    simp only at f1 f3 o1
    have hwk := wrap_succ (k := k) (by omega)
    by_cases hlt : k < fs.length
    · obtain ⟨x, hx⟩ := getq hlt
      by_cases c1 : x.params < 0
      · simp (config := { maxSteps := 1000000 }) only [go_sem, ↓reduceIte, Nat.reduceEqDiff, Nat.reduceAdd, Nat.reduceMul, Nat.reduceSub, Nat.reduceLT, Nat.reduceLeDiff, Int.reduceLT, Int.reduceLE, Int.reduceEq, Int.reduceNe, Int.reduceAdd, Int.reduceNeg, Int.reduceToNat, f1, f3, o1, hlt, hx, List.length_map, fnD, setAt, c1]
        exact ⟨false, rfl, fun h => by cases h⟩
      by_cases c2 : 6 < x.params
      · simp (config := { maxSteps := 1000000 }) only [go_sem, ↓reduceIte, Nat.reduceEqDiff, Nat.reduceAdd, Nat.reduceMul, Nat.reduceSub, Nat.reduceLT, Nat.reduceLeDiff, Int.reduceLT, Int.reduceLE, Int.reduceEq, Int.reduceNe, Int.reduceAdd, Int.reduceNeg, Int.reduceToNat, f1, f3, o1, hlt, hx, List.length_map, fnD, setAt, c1, c2]
        exact ⟨false, rfl, fun h => by cases h⟩
      by_cases c3 : x.slots < x.params
      · simp (config := { maxSteps := 1000000 }) only [go_sem, ↓reduceIte, Nat.reduceEqDiff, Nat.reduceAdd, Nat.reduceMul, Nat.reduceSub, Nat.reduceLT, Nat.reduceLeDiff, Int.reduceLT, Int.reduceLE, Int.reduceEq, Int.reduceNe, Int.reduceAdd, Int.reduceNeg, Int.reduceToNat, f1, f3, o1, hlt, hx, List.length_map, fnD, setAt, c1, c2, c3]
        exact ⟨false, rfl, fun h => by cases h⟩
      simp (config := { maxSteps := 1000000 }) only [go_sem, ↓reduceIte, Nat.reduceEqDiff, Nat.reduceAdd, Nat.reduceMul, Nat.reduceSub, Nat.reduceLT, Nat.reduceLeDiff, Int.reduceLT, Int.reduceLE, Int.reduceEq, Int.reduceNe, Int.reduceAdd, Int.reduceNeg, Int.reduceToNat, f1, f3, o1, hlt, hx, List.length_map, fnD, setAt, c1, c2, c3]
      refine hook_call rfl (within_A w fs x.first x.slots (by omega)) (by rfl) ?_
      rintro _ rfl
      by_cases hwi : within w x.first x.slots
      · simp (config := { maxSteps := 1000000 }) only [go_sem, ↓reduceIte, Nat.reduceEqDiff, Nat.reduceAdd, Nat.reduceMul, Nat.reduceSub, Nat.reduceLT, Nat.reduceLeDiff, Int.reduceLT, Int.reduceLE, Int.reduceEq, Int.reduceNe, Int.reduceAdd, Int.reduceNeg, Int.reduceToNat, f1, f3, o1, hwi, hwk, decide_true]
        refine round_endB (m - 1) (by omega) ⟨k + 1, by omega, fun y hy => ?_, ?_⟩
        · rw [List.take_add_one, hx] at hy
          rcases List.mem_append.1 hy with hy | hy
          · exact hall y hy
          · obtain rfl : y = x := by simpa using hy
            exact ⟨by omega, by omega, hwi⟩
        · simp (config := { maxSteps := 1000000 }) only [go_sem, ↓reduceIte, Nat.reduceEqDiff, Nat.reduceAdd, Nat.reduceMul, Nat.reduceSub, Nat.reduceLT, Nat.reduceLeDiff, Int.reduceLT, Int.reduceLE, Int.reduceEq, Int.reduceNe, Int.reduceAdd, Int.reduceNeg, Int.reduceToNat, f1, f3, o1, hwk]
      · simp (config := { maxSteps := 1000000 }) only [go_sem, ↓reduceIte, Nat.reduceEqDiff, Nat.reduceAdd, Nat.reduceMul, Nat.reduceSub, Nat.reduceLT, Nat.reduceLeDiff, Int.reduceLT, Int.reduceLE, Int.reduceEq, Int.reduceNe, Int.reduceAdd, Int.reduceNeg, Int.reduceToNat, f1, f3, o1, hwi, decide_false]
        exact ⟨false, rfl, fun h => by cases h⟩
    · have hkk : k = fs.length := by omega
      subst hkk
      rw [List.take_length] at hall
      simp (config := { maxSteps := 1000000 }) only [go_sem, ↓reduceIte, Nat.reduceEqDiff, Nat.reduceAdd, Nat.reduceMul, Nat.reduceSub, Nat.reduceLT, Nat.reduceLeDiff, Int.reduceLT, Int.reduceLE, Int.reduceEq, Int.reduceNe, Int.reduceAdd, Int.reduceNeg, Int.reduceToNat, f1, f3, o1, hlt, List.length_map]
      refine loop_introB (fun m s => ∃ k : Nat, m + k = fs.length ∧ (∀ (j : Nat) (x : Fn), j < k → fs[j]? = some x → rSs w (sig fs) j x.word 1 x.body) ∧ s.f 1 = .one (.ptr 1 (s.gen 1) 0) ∧ s.f 5 = iv .i64 k ∧ s.obj 1 = some [.d (.int .i64 w), .d (.sl (fs.map fnD))]) fs.length ?_ ?_
      · refine ⟨0, rfl, fun j x hj => (by omega), ?_⟩
        simp (config := { maxSteps := 1000000 }) only [go_sem, ↓reduceIte, Nat.reduceEqDiff, Nat.reduceAdd, Nat.reduceMul, Nat.reduceSub, Nat.reduceLT, Nat.reduceLeDiff, Int.reduceLT, Int.reduceLE, Int.reduceEq, Int.reduceNe, Int.reduceAdd, Int.reduceNeg, Int.reduceToNat, f1, o1]
        try rfl
      · clear f1 f3 o1 hk hlt hwk m
        clear g gn ob
        rintro m g gn ob ⟨k, hk, hbody, f1, f5, o1⟩
        simp only at f1 f5 o1
        have hwk := wrap_succ (k := k) (by omega)
        by_cases hlt : k < fs.length
        · obtain ⟨x, hx⟩ := getq hlt
          have hxs : sizeSs x.body ≤ 100000000000 := by
            have h2 := sizeCTo_succ hx
            have h3 := sizeCTo_le fs (k + 1)
            omega
          simp (config := { maxSteps := 1000000 }) only [go_sem, ↓reduceIte, Nat.reduceEqDiff, Nat.reduceAdd, Nat.reduceMul, Nat.reduceSub, Nat.reduceLT, Nat.reduceLeDiff, Int.reduceLT, Int.reduceLE, Int.reduceEq, Int.reduceNe, Int.reduceAdd, Int.reduceNeg, Int.reduceToNat, f1, f5, o1, hlt, List.length_map]
          refine draw_introB (by decide +kernel) ?_
          simp (config := { maxSteps := 1000000 }) only [go_sem, ↓reduceIte, Nat.reduceEqDiff, Nat.reduceAdd, Nat.reduceMul, Nat.reduceSub, Nat.reduceLT, Nat.reduceLeDiff, Int.reduceLT, Int.reduceLE, Int.reduceEq, Int.reduceNe, Int.reduceAdd, Int.reduceNeg, Int.reduceToNat, f1, f5, o1, hlt, hx, List.length_map, fnD]
          refine hook_call rfl (rightStmts_A w fs (by omega) k x hx (sizeSs x.body) x.body 1 (Nat.le_refl _) (by omega) ⟨by decide, by decide⟩) (by rfl) ?_
          rintro _ ⟨b, rfl, hb⟩
          cases b with
          | false =>
            simp (config := { maxSteps := 1000000 }) only [go_sem, ↓reduceIte, Nat.reduceEqDiff, Nat.reduceAdd, Nat.reduceMul, Nat.reduceSub, Nat.reduceLT, Nat.reduceLeDiff, Int.reduceLT, Int.reduceLE, Int.reduceEq, Int.reduceNe, Int.reduceAdd, Int.reduceNeg, Int.reduceToNat, f1, f5, o1]
            exact ⟨false, rfl, fun h => by cases h⟩
          | true =>
            simp (config := { maxSteps := 1000000 }) only [go_sem, ↓reduceIte, Nat.reduceEqDiff, Nat.reduceAdd, Nat.reduceMul, Nat.reduceSub, Nat.reduceLT, Nat.reduceLeDiff, Int.reduceLT, Int.reduceLE, Int.reduceEq, Int.reduceNe, Int.reduceAdd, Int.reduceNeg, Int.reduceToNat, f1, f5, o1, hwk]
            refine round_endB (m - 1) (by omega) ⟨k + 1, by omega, fun j y hj hy => ?_, ?_⟩
            · by_cases hjk : j = k
              · subst hjk; rw [hx] at hy; cases hy; exact hb rfl
              · exact hbody j y (by omega) hy
            · simp (config := { maxSteps := 1000000 }) only [go_sem, ↓reduceIte, Nat.reduceEqDiff, Nat.reduceAdd, Nat.reduceMul, Nat.reduceSub, Nat.reduceLT, Nat.reduceLeDiff, Int.reduceLT, Int.reduceLE, Int.reduceEq, Int.reduceNe, Int.reduceAdd, Int.reduceNeg, Int.reduceToNat, f1, f5, o1, hwk]
        · have hkk : k = fs.length := by omega
          subst hkk
          obtain ⟨y, hy⟩ := getq (show fs.length - 1 < fs.length by omega)
          have hs : IntKind.i64.wrap ((fs.length : Int) - 1) = ((fs.length - 1 : Nat) : Int) := by rw [wrap_i64] <;> omega
          have hok : y.params = 0 → y.word = false → OkC w fs := fun h1 h2 =>
            ⟨by omega, by omega, by omega, by omega, fun x hx => by obtain ⟨a1, a2, a3⟩ := hall x hx; unfold within at a3; omega, fun k x hx => hbody k x (List.getElem?_eq_some_iff.1 hx).1 hx, fun x hx => by rw [hy] at hx; cases hx; exact ⟨h1, h2⟩⟩
          by_cases hp : y.params = 0
          · cases hwd : y.word with
            | false =>
              simp (config := { maxSteps := 1000000 }) only [go_sem, ↓reduceIte, Nat.reduceEqDiff, Nat.reduceAdd, Nat.reduceMul, Nat.reduceSub, Nat.reduceLT, Nat.reduceLeDiff, Int.reduceLT, Int.reduceLE, Int.reduceEq, Int.reduceNe, Int.reduceAdd, Int.reduceNeg, Int.reduceToNat, f1, f5, o1, hlt, hs, hy, List.length_map, fnD, setAt, hp, hwd]
              exact ⟨true, rfl, fun _ => hok hp hwd⟩
            | true =>
              simp (config := { maxSteps := 1000000 }) only [go_sem, ↓reduceIte, Nat.reduceEqDiff, Nat.reduceAdd, Nat.reduceMul, Nat.reduceSub, Nat.reduceLT, Nat.reduceLeDiff, Int.reduceLT, Int.reduceLE, Int.reduceEq, Int.reduceNe, Int.reduceAdd, Int.reduceNeg, Int.reduceToNat, f1, f5, o1, hlt, hs, hy, List.length_map, fnD, setAt, hp, hwd]
              exact ⟨false, rfl, fun h => by cases h⟩
          · simp (config := { maxSteps := 1000000 }) only [go_sem, ↓reduceIte, Nat.reduceEqDiff, Nat.reduceAdd, Nat.reduceMul, Nat.reduceSub, Nat.reduceLT, Nat.reduceLeDiff, Int.reduceLT, Int.reduceLE, Int.reduceEq, Int.reduceNe, Int.reduceAdd, Int.reduceNeg, Int.reduceToNat, f1, f5, o1, hlt, hs, hy, List.length_map, fnD, setAt, hp]
            exact ⟨false, rfl, fun h => by cases h⟩

set_option maxHeartbeats 8000000 in
set_option maxRecDepth 100000 in
theorem small_A {w : Int} {fs : List Fn} (hF : fs.length ≤ 1000000) (hS : sizeC fs ≤ 100000000000) : PureR Try.prog 4 [coreC w fs, sv []] (fun r => ∃ b, r = bv b ∧ (b = true → w ≤ 400 ∧ fs.length ≤ 8 ∧ sizeC fs ≤ 150 ∧ OkC w fs)) := by
  refine pure_of_wp Tt_ok mixed Try.func4 rfl (by rfl) [4] rfl (by kernel_rfl) (by simp [Try.ntmps4]) fun g => ?_
  unfold coreC
  by_cases c1 : w ≤ 400
  rotate_left
  · simp (config := { maxSteps := 1000000 }) only [go_sem, ↓reduceIte, Nat.reduceEqDiff, Nat.reduceAdd, Nat.reduceMul, Nat.reduceSub, Nat.reduceLT, Nat.reduceLeDiff, Int.reduceLT, Int.reduceLE, Int.reduceEq, Int.reduceNe, Int.reduceAdd, Int.reduceNeg, Int.reduceToNat, c1, List.length_nil]
    exact ⟨false, rfl, fun h => by cases h⟩
  by_cases c2 : (fs.length : Int) ≤ 8
  rotate_left
  · simp (config := { maxSteps := 1000000 }) only [go_sem, ↓reduceIte, Nat.reduceEqDiff, Nat.reduceAdd, Nat.reduceMul, Nat.reduceSub, Nat.reduceLT, Nat.reduceLeDiff, Int.reduceLT, Int.reduceLE, Int.reduceEq, Int.reduceNe, Int.reduceAdd, Int.reduceNeg, Int.reduceToNat, c1, c2, List.length_nil, List.length_map]
    exact ⟨false, rfl, fun h => by cases h⟩
  simp (config := { maxSteps := 1000000 }) only [go_sem, ↓reduceIte, Nat.reduceEqDiff, Nat.reduceAdd, Nat.reduceMul, Nat.reduceSub, Nat.reduceLT, Nat.reduceLeDiff, Int.reduceLT, Int.reduceLE, Int.reduceEq, Int.reduceNe, Int.reduceAdd, Int.reduceNeg, Int.reduceToNat, c1, c2, List.length_nil, List.length_map]
  refine hook_call rfl (Size_A w fs (by omega) (by omega)) (by rfl) ?_
  rintro _ rfl
  by_cases c3 : (sizeC fs : Int) ≤ 150
  rotate_left
  · simp (config := { maxSteps := 1000000 }) only [go_sem, ↓reduceIte, Nat.reduceEqDiff, Nat.reduceAdd, Nat.reduceMul, Nat.reduceSub, Nat.reduceLT, Nat.reduceLeDiff, Int.reduceLT, Int.reduceLE, Int.reduceEq, Int.reduceNe, Int.reduceAdd, Int.reduceNeg, Int.reduceToNat, c3]
    exact ⟨false, rfl, fun h => by cases h⟩
  simp (config := { maxSteps := 1000000 }) only [go_sem, ↓reduceIte, Nat.reduceEqDiff, Nat.reduceAdd, Nat.reduceMul, Nat.reduceSub, Nat.reduceLT, Nat.reduceLeDiff, Int.reduceLT, Int.reduceLE, Int.reduceEq, Int.reduceNe, Int.reduceAdd, Int.reduceNeg, Int.reduceToNat, c3]
  refine hook_call rfl (Right_A (w := w) (fs := fs) c1 hF hS) (by rfl) ?_
  rintro _ ⟨b, rfl, hb⟩
  cases b with
  | false =>
    simp (config := { maxSteps := 1000000 }) only [go_sem, ↓reduceIte, Nat.reduceEqDiff, Nat.reduceAdd, Nat.reduceMul, Nat.reduceSub, Nat.reduceLT, Nat.reduceLeDiff, Int.reduceLT, Int.reduceLE, Int.reduceEq, Int.reduceNe, Int.reduceAdd, Int.reduceNeg, Int.reduceToNat]
    exact ⟨false, rfl, fun h => by cases h⟩
  | true =>
    simp (config := { maxSteps := 1000000 }) only [go_sem, ↓reduceIte, Nat.reduceEqDiff, Nat.reduceAdd, Nat.reduceMul, Nat.reduceSub, Nat.reduceLT, Nat.reduceLeDiff, Int.reduceLT, Int.reduceLE, Int.reduceEq, Int.reduceNe, Int.reduceAdd, Int.reduceNeg, Int.reduceToNat]
    exact ⟨true, rfl, fun _ => ⟨c1, by omega, by omega, hb rfl⟩⟩

end Go.Proofs.Ythengcpckdlpgaa
