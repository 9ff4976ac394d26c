/- The law's function tells true. -/
import Derived.Test.YthengcpckdlpgaaL20
set_option linter.unusedSimpArgs false
set_option linter.unusedVariables false
namespace Go.Proofs.Ythengcpckdlpgaa
open Go Go.Am Go.Lower

theorem one_le (kind op num slot size d : Int) : (one kind op num slot size d).length ≤ 1 := by
  unfold one; repeat' split
  all_goals simp
theorem notIf_le (kind d : Int) : (notIf kind d).length ≤ 1 := by
  unfold notIf; split <;> simp

mutual
theorem cE_len : ∀ (e : Ex) (at' : Nat) (d : Int), (cE at' d e).length ≤ 6 * (1 + sizeE e)
  | .mk kind op num slot size kids, at', d => by
    rw [cE, sizeE]
    split
    · have := cAO_len kids at' d kind; omega
    · rw [List.length_append]
      have := cEs_len kids at' d
      have := one_le kind op num slot size (d + kids.length)
      omega
theorem cEs_len : ∀ (l : List Ex) (at' : Nat) (d : Int), (cEs at' d l).length ≤ 6 * sizeEs l
  | [], at', d => by simp [cEs]
  | e :: l, at', d => by
    rw [cEs, sizeEs, List.length_append]
    have := cE_len e at' d
    have := cEs_len l (at' + (cE at' d e).length) (d + 1)
    omega
theorem cAO_len : ∀ (l : List Ex) (at' : Nat) (d kind : Int), (cAO at' d kind l).length ≤ 6 * sizeEs l + 6
  | [], at', d, kind => by simp [cAO]
  | e :: l, at', d, kind => by
    rw [cAO, sizeEs, joinE]
    simp only [List.length_append, List.length_cons, List.length_nil]
    have h1 := cE_len e at' d
    have h2 := notIf_le kind d
    have h3 := c1st_len l (at' + (cE at' d e).length + (notIf kind d).length + 3) d
    omega
theorem c1st_len : ∀ (l : List Ex) (at' : Nat) (d : Int), (c1st at' d l).length ≤ 6 * sizeEs l
  | [], at', d => by simp [c1st]
  | e :: l, at', d => by
    rw [c1st, sizeEs]
    have := cE_len e at' d
    omega
end

theorem leave_le (word : Bool) : (leave word).length ≤ 2 := by cases word <;> simp [leave]
theorem endC_le (word : Bool) (kind slot size : Int) (n : Nat) : (endC word kind slot size n).length ≤ 2 := by
  unfold endC
  have := leave_le word
  repeat' split
  all_goals first | exact this | simp

mutual
theorem cS_len {word : Bool} : ∀ (s : Stm) (at' : Nat), (cS word at' s).length ≤ 6 * (1 + sizeS s)
  | .mk kind slot size e th el, at' => by
    rw [cS, sizeS]
    split
    · rw [whileC]
      simp only [List.length_append, List.length_cons, List.length_nil]
      have h1 := c1st_len e at' 0
      have h2 := cSs_len (word := word) th (at' + (c1st at' 0 e).length + 1)
      omega
    · rw [List.length_append]
      have h1 := cEs_len e at' 0
      split
      · have h2 := cSs_len (word := word) th (at' + (cEs at' 0 e).length + 1)
        have h3 := cSs_len (word := word) el (at' + (cEs at' 0 e).length + 1 + (cSs word (at' + (cEs at' 0 e).length + 1) th).length + 1)
        unfold ifC
        split
        · simp only [List.length_append, List.length_cons]
          omega
        · simp only [List.length_cons]
          omega
      · have := endC_le word kind slot size e.length
        omega
theorem cSs_len {word : Bool} : ∀ (l : List Stm) (at' : Nat), (cSs word at' l).length ≤ 6 * sizeSs l
  | [], at' => by simp [cSs]
  | e :: l, at' => by
    rw [cSs, sizeSs, List.length_append]
    have := cS_len (word := word) e at'
    have := cSs_len (word := word) l (at' + (cS word at' e).length)
    omega
end

theorem short_of {fs : List Fn} (h : sizeC fs ≤ 1000000) : Short fs := fun x hx => by
  have h1 : sizeSs x.body ≤ sizeC fs := by
    unfold sizeC
    clear h
    induction fs with
    | nil => simp at hx
    | cons y fs ih =>
      rw [List.map_cons, List.sum_cons]
      rcases List.mem_cons.1 hx with rfl | hx
      · omega
      · have := ih hx; omega
  have h2 := cSs_len (word := x.word) x.body 0
  have h3 := leave_le x.word
  rw [codeOf, List.length_append]
  omega

set_option maxHeartbeats 8000000 in
set_option maxRecDepth 100000 in
theorem LowerShapes_A {w : Int} {fs : List Fn} (hF : fs.length ≤ 1000000) (hS : sizeC fs ≤ 100000000000) : PureR Try.prog 3 [coreC w fs] (· = bv true) := by
  refine pure_of_wp Tt_ok mixed Try.func3 rfl (by rfl) [2] rfl (by kernel_rfl) (by simp [Try.ntmps3]) fun g => ?_
  unfold coreC
  simp (config := { maxSteps := 1000000 }) only [go_sem, ↓reduceIte, Nat.reduceEqDiff, Nat.reduceAdd, Nat.reduceMul, Nat.reduceSub, Nat.reduceLT, Nat.reduceLeDiff, Int.reduceLT, Int.reduceLE, Int.reduceEq, Int.reduceNe, Int.reduceAdd, Int.reduceNeg, Int.reduceToNat]
  refine hook_call rfl (small_A (w := w) hF hS) (by rfl) ?_
  rintro _ ⟨b, rfl, hb⟩
  cases b with
  | false =>
    simp (config := { maxSteps := 1000000 }) only [go_sem, ↓reduceIte, Nat.reduceEqDiff, Nat.reduceAdd, Nat.reduceMul, Nat.reduceSub, Nat.reduceLT, Nat.reduceLeDiff, Int.reduceLT, Int.reduceLE, Int.reduceEq, Int.reduceNe, Int.reduceAdd, Int.reduceNeg, Int.reduceToNat]
    refine hook_call rfl awake_A (by rfl) ?_
    rintro _ rfl
    simp (config := { maxSteps := 1000000 }) only [go_sem, ↓reduceIte, Nat.reduceEqDiff, Nat.reduceAdd, Nat.reduceMul, Nat.reduceSub, Nat.reduceLT, Nat.reduceLeDiff, Int.reduceLT, Int.reduceLE, Int.reduceEq, Int.reduceNe, Int.reduceAdd, Int.reduceNeg, Int.reduceToNat]
  | true =>
    obtain ⟨hw, hf8, h150, hok⟩ := hb rfl
    have hsh := short_of (fs := fs) (by omega)
    simp (config := { maxSteps := 1000000 }) only [go_sem, ↓reduceIte, Nat.reduceEqDiff, Nat.reduceAdd, Nat.reduceMul, Nat.reduceSub, Nat.reduceLT, Nat.reduceLeDiff, Int.reduceLT, Int.reduceLE, Int.reduceEq, Int.reduceNe, Int.reduceAdd, Int.reduceNeg, Int.reduceToNat]
    refine hook_call rfl (Of_A (w := w) (ps := sig fs) (fs := fs) (by omega) (by omega) hsh hok.body) (by rfl) ?_
    rintro _ rfl
    unfold stackC
    simp (config := { maxSteps := 1000000 }) only [go_sem, ↓reduceIte, Nat.reduceEqDiff, Nat.reduceAdd, Nat.reduceMul, Nat.reduceSub, Nat.reduceLT, Nat.reduceLeDiff, Int.reduceLT, Int.reduceLE, Int.reduceEq, Int.reduceNe, Int.reduceAdd, Int.reduceNeg, Int.reduceToNat, setAt, List.length_map]
    refine hook_call rfl (RightS_A (w := w) (fs := fs) hok hsh) (by rfl) ?_
    rintro _ rfl
    simp (config := { maxSteps := 1000000 }) only [go_sem, ↓reduceIte, Nat.reduceEqDiff, Nat.reduceAdd, Nat.reduceMul, Nat.reduceSub, Nat.reduceLT, Nat.reduceLeDiff, Int.reduceLT, Int.reduceLE, Int.reduceEq, Int.reduceNe, Int.reduceAdd, Int.reduceNeg, Int.reduceToNat]
    refine loop_introB (fun n s => ∃ k : Nat, n + k = fs.length ∧ s.f 1 = .one (.ptr 1 (s.gen 1) 0) ∧ s.f 3 = .one (.ptr 3 (s.gen 3) 0) ∧ s.f 4 = iv .i64 k ∧ s.obj 1 = some [.d (.int .i64 w), .d (.sl (fs.map fnD))] ∧ s.obj 3 = some [.d (.int .i64 w), .d (.sl (fs.map sfD))]) fs.length ?_ ?_
    · refine ⟨0, rfl, ?_⟩
      simp (config := { maxSteps := 1000000 }) only [go_sem, ↓reduceIte, Nat.reduceEqDiff, Nat.reduceAdd, Nat.reduceMul, Nat.reduceSub, Nat.reduceLT, Nat.reduceLeDiff, Int.reduceLT, Int.reduceLE, Int.reduceEq, Int.reduceNe, Int.reduceAdd, Int.reduceNeg, Int.reduceToNat]
      try rfl
    · clear g
      rintro n f g ob ⟨k, hk, f1, f3, f4, o1, o3⟩
      simp only at f1 f3 f4 o1 o3
      have hwk := wrap_succ (k := k) (by omega)
      by_cases hlt : k < fs.length
      · obtain ⟨x, hx⟩ := getq hlt
        simp (config := { maxSteps := 1000000 }) only [go_sem, ↓reduceIte, Nat.reduceEqDiff, Nat.reduceAdd, Nat.reduceMul, Nat.reduceSub, Nat.reduceLT, Nat.reduceLeDiff, Int.reduceLT, Int.reduceLE, Int.reduceEq, Int.reduceNe, Int.reduceAdd, Int.reduceNeg, Int.reduceToNat, f1, f3, f4, o1, o3, hlt, List.length_map]
        refine draw_det Tt_ok mixed [5, 6] [([1], [0, 1], [], false), ([39], [0, 1], [], false), ([4], [0, 1], [], false), ([40, 41], [0, 1], [], false), ([42], [0, 1], [], false), ([3], [0, 1], [], false), ([44], [0, 1], [], false), ([4], [0, 1], [], false), ([45, 46], [0, 1], [], false), ([47], [0, 1], [], false), ([], [1], [0], false), ([], [0], [1], false), ([5, 43], [], [0], false), ([6, 48], [], [], true)] 2 (by decide +kernel) rfl (by decide) ?_
        simp (config := { maxSteps := 1000000 }) only [go_sem, ↓reduceIte, Nat.reduceEqDiff, Nat.reduceAdd, Nat.reduceMul, Nat.reduceSub, Nat.reduceLT, Nat.reduceLeDiff, Int.reduceLT, Int.reduceLE, Int.reduceEq, Int.reduceNe, Int.reduceAdd, Int.reduceNeg, Int.reduceToNat]
        iterate 10 (apply det_pure; · (intro fa ga oa K' hK; simp (config := { maxSteps := 1000000 }) only [go_sem, ↓reduceIte, Nat.reduceEqDiff, Nat.reduceAdd, Nat.reduceMul, Nat.reduceSub, Nat.reduceLT, Nat.reduceLeDiff, Int.reduceLT, Int.reduceLE, Int.reduceEq, Int.reduceNe, Int.reduceAdd, Int.reduceNeg, Int.reduceToNat, f1, f3, f4, o1, o3, hlt, hx, List.length_map, fnD, sfD] at hK ⊢; exact hK))
        iterate 2 (apply det_new; · (intro fa ga oa K' hK; simp (config := { maxSteps := 1000000 }) only [go_sem, ↓reduceIte, Nat.reduceEqDiff, Nat.reduceAdd, Nat.reduceMul, Nat.reduceSub, Nat.reduceLT, Nat.reduceLeDiff, Int.reduceLT, Int.reduceLE, Int.reduceEq, Int.reduceNe, Int.reduceAdd, Int.reduceNeg, Int.reduceToNat] at hK ⊢; exact hK))
        (apply det_store; (focus simp); (focus (intro fa ga oa K' hK; simp (config := { maxSteps := 1000000 }) only [go_sem, ↓reduceIte, Nat.reduceEqDiff, Nat.reduceAdd, Nat.reduceMul, Nat.reduceSub, Nat.reduceLT, Nat.reduceLeDiff, Int.reduceLT, Int.reduceLE, Int.reduceEq, Int.reduceNe, Int.reduceAdd, Int.reduceNeg, Int.reduceToNat, setAt] at hK ⊢; exact hK)))
        apply det_last
        intro K' hK'
        simp (config := { maxSteps := 1000000 }) only [go_sem, ↓reduceIte, Nat.reduceEqDiff, Nat.reduceAdd, Nat.reduceMul, Nat.reduceSub, Nat.reduceLT, Nat.reduceLeDiff, Int.reduceLT, Int.reduceLE, Int.reduceEq, Int.reduceNe, Int.reduceAdd, Int.reduceNeg, Int.reduceToNat, setAt]
        refine hK' _ ?_
        clear hK' K'
        simp (config := { maxSteps := 1000000 }) only [go_sem, ↓reduceIte, Nat.reduceEqDiff, Nat.reduceAdd, Nat.reduceMul, Nat.reduceSub, Nat.reduceLT, Nat.reduceLeDiff, Int.reduceLT, Int.reduceLE, Int.reduceEq, Int.reduceNe, Int.reduceAdd, Int.reduceNeg, Int.reduceToNat, f1, f3, f4, o1, o3, hwk, eq_self]
        refine round_endB (n - 1) (by omega) ⟨k + 1, by omega, ?_⟩
        simp (config := { maxSteps := 1000000 }) only [go_sem, ↓reduceIte, Nat.reduceEqDiff, Nat.reduceAdd, Nat.reduceMul, Nat.reduceSub, Nat.reduceLT, Nat.reduceLeDiff, Int.reduceLT, Int.reduceLE, Int.reduceEq, Int.reduceNe, Int.reduceAdd, Int.reduceNeg, Int.reduceToNat, f1, f3, f4, o1, o3, hwk]
      · simp (config := { maxSteps := 1000000 }) only [go_sem, ↓reduceIte, Nat.reduceEqDiff, Nat.reduceAdd, Nat.reduceMul, Nat.reduceSub, Nat.reduceLT, Nat.reduceLeDiff, Int.reduceLT, Int.reduceLE, Int.reduceEq, Int.reduceNe, Int.reduceAdd, Int.reduceNeg, Int.reduceToNat, f1, f3, f4, o1, o3, hlt, List.length_map]
        refine hook_call rfl awake_A (by rfl) ?_
        rintro _ rfl
        simp (config := { maxSteps := 1000000 }) only [go_sem, ↓reduceIte, Nat.reduceEqDiff, Nat.reduceAdd, Nat.reduceMul, Nat.reduceSub, Nat.reduceLT, Nat.reduceLeDiff, Int.reduceLT, Int.reduceLE, Int.reduceEq, Int.reduceNe, Int.reduceAdd, Int.reduceNeg, Int.reduceToNat]

end Go.Proofs.Ythengcpckdlpgaa
