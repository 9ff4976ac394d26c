/- Told true, expressions may be. Printed by genl4.py. -/
import Derived.Test.YthengcpckdlpgaaL3
set_option linter.unusedSimpArgs false
set_option linter.unusedVariables false
namespace Go.Proofs.Ythengcpckdlpgaa
open Go Go.Am Go.Lower

theorem exsD_len (l : List Ex) : (exsD l).length = l.length := by rw [exsD_map, List.length_map]

theorem rEs_snoc {w : Int} {ps : Sig} {f : Nat} {lv : Int} : ∀ {l : List Ex} {e : Ex}, rEs w ps f lv l → rE w ps f lv e → rEs w ps f lv (l ++ [e])
  | [], e, _, he => by rw [List.nil_append, rEs]; exact ⟨he, by rw [rEs]; trivial⟩
  | a :: l, e, hl, he => by
    rw [rEs] at hl
    rw [List.cons_append, rEs]
    exact ⟨hl.1, rEs_snoc hl.2 he⟩

set_option maxHeartbeats 8000000 in
set_option maxRecDepth 100000 in
theorem rightExprs_A (w : Int) (fs : List Fn) (hw0 : w ≤ 1000000) (f : Nat) (hf : f ≤ fs.length) : ∀ (N : Nat) (l : List Ex) (lv : Int), sizeEs l ≤ N → N ≤ 1000000000000 → 0 ≤ lv ∧ lv ≤ 1000 →
    PureR Try.prog 30 [coreC w fs, iv .i64 f, .one (.d (.sl (exsD l))), iv .i64 lv] (fun r => ∃ b, r = bv b ∧ (b = true → rEs w (sig fs) f lv l)) := by
  intro N
  induction N using Nat.strongRecOn with
  | ind N ih =>
  intro l lv hl hN hl0
  refine pure_of_wp Tt_ok mixed Try.func30 rfl (by rfl) [8] rfl (by kernel_rfl) (by simp [Try.ntmps30]) fun g => ?_
  rw [exsD_map]
  unfold coreC
  simp (config := { maxSteps := 1000000 }) only [go_sem, ↓reduceIte, Nat.reduceEqDiff, Nat.reduceAdd, Nat.reduceMul, Nat.reduceSub, Nat.reduceLT, Nat.reduceLeDiff, Int.reduceLT, Int.reduceLE, Int.reduceEq, Int.reduceNe, Int.reduceAdd, Int.reduceNeg, Int.reduceToNat]
  refine loop_introB (fun n s => ∃ k : Nat, n + k = l.length ∧ rEs w (sig fs) f lv (l.take k) ∧ s.f 1 = iv .i64 f ∧ s.f 2 = .one (.d (.sl (l.map exD))) ∧ s.f 3 = iv .i64 lv ∧ s.f 4 = .one (.ptr 4 (s.gen 4) 0) ∧ s.f 9 = iv .i64 k ∧ s.obj 4 = some [.d (.int .i64 w), .d (.sl (fs.map fnD))]) l.length ?_ ?_
  · refine ⟨0, rfl, by rw [List.take_zero, rEs]; trivial, ?_⟩
    simp (config := { maxSteps := 1000000 }) only [go_sem, ↓reduceIte, Nat.reduceEqDiff, Nat.reduceAdd, Nat.reduceMul, Nat.reduceSub, Nat.reduceLT, Nat.reduceLeDiff, Int.reduceLT, Int.reduceLE, Int.reduceEq, Int.reduceNe, Int.reduceAdd, Int.reduceNeg, Int.reduceToNat]
    try rfl
  · clear g
    rintro n g gn ob ⟨k, hk, hr, f1, f2, f3, f4, f9, o4⟩
    simp only at f1 f2 f3 f4 f9 o4
    have hll : l.length ≤ sizeEs l := by rw [sizeEs_sum]; omega
    have hw := wrap_succ (k := k) (by omega)
    have hlv1 : IntKind.i64.wrap (lv + 1) = lv + 1 := by rw [wrap_i64] <;> omega
    by_cases hlt : k < l.length
    · obtain ⟨e, he⟩ := getq hlt
      obtain ⟨kind, op, num, slot, size, kids⟩ := e
      have h2 := sizeTo_succ he
      have h3 := sizeTo_le l (k + 1)
      have hke : sizeE (.mk kind op num slot size kids) = sizeEs kids := rfl
      have hkk : sizeEs kids + 1 ≤ sizeEs l := by
        have h4 : l.length ≤ sizeTo l k := by unfold sizeTo; omega
        omega
      have htk : okE w (sig fs) f lv kind op num slot size kids.length ∧ rEs w (sig fs) f (lv + 1) kids → rEs w (sig fs) f lv (l.take (k + 1)) := fun h => by
        rw [List.take_add_one, he]
        exact rEs_snoc hr (by rw [rE]; exact h)
      by_cases hlv : (24 : Int) < lv
      · simp (config := { maxSteps := 1000000 }) only [go_sem, ↓reduceIte, Nat.reduceEqDiff, Nat.reduceAdd, Nat.reduceMul, Nat.reduceSub, Nat.reduceLT, Nat.reduceLeDiff, Int.reduceLT, Int.reduceLE, Int.reduceEq, Int.reduceNe, Int.reduceAdd, Int.reduceNeg, Int.reduceToNat, f1, f2, f3, f4, f9, o4, hlt, he, List.length_map, exD, hlv]
        exact ⟨false, rfl, fun h => by cases h⟩
      by_cases k1 : kind = 1
      · subst k1
        by_cases zop : op = 0
        rotate_left
        · simp (config := { maxSteps := 1000000 }) only [go_sem, ↓reduceIte, Nat.reduceEqDiff, Nat.reduceAdd, Nat.reduceMul, Nat.reduceSub, Nat.reduceLT, Nat.reduceLeDiff, Int.reduceLT, Int.reduceLE, Int.reduceEq, Int.reduceNe, Int.reduceAdd, Int.reduceNeg, Int.reduceToNat, f1, f2, f3, f4, f9, o4, hlt, he, List.length_map, exD, exsD_len, hlv, hlv1, hw, zop]
          exact ⟨false, rfl, fun h => by cases h⟩
        by_cases zsize : size = 0
        rotate_left
        · simp (config := { maxSteps := 1000000 }) only [go_sem, ↓reduceIte, Nat.reduceEqDiff, Nat.reduceAdd, Nat.reduceMul, Nat.reduceSub, Nat.reduceLT, Nat.reduceLeDiff, Int.reduceLT, Int.reduceLE, Int.reduceEq, Int.reduceNe, Int.reduceAdd, Int.reduceNeg, Int.reduceToNat, f1, f2, f3, f4, f9, o4, hlt, he, List.length_map, exD, exsD_len, hlv, hlv1, hw, zop, zsize]
          exact ⟨false, rfl, fun h => by cases h⟩
        by_cases zslot : slot = 0
        rotate_left
        · simp (config := { maxSteps := 1000000 }) only [go_sem, ↓reduceIte, Nat.reduceEqDiff, Nat.reduceAdd, Nat.reduceMul, Nat.reduceSub, Nat.reduceLT, Nat.reduceLeDiff, Int.reduceLT, Int.reduceLE, Int.reduceEq, Int.reduceNe, Int.reduceAdd, Int.reduceNeg, Int.reduceToNat, f1, f2, f3, f4, f9, o4, hlt, he, List.length_map, exD, exsD_len, hlv, hlv1, hw, zop, zsize, zslot]
          exact ⟨false, rfl, fun h => by cases h⟩
        by_cases hn : (kids.length : Int) = 0
        rotate_left
        · -- a wrong number of kids
          simp (config := { maxSteps := 1000000 }) only [go_sem, ↓reduceIte, Nat.reduceEqDiff, Nat.reduceAdd, Nat.reduceMul, Nat.reduceSub, Nat.reduceLT, Nat.reduceLeDiff, Int.reduceLT, Int.reduceLE, Int.reduceEq, Int.reduceNe, Int.reduceAdd, Int.reduceNeg, Int.reduceToNat, f1, f2, f3, f4, f9, o4, hlt, he, List.length_map, exD, exsD_len, hlv, hlv1, hw, zop, zsize, zslot, hn]
          exact ⟨false, rfl, fun h => by cases h⟩
        simp (config := { maxSteps := 1000000 }) only [go_sem, ↓reduceIte, Nat.reduceEqDiff, Nat.reduceAdd, Nat.reduceMul, Nat.reduceSub, Nat.reduceLT, Nat.reduceLeDiff, Int.reduceLT, Int.reduceLE, Int.reduceEq, Int.reduceNe, Int.reduceAdd, Int.reduceNeg, Int.reduceToNat, f1, f2, f3, f4, f9, o4, hlt, he, List.length_map, exD, exsD_len, hlv, hlv1, hw, zop, zsize, zslot, hn]
        refine hook_call rfl (ih (sizeEs kids) (by omega) kids (lv + 1) (Nat.le_refl _) (by omega) (by omega)) (by rfl) ?_
        rintro _ ⟨b, rfl, hb⟩
        cases b with
        | false =>
          simp (config := { maxSteps := 1000000 }) only [go_sem, ↓reduceIte, Nat.reduceEqDiff, Nat.reduceAdd, Nat.reduceMul, Nat.reduceSub, Nat.reduceLT, Nat.reduceLeDiff, Int.reduceLT, Int.reduceLE, Int.reduceEq, Int.reduceNe, Int.reduceAdd, Int.reduceNeg, Int.reduceToNat, f1, f2, f3, f4, f9, o4, hlt, he, List.length_map, exD, exsD_len, hlv, hlv1, hw, zop, zsize, zslot]
          exact ⟨false, rfl, fun h => by cases h⟩
        | true =>
          simp (config := { maxSteps := 1000000 }) only [go_sem, ↓reduceIte, Nat.reduceEqDiff, Nat.reduceAdd, Nat.reduceMul, Nat.reduceSub, Nat.reduceLT, Nat.reduceLeDiff, Int.reduceLT, Int.reduceLE, Int.reduceEq, Int.reduceNe, Int.reduceAdd, Int.reduceNeg, Int.reduceToNat, f1, f2, f3, f4, f9, o4, hlt, he, List.length_map, exD, exsD_len, hlv, hlv1, hw, zop, zsize, zslot]
          refine round_endB (n - 1) (by omega) ⟨k + 1, by omega, htk ⟨⟨by omega, by omega, by omega, by omega, by omega, .inl ⟨.inl rfl, by omega⟩⟩, hb rfl⟩, ?_⟩
          simp (config := { maxSteps := 1000000 }) only [go_sem, ↓reduceIte, Nat.reduceEqDiff, Nat.reduceAdd, Nat.reduceMul, Nat.reduceSub, Nat.reduceLT, Nat.reduceLeDiff, Int.reduceLT, Int.reduceLE, Int.reduceEq, Int.reduceNe, Int.reduceAdd, Int.reduceNeg, Int.reduceToNat, f1, f2, f3, f4, f9, o4, hw]
      by_cases k2 : kind = 2
      · subst k2
        by_cases znum : num = 0
        rotate_left
        · simp (config := { maxSteps := 1000000 }) only [go_sem, ↓reduceIte, Nat.reduceEqDiff, Nat.reduceAdd, Nat.reduceMul, Nat.reduceSub, Nat.reduceLT, Nat.reduceLeDiff, Int.reduceLT, Int.reduceLE, Int.reduceEq, Int.reduceNe, Int.reduceAdd, Int.reduceNeg, Int.reduceToNat, f1, f2, f3, f4, f9, o4, hlt, he, List.length_map, exD, exsD_len, hlv, hlv1, hw, znum]
          exact ⟨false, rfl, fun h => by cases h⟩
        by_cases zop : op = 0
        rotate_left
        · simp (config := { maxSteps := 1000000 }) only [go_sem, ↓reduceIte, Nat.reduceEqDiff, Nat.reduceAdd, Nat.reduceMul, Nat.reduceSub, Nat.reduceLT, Nat.reduceLeDiff, Int.reduceLT, Int.reduceLE, Int.reduceEq, Int.reduceNe, Int.reduceAdd, Int.reduceNeg, Int.reduceToNat, f1, f2, f3, f4, f9, o4, hlt, he, List.length_map, exD, exsD_len, hlv, hlv1, hw, znum, zop]
          exact ⟨false, rfl, fun h => by cases h⟩
        by_cases zsize : size = 0
        rotate_left
        · simp (config := { maxSteps := 1000000 }) only [go_sem, ↓reduceIte, Nat.reduceEqDiff, Nat.reduceAdd, Nat.reduceMul, Nat.reduceSub, Nat.reduceLT, Nat.reduceLeDiff, Int.reduceLT, Int.reduceLE, Int.reduceEq, Int.reduceNe, Int.reduceAdd, Int.reduceNeg, Int.reduceToNat, f1, f2, f3, f4, f9, o4, hlt, he, List.length_map, exD, exsD_len, hlv, hlv1, hw, znum, zop, zsize]
          exact ⟨false, rfl, fun h => by cases h⟩
        by_cases hn : (kids.length : Int) = 0
        rotate_left
        · -- a wrong number of kids
          simp (config := { maxSteps := 1000000 }) only [go_sem, ↓reduceIte, Nat.reduceEqDiff, Nat.reduceAdd, Nat.reduceMul, Nat.reduceSub, Nat.reduceLT, Nat.reduceLeDiff, Int.reduceLT, Int.reduceLE, Int.reduceEq, Int.reduceNe, Int.reduceAdd, Int.reduceNeg, Int.reduceToNat, f1, f2, f3, f4, f9, o4, hlt, he, List.length_map, exD, exsD_len, hlv, hlv1, hw, znum, zop, zsize, hn]
          refine hook_call rfl (within_A w fs slot 1 hw0) (by rfl) ?_
          rintro _ rfl
          by_cases hwi : within w slot 1
          rotate_left
          · simp (config := { maxSteps := 1000000 }) only [go_sem, ↓reduceIte, Nat.reduceEqDiff, Nat.reduceAdd, Nat.reduceMul, Nat.reduceSub, Nat.reduceLT, Nat.reduceLeDiff, Int.reduceLT, Int.reduceLE, Int.reduceEq, Int.reduceNe, Int.reduceAdd, Int.reduceNeg, Int.reduceToNat, f1, f2, f3, f4, f9, o4, hlt, he, List.length_map, exD, exsD_len, hlv, hlv1, hw, znum, zop, zsize, hwi, decide_false]
            exact ⟨false, rfl, fun h => by cases h⟩
          simp (config := { maxSteps := 1000000 }) only [go_sem, ↓reduceIte, Nat.reduceEqDiff, Nat.reduceAdd, Nat.reduceMul, Nat.reduceSub, Nat.reduceLT, Nat.reduceLeDiff, Int.reduceLT, Int.reduceLE, Int.reduceEq, Int.reduceNe, Int.reduceAdd, Int.reduceNeg, Int.reduceToNat, f1, f2, f3, f4, f9, o4, hlt, he, List.length_map, exD, exsD_len, hlv, hlv1, hw, znum, zop, zsize, hn, hwi, decide_true]
          exact ⟨false, rfl, fun h => by cases h⟩
        simp (config := { maxSteps := 1000000 }) only [go_sem, ↓reduceIte, Nat.reduceEqDiff, Nat.reduceAdd, Nat.reduceMul, Nat.reduceSub, Nat.reduceLT, Nat.reduceLeDiff, Int.reduceLT, Int.reduceLE, Int.reduceEq, Int.reduceNe, Int.reduceAdd, Int.reduceNeg, Int.reduceToNat, f1, f2, f3, f4, f9, o4, hlt, he, List.length_map, exD, exsD_len, hlv, hlv1, hw, znum, zop, zsize, hn]
        refine hook_call rfl (within_A w fs slot 1 hw0) (by rfl) ?_
        rintro _ rfl
        by_cases hwi : within w slot 1
        rotate_left
        · simp (config := { maxSteps := 1000000 }) only [go_sem, ↓reduceIte, Nat.reduceEqDiff, Nat.reduceAdd, Nat.reduceMul, Nat.reduceSub, Nat.reduceLT, Nat.reduceLeDiff, Int.reduceLT, Int.reduceLE, Int.reduceEq, Int.reduceNe, Int.reduceAdd, Int.reduceNeg, Int.reduceToNat, f1, f2, f3, f4, f9, o4, hlt, he, List.length_map, exD, exsD_len, hlv, hlv1, hw, znum, zop, zsize, hwi, decide_false]
          exact ⟨false, rfl, fun h => by cases h⟩
        simp (config := { maxSteps := 1000000 }) only [go_sem, ↓reduceIte, Nat.reduceEqDiff, Nat.reduceAdd, Nat.reduceMul, Nat.reduceSub, Nat.reduceLT, Nat.reduceLeDiff, Int.reduceLT, Int.reduceLE, Int.reduceEq, Int.reduceNe, Int.reduceAdd, Int.reduceNeg, Int.reduceToNat, f1, f2, f3, f4, f9, o4, hlt, he, List.length_map, exD, exsD_len, hlv, hlv1, hw, znum, zop, zsize, hn, hwi, decide_true]
        refine hook_call rfl (ih (sizeEs kids) (by omega) kids (lv + 1) (Nat.le_refl _) (by omega) (by omega)) (by rfl) ?_
        rintro _ ⟨b, rfl, hb⟩
        cases b with
        | false =>
          simp (config := { maxSteps := 1000000 }) only [go_sem, ↓reduceIte, Nat.reduceEqDiff, Nat.reduceAdd, Nat.reduceMul, Nat.reduceSub, Nat.reduceLT, Nat.reduceLeDiff, Int.reduceLT, Int.reduceLE, Int.reduceEq, Int.reduceNe, Int.reduceAdd, Int.reduceNeg, Int.reduceToNat, f1, f2, f3, f4, f9, o4, hlt, he, List.length_map, exD, exsD_len, hlv, hlv1, hw, znum, zop, zsize]
          exact ⟨false, rfl, fun h => by cases h⟩
        | true =>
          simp (config := { maxSteps := 1000000 }) only [go_sem, ↓reduceIte, Nat.reduceEqDiff, Nat.reduceAdd, Nat.reduceMul, Nat.reduceSub, Nat.reduceLT, Nat.reduceLeDiff, Int.reduceLT, Int.reduceLE, Int.reduceEq, Int.reduceNe, Int.reduceAdd, Int.reduceNeg, Int.reduceToNat, f1, f2, f3, f4, f9, o4, hlt, he, List.length_map, exD, exsD_len, hlv, hlv1, hw, znum, zop, zsize]
          refine round_endB (n - 1) (by omega) ⟨k + 1, by omega, htk ⟨⟨by omega, by omega, by omega, by omega, by omega, .inr (.inl ⟨rfl, hwi, by omega⟩)⟩, hb rfl⟩, ?_⟩
          simp (config := { maxSteps := 1000000 }) only [go_sem, ↓reduceIte, Nat.reduceEqDiff, Nat.reduceAdd, Nat.reduceMul, Nat.reduceSub, Nat.reduceLT, Nat.reduceLeDiff, Int.reduceLT, Int.reduceLE, Int.reduceEq, Int.reduceNe, Int.reduceAdd, Int.reduceNeg, Int.reduceToNat, f1, f2, f3, f4, f9, o4, hw]
      by_cases k3 : kind = 3
      · subst k3
        by_cases znum : num = 0
        rotate_left
        · simp (config := { maxSteps := 1000000 }) only [go_sem, ↓reduceIte, Nat.reduceEqDiff, Nat.reduceAdd, Nat.reduceMul, Nat.reduceSub, Nat.reduceLT, Nat.reduceLeDiff, Int.reduceLT, Int.reduceLE, Int.reduceEq, Int.reduceNe, Int.reduceAdd, Int.reduceNeg, Int.reduceToNat, f1, f2, f3, f4, f9, o4, hlt, he, List.length_map, exD, exsD_len, hlv, hlv1, hw, znum]
          exact ⟨false, rfl, fun h => by cases h⟩
        by_cases zop : op = 0
        rotate_left
        · simp (config := { maxSteps := 1000000 }) only [go_sem, ↓reduceIte, Nat.reduceEqDiff, Nat.reduceAdd, Nat.reduceMul, Nat.reduceSub, Nat.reduceLT, Nat.reduceLeDiff, Int.reduceLT, Int.reduceLE, Int.reduceEq, Int.reduceNe, Int.reduceAdd, Int.reduceNeg, Int.reduceToNat, f1, f2, f3, f4, f9, o4, hlt, he, List.length_map, exD, exsD_len, hlv, hlv1, hw, znum, zop]
          exact ⟨false, rfl, fun h => by cases h⟩
        by_cases g1 : size < 1
        · simp (config := { maxSteps := 1000000 }) only [go_sem, ↓reduceIte, Nat.reduceEqDiff, Nat.reduceAdd, Nat.reduceMul, Nat.reduceSub, Nat.reduceLT, Nat.reduceLeDiff, Int.reduceLT, Int.reduceLE, Int.reduceEq, Int.reduceNe, Int.reduceAdd, Int.reduceNeg, Int.reduceToNat, f1, f2, f3, f4, f9, o4, hlt, he, List.length_map, exD, exsD_len, hlv, hlv1, hw, znum, zop, g1]
          exact ⟨false, rfl, fun h => by cases h⟩
        by_cases g2 : 4096 < size
        · simp (config := { maxSteps := 1000000 }) only [go_sem, ↓reduceIte, Nat.reduceEqDiff, Nat.reduceAdd, Nat.reduceMul, Nat.reduceSub, Nat.reduceLT, Nat.reduceLeDiff, Int.reduceLT, Int.reduceLE, Int.reduceEq, Int.reduceNe, Int.reduceAdd, Int.reduceNeg, Int.reduceToNat, f1, f2, f3, f4, f9, o4, hlt, he, List.length_map, exD, exsD_len, hlv, hlv1, hw, znum, zop, g1, g2]
          exact ⟨false, rfl, fun h => by cases h⟩
        by_cases hn : (kids.length : Int) = 1
        rotate_left
        · -- a wrong number of kids
          simp (config := { maxSteps := 1000000 }) only [go_sem, ↓reduceIte, Nat.reduceEqDiff, Nat.reduceAdd, Nat.reduceMul, Nat.reduceSub, Nat.reduceLT, Nat.reduceLeDiff, Int.reduceLT, Int.reduceLE, Int.reduceEq, Int.reduceNe, Int.reduceAdd, Int.reduceNeg, Int.reduceToNat, f1, f2, f3, f4, f9, o4, hlt, he, List.length_map, exD, exsD_len, hlv, hlv1, hw, znum, zop, g1, g2, hn]
          refine hook_call rfl (within_A w fs slot size hw0) (by rfl) ?_
          rintro _ rfl
          by_cases hwi : within w slot size
          rotate_left
          · simp (config := { maxSteps := 1000000 }) only [go_sem, ↓reduceIte, Nat.reduceEqDiff, Nat.reduceAdd, Nat.reduceMul, Nat.reduceSub, Nat.reduceLT, Nat.reduceLeDiff, Int.reduceLT, Int.reduceLE, Int.reduceEq, Int.reduceNe, Int.reduceAdd, Int.reduceNeg, Int.reduceToNat, f1, f2, f3, f4, f9, o4, hlt, he, List.length_map, exD, exsD_len, hlv, hlv1, hw, znum, zop, g1, g2, hwi, decide_false]
            exact ⟨false, rfl, fun h => by cases h⟩
          simp (config := { maxSteps := 1000000 }) only [go_sem, ↓reduceIte, Nat.reduceEqDiff, Nat.reduceAdd, Nat.reduceMul, Nat.reduceSub, Nat.reduceLT, Nat.reduceLeDiff, Int.reduceLT, Int.reduceLE, Int.reduceEq, Int.reduceNe, Int.reduceAdd, Int.reduceNeg, Int.reduceToNat, f1, f2, f3, f4, f9, o4, hlt, he, List.length_map, exD, exsD_len, hlv, hlv1, hw, znum, zop, g1, g2, hn, hwi, decide_true]
          exact ⟨false, rfl, fun h => by cases h⟩
        simp (config := { maxSteps := 1000000 }) only [go_sem, ↓reduceIte, Nat.reduceEqDiff, Nat.reduceAdd, Nat.reduceMul, Nat.reduceSub, Nat.reduceLT, Nat.reduceLeDiff, Int.reduceLT, Int.reduceLE, Int.reduceEq, Int.reduceNe, Int.reduceAdd, Int.reduceNeg, Int.reduceToNat, f1, f2, f3, f4, f9, o4, hlt, he, List.length_map, exD, exsD_len, hlv, hlv1, hw, znum, zop, g1, g2, hn]
        refine hook_call rfl (within_A w fs slot size hw0) (by rfl) ?_
        rintro _ rfl
        by_cases hwi : within w slot size
        rotate_left
        · simp (config := { maxSteps := 1000000 }) only [go_sem, ↓reduceIte, Nat.reduceEqDiff, Nat.reduceAdd, Nat.reduceMul, Nat.reduceSub, Nat.reduceLT, Nat.reduceLeDiff, Int.reduceLT, Int.reduceLE, Int.reduceEq, Int.reduceNe, Int.reduceAdd, Int.reduceNeg, Int.reduceToNat, f1, f2, f3, f4, f9, o4, hlt, he, List.length_map, exD, exsD_len, hlv, hlv1, hw, znum, zop, g1, g2, hwi, decide_false]
          exact ⟨false, rfl, fun h => by cases h⟩
        simp (config := { maxSteps := 1000000 }) only [go_sem, ↓reduceIte, Nat.reduceEqDiff, Nat.reduceAdd, Nat.reduceMul, Nat.reduceSub, Nat.reduceLT, Nat.reduceLeDiff, Int.reduceLT, Int.reduceLE, Int.reduceEq, Int.reduceNe, Int.reduceAdd, Int.reduceNeg, Int.reduceToNat, f1, f2, f3, f4, f9, o4, hlt, he, List.length_map, exD, exsD_len, hlv, hlv1, hw, znum, zop, g1, g2, hn, hwi, decide_true]
        refine hook_call rfl (ih (sizeEs kids) (by omega) kids (lv + 1) (Nat.le_refl _) (by omega) (by omega)) (by rfl) ?_
        rintro _ ⟨b, rfl, hb⟩
        cases b with
        | false =>
          simp (config := { maxSteps := 1000000 }) only [go_sem, ↓reduceIte, Nat.reduceEqDiff, Nat.reduceAdd, Nat.reduceMul, Nat.reduceSub, Nat.reduceLT, Nat.reduceLeDiff, Int.reduceLT, Int.reduceLE, Int.reduceEq, Int.reduceNe, Int.reduceAdd, Int.reduceNeg, Int.reduceToNat, f1, f2, f3, f4, f9, o4, hlt, he, List.length_map, exD, exsD_len, hlv, hlv1, hw, znum, zop, g1, g2]
          exact ⟨false, rfl, fun h => by cases h⟩
        | true =>
          simp (config := { maxSteps := 1000000 }) only [go_sem, ↓reduceIte, Nat.reduceEqDiff, Nat.reduceAdd, Nat.reduceMul, Nat.reduceSub, Nat.reduceLT, Nat.reduceLeDiff, Int.reduceLT, Int.reduceLE, Int.reduceEq, Int.reduceNe, Int.reduceAdd, Int.reduceNeg, Int.reduceToNat, f1, f2, f3, f4, f9, o4, hlt, he, List.length_map, exD, exsD_len, hlv, hlv1, hw, znum, zop, g1, g2]
          refine round_endB (n - 1) (by omega) ⟨k + 1, by omega, htk ⟨⟨by omega, by omega, by omega, by omega, by omega, .inr (.inr (.inl ⟨rfl, by omega, by omega, hwi, by omega⟩))⟩, hb rfl⟩, ?_⟩
          simp (config := { maxSteps := 1000000 }) only [go_sem, ↓reduceIte, Nat.reduceEqDiff, Nat.reduceAdd, Nat.reduceMul, Nat.reduceSub, Nat.reduceLT, Nat.reduceLeDiff, Int.reduceLT, Int.reduceLE, Int.reduceEq, Int.reduceNe, Int.reduceAdd, Int.reduceNeg, Int.reduceToNat, f1, f2, f3, f4, f9, o4, hw]
      by_cases k4 : kind = 4
      · subst k4
        by_cases znum : num = 0
        rotate_left
        · simp (config := { maxSteps := 1000000 }) only [go_sem, ↓reduceIte, Nat.reduceEqDiff, Nat.reduceAdd, Nat.reduceMul, Nat.reduceSub, Nat.reduceLT, Nat.reduceLeDiff, Int.reduceLT, Int.reduceLE, Int.reduceEq, Int.reduceNe, Int.reduceAdd, Int.reduceNeg, Int.reduceToNat, f1, f2, f3, f4, f9, o4, hlt, he, List.length_map, exD, exsD_len, hlv, hlv1, hw, znum]
          exact ⟨false, rfl, fun h => by cases h⟩
        by_cases zop : op = 0
        rotate_left
        · simp (config := { maxSteps := 1000000 }) only [go_sem, ↓reduceIte, Nat.reduceEqDiff, Nat.reduceAdd, Nat.reduceMul, Nat.reduceSub, Nat.reduceLT, Nat.reduceLeDiff, Int.reduceLT, Int.reduceLE, Int.reduceEq, Int.reduceNe, Int.reduceAdd, Int.reduceNeg, Int.reduceToNat, f1, f2, f3, f4, f9, o4, hlt, he, List.length_map, exD, exsD_len, hlv, hlv1, hw, znum, zop]
          exact ⟨false, rfl, fun h => by cases h⟩
        by_cases zsize : size = 0
        rotate_left
        · simp (config := { maxSteps := 1000000 }) only [go_sem, ↓reduceIte, Nat.reduceEqDiff, Nat.reduceAdd, Nat.reduceMul, Nat.reduceSub, Nat.reduceLT, Nat.reduceLeDiff, Int.reduceLT, Int.reduceLE, Int.reduceEq, Int.reduceNe, Int.reduceAdd, Int.reduceNeg, Int.reduceToNat, f1, f2, f3, f4, f9, o4, hlt, he, List.length_map, exD, exsD_len, hlv, hlv1, hw, znum, zop, zsize]
          exact ⟨false, rfl, fun h => by cases h⟩
        simp (config := { maxSteps := 1000000 }) only [go_sem, ↓reduceIte, Nat.reduceEqDiff, Nat.reduceAdd, Nat.reduceMul, Nat.reduceSub, Nat.reduceLT, Nat.reduceLeDiff, Int.reduceLT, Int.reduceLE, Int.reduceEq, Int.reduceNe, Int.reduceAdd, Int.reduceNeg, Int.reduceToNat, f1, f2, f3, f4, f9, o4, hlt, he, List.length_map, exD, exsD_len, hlv, hlv1, hw, znum, zop, zsize]
        refine hook_call rfl (callee_A w fs f slot kids.length true hf) (by rfl) ?_
        rintro _ rfl
        by_cases hca : calleeB fs f slot kids.length true = true
        rotate_left
        · have hca : calleeB fs f slot kids.length true = false := by simpa using hca
          simp (config := { maxSteps := 1000000 }) only [go_sem, ↓reduceIte, Nat.reduceEqDiff, Nat.reduceAdd, Nat.reduceMul, Nat.reduceSub, Nat.reduceLT, Nat.reduceLeDiff, Int.reduceLT, Int.reduceLE, Int.reduceEq, Int.reduceNe, Int.reduceAdd, Int.reduceNeg, Int.reduceToNat, f1, f2, f3, f4, f9, o4, hlt, he, List.length_map, exD, exsD_len, hlv, hlv1, hw, znum, zop, zsize, hca]
          exact ⟨false, rfl, fun h => by cases h⟩
        simp (config := { maxSteps := 1000000 }) only [go_sem, ↓reduceIte, Nat.reduceEqDiff, Nat.reduceAdd, Nat.reduceMul, Nat.reduceSub, Nat.reduceLT, Nat.reduceLeDiff, Int.reduceLT, Int.reduceLE, Int.reduceEq, Int.reduceNe, Int.reduceAdd, Int.reduceNeg, Int.reduceToNat, f1, f2, f3, f4, f9, o4, hlt, he, List.length_map, exD, exsD_len, hlv, hlv1, hw, znum, zop, zsize, hca]
        refine hook_call rfl (ih (sizeEs kids) (by omega) kids (lv + 1) (Nat.le_refl _) (by omega) (by omega)) (by rfl) ?_
        rintro _ ⟨b, rfl, hb⟩
        cases b with
        | false =>
          simp (config := { maxSteps := 1000000 }) only [go_sem, ↓reduceIte, Nat.reduceEqDiff, Nat.reduceAdd, Nat.reduceMul, Nat.reduceSub, Nat.reduceLT, Nat.reduceLeDiff, Int.reduceLT, Int.reduceLE, Int.reduceEq, Int.reduceNe, Int.reduceAdd, Int.reduceNeg, Int.reduceToNat, f1, f2, f3, f4, f9, o4, hlt, he, List.length_map, exD, exsD_len, hlv, hlv1, hw, znum, zop, zsize]
          exact ⟨false, rfl, fun h => by cases h⟩
        | true =>
          simp (config := { maxSteps := 1000000 }) only [go_sem, ↓reduceIte, Nat.reduceEqDiff, Nat.reduceAdd, Nat.reduceMul, Nat.reduceSub, Nat.reduceLT, Nat.reduceLeDiff, Int.reduceLT, Int.reduceLE, Int.reduceEq, Int.reduceNe, Int.reduceAdd, Int.reduceNeg, Int.reduceToNat, f1, f2, f3, f4, f9, o4, hlt, he, List.length_map, exD, exsD_len, hlv, hlv1, hw, znum, zop, zsize]
          refine round_endB (n - 1) (by omega) ⟨k + 1, by omega, htk ⟨⟨by omega, by omega, by omega, by omega, by omega, .inr (.inr (.inr (.inl ⟨rfl, calleeB_iff.1 hca⟩)))⟩, hb rfl⟩, ?_⟩
          simp (config := { maxSteps := 1000000 }) only [go_sem, ↓reduceIte, Nat.reduceEqDiff, Nat.reduceAdd, Nat.reduceMul, Nat.reduceSub, Nat.reduceLT, Nat.reduceLeDiff, Int.reduceLT, Int.reduceLE, Int.reduceEq, Int.reduceNe, Int.reduceAdd, Int.reduceNeg, Int.reduceToNat, f1, f2, f3, f4, f9, o4, hw]
      by_cases k5 : kind = 5
      · subst k5
        by_cases znum : num = 0
        rotate_left
        · simp (config := { maxSteps := 1000000 }) only [go_sem, ↓reduceIte, Nat.reduceEqDiff, Nat.reduceAdd, Nat.reduceMul, Nat.reduceSub, Nat.reduceLT, Nat.reduceLeDiff, Int.reduceLT, Int.reduceLE, Int.reduceEq, Int.reduceNe, Int.reduceAdd, Int.reduceNeg, Int.reduceToNat, f1, f2, f3, f4, f9, o4, hlt, he, List.length_map, exD, exsD_len, hlv, hlv1, hw, znum]
          exact ⟨false, rfl, fun h => by cases h⟩
        by_cases zop : op = 0
        rotate_left
        · simp (config := { maxSteps := 1000000 }) only [go_sem, ↓reduceIte, Nat.reduceEqDiff, Nat.reduceAdd, Nat.reduceMul, Nat.reduceSub, Nat.reduceLT, Nat.reduceLeDiff, Int.reduceLT, Int.reduceLE, Int.reduceEq, Int.reduceNe, Int.reduceAdd, Int.reduceNeg, Int.reduceToNat, f1, f2, f3, f4, f9, o4, hlt, he, List.length_map, exD, exsD_len, hlv, hlv1, hw, znum, zop]
          exact ⟨false, rfl, fun h => by cases h⟩
        by_cases zsize : size = 0
        rotate_left
        · simp (config := { maxSteps := 1000000 }) only [go_sem, ↓reduceIte, Nat.reduceEqDiff, Nat.reduceAdd, Nat.reduceMul, Nat.reduceSub, Nat.reduceLT, Nat.reduceLeDiff, Int.reduceLT, Int.reduceLE, Int.reduceEq, Int.reduceNe, Int.reduceAdd, Int.reduceNeg, Int.reduceToNat, f1, f2, f3, f4, f9, o4, hlt, he, List.length_map, exD, exsD_len, hlv, hlv1, hw, znum, zop, zsize]
          exact ⟨false, rfl, fun h => by cases h⟩
        by_cases zslot : slot = 0
        rotate_left
        · simp (config := { maxSteps := 1000000 }) only [go_sem, ↓reduceIte, Nat.reduceEqDiff, Nat.reduceAdd, Nat.reduceMul, Nat.reduceSub, Nat.reduceLT, Nat.reduceLeDiff, Int.reduceLT, Int.reduceLE, Int.reduceEq, Int.reduceNe, Int.reduceAdd, Int.reduceNeg, Int.reduceToNat, f1, f2, f3, f4, f9, o4, hlt, he, List.length_map, exD, exsD_len, hlv, hlv1, hw, znum, zop, zsize, zslot]
          exact ⟨false, rfl, fun h => by cases h⟩
        by_cases hn : (kids.length : Int) = 0
        rotate_left
        · -- a wrong number of kids
          simp (config := { maxSteps := 1000000 }) only [go_sem, ↓reduceIte, Nat.reduceEqDiff, Nat.reduceAdd, Nat.reduceMul, Nat.reduceSub, Nat.reduceLT, Nat.reduceLeDiff, Int.reduceLT, Int.reduceLE, Int.reduceEq, Int.reduceNe, Int.reduceAdd, Int.reduceNeg, Int.reduceToNat, f1, f2, f3, f4, f9, o4, hlt, he, List.length_map, exD, exsD_len, hlv, hlv1, hw, znum, zop, zsize, zslot, hn]
          exact ⟨false, rfl, fun h => by cases h⟩
        simp (config := { maxSteps := 1000000 }) only [go_sem, ↓reduceIte, Nat.reduceEqDiff, Nat.reduceAdd, Nat.reduceMul, Nat.reduceSub, Nat.reduceLT, Nat.reduceLeDiff, Int.reduceLT, Int.reduceLE, Int.reduceEq, Int.reduceNe, Int.reduceAdd, Int.reduceNeg, Int.reduceToNat, f1, f2, f3, f4, f9, o4, hlt, he, List.length_map, exD, exsD_len, hlv, hlv1, hw, znum, zop, zsize, zslot, hn]
        refine hook_call rfl (ih (sizeEs kids) (by omega) kids (lv + 1) (Nat.le_refl _) (by omega) (by omega)) (by rfl) ?_
        rintro _ ⟨b, rfl, hb⟩
        cases b with
        | false =>
          simp (config := { maxSteps := 1000000 }) only [go_sem, ↓reduceIte, Nat.reduceEqDiff, Nat.reduceAdd, Nat.reduceMul, Nat.reduceSub, Nat.reduceLT, Nat.reduceLeDiff, Int.reduceLT, Int.reduceLE, Int.reduceEq, Int.reduceNe, Int.reduceAdd, Int.reduceNeg, Int.reduceToNat, f1, f2, f3, f4, f9, o4, hlt, he, List.length_map, exD, exsD_len, hlv, hlv1, hw, znum, zop, zsize, zslot]
          exact ⟨false, rfl, fun h => by cases h⟩
        | true =>
          simp (config := { maxSteps := 1000000 }) only [go_sem, ↓reduceIte, Nat.reduceEqDiff, Nat.reduceAdd, Nat.reduceMul, Nat.reduceSub, Nat.reduceLT, Nat.reduceLeDiff, Int.reduceLT, Int.reduceLE, Int.reduceEq, Int.reduceNe, Int.reduceAdd, Int.reduceNeg, Int.reduceToNat, f1, f2, f3, f4, f9, o4, hlt, he, List.length_map, exD, exsD_len, hlv, hlv1, hw, znum, zop, zsize, zslot]
          refine round_endB (n - 1) (by omega) ⟨k + 1, by omega, htk ⟨⟨by omega, by omega, by omega, by omega, by omega, .inl ⟨.inr rfl, by omega⟩⟩, hb rfl⟩, ?_⟩
          simp (config := { maxSteps := 1000000 }) only [go_sem, ↓reduceIte, Nat.reduceEqDiff, Nat.reduceAdd, Nat.reduceMul, Nat.reduceSub, Nat.reduceLT, Nat.reduceLeDiff, Int.reduceLT, Int.reduceLE, Int.reduceEq, Int.reduceNe, Int.reduceAdd, Int.reduceNeg, Int.reduceToNat, f1, f2, f3, f4, f9, o4, hw]
      by_cases k6 : kind = 6
      · subst k6
        by_cases znum : num = 0
        rotate_left
        · simp (config := { maxSteps := 1000000 }) only [go_sem, ↓reduceIte, Nat.reduceEqDiff, Nat.reduceAdd, Nat.reduceMul, Nat.reduceSub, Nat.reduceLT, Nat.reduceLeDiff, Int.reduceLT, Int.reduceLE, Int.reduceEq, Int.reduceNe, Int.reduceAdd, Int.reduceNeg, Int.reduceToNat, f1, f2, f3, f4, f9, o4, hlt, he, List.length_map, exD, exsD_len, hlv, hlv1, hw, znum]
          exact ⟨false, rfl, fun h => by cases h⟩
        by_cases zsize : size = 0
        rotate_left
        · simp (config := { maxSteps := 1000000 }) only [go_sem, ↓reduceIte, Nat.reduceEqDiff, Nat.reduceAdd, Nat.reduceMul, Nat.reduceSub, Nat.reduceLT, Nat.reduceLeDiff, Int.reduceLT, Int.reduceLE, Int.reduceEq, Int.reduceNe, Int.reduceAdd, Int.reduceNeg, Int.reduceToNat, f1, f2, f3, f4, f9, o4, hlt, he, List.length_map, exD, exsD_len, hlv, hlv1, hw, znum, zsize]
          exact ⟨false, rfl, fun h => by cases h⟩
        by_cases zslot : slot = 0
        rotate_left
        · simp (config := { maxSteps := 1000000 }) only [go_sem, ↓reduceIte, Nat.reduceEqDiff, Nat.reduceAdd, Nat.reduceMul, Nat.reduceSub, Nat.reduceLT, Nat.reduceLeDiff, Int.reduceLT, Int.reduceLE, Int.reduceEq, Int.reduceNe, Int.reduceAdd, Int.reduceNeg, Int.reduceToNat, f1, f2, f3, f4, f9, o4, hlt, he, List.length_map, exD, exsD_len, hlv, hlv1, hw, znum, zsize, zslot]
          exact ⟨false, rfl, fun h => by cases h⟩
        by_cases g1 : op < 4
        · simp (config := { maxSteps := 1000000 }) only [go_sem, ↓reduceIte, Nat.reduceEqDiff, Nat.reduceAdd, Nat.reduceMul, Nat.reduceSub, Nat.reduceLT, Nat.reduceLeDiff, Int.reduceLT, Int.reduceLE, Int.reduceEq, Int.reduceNe, Int.reduceAdd, Int.reduceNeg, Int.reduceToNat, f1, f2, f3, f4, f9, o4, hlt, he, List.length_map, exD, exsD_len, hlv, hlv1, hw, znum, zsize, zslot, g1]
          exact ⟨false, rfl, fun h => by cases h⟩
        by_cases g2 : 15 < op
        · simp (config := { maxSteps := 1000000 }) only [go_sem, ↓reduceIte, Nat.reduceEqDiff, Nat.reduceAdd, Nat.reduceMul, Nat.reduceSub, Nat.reduceLT, Nat.reduceLeDiff, Int.reduceLT, Int.reduceLE, Int.reduceEq, Int.reduceNe, Int.reduceAdd, Int.reduceNeg, Int.reduceToNat, f1, f2, f3, f4, f9, o4, hlt, he, List.length_map, exD, exsD_len, hlv, hlv1, hw, znum, zsize, zslot, g1, g2]
          exact ⟨false, rfl, fun h => by cases h⟩
        by_cases hn : (kids.length : Int) = 2
        rotate_left
        · -- a wrong number of kids
          simp (config := { maxSteps := 1000000 }) only [go_sem, ↓reduceIte, Nat.reduceEqDiff, Nat.reduceAdd, Nat.reduceMul, Nat.reduceSub, Nat.reduceLT, Nat.reduceLeDiff, Int.reduceLT, Int.reduceLE, Int.reduceEq, Int.reduceNe, Int.reduceAdd, Int.reduceNeg, Int.reduceToNat, f1, f2, f3, f4, f9, o4, hlt, he, List.length_map, exD, exsD_len, hlv, hlv1, hw, znum, zsize, zslot, g1, g2, hn]
          exact ⟨false, rfl, fun h => by cases h⟩
        simp (config := { maxSteps := 1000000 }) only [go_sem, ↓reduceIte, Nat.reduceEqDiff, Nat.reduceAdd, Nat.reduceMul, Nat.reduceSub, Nat.reduceLT, Nat.reduceLeDiff, Int.reduceLT, Int.reduceLE, Int.reduceEq, Int.reduceNe, Int.reduceAdd, Int.reduceNeg, Int.reduceToNat, f1, f2, f3, f4, f9, o4, hlt, he, List.length_map, exD, exsD_len, hlv, hlv1, hw, znum, zsize, zslot, g1, g2, hn]
        refine hook_call rfl (ih (sizeEs kids) (by omega) kids (lv + 1) (Nat.le_refl _) (by omega) (by omega)) (by rfl) ?_
        rintro _ ⟨b, rfl, hb⟩
        cases b with
        | false =>
          simp (config := { maxSteps := 1000000 }) only [go_sem, ↓reduceIte, Nat.reduceEqDiff, Nat.reduceAdd, Nat.reduceMul, Nat.reduceSub, Nat.reduceLT, Nat.reduceLeDiff, Int.reduceLT, Int.reduceLE, Int.reduceEq, Int.reduceNe, Int.reduceAdd, Int.reduceNeg, Int.reduceToNat, f1, f2, f3, f4, f9, o4, hlt, he, List.length_map, exD, exsD_len, hlv, hlv1, hw, znum, zsize, zslot, g1, g2]
          exact ⟨false, rfl, fun h => by cases h⟩
        | true =>
          simp (config := { maxSteps := 1000000 }) only [go_sem, ↓reduceIte, Nat.reduceEqDiff, Nat.reduceAdd, Nat.reduceMul, Nat.reduceSub, Nat.reduceLT, Nat.reduceLeDiff, Int.reduceLT, Int.reduceLE, Int.reduceEq, Int.reduceNe, Int.reduceAdd, Int.reduceNeg, Int.reduceToNat, f1, f2, f3, f4, f9, o4, hlt, he, List.length_map, exD, exsD_len, hlv, hlv1, hw, znum, zsize, zslot, g1, g2]
          refine round_endB (n - 1) (by omega) ⟨k + 1, by omega, htk ⟨⟨by omega, by omega, by omega, by omega, by omega, .inr (.inr (.inr (.inr (.inl ⟨rfl, by omega, by omega, by omega⟩))))⟩, hb rfl⟩, ?_⟩
          simp (config := { maxSteps := 1000000 }) only [go_sem, ↓reduceIte, Nat.reduceEqDiff, Nat.reduceAdd, Nat.reduceMul, Nat.reduceSub, Nat.reduceLT, Nat.reduceLeDiff, Int.reduceLT, Int.reduceLE, Int.reduceEq, Int.reduceNe, Int.reduceAdd, Int.reduceNeg, Int.reduceToNat, f1, f2, f3, f4, f9, o4, hw]
      by_cases k7 : kind = 7
      · subst k7
        by_cases znum : num = 0
        rotate_left
        · simp (config := { maxSteps := 1000000 }) only [go_sem, ↓reduceIte, Nat.reduceEqDiff, Nat.reduceAdd, Nat.reduceMul, Nat.reduceSub, Nat.reduceLT, Nat.reduceLeDiff, Int.reduceLT, Int.reduceLE, Int.reduceEq, Int.reduceNe, Int.reduceAdd, Int.reduceNeg, Int.reduceToNat, f1, f2, f3, f4, f9, o4, hlt, he, List.length_map, exD, exsD_len, hlv, hlv1, hw, znum]
          exact ⟨false, rfl, fun h => by cases h⟩
        by_cases zop : op = 0
        rotate_left
        · simp (config := { maxSteps := 1000000 }) only [go_sem, ↓reduceIte, Nat.reduceEqDiff, Nat.reduceAdd, Nat.reduceMul, Nat.reduceSub, Nat.reduceLT, Nat.reduceLeDiff, Int.reduceLT, Int.reduceLE, Int.reduceEq, Int.reduceNe, Int.reduceAdd, Int.reduceNeg, Int.reduceToNat, f1, f2, f3, f4, f9, o4, hlt, he, List.length_map, exD, exsD_len, hlv, hlv1, hw, znum, zop]
          exact ⟨false, rfl, fun h => by cases h⟩
        by_cases zsize : size = 0
        rotate_left
        · simp (config := { maxSteps := 1000000 }) only [go_sem, ↓reduceIte, Nat.reduceEqDiff, Nat.reduceAdd, Nat.reduceMul, Nat.reduceSub, Nat.reduceLT, Nat.reduceLeDiff, Int.reduceLT, Int.reduceLE, Int.reduceEq, Int.reduceNe, Int.reduceAdd, Int.reduceNeg, Int.reduceToNat, f1, f2, f3, f4, f9, o4, hlt, he, List.length_map, exD, exsD_len, hlv, hlv1, hw, znum, zop, zsize]
          exact ⟨false, rfl, fun h => by cases h⟩
        by_cases zslot : slot = 0
        rotate_left
        · simp (config := { maxSteps := 1000000 }) only [go_sem, ↓reduceIte, Nat.reduceEqDiff, Nat.reduceAdd, Nat.reduceMul, Nat.reduceSub, Nat.reduceLT, Nat.reduceLeDiff, Int.reduceLT, Int.reduceLE, Int.reduceEq, Int.reduceNe, Int.reduceAdd, Int.reduceNeg, Int.reduceToNat, f1, f2, f3, f4, f9, o4, hlt, he, List.length_map, exD, exsD_len, hlv, hlv1, hw, znum, zop, zsize, zslot]
          exact ⟨false, rfl, fun h => by cases h⟩
        by_cases hn : (kids.length : Int) = 1
        rotate_left
        · -- a wrong number of kids
          simp (config := { maxSteps := 1000000 }) only [go_sem, ↓reduceIte, Nat.reduceEqDiff, Nat.reduceAdd, Nat.reduceMul, Nat.reduceSub, Nat.reduceLT, Nat.reduceLeDiff, Int.reduceLT, Int.reduceLE, Int.reduceEq, Int.reduceNe, Int.reduceAdd, Int.reduceNeg, Int.reduceToNat, f1, f2, f3, f4, f9, o4, hlt, he, List.length_map, exD, exsD_len, hlv, hlv1, hw, znum, zop, zsize, zslot, hn]
          exact ⟨false, rfl, fun h => by cases h⟩
        simp (config := { maxSteps := 1000000 }) only [go_sem, ↓reduceIte, Nat.reduceEqDiff, Nat.reduceAdd, Nat.reduceMul, Nat.reduceSub, Nat.reduceLT, Nat.reduceLeDiff, Int.reduceLT, Int.reduceLE, Int.reduceEq, Int.reduceNe, Int.reduceAdd, Int.reduceNeg, Int.reduceToNat, f1, f2, f3, f4, f9, o4, hlt, he, List.length_map, exD, exsD_len, hlv, hlv1, hw, znum, zop, zsize, zslot, hn]
        refine hook_call rfl (ih (sizeEs kids) (by omega) kids (lv + 1) (Nat.le_refl _) (by omega) (by omega)) (by rfl) ?_
        rintro _ ⟨b, rfl, hb⟩
        cases b with
        | false =>
          simp (config := { maxSteps := 1000000 }) only [go_sem, ↓reduceIte, Nat.reduceEqDiff, Nat.reduceAdd, Nat.reduceMul, Nat.reduceSub, Nat.reduceLT, Nat.reduceLeDiff, Int.reduceLT, Int.reduceLE, Int.reduceEq, Int.reduceNe, Int.reduceAdd, Int.reduceNeg, Int.reduceToNat, f1, f2, f3, f4, f9, o4, hlt, he, List.length_map, exD, exsD_len, hlv, hlv1, hw, znum, zop, zsize, zslot]
          exact ⟨false, rfl, fun h => by cases h⟩
        | true =>
          simp (config := { maxSteps := 1000000 }) only [go_sem, ↓reduceIte, Nat.reduceEqDiff, Nat.reduceAdd, Nat.reduceMul, Nat.reduceSub, Nat.reduceLT, Nat.reduceLeDiff, Int.reduceLT, Int.reduceLE, Int.reduceEq, Int.reduceNe, Int.reduceAdd, Int.reduceNeg, Int.reduceToNat, f1, f2, f3, f4, f9, o4, hlt, he, List.length_map, exD, exsD_len, hlv, hlv1, hw, znum, zop, zsize, zslot]
          refine round_endB (n - 1) (by omega) ⟨k + 1, by omega, htk ⟨⟨by omega, by omega, by omega, by omega, by omega, .inr (.inr (.inr (.inr (.inr (.inl ⟨rfl, by omega⟩)))))⟩, hb rfl⟩, ?_⟩
          simp (config := { maxSteps := 1000000 }) only [go_sem, ↓reduceIte, Nat.reduceEqDiff, Nat.reduceAdd, Nat.reduceMul, Nat.reduceSub, Nat.reduceLT, Nat.reduceLeDiff, Int.reduceLT, Int.reduceLE, Int.reduceEq, Int.reduceNe, Int.reduceAdd, Int.reduceNeg, Int.reduceToNat, f1, f2, f3, f4, f9, o4, hw]
      by_cases k8 : kind = 8
      · subst k8
        by_cases znum : num = 0
        rotate_left
        · simp (config := { maxSteps := 1000000 }) only [go_sem, ↓reduceIte, Nat.reduceEqDiff, Nat.reduceAdd, Nat.reduceMul, Nat.reduceSub, Nat.reduceLT, Nat.reduceLeDiff, Int.reduceLT, Int.reduceLE, Int.reduceEq, Int.reduceNe, Int.reduceAdd, Int.reduceNeg, Int.reduceToNat, f1, f2, f3, f4, f9, o4, hlt, he, List.length_map, exD, exsD_len, hlv, hlv1, hw, znum]
          exact ⟨false, rfl, fun h => by cases h⟩
        by_cases zop : op = 0
        rotate_left
        · simp (config := { maxSteps := 1000000 }) only [go_sem, ↓reduceIte, Nat.reduceEqDiff, Nat.reduceAdd, Nat.reduceMul, Nat.reduceSub, Nat.reduceLT, Nat.reduceLeDiff, Int.reduceLT, Int.reduceLE, Int.reduceEq, Int.reduceNe, Int.reduceAdd, Int.reduceNeg, Int.reduceToNat, f1, f2, f3, f4, f9, o4, hlt, he, List.length_map, exD, exsD_len, hlv, hlv1, hw, znum, zop]
          exact ⟨false, rfl, fun h => by cases h⟩
        by_cases zsize : size = 0
        rotate_left
        · simp (config := { maxSteps := 1000000 }) only [go_sem, ↓reduceIte, Nat.reduceEqDiff, Nat.reduceAdd, Nat.reduceMul, Nat.reduceSub, Nat.reduceLT, Nat.reduceLeDiff, Int.reduceLT, Int.reduceLE, Int.reduceEq, Int.reduceNe, Int.reduceAdd, Int.reduceNeg, Int.reduceToNat, f1, f2, f3, f4, f9, o4, hlt, he, List.length_map, exD, exsD_len, hlv, hlv1, hw, znum, zop, zsize]
          exact ⟨false, rfl, fun h => by cases h⟩
        by_cases zslot : slot = 0
        rotate_left
        · simp (config := { maxSteps := 1000000 }) only [go_sem, ↓reduceIte, Nat.reduceEqDiff, Nat.reduceAdd, Nat.reduceMul, Nat.reduceSub, Nat.reduceLT, Nat.reduceLeDiff, Int.reduceLT, Int.reduceLE, Int.reduceEq, Int.reduceNe, Int.reduceAdd, Int.reduceNeg, Int.reduceToNat, f1, f2, f3, f4, f9, o4, hlt, he, List.length_map, exD, exsD_len, hlv, hlv1, hw, znum, zop, zsize, zslot]
          exact ⟨false, rfl, fun h => by cases h⟩
        by_cases hn : (kids.length : Int) = 2
        rotate_left
        · -- a wrong number of kids
          simp (config := { maxSteps := 1000000 }) only [go_sem, ↓reduceIte, Nat.reduceEqDiff, Nat.reduceAdd, Nat.reduceMul, Nat.reduceSub, Nat.reduceLT, Nat.reduceLeDiff, Int.reduceLT, Int.reduceLE, Int.reduceEq, Int.reduceNe, Int.reduceAdd, Int.reduceNeg, Int.reduceToNat, f1, f2, f3, f4, f9, o4, hlt, he, List.length_map, exD, exsD_len, hlv, hlv1, hw, znum, zop, zsize, zslot, hn]
          exact ⟨false, rfl, fun h => by cases h⟩
        simp (config := { maxSteps := 1000000 }) only [go_sem, ↓reduceIte, Nat.reduceEqDiff, Nat.reduceAdd, Nat.reduceMul, Nat.reduceSub, Nat.reduceLT, Nat.reduceLeDiff, Int.reduceLT, Int.reduceLE, Int.reduceEq, Int.reduceNe, Int.reduceAdd, Int.reduceNeg, Int.reduceToNat, f1, f2, f3, f4, f9, o4, hlt, he, List.length_map, exD, exsD_len, hlv, hlv1, hw, znum, zop, zsize, zslot, hn]
        refine hook_call rfl (ih (sizeEs kids) (by omega) kids (lv + 1) (Nat.le_refl _) (by omega) (by omega)) (by rfl) ?_
        rintro _ ⟨b, rfl, hb⟩
        cases b with
        | false =>
          simp (config := { maxSteps := 1000000 }) only [go_sem, ↓reduceIte, Nat.reduceEqDiff, Nat.reduceAdd, Nat.reduceMul, Nat.reduceSub, Nat.reduceLT, Nat.reduceLeDiff, Int.reduceLT, Int.reduceLE, Int.reduceEq, Int.reduceNe, Int.reduceAdd, Int.reduceNeg, Int.reduceToNat, f1, f2, f3, f4, f9, o4, hlt, he, List.length_map, exD, exsD_len, hlv, hlv1, hw, znum, zop, zsize, zslot]
          exact ⟨false, rfl, fun h => by cases h⟩
        | true =>
          simp (config := { maxSteps := 1000000 }) only [go_sem, ↓reduceIte, Nat.reduceEqDiff, Nat.reduceAdd, Nat.reduceMul, Nat.reduceSub, Nat.reduceLT, Nat.reduceLeDiff, Int.reduceLT, Int.reduceLE, Int.reduceEq, Int.reduceNe, Int.reduceAdd, Int.reduceNeg, Int.reduceToNat, f1, f2, f3, f4, f9, o4, hlt, he, List.length_map, exD, exsD_len, hlv, hlv1, hw, znum, zop, zsize, zslot]
          refine round_endB (n - 1) (by omega) ⟨k + 1, by omega, htk ⟨⟨by omega, by omega, by omega, by omega, by omega, .inr (.inr (.inr (.inr (.inr (.inr ⟨.inl rfl, by omega⟩)))))⟩, hb rfl⟩, ?_⟩
          simp (config := { maxSteps := 1000000 }) only [go_sem, ↓reduceIte, Nat.reduceEqDiff, Nat.reduceAdd, Nat.reduceMul, Nat.reduceSub, Nat.reduceLT, Nat.reduceLeDiff, Int.reduceLT, Int.reduceLE, Int.reduceEq, Int.reduceNe, Int.reduceAdd, Int.reduceNeg, Int.reduceToNat, f1, f2, f3, f4, f9, o4, hw]
      by_cases k9 : kind = 9
      · subst k9
        by_cases znum : num = 0
        rotate_left
        · simp (config := { maxSteps := 1000000 }) only [go_sem, ↓reduceIte, Nat.reduceEqDiff, Nat.reduceAdd, Nat.reduceMul, Nat.reduceSub, Nat.reduceLT, Nat.reduceLeDiff, Int.reduceLT, Int.reduceLE, Int.reduceEq, Int.reduceNe, Int.reduceAdd, Int.reduceNeg, Int.reduceToNat, f1, f2, f3, f4, f9, o4, hlt, he, List.length_map, exD, exsD_len, hlv, hlv1, hw, znum]
          exact ⟨false, rfl, fun h => by cases h⟩
        by_cases zop : op = 0
        rotate_left
        · simp (config := { maxSteps := 1000000 }) only [go_sem, ↓reduceIte, Nat.reduceEqDiff, Nat.reduceAdd, Nat.reduceMul, Nat.reduceSub, Nat.reduceLT, Nat.reduceLeDiff, Int.reduceLT, Int.reduceLE, Int.reduceEq, Int.reduceNe, Int.reduceAdd, Int.reduceNeg, Int.reduceToNat, f1, f2, f3, f4, f9, o4, hlt, he, List.length_map, exD, exsD_len, hlv, hlv1, hw, znum, zop]
          exact ⟨false, rfl, fun h => by cases h⟩
        by_cases zsize : size = 0
        rotate_left
        · simp (config := { maxSteps := 1000000 }) only [go_sem, ↓reduceIte, Nat.reduceEqDiff, Nat.reduceAdd, Nat.reduceMul, Nat.reduceSub, Nat.reduceLT, Nat.reduceLeDiff, Int.reduceLT, Int.reduceLE, Int.reduceEq, Int.reduceNe, Int.reduceAdd, Int.reduceNeg, Int.reduceToNat, f1, f2, f3, f4, f9, o4, hlt, he, List.length_map, exD, exsD_len, hlv, hlv1, hw, znum, zop, zsize]
          exact ⟨false, rfl, fun h => by cases h⟩
        by_cases zslot : slot = 0
        rotate_left
        · simp (config := { maxSteps := 1000000 }) only [go_sem, ↓reduceIte, Nat.reduceEqDiff, Nat.reduceAdd, Nat.reduceMul, Nat.reduceSub, Nat.reduceLT, Nat.reduceLeDiff, Int.reduceLT, Int.reduceLE, Int.reduceEq, Int.reduceNe, Int.reduceAdd, Int.reduceNeg, Int.reduceToNat, f1, f2, f3, f4, f9, o4, hlt, he, List.length_map, exD, exsD_len, hlv, hlv1, hw, znum, zop, zsize, zslot]
          exact ⟨false, rfl, fun h => by cases h⟩
        by_cases hn : (kids.length : Int) = 2
        rotate_left
        · -- a wrong number of kids
          simp (config := { maxSteps := 1000000 }) only [go_sem, ↓reduceIte, Nat.reduceEqDiff, Nat.reduceAdd, Nat.reduceMul, Nat.reduceSub, Nat.reduceLT, Nat.reduceLeDiff, Int.reduceLT, Int.reduceLE, Int.reduceEq, Int.reduceNe, Int.reduceAdd, Int.reduceNeg, Int.reduceToNat, f1, f2, f3, f4, f9, o4, hlt, he, List.length_map, exD, exsD_len, hlv, hlv1, hw, znum, zop, zsize, zslot, hn]
          exact ⟨false, rfl, fun h => by cases h⟩
        simp (config := { maxSteps := 1000000 }) only [go_sem, ↓reduceIte, Nat.reduceEqDiff, Nat.reduceAdd, Nat.reduceMul, Nat.reduceSub, Nat.reduceLT, Nat.reduceLeDiff, Int.reduceLT, Int.reduceLE, Int.reduceEq, Int.reduceNe, Int.reduceAdd, Int.reduceNeg, Int.reduceToNat, f1, f2, f3, f4, f9, o4, hlt, he, List.length_map, exD, exsD_len, hlv, hlv1, hw, znum, zop, zsize, zslot, hn]
        refine hook_call rfl (ih (sizeEs kids) (by omega) kids (lv + 1) (Nat.le_refl _) (by omega) (by omega)) (by rfl) ?_
        rintro _ ⟨b, rfl, hb⟩
        cases b with
        | false =>
          simp (config := { maxSteps := 1000000 }) only [go_sem, ↓reduceIte, Nat.reduceEqDiff, Nat.reduceAdd, Nat.reduceMul, Nat.reduceSub, Nat.reduceLT, Nat.reduceLeDiff, Int.reduceLT, Int.reduceLE, Int.reduceEq, Int.reduceNe, Int.reduceAdd, Int.reduceNeg, Int.reduceToNat, f1, f2, f3, f4, f9, o4, hlt, he, List.length_map, exD, exsD_len, hlv, hlv1, hw, znum, zop, zsize, zslot]
          exact ⟨false, rfl, fun h => by cases h⟩
        | true =>
          simp (config := { maxSteps := 1000000 }) only [go_sem, ↓reduceIte, Nat.reduceEqDiff, Nat.reduceAdd, Nat.reduceMul, Nat.reduceSub, Nat.reduceLT, Nat.reduceLeDiff, Int.reduceLT, Int.reduceLE, Int.reduceEq, Int.reduceNe, Int.reduceAdd, Int.reduceNeg, Int.reduceToNat, f1, f2, f3, f4, f9, o4, hlt, he, List.length_map, exD, exsD_len, hlv, hlv1, hw, znum, zop, zsize, zslot]
          refine round_endB (n - 1) (by omega) ⟨k + 1, by omega, htk ⟨⟨by omega, by omega, by omega, by omega, by omega, .inr (.inr (.inr (.inr (.inr (.inr ⟨.inr rfl, by omega⟩)))))⟩, hb rfl⟩, ?_⟩
          simp (config := { maxSteps := 1000000 }) only [go_sem, ↓reduceIte, Nat.reduceEqDiff, Nat.reduceAdd, Nat.reduceMul, Nat.reduceSub, Nat.reduceLT, Nat.reduceLeDiff, Int.reduceLT, Int.reduceLE, Int.reduceEq, Int.reduceNe, Int.reduceAdd, Int.reduceNeg, Int.reduceToNat, f1, f2, f3, f4, f9, o4, hw]
      by_cases znum : num = 0
      rotate_left
      · simp (config := { maxSteps := 1000000 }) only [go_sem, ↓reduceIte, Nat.reduceEqDiff, Nat.reduceAdd, Nat.reduceMul, Nat.reduceSub, Nat.reduceLT, Nat.reduceLeDiff, Int.reduceLT, Int.reduceLE, Int.reduceEq, Int.reduceNe, Int.reduceAdd, Int.reduceNeg, Int.reduceToNat, f1, f2, f3, f4, f9, o4, hlt, he, List.length_map, exD, exsD_len, hlv, hlv1, hw, k1, k2, k3, k4, k5, k6, k7, k8, k9, znum]
        exact ⟨false, rfl, fun h => by cases h⟩
      by_cases zop : op = 0
      rotate_left
      · simp (config := { maxSteps := 1000000 }) only [go_sem, ↓reduceIte, Nat.reduceEqDiff, Nat.reduceAdd, Nat.reduceMul, Nat.reduceSub, Nat.reduceLT, Nat.reduceLeDiff, Int.reduceLT, Int.reduceLE, Int.reduceEq, Int.reduceNe, Int.reduceAdd, Int.reduceNeg, Int.reduceToNat, f1, f2, f3, f4, f9, o4, hlt, he, List.length_map, exD, exsD_len, hlv, hlv1, hw, k1, k2, k3, k4, k5, k6, k7, k8, k9, znum, zop]
        exact ⟨false, rfl, fun h => by cases h⟩
      by_cases zsize : size = 0
      rotate_left
      · simp (config := { maxSteps := 1000000 }) only [go_sem, ↓reduceIte, Nat.reduceEqDiff, Nat.reduceAdd, Nat.reduceMul, Nat.reduceSub, Nat.reduceLT, Nat.reduceLeDiff, Int.reduceLT, Int.reduceLE, Int.reduceEq, Int.reduceNe, Int.reduceAdd, Int.reduceNeg, Int.reduceToNat, f1, f2, f3, f4, f9, o4, hlt, he, List.length_map, exD, exsD_len, hlv, hlv1, hw, k1, k2, k3, k4, k5, k6, k7, k8, k9, znum, zop, zsize]
        exact ⟨false, rfl, fun h => by cases h⟩
      by_cases zslot : slot = 0
      rotate_left
      · simp (config := { maxSteps := 1000000 }) only [go_sem, ↓reduceIte, Nat.reduceEqDiff, Nat.reduceAdd, Nat.reduceMul, Nat.reduceSub, Nat.reduceLT, Nat.reduceLeDiff, Int.reduceLT, Int.reduceLE, Int.reduceEq, Int.reduceNe, Int.reduceAdd, Int.reduceNeg, Int.reduceToNat, f1, f2, f3, f4, f9, o4, hlt, he, List.length_map, exD, exsD_len, hlv, hlv1, hw, k1, k2, k3, k4, k5, k6, k7, k8, k9, znum, zop, zsize, zslot]
        exact ⟨false, rfl, fun h => by cases h⟩
      simp (config := { maxSteps := 1000000 }) only [go_sem, ↓reduceIte, Nat.reduceEqDiff, Nat.reduceAdd, Nat.reduceMul, Nat.reduceSub, Nat.reduceLT, Nat.reduceLeDiff, Int.reduceLT, Int.reduceLE, Int.reduceEq, Int.reduceNe, Int.reduceAdd, Int.reduceNeg, Int.reduceToNat, f1, f2, f3, f4, f9, o4, hlt, he, List.length_map, exD, exsD_len, hlv, hlv1, hw, k1, k2, k3, k4, k5, k6, k7, k8, k9, znum, zop, zsize, zslot]
      exact ⟨false, rfl, fun h => by cases h⟩
    · simp (config := { maxSteps := 1000000 }) only [go_sem, ↓reduceIte, Nat.reduceEqDiff, Nat.reduceAdd, Nat.reduceMul, Nat.reduceSub, Nat.reduceLT, Nat.reduceLeDiff, Int.reduceLT, Int.reduceLE, Int.reduceEq, Int.reduceNe, Int.reduceAdd, Int.reduceNeg, Int.reduceToNat, f1, f2, f3, f4, f9, o4, hlt, List.length_map]
      refine ⟨true, rfl, fun _ => ?_⟩
      rw [List.take_of_length_le (by omega)] at hr
      exact hr

end Go.Proofs.Ythengcpckdlpgaa
