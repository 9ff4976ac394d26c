/- Told true, statements may be. Printed by genl6.py. -/
import Derived.Test.YthengcpckdlpgaaL4
set_option linter.unusedSimpArgs false
set_option linter.unusedVariables false
namespace Go.Proofs.Ythengcpckdlpgaa
open Go Go.Am Go.Lower

theorem smsD_len (l : List Stm) : (smsD l).length = l.length := by rw [smsD_map, List.length_map]
theorem rSs_snoc {w : Int} {ps : Sig} {f : Nat} {word : Bool} {lv : Int} : ∀ {l : List Stm} {e : Stm}, rSs w ps f word lv l → rS w ps f word lv e → rSs w ps f word lv (l ++ [e])
  | [], e, _, he => by rw [List.nil_append, rSs]; exact ⟨he, by rw [rSs]; trivial⟩
  | a :: l, e, hl, he => by
    rw [rSs] at hl
    rw [List.cons_append, rSs]
    exact ⟨hl.1, rSs_snoc hl.2 he⟩

set_option maxHeartbeats 8000000 in
set_option maxRecDepth 100000 in
theorem rightStmts_A (w : Int) (fs : List Fn) (hw0 : w ≤ 1000000) (f : Nat) (fx : Fn) (hfx : fs[f]? = some fx) : ∀ (N : Nat) (l : List Stm) (lv : Int), sizeSs l ≤ N → N ≤ 1000000000000 → 0 ≤ lv ∧ lv ≤ 1000 →
    PureR Try.prog 21 [coreC w fs, iv .i64 f, .one (.d (.sl (smsD l))), iv .i64 lv] (fun r => ∃ b, r = bv b ∧ (b = true → rSs w (sig fs) f fx.word lv l)) := by
  have hfl : f < fs.length := (List.getElem?_eq_some_iff.1 hfx).1
  intro N
  induction N using Nat.strongRecOn with
  | ind N ih =>
  intro l lv hl hN hl0
  refine pure_of_wp Tt_ok mixed Try.func21 rfl (by rfl) [8] rfl (by kernel_rfl) (by simp [Try.ntmps21]) fun g => ?_
  rw [smsD_map]
  unfold coreC
  simp (config := { maxSteps := 1000000 }) only [go_sem, ↓reduceIte, Nat.reduceEqDiff, Nat.reduceAdd, Nat.reduceMul, Nat.reduceSub, Nat.reduceLT, Nat.reduceLeDiff, Int.reduceLT, Int.reduceLE, Int.reduceEq, Int.reduceNe, Int.reduceAdd, Int.reduceNeg, Int.reduceToNat]
  refine loop_introB (fun n s => ∃ k : Nat, n + k = l.length ∧ rSs w (sig fs) f fx.word lv (l.take k) ∧ s.f 1 = iv .i64 f ∧ s.f 2 = .one (.d (.sl (l.map smD))) ∧ s.f 3 = iv .i64 lv ∧ s.f 4 = .one (.ptr 4 (s.gen 4) 0) ∧ s.f 9 = iv .i64 k ∧ s.obj 4 = some [.d (.int .i64 w), .d (.sl (fs.map fnD))]) l.length ?_ ?_
  · refine ⟨0, rfl, by rw [List.take_zero, rSs]; trivial, ?_⟩
    simp (config := { maxSteps := 1000000 }) only [go_sem, ↓reduceIte, Nat.reduceEqDiff, Nat.reduceAdd, Nat.reduceMul, Nat.reduceSub, Nat.reduceLT, Nat.reduceLeDiff, Int.reduceLT, Int.reduceLE, Int.reduceEq, Int.reduceNe, Int.reduceAdd, Int.reduceNeg, Int.reduceToNat]
    try rfl
  · clear g
    rintro n g gn ob ⟨k, hk, hr, f1, f2, f3, f4, f9, o4⟩
    simp only at f1 f2 f3 f4 f9 o4
    have hll : l.length ≤ sizeSs l := by rw [sizeSs_sum]; omega
    have hw := wrap_succ (k := k) (by omega)
    have hlv1 : IntKind.i64.wrap (lv + 1) = lv + 1 := by rw [wrap_i64] <;> omega
    by_cases hlt : k < l.length
    · obtain ⟨e, he⟩ := getq hlt
      obtain ⟨kind, slot, size, e, th, el⟩ := e
      have h2 := ssTo_succ he
      have h3 := ssTo_le l (k + 1)
      have hke : sizeS (.mk kind slot size e th el) = sizeEs e + sizeSs th + sizeSs el := rfl
      have hkk : sizeEs e + sizeSs th + sizeSs el + 1 ≤ sizeSs l := by
        have h4 : l.length ≤ ssTo l k := by unfold ssTo; omega
        omega
      have htk : okS w (sig fs) f fx.word lv kind slot size e.length th.length el.length ∧ rEs w (sig fs) f (lv + 1) e ∧ rSs w (sig fs) f fx.word (lv + 1) th ∧ rSs w (sig fs) f fx.word (lv + 1) el → rSs w (sig fs) f fx.word lv (l.take (k + 1)) := fun h => by
        rw [List.take_add_one, he]
        exact rSs_snoc hr (by rw [rS]; exact h)
      by_cases hlv : (24 : Int) < lv
      · simp (config := { maxSteps := 1000000 }) only [go_sem, ↓reduceIte, Nat.reduceEqDiff, Nat.reduceAdd, Nat.reduceMul, Nat.reduceSub, Nat.reduceLT, Nat.reduceLeDiff, Int.reduceLT, Int.reduceLE, Int.reduceEq, Int.reduceNe, Int.reduceAdd, Int.reduceNeg, Int.reduceToNat, f1, f2, f3, f4, f9, o4, hlt, he, List.length_map, smD, hlv]
        exact ⟨false, rfl, fun h => by cases h⟩
      by_cases k1 : kind = 1
      · subst k1
        by_cases zsize : size = 0
        rotate_left
        · simp (config := { maxSteps := 1000000 }) only [go_sem, ↓reduceIte, Nat.reduceEqDiff, Nat.reduceAdd, Nat.reduceMul, Nat.reduceSub, Nat.reduceLT, Nat.reduceLeDiff, Int.reduceLT, Int.reduceLE, Int.reduceEq, Int.reduceNe, Int.reduceAdd, Int.reduceNeg, Int.reduceToNat, f1, f2, f3, f4, f9, o4, hlt, he, List.length_map, smD, exsD_len, smsD_len, hlv, hlv1, hw, Int.natCast_pos, zsize]
          exact ⟨false, rfl, fun h => by cases h⟩
        by_cases t2 : 0 < el.length
        · simp (config := { maxSteps := 1000000 }) only [go_sem, ↓reduceIte, Nat.reduceEqDiff, Nat.reduceAdd, Nat.reduceMul, Nat.reduceSub, Nat.reduceLT, Nat.reduceLeDiff, Int.reduceLT, Int.reduceLE, Int.reduceEq, Int.reduceNe, Int.reduceAdd, Int.reduceNeg, Int.reduceToNat, f1, f2, f3, f4, f9, o4, hlt, he, List.length_map, smD, exsD_len, smsD_len, hlv, hlv1, hw, Int.natCast_pos, zsize, t2]
          exact ⟨false, rfl, fun h => by cases h⟩
        by_cases t1 : 0 < th.length
        · simp (config := { maxSteps := 1000000 }) only [go_sem, ↓reduceIte, Nat.reduceEqDiff, Nat.reduceAdd, Nat.reduceMul, Nat.reduceSub, Nat.reduceLT, Nat.reduceLeDiff, Int.reduceLT, Int.reduceLE, Int.reduceEq, Int.reduceNe, Int.reduceAdd, Int.reduceNeg, Int.reduceToNat, f1, f2, f3, f4, f9, o4, hlt, he, List.length_map, smD, exsD_len, smsD_len, hlv, hlv1, hw, Int.natCast_pos, zsize, t2, t1]
          exact ⟨false, rfl, fun h => by cases h⟩
        by_cases hn : (e.length : Int) = 1
        rotate_left
        · -- a wrong number
          simp (config := { maxSteps := 1000000 }) only [go_sem, ↓reduceIte, Nat.reduceEqDiff, Nat.reduceAdd, Nat.reduceMul, Nat.reduceSub, Nat.reduceLT, Nat.reduceLeDiff, Int.reduceLT, Int.reduceLE, Int.reduceEq, Int.reduceNe, Int.reduceAdd, Int.reduceNeg, Int.reduceToNat, f1, f2, f3, f4, f9, o4, hlt, he, List.length_map, smD, exsD_len, smsD_len, hlv, hlv1, hw, Int.natCast_pos, zsize, t2, t1, hn]
          refine hook_call rfl (within_A w fs slot 1 hw0) (by rfl) ?_
          rintro _ rfl
          by_cases hwi : within w slot 1
          rotate_left
          · simp (config := { maxSteps := 1000000 }) only [go_sem, ↓reduceIte, Nat.reduceEqDiff, Nat.reduceAdd, Nat.reduceMul, Nat.reduceSub, Nat.reduceLT, Nat.reduceLeDiff, Int.reduceLT, Int.reduceLE, Int.reduceEq, Int.reduceNe, Int.reduceAdd, Int.reduceNeg, Int.reduceToNat, f1, f2, f3, f4, f9, o4, hlt, he, List.length_map, smD, exsD_len, smsD_len, hlv, hlv1, hw, Int.natCast_pos, zsize, t2, t1, hwi, decide_false]
            exact ⟨false, rfl, fun h => by cases h⟩
          simp (config := { maxSteps := 1000000 }) only [go_sem, ↓reduceIte, Nat.reduceEqDiff, Nat.reduceAdd, Nat.reduceMul, Nat.reduceSub, Nat.reduceLT, Nat.reduceLeDiff, Int.reduceLT, Int.reduceLE, Int.reduceEq, Int.reduceNe, Int.reduceAdd, Int.reduceNeg, Int.reduceToNat, f1, f2, f3, f4, f9, o4, hlt, he, List.length_map, smD, exsD_len, smsD_len, hlv, hlv1, hw, Int.natCast_pos, zsize, t2, t1, hn, hwi, decide_true]
          exact ⟨false, rfl, fun h => by cases h⟩
        simp (config := { maxSteps := 1000000 }) only [go_sem, ↓reduceIte, Nat.reduceEqDiff, Nat.reduceAdd, Nat.reduceMul, Nat.reduceSub, Nat.reduceLT, Nat.reduceLeDiff, Int.reduceLT, Int.reduceLE, Int.reduceEq, Int.reduceNe, Int.reduceAdd, Int.reduceNeg, Int.reduceToNat, f1, f2, f3, f4, f9, o4, hlt, he, List.length_map, smD, exsD_len, smsD_len, hlv, hlv1, hw, Int.natCast_pos, zsize, t2, t1, hn]
        refine hook_call rfl (within_A w fs slot 1 hw0) (by rfl) ?_
        rintro _ rfl
        by_cases hwi : within w slot 1
        rotate_left
        · simp (config := { maxSteps := 1000000 }) only [go_sem, ↓reduceIte, Nat.reduceEqDiff, Nat.reduceAdd, Nat.reduceMul, Nat.reduceSub, Nat.reduceLT, Nat.reduceLeDiff, Int.reduceLT, Int.reduceLE, Int.reduceEq, Int.reduceNe, Int.reduceAdd, Int.reduceNeg, Int.reduceToNat, f1, f2, f3, f4, f9, o4, hlt, he, List.length_map, smD, exsD_len, smsD_len, hlv, hlv1, hw, Int.natCast_pos, zsize, t2, t1, hwi, decide_false]
          exact ⟨false, rfl, fun h => by cases h⟩
        simp (config := { maxSteps := 1000000 }) only [go_sem, ↓reduceIte, Nat.reduceEqDiff, Nat.reduceAdd, Nat.reduceMul, Nat.reduceSub, Nat.reduceLT, Nat.reduceLeDiff, Int.reduceLT, Int.reduceLE, Int.reduceEq, Int.reduceNe, Int.reduceAdd, Int.reduceNeg, Int.reduceToNat, f1, f2, f3, f4, f9, o4, hlt, he, List.length_map, smD, exsD_len, smsD_len, hlv, hlv1, hw, Int.natCast_pos, zsize, t2, t1, hn, hwi, decide_true]
        refine hook_call rfl (rightExprs_A w fs hw0 f (by omega) (sizeEs e) e (lv + 1) (Nat.le_refl _) (by omega) (by omega)) (by rfl) ?_
        rintro _ ⟨b1, rfl, hb1⟩
        cases b1 with
        | false =>
          simp (config := { maxSteps := 1000000 }) only [go_sem, ↓reduceIte, Nat.reduceEqDiff, Nat.reduceAdd, Nat.reduceMul, Nat.reduceSub, Nat.reduceLT, Nat.reduceLeDiff, Int.reduceLT, Int.reduceLE, Int.reduceEq, Int.reduceNe, Int.reduceAdd, Int.reduceNeg, Int.reduceToNat, f1, f2, f3, f4, f9, o4, hlt, he, List.length_map, smD, exsD_len, smsD_len, hlv, hlv1, hw, Int.natCast_pos, zsize, t2, t1]
          exact ⟨false, rfl, fun h => by cases h⟩
        | true =>
          simp (config := { maxSteps := 1000000 }) only [go_sem, ↓reduceIte, Nat.reduceEqDiff, Nat.reduceAdd, Nat.reduceMul, Nat.reduceSub, Nat.reduceLT, Nat.reduceLeDiff, Int.reduceLT, Int.reduceLE, Int.reduceEq, Int.reduceNe, Int.reduceAdd, Int.reduceNeg, Int.reduceToNat, f1, f2, f3, f4, f9, o4, hlt, he, List.length_map, smD, exsD_len, smsD_len, hlv, hlv1, hw, Int.natCast_pos, zsize, t2, t1]
          refine hook_call rfl (ih (sizeSs th) (by omega) th (lv + 1) (Nat.le_refl _) (by omega) (by omega)) (by rfl) ?_
          rintro _ ⟨b2, rfl, hb2⟩
          cases b2 with
          | false =>
            simp (config := { maxSteps := 1000000 }) only [go_sem, ↓reduceIte, Nat.reduceEqDiff, Nat.reduceAdd, Nat.reduceMul, Nat.reduceSub, Nat.reduceLT, Nat.reduceLeDiff, Int.reduceLT, Int.reduceLE, Int.reduceEq, Int.reduceNe, Int.reduceAdd, Int.reduceNeg, Int.reduceToNat, f1, f2, f3, f4, f9, o4, hlt, he, List.length_map, smD, exsD_len, smsD_len, hlv, hlv1, hw, Int.natCast_pos, zsize, t2, t1]
            exact ⟨false, rfl, fun h => by cases h⟩
          | true =>
            simp (config := { maxSteps := 1000000 }) only [go_sem, ↓reduceIte, Nat.reduceEqDiff, Nat.reduceAdd, Nat.reduceMul, Nat.reduceSub, Nat.reduceLT, Nat.reduceLeDiff, Int.reduceLT, Int.reduceLE, Int.reduceEq, Int.reduceNe, Int.reduceAdd, Int.reduceNeg, Int.reduceToNat, f1, f2, f3, f4, f9, o4, hlt, he, List.length_map, smD, exsD_len, smsD_len, hlv, hlv1, hw, Int.natCast_pos, zsize, t2, t1]
            refine hook_call rfl (ih (sizeSs el) (by omega) el (lv + 1) (Nat.le_refl _) (by omega) (by omega)) (by rfl) ?_
            rintro _ ⟨b3, rfl, hb3⟩
            cases b3 with
            | false =>
              simp (config := { maxSteps := 1000000 }) only [go_sem, ↓reduceIte, Nat.reduceEqDiff, Nat.reduceAdd, Nat.reduceMul, Nat.reduceSub, Nat.reduceLT, Nat.reduceLeDiff, Int.reduceLT, Int.reduceLE, Int.reduceEq, Int.reduceNe, Int.reduceAdd, Int.reduceNeg, Int.reduceToNat, f1, f2, f3, f4, f9, o4, hlt, he, List.length_map, smD, exsD_len, smsD_len, hlv, hlv1, hw, Int.natCast_pos, zsize, t2, t1]
              exact ⟨false, rfl, fun h => by cases h⟩
            | true =>
              simp (config := { maxSteps := 1000000 }) only [go_sem, ↓reduceIte, Nat.reduceEqDiff, Nat.reduceAdd, Nat.reduceMul, Nat.reduceSub, Nat.reduceLT, Nat.reduceLeDiff, Int.reduceLT, Int.reduceLE, Int.reduceEq, Int.reduceNe, Int.reduceAdd, Int.reduceNeg, Int.reduceToNat, f1, f2, f3, f4, f9, o4, hlt, he, List.length_map, smD, exsD_len, smsD_len, hlv, hlv1, hw, Int.natCast_pos, zsize, t2, t1]
              refine round_endB (n - 1) (by omega) ⟨k + 1, by omega, htk ⟨⟨by omega, by omega, by omega, by omega, by omega, .inl ⟨rfl, hwi, by omega⟩⟩, hb1 rfl, hb2 rfl, hb3 rfl⟩, ?_⟩
              simp (config := { maxSteps := 1000000 }) only [go_sem, ↓reduceIte, Nat.reduceEqDiff, Nat.reduceAdd, Nat.reduceMul, Nat.reduceSub, Nat.reduceLT, Nat.reduceLeDiff, Int.reduceLT, Int.reduceLE, Int.reduceEq, Int.reduceNe, Int.reduceAdd, Int.reduceNeg, Int.reduceToNat, f1, f2, f3, f4, f9, o4, hw]
      by_cases k2 : kind = 2
      · subst k2
        by_cases t2 : 0 < el.length
        · simp (config := { maxSteps := 1000000 }) only [go_sem, ↓reduceIte, Nat.reduceEqDiff, Nat.reduceAdd, Nat.reduceMul, Nat.reduceSub, Nat.reduceLT, Nat.reduceLeDiff, Int.reduceLT, Int.reduceLE, Int.reduceEq, Int.reduceNe, Int.reduceAdd, Int.reduceNeg, Int.reduceToNat, f1, f2, f3, f4, f9, o4, hlt, he, List.length_map, smD, exsD_len, smsD_len, hlv, hlv1, hw, Int.natCast_pos, t2]
          exact ⟨false, rfl, fun h => by cases h⟩
        by_cases t1 : 0 < th.length
        · simp (config := { maxSteps := 1000000 }) only [go_sem, ↓reduceIte, Nat.reduceEqDiff, Nat.reduceAdd, Nat.reduceMul, Nat.reduceSub, Nat.reduceLT, Nat.reduceLeDiff, Int.reduceLT, Int.reduceLE, Int.reduceEq, Int.reduceNe, Int.reduceAdd, Int.reduceNeg, Int.reduceToNat, f1, f2, f3, f4, f9, o4, hlt, he, List.length_map, smD, exsD_len, smsD_len, hlv, hlv1, hw, Int.natCast_pos, t2, t1]
          exact ⟨false, rfl, fun h => by cases h⟩
        by_cases g1 : size < 1
        · simp (config := { maxSteps := 1000000 }) only [go_sem, ↓reduceIte, Nat.reduceEqDiff, Nat.reduceAdd, Nat.reduceMul, Nat.reduceSub, Nat.reduceLT, Nat.reduceLeDiff, Int.reduceLT, Int.reduceLE, Int.reduceEq, Int.reduceNe, Int.reduceAdd, Int.reduceNeg, Int.reduceToNat, f1, f2, f3, f4, f9, o4, hlt, he, List.length_map, smD, exsD_len, smsD_len, hlv, hlv1, hw, Int.natCast_pos, t2, t1, g1]
          exact ⟨false, rfl, fun h => by cases h⟩
        by_cases g2 : 4096 < size
        · simp (config := { maxSteps := 1000000 }) only [go_sem, ↓reduceIte, Nat.reduceEqDiff, Nat.reduceAdd, Nat.reduceMul, Nat.reduceSub, Nat.reduceLT, Nat.reduceLeDiff, Int.reduceLT, Int.reduceLE, Int.reduceEq, Int.reduceNe, Int.reduceAdd, Int.reduceNeg, Int.reduceToNat, f1, f2, f3, f4, f9, o4, hlt, he, List.length_map, smD, exsD_len, smsD_len, hlv, hlv1, hw, Int.natCast_pos, t2, t1, g1, g2]
          exact ⟨false, rfl, fun h => by cases h⟩
        by_cases hn : (e.length : Int) = 2
        rotate_left
        · -- a wrong number
          simp (config := { maxSteps := 1000000 }) only [go_sem, ↓reduceIte, Nat.reduceEqDiff, Nat.reduceAdd, Nat.reduceMul, Nat.reduceSub, Nat.reduceLT, Nat.reduceLeDiff, Int.reduceLT, Int.reduceLE, Int.reduceEq, Int.reduceNe, Int.reduceAdd, Int.reduceNeg, Int.reduceToNat, f1, f2, f3, f4, f9, o4, hlt, he, List.length_map, smD, exsD_len, smsD_len, hlv, hlv1, hw, Int.natCast_pos, t2, t1, g1, g2, hn]
          refine hook_call rfl (within_A w fs slot size hw0) (by rfl) ?_
          rintro _ rfl
          by_cases hwi : within w slot size
          rotate_left
          · simp (config := { maxSteps := 1000000 }) only [go_sem, ↓reduceIte, Nat.reduceEqDiff, Nat.reduceAdd, Nat.reduceMul, Nat.reduceSub, Nat.reduceLT, Nat.reduceLeDiff, Int.reduceLT, Int.reduceLE, Int.reduceEq, Int.reduceNe, Int.reduceAdd, Int.reduceNeg, Int.reduceToNat, f1, f2, f3, f4, f9, o4, hlt, he, List.length_map, smD, exsD_len, smsD_len, hlv, hlv1, hw, Int.natCast_pos, t2, t1, g1, g2, hwi, decide_false]
            exact ⟨false, rfl, fun h => by cases h⟩
          simp (config := { maxSteps := 1000000 }) only [go_sem, ↓reduceIte, Nat.reduceEqDiff, Nat.reduceAdd, Nat.reduceMul, Nat.reduceSub, Nat.reduceLT, Nat.reduceLeDiff, Int.reduceLT, Int.reduceLE, Int.reduceEq, Int.reduceNe, Int.reduceAdd, Int.reduceNeg, Int.reduceToNat, f1, f2, f3, f4, f9, o4, hlt, he, List.length_map, smD, exsD_len, smsD_len, hlv, hlv1, hw, Int.natCast_pos, t2, t1, g1, g2, hn, hwi, decide_true]
          exact ⟨false, rfl, fun h => by cases h⟩
        simp (config := { maxSteps := 1000000 }) only [go_sem, ↓reduceIte, Nat.reduceEqDiff, Nat.reduceAdd, Nat.reduceMul, Nat.reduceSub, Nat.reduceLT, Nat.reduceLeDiff, Int.reduceLT, Int.reduceLE, Int.reduceEq, Int.reduceNe, Int.reduceAdd, Int.reduceNeg, Int.reduceToNat, f1, f2, f3, f4, f9, o4, hlt, he, List.length_map, smD, exsD_len, smsD_len, hlv, hlv1, hw, Int.natCast_pos, t2, t1, g1, g2, hn]
        refine hook_call rfl (within_A w fs slot size hw0) (by rfl) ?_
        rintro _ rfl
        by_cases hwi : within w slot size
        rotate_left
        · simp (config := { maxSteps := 1000000 }) only [go_sem, ↓reduceIte, Nat.reduceEqDiff, Nat.reduceAdd, Nat.reduceMul, Nat.reduceSub, Nat.reduceLT, Nat.reduceLeDiff, Int.reduceLT, Int.reduceLE, Int.reduceEq, Int.reduceNe, Int.reduceAdd, Int.reduceNeg, Int.reduceToNat, f1, f2, f3, f4, f9, o4, hlt, he, List.length_map, smD, exsD_len, smsD_len, hlv, hlv1, hw, Int.natCast_pos, t2, t1, g1, g2, hwi, decide_false]
          exact ⟨false, rfl, fun h => by cases h⟩
        simp (config := { maxSteps := 1000000 }) only [go_sem, ↓reduceIte, Nat.reduceEqDiff, Nat.reduceAdd, Nat.reduceMul, Nat.reduceSub, Nat.reduceLT, Nat.reduceLeDiff, Int.reduceLT, Int.reduceLE, Int.reduceEq, Int.reduceNe, Int.reduceAdd, Int.reduceNeg, Int.reduceToNat, f1, f2, f3, f4, f9, o4, hlt, he, List.length_map, smD, exsD_len, smsD_len, hlv, hlv1, hw, Int.natCast_pos, t2, t1, g1, g2, hn, hwi, decide_true]
        refine hook_call rfl (rightExprs_A w fs hw0 f (by omega) (sizeEs e) e (lv + 1) (Nat.le_refl _) (by omega) (by omega)) (by rfl) ?_
        rintro _ ⟨b1, rfl, hb1⟩
        cases b1 with
        | false =>
          simp (config := { maxSteps := 1000000 }) only [go_sem, ↓reduceIte, Nat.reduceEqDiff, Nat.reduceAdd, Nat.reduceMul, Nat.reduceSub, Nat.reduceLT, Nat.reduceLeDiff, Int.reduceLT, Int.reduceLE, Int.reduceEq, Int.reduceNe, Int.reduceAdd, Int.reduceNeg, Int.reduceToNat, f1, f2, f3, f4, f9, o4, hlt, he, List.length_map, smD, exsD_len, smsD_len, hlv, hlv1, hw, Int.natCast_pos, t2, t1, g1, g2]
          exact ⟨false, rfl, fun h => by cases h⟩
        | true =>
          simp (config := { maxSteps := 1000000 }) only [go_sem, ↓reduceIte, Nat.reduceEqDiff, Nat.reduceAdd, Nat.reduceMul, Nat.reduceSub, Nat.reduceLT, Nat.reduceLeDiff, Int.reduceLT, Int.reduceLE, Int.reduceEq, Int.reduceNe, Int.reduceAdd, Int.reduceNeg, Int.reduceToNat, f1, f2, f3, f4, f9, o4, hlt, he, List.length_map, smD, exsD_len, smsD_len, hlv, hlv1, hw, Int.natCast_pos, t2, t1, g1, g2]
          refine hook_call rfl (ih (sizeSs th) (by omega) th (lv + 1) (Nat.le_refl _) (by omega) (by omega)) (by rfl) ?_
          rintro _ ⟨b2, rfl, hb2⟩
          cases b2 with
          | false =>
            simp (config := { maxSteps := 1000000 }) only [go_sem, ↓reduceIte, Nat.reduceEqDiff, Nat.reduceAdd, Nat.reduceMul, Nat.reduceSub, Nat.reduceLT, Nat.reduceLeDiff, Int.reduceLT, Int.reduceLE, Int.reduceEq, Int.reduceNe, Int.reduceAdd, Int.reduceNeg, Int.reduceToNat, f1, f2, f3, f4, f9, o4, hlt, he, List.length_map, smD, exsD_len, smsD_len, hlv, hlv1, hw, Int.natCast_pos, t2, t1, g1, g2]
            exact ⟨false, rfl, fun h => by cases h⟩
          | true =>
            simp (config := { maxSteps := 1000000 }) only [go_sem, ↓reduceIte, Nat.reduceEqDiff, Nat.reduceAdd, Nat.reduceMul, Nat.reduceSub, Nat.reduceLT, Nat.reduceLeDiff, Int.reduceLT, Int.reduceLE, Int.reduceEq, Int.reduceNe, Int.reduceAdd, Int.reduceNeg, Int.reduceToNat, f1, f2, f3, f4, f9, o4, hlt, he, List.length_map, smD, exsD_len, smsD_len, hlv, hlv1, hw, Int.natCast_pos, t2, t1, g1, g2]
            refine hook_call rfl (ih (sizeSs el) (by omega) el (lv + 1) (Nat.le_refl _) (by omega) (by omega)) (by rfl) ?_
            rintro _ ⟨b3, rfl, hb3⟩
            cases b3 with
            | false =>
              simp (config := { maxSteps := 1000000 }) only [go_sem, ↓reduceIte, Nat.reduceEqDiff, Nat.reduceAdd, Nat.reduceMul, Nat.reduceSub, Nat.reduceLT, Nat.reduceLeDiff, Int.reduceLT, Int.reduceLE, Int.reduceEq, Int.reduceNe, Int.reduceAdd, Int.reduceNeg, Int.reduceToNat, f1, f2, f3, f4, f9, o4, hlt, he, List.length_map, smD, exsD_len, smsD_len, hlv, hlv1, hw, Int.natCast_pos, t2, t1, g1, g2]
              exact ⟨false, rfl, fun h => by cases h⟩
            | true =>
              simp (config := { maxSteps := 1000000 }) only [go_sem, ↓reduceIte, Nat.reduceEqDiff, Nat.reduceAdd, Nat.reduceMul, Nat.reduceSub, Nat.reduceLT, Nat.reduceLeDiff, Int.reduceLT, Int.reduceLE, Int.reduceEq, Int.reduceNe, Int.reduceAdd, Int.reduceNeg, Int.reduceToNat, f1, f2, f3, f4, f9, o4, hlt, he, List.length_map, smD, exsD_len, smsD_len, hlv, hlv1, hw, Int.natCast_pos, t2, t1, g1, g2]
              refine round_endB (n - 1) (by omega) ⟨k + 1, by omega, htk ⟨⟨by omega, by omega, by omega, by omega, by omega, .inr (.inl ⟨rfl, by omega, by omega, hwi, by omega⟩)⟩, hb1 rfl, hb2 rfl, hb3 rfl⟩, ?_⟩
              simp (config := { maxSteps := 1000000 }) only [go_sem, ↓reduceIte, Nat.reduceEqDiff, Nat.reduceAdd, Nat.reduceMul, Nat.reduceSub, Nat.reduceLT, Nat.reduceLeDiff, Int.reduceLT, Int.reduceLE, Int.reduceEq, Int.reduceNe, Int.reduceAdd, Int.reduceNeg, Int.reduceToNat, f1, f2, f3, f4, f9, o4, hw]
      by_cases k3 : kind = 3
      · subst k3
        by_cases zsize : size = 0
        rotate_left
        · simp (config := { maxSteps := 1000000 }) only [go_sem, ↓reduceIte, Nat.reduceEqDiff, Nat.reduceAdd, Nat.reduceMul, Nat.reduceSub, Nat.reduceLT, Nat.reduceLeDiff, Int.reduceLT, Int.reduceLE, Int.reduceEq, Int.reduceNe, Int.reduceAdd, Int.reduceNeg, Int.reduceToNat, f1, f2, f3, f4, f9, o4, hlt, he, List.length_map, smD, exsD_len, smsD_len, hlv, hlv1, hw, Int.natCast_pos, zsize]
          exact ⟨false, rfl, fun h => by cases h⟩
        by_cases zslot : slot = 0
        rotate_left
        · simp (config := { maxSteps := 1000000 }) only [go_sem, ↓reduceIte, Nat.reduceEqDiff, Nat.reduceAdd, Nat.reduceMul, Nat.reduceSub, Nat.reduceLT, Nat.reduceLeDiff, Int.reduceLT, Int.reduceLE, Int.reduceEq, Int.reduceNe, Int.reduceAdd, Int.reduceNeg, Int.reduceToNat, f1, f2, f3, f4, f9, o4, hlt, he, List.length_map, smD, exsD_len, smsD_len, hlv, hlv1, hw, Int.natCast_pos, zsize, zslot]
          exact ⟨false, rfl, fun h => by cases h⟩
        by_cases t2 : 0 < el.length
        · simp (config := { maxSteps := 1000000 }) only [go_sem, ↓reduceIte, Nat.reduceEqDiff, Nat.reduceAdd, Nat.reduceMul, Nat.reduceSub, Nat.reduceLT, Nat.reduceLeDiff, Int.reduceLT, Int.reduceLE, Int.reduceEq, Int.reduceNe, Int.reduceAdd, Int.reduceNeg, Int.reduceToNat, f1, f2, f3, f4, f9, o4, hlt, he, List.length_map, smD, exsD_len, smsD_len, hlv, hlv1, hw, Int.natCast_pos, zsize, zslot, t2]
          exact ⟨false, rfl, fun h => by cases h⟩
        by_cases t1 : 0 < th.length
        · simp (config := { maxSteps := 1000000 }) only [go_sem, ↓reduceIte, Nat.reduceEqDiff, Nat.reduceAdd, Nat.reduceMul, Nat.reduceSub, Nat.reduceLT, Nat.reduceLeDiff, Int.reduceLT, Int.reduceLE, Int.reduceEq, Int.reduceNe, Int.reduceAdd, Int.reduceNeg, Int.reduceToNat, f1, f2, f3, f4, f9, o4, hlt, he, List.length_map, smD, exsD_len, smsD_len, hlv, hlv1, hw, Int.natCast_pos, zsize, zslot, t2, t1]
          exact ⟨false, rfl, fun h => by cases h⟩
        by_cases hn : (e.length : Int) = 1
        rotate_left
        · -- a wrong number
          simp (config := { maxSteps := 1000000 }) only [go_sem, ↓reduceIte, Nat.reduceEqDiff, Nat.reduceAdd, Nat.reduceMul, Nat.reduceSub, Nat.reduceLT, Nat.reduceLeDiff, Int.reduceLT, Int.reduceLE, Int.reduceEq, Int.reduceNe, Int.reduceAdd, Int.reduceNeg, Int.reduceToNat, f1, f2, f3, f4, f9, o4, hlt, he, List.length_map, smD, exsD_len, smsD_len, hlv, hlv1, hw, Int.natCast_pos, zsize, zslot, t2, t1, hn]
          exact ⟨false, rfl, fun h => by cases h⟩
        simp (config := { maxSteps := 1000000 }) only [go_sem, ↓reduceIte, Nat.reduceEqDiff, Nat.reduceAdd, Nat.reduceMul, Nat.reduceSub, Nat.reduceLT, Nat.reduceLeDiff, Int.reduceLT, Int.reduceLE, Int.reduceEq, Int.reduceNe, Int.reduceAdd, Int.reduceNeg, Int.reduceToNat, f1, f2, f3, f4, f9, o4, hlt, he, List.length_map, smD, exsD_len, smsD_len, hlv, hlv1, hw, Int.natCast_pos, zsize, zslot, t2, t1, hn]
        refine hook_call rfl (rightExprs_A w fs hw0 f (by omega) (sizeEs e) e (lv + 1) (Nat.le_refl _) (by omega) (by omega)) (by rfl) ?_
        rintro _ ⟨b1, rfl, hb1⟩
        cases b1 with
        | false =>
          simp (config := { maxSteps := 1000000 }) only [go_sem, ↓reduceIte, Nat.reduceEqDiff, Nat.reduceAdd, Nat.reduceMul, Nat.reduceSub, Nat.reduceLT, Nat.reduceLeDiff, Int.reduceLT, Int.reduceLE, Int.reduceEq, Int.reduceNe, Int.reduceAdd, Int.reduceNeg, Int.reduceToNat, f1, f2, f3, f4, f9, o4, hlt, he, List.length_map, smD, exsD_len, smsD_len, hlv, hlv1, hw, Int.natCast_pos, zsize, zslot, t2, t1]
          exact ⟨false, rfl, fun h => by cases h⟩
        | true =>
          simp (config := { maxSteps := 1000000 }) only [go_sem, ↓reduceIte, Nat.reduceEqDiff, Nat.reduceAdd, Nat.reduceMul, Nat.reduceSub, Nat.reduceLT, Nat.reduceLeDiff, Int.reduceLT, Int.reduceLE, Int.reduceEq, Int.reduceNe, Int.reduceAdd, Int.reduceNeg, Int.reduceToNat, f1, f2, f3, f4, f9, o4, hlt, he, List.length_map, smD, exsD_len, smsD_len, hlv, hlv1, hw, Int.natCast_pos, zsize, zslot, t2, t1]
          refine hook_call rfl (ih (sizeSs th) (by omega) th (lv + 1) (Nat.le_refl _) (by omega) (by omega)) (by rfl) ?_
          rintro _ ⟨b2, rfl, hb2⟩
          cases b2 with
          | false =>
            simp (config := { maxSteps := 1000000 }) only [go_sem, ↓reduceIte, Nat.reduceEqDiff, Nat.reduceAdd, Nat.reduceMul, Nat.reduceSub, Nat.reduceLT, Nat.reduceLeDiff, Int.reduceLT, Int.reduceLE, Int.reduceEq, Int.reduceNe, Int.reduceAdd, Int.reduceNeg, Int.reduceToNat, f1, f2, f3, f4, f9, o4, hlt, he, List.length_map, smD, exsD_len, smsD_len, hlv, hlv1, hw, Int.natCast_pos, zsize, zslot, t2, t1]
            exact ⟨false, rfl, fun h => by cases h⟩
          | true =>
            simp (config := { maxSteps := 1000000 }) only [go_sem, ↓reduceIte, Nat.reduceEqDiff, Nat.reduceAdd, Nat.reduceMul, Nat.reduceSub, Nat.reduceLT, Nat.reduceLeDiff, Int.reduceLT, Int.reduceLE, Int.reduceEq, Int.reduceNe, Int.reduceAdd, Int.reduceNeg, Int.reduceToNat, f1, f2, f3, f4, f9, o4, hlt, he, List.length_map, smD, exsD_len, smsD_len, hlv, hlv1, hw, Int.natCast_pos, zsize, zslot, t2, t1]
            refine hook_call rfl (ih (sizeSs el) (by omega) el (lv + 1) (Nat.le_refl _) (by omega) (by omega)) (by rfl) ?_
            rintro _ ⟨b3, rfl, hb3⟩
            cases b3 with
            | false =>
              simp (config := { maxSteps := 1000000 }) only [go_sem, ↓reduceIte, Nat.reduceEqDiff, Nat.reduceAdd, Nat.reduceMul, Nat.reduceSub, Nat.reduceLT, Nat.reduceLeDiff, Int.reduceLT, Int.reduceLE, Int.reduceEq, Int.reduceNe, Int.reduceAdd, Int.reduceNeg, Int.reduceToNat, f1, f2, f3, f4, f9, o4, hlt, he, List.length_map, smD, exsD_len, smsD_len, hlv, hlv1, hw, Int.natCast_pos, zsize, zslot, t2, t1]
              exact ⟨false, rfl, fun h => by cases h⟩
            | true =>
              simp (config := { maxSteps := 1000000 }) only [go_sem, ↓reduceIte, Nat.reduceEqDiff, Nat.reduceAdd, Nat.reduceMul, Nat.reduceSub, Nat.reduceLT, Nat.reduceLeDiff, Int.reduceLT, Int.reduceLE, Int.reduceEq, Int.reduceNe, Int.reduceAdd, Int.reduceNeg, Int.reduceToNat, f1, f2, f3, f4, f9, o4, hlt, he, List.length_map, smD, exsD_len, smsD_len, hlv, hlv1, hw, Int.natCast_pos, zsize, zslot, t2, t1]
              refine round_endB (n - 1) (by omega) ⟨k + 1, by omega, htk ⟨⟨by omega, by omega, by omega, by omega, by omega, .inr (.inr (.inl ⟨.inl rfl, by omega⟩))⟩, hb1 rfl, hb2 rfl, hb3 rfl⟩, ?_⟩
              simp (config := { maxSteps := 1000000 }) only [go_sem, ↓reduceIte, Nat.reduceEqDiff, Nat.reduceAdd, Nat.reduceMul, Nat.reduceSub, Nat.reduceLT, Nat.reduceLeDiff, Int.reduceLT, Int.reduceLE, Int.reduceEq, Int.reduceNe, Int.reduceAdd, Int.reduceNeg, Int.reduceToNat, f1, f2, f3, f4, f9, o4, hw]
      by_cases k4 : kind = 4
      · subst k4
        by_cases zsize : size = 0
        rotate_left
        · simp (config := { maxSteps := 1000000 }) only [go_sem, ↓reduceIte, Nat.reduceEqDiff, Nat.reduceAdd, Nat.reduceMul, Nat.reduceSub, Nat.reduceLT, Nat.reduceLeDiff, Int.reduceLT, Int.reduceLE, Int.reduceEq, Int.reduceNe, Int.reduceAdd, Int.reduceNeg, Int.reduceToNat, f1, f2, f3, f4, f9, o4, hlt, he, List.length_map, smD, exsD_len, smsD_len, hlv, hlv1, hw, Int.natCast_pos, zsize]
          exact ⟨false, rfl, fun h => by cases h⟩
        by_cases zslot : slot = 0
        rotate_left
        · simp (config := { maxSteps := 1000000 }) only [go_sem, ↓reduceIte, Nat.reduceEqDiff, Nat.reduceAdd, Nat.reduceMul, Nat.reduceSub, Nat.reduceLT, Nat.reduceLeDiff, Int.reduceLT, Int.reduceLE, Int.reduceEq, Int.reduceNe, Int.reduceAdd, Int.reduceNeg, Int.reduceToNat, f1, f2, f3, f4, f9, o4, hlt, he, List.length_map, smD, exsD_len, smsD_len, hlv, hlv1, hw, Int.natCast_pos, zsize, zslot]
          exact ⟨false, rfl, fun h => by cases h⟩
        by_cases hn : (e.length : Int) = 1
        rotate_left
        · -- a wrong number
          simp (config := { maxSteps := 1000000 }) only [go_sem, ↓reduceIte, Nat.reduceEqDiff, Nat.reduceAdd, Nat.reduceMul, Nat.reduceSub, Nat.reduceLT, Nat.reduceLeDiff, Int.reduceLT, Int.reduceLE, Int.reduceEq, Int.reduceNe, Int.reduceAdd, Int.reduceNeg, Int.reduceToNat, f1, f2, f3, f4, f9, o4, hlt, he, List.length_map, smD, exsD_len, smsD_len, hlv, hlv1, hw, Int.natCast_pos, zsize, zslot, hn]
          exact ⟨false, rfl, fun h => by cases h⟩
        simp (config := { maxSteps := 1000000 }) only [go_sem, ↓reduceIte, Nat.reduceEqDiff, Nat.reduceAdd, Nat.reduceMul, Nat.reduceSub, Nat.reduceLT, Nat.reduceLeDiff, Int.reduceLT, Int.reduceLE, Int.reduceEq, Int.reduceNe, Int.reduceAdd, Int.reduceNeg, Int.reduceToNat, f1, f2, f3, f4, f9, o4, hlt, he, List.length_map, smD, exsD_len, smsD_len, hlv, hlv1, hw, Int.natCast_pos, zsize, zslot, hn]
        refine hook_call rfl (rightExprs_A w fs hw0 f (by omega) (sizeEs e) e (lv + 1) (Nat.le_refl _) (by omega) (by omega)) (by rfl) ?_
        rintro _ ⟨b1, rfl, hb1⟩
        cases b1 with
        | false =>
          simp (config := { maxSteps := 1000000 }) only [go_sem, ↓reduceIte, Nat.reduceEqDiff, Nat.reduceAdd, Nat.reduceMul, Nat.reduceSub, Nat.reduceLT, Nat.reduceLeDiff, Int.reduceLT, Int.reduceLE, Int.reduceEq, Int.reduceNe, Int.reduceAdd, Int.reduceNeg, Int.reduceToNat, f1, f2, f3, f4, f9, o4, hlt, he, List.length_map, smD, exsD_len, smsD_len, hlv, hlv1, hw, Int.natCast_pos, zsize, zslot]
          exact ⟨false, rfl, fun h => by cases h⟩
        | true =>
          simp (config := { maxSteps := 1000000 }) only [go_sem, ↓reduceIte, Nat.reduceEqDiff, Nat.reduceAdd, Nat.reduceMul, Nat.reduceSub, Nat.reduceLT, Nat.reduceLeDiff, Int.reduceLT, Int.reduceLE, Int.reduceEq, Int.reduceNe, Int.reduceAdd, Int.reduceNeg, Int.reduceToNat, f1, f2, f3, f4, f9, o4, hlt, he, List.length_map, smD, exsD_len, smsD_len, hlv, hlv1, hw, Int.natCast_pos, zsize, zslot]
          refine hook_call rfl (ih (sizeSs th) (by omega) th (lv + 1) (Nat.le_refl _) (by omega) (by omega)) (by rfl) ?_
          rintro _ ⟨b2, rfl, hb2⟩
          cases b2 with
          | false =>
            simp (config := { maxSteps := 1000000 }) only [go_sem, ↓reduceIte, Nat.reduceEqDiff, Nat.reduceAdd, Nat.reduceMul, Nat.reduceSub, Nat.reduceLT, Nat.reduceLeDiff, Int.reduceLT, Int.reduceLE, Int.reduceEq, Int.reduceNe, Int.reduceAdd, Int.reduceNeg, Int.reduceToNat, f1, f2, f3, f4, f9, o4, hlt, he, List.length_map, smD, exsD_len, smsD_len, hlv, hlv1, hw, Int.natCast_pos, zsize, zslot]
            exact ⟨false, rfl, fun h => by cases h⟩
          | true =>
            simp (config := { maxSteps := 1000000 }) only [go_sem, ↓reduceIte, Nat.reduceEqDiff, Nat.reduceAdd, Nat.reduceMul, Nat.reduceSub, Nat.reduceLT, Nat.reduceLeDiff, Int.reduceLT, Int.reduceLE, Int.reduceEq, Int.reduceNe, Int.reduceAdd, Int.reduceNeg, Int.reduceToNat, f1, f2, f3, f4, f9, o4, hlt, he, List.length_map, smD, exsD_len, smsD_len, hlv, hlv1, hw, Int.natCast_pos, zsize, zslot]
            refine hook_call rfl (ih (sizeSs el) (by omega) el (lv + 1) (Nat.le_refl _) (by omega) (by omega)) (by rfl) ?_
            rintro _ ⟨b3, rfl, hb3⟩
            cases b3 with
            | false =>
              simp (config := { maxSteps := 1000000 }) only [go_sem, ↓reduceIte, Nat.reduceEqDiff, Nat.reduceAdd, Nat.reduceMul, Nat.reduceSub, Nat.reduceLT, Nat.reduceLeDiff, Int.reduceLT, Int.reduceLE, Int.reduceEq, Int.reduceNe, Int.reduceAdd, Int.reduceNeg, Int.reduceToNat, f1, f2, f3, f4, f9, o4, hlt, he, List.length_map, smD, exsD_len, smsD_len, hlv, hlv1, hw, Int.natCast_pos, zsize, zslot]
              exact ⟨false, rfl, fun h => by cases h⟩
            | true =>
              simp (config := { maxSteps := 1000000 }) only [go_sem, ↓reduceIte, Nat.reduceEqDiff, Nat.reduceAdd, Nat.reduceMul, Nat.reduceSub, Nat.reduceLT, Nat.reduceLeDiff, Int.reduceLT, Int.reduceLE, Int.reduceEq, Int.reduceNe, Int.reduceAdd, Int.reduceNeg, Int.reduceToNat, f1, f2, f3, f4, f9, o4, hlt, he, List.length_map, smD, exsD_len, smsD_len, hlv, hlv1, hw, Int.natCast_pos, zsize, zslot]
              refine round_endB (n - 1) (by omega) ⟨k + 1, by omega, htk ⟨⟨by omega, by omega, by omega, by omega, by omega, .inr (.inr (.inl ⟨.inr (.inl rfl), by omega⟩))⟩, hb1 rfl, hb2 rfl, hb3 rfl⟩, ?_⟩
              simp (config := { maxSteps := 1000000 }) only [go_sem, ↓reduceIte, Nat.reduceEqDiff, Nat.reduceAdd, Nat.reduceMul, Nat.reduceSub, Nat.reduceLT, Nat.reduceLeDiff, Int.reduceLT, Int.reduceLE, Int.reduceEq, Int.reduceNe, Int.reduceAdd, Int.reduceNeg, Int.reduceToNat, f1, f2, f3, f4, f9, o4, hw]
      by_cases k5 : kind = 5
      · subst k5
        by_cases zsize : size = 0
        rotate_left
        · simp (config := { maxSteps := 1000000 }) only [go_sem, ↓reduceIte, Nat.reduceEqDiff, Nat.reduceAdd, Nat.reduceMul, Nat.reduceSub, Nat.reduceLT, Nat.reduceLeDiff, Int.reduceLT, Int.reduceLE, Int.reduceEq, Int.reduceNe, Int.reduceAdd, Int.reduceNeg, Int.reduceToNat, f1, f2, f3, f4, f9, o4, hlt, he, List.length_map, smD, exsD_len, smsD_len, hlv, hlv1, hw, Int.natCast_pos, zsize]
          exact ⟨false, rfl, fun h => by cases h⟩
        by_cases zslot : slot = 0
        rotate_left
        · simp (config := { maxSteps := 1000000 }) only [go_sem, ↓reduceIte, Nat.reduceEqDiff, Nat.reduceAdd, Nat.reduceMul, Nat.reduceSub, Nat.reduceLT, Nat.reduceLeDiff, Int.reduceLT, Int.reduceLE, Int.reduceEq, Int.reduceNe, Int.reduceAdd, Int.reduceNeg, Int.reduceToNat, f1, f2, f3, f4, f9, o4, hlt, he, List.length_map, smD, exsD_len, smsD_len, hlv, hlv1, hw, Int.natCast_pos, zsize, zslot]
          exact ⟨false, rfl, fun h => by cases h⟩
        by_cases t2 : 0 < el.length
        · simp (config := { maxSteps := 1000000 }) only [go_sem, ↓reduceIte, Nat.reduceEqDiff, Nat.reduceAdd, Nat.reduceMul, Nat.reduceSub, Nat.reduceLT, Nat.reduceLeDiff, Int.reduceLT, Int.reduceLE, Int.reduceEq, Int.reduceNe, Int.reduceAdd, Int.reduceNeg, Int.reduceToNat, f1, f2, f3, f4, f9, o4, hlt, he, List.length_map, smD, exsD_len, smsD_len, hlv, hlv1, hw, Int.natCast_pos, zsize, zslot, t2]
          exact ⟨false, rfl, fun h => by cases h⟩
        by_cases hn : (e.length : Int) = 1
        rotate_left
        · -- a wrong number
          simp (config := { maxSteps := 1000000 }) only [go_sem, ↓reduceIte, Nat.reduceEqDiff, Nat.reduceAdd, Nat.reduceMul, Nat.reduceSub, Nat.reduceLT, Nat.reduceLeDiff, Int.reduceLT, Int.reduceLE, Int.reduceEq, Int.reduceNe, Int.reduceAdd, Int.reduceNeg, Int.reduceToNat, f1, f2, f3, f4, f9, o4, hlt, he, List.length_map, smD, exsD_len, smsD_len, hlv, hlv1, hw, Int.natCast_pos, zsize, zslot, t2, hn]
          exact ⟨false, rfl, fun h => by cases h⟩
        simp (config := { maxSteps := 1000000 }) only [go_sem, ↓reduceIte, Nat.reduceEqDiff, Nat.reduceAdd, Nat.reduceMul, Nat.reduceSub, Nat.reduceLT, Nat.reduceLeDiff, Int.reduceLT, Int.reduceLE, Int.reduceEq, Int.reduceNe, Int.reduceAdd, Int.reduceNeg, Int.reduceToNat, f1, f2, f3, f4, f9, o4, hlt, he, List.length_map, smD, exsD_len, smsD_len, hlv, hlv1, hw, Int.natCast_pos, zsize, zslot, t2, hn]
        refine hook_call rfl (rightExprs_A w fs hw0 f (by omega) (sizeEs e) e (lv + 1) (Nat.le_refl _) (by omega) (by omega)) (by rfl) ?_
        rintro _ ⟨b1, rfl, hb1⟩
        cases b1 with
        | false =>
          simp (config := { maxSteps := 1000000 }) only [go_sem, ↓reduceIte, Nat.reduceEqDiff, Nat.reduceAdd, Nat.reduceMul, Nat.reduceSub, Nat.reduceLT, Nat.reduceLeDiff, Int.reduceLT, Int.reduceLE, Int.reduceEq, Int.reduceNe, Int.reduceAdd, Int.reduceNeg, Int.reduceToNat, f1, f2, f3, f4, f9, o4, hlt, he, List.length_map, smD, exsD_len, smsD_len, hlv, hlv1, hw, Int.natCast_pos, zsize, zslot, t2]
          exact ⟨false, rfl, fun h => by cases h⟩
        | true =>
          simp (config := { maxSteps := 1000000 }) only [go_sem, ↓reduceIte, Nat.reduceEqDiff, Nat.reduceAdd, Nat.reduceMul, Nat.reduceSub, Nat.reduceLT, Nat.reduceLeDiff, Int.reduceLT, Int.reduceLE, Int.reduceEq, Int.reduceNe, Int.reduceAdd, Int.reduceNeg, Int.reduceToNat, f1, f2, f3, f4, f9, o4, hlt, he, List.length_map, smD, exsD_len, smsD_len, hlv, hlv1, hw, Int.natCast_pos, zsize, zslot, t2]
          refine hook_call rfl (ih (sizeSs th) (by omega) th (lv + 1) (Nat.le_refl _) (by omega) (by omega)) (by rfl) ?_
          rintro _ ⟨b2, rfl, hb2⟩
          cases b2 with
          | false =>
            simp (config := { maxSteps := 1000000 }) only [go_sem, ↓reduceIte, Nat.reduceEqDiff, Nat.reduceAdd, Nat.reduceMul, Nat.reduceSub, Nat.reduceLT, Nat.reduceLeDiff, Int.reduceLT, Int.reduceLE, Int.reduceEq, Int.reduceNe, Int.reduceAdd, Int.reduceNeg, Int.reduceToNat, f1, f2, f3, f4, f9, o4, hlt, he, List.length_map, smD, exsD_len, smsD_len, hlv, hlv1, hw, Int.natCast_pos, zsize, zslot, t2]
            exact ⟨false, rfl, fun h => by cases h⟩
          | true =>
            simp (config := { maxSteps := 1000000 }) only [go_sem, ↓reduceIte, Nat.reduceEqDiff, Nat.reduceAdd, Nat.reduceMul, Nat.reduceSub, Nat.reduceLT, Nat.reduceLeDiff, Int.reduceLT, Int.reduceLE, Int.reduceEq, Int.reduceNe, Int.reduceAdd, Int.reduceNeg, Int.reduceToNat, f1, f2, f3, f4, f9, o4, hlt, he, List.length_map, smD, exsD_len, smsD_len, hlv, hlv1, hw, Int.natCast_pos, zsize, zslot, t2]
            refine hook_call rfl (ih (sizeSs el) (by omega) el (lv + 1) (Nat.le_refl _) (by omega) (by omega)) (by rfl) ?_
            rintro _ ⟨b3, rfl, hb3⟩
            cases b3 with
            | false =>
              simp (config := { maxSteps := 1000000 }) only [go_sem, ↓reduceIte, Nat.reduceEqDiff, Nat.reduceAdd, Nat.reduceMul, Nat.reduceSub, Nat.reduceLT, Nat.reduceLeDiff, Int.reduceLT, Int.reduceLE, Int.reduceEq, Int.reduceNe, Int.reduceAdd, Int.reduceNeg, Int.reduceToNat, f1, f2, f3, f4, f9, o4, hlt, he, List.length_map, smD, exsD_len, smsD_len, hlv, hlv1, hw, Int.natCast_pos, zsize, zslot, t2]
              exact ⟨false, rfl, fun h => by cases h⟩
            | true =>
              simp (config := { maxSteps := 1000000 }) only [go_sem, ↓reduceIte, Nat.reduceEqDiff, Nat.reduceAdd, Nat.reduceMul, Nat.reduceSub, Nat.reduceLT, Nat.reduceLeDiff, Int.reduceLT, Int.reduceLE, Int.reduceEq, Int.reduceNe, Int.reduceAdd, Int.reduceNeg, Int.reduceToNat, f1, f2, f3, f4, f9, o4, hlt, he, List.length_map, smD, exsD_len, smsD_len, hlv, hlv1, hw, Int.natCast_pos, zsize, zslot, t2]
              refine round_endB (n - 1) (by omega) ⟨k + 1, by omega, htk ⟨⟨by omega, by omega, by omega, by omega, by omega, .inr (.inr (.inl ⟨.inr (.inr rfl), by omega⟩))⟩, hb1 rfl, hb2 rfl, hb3 rfl⟩, ?_⟩
              simp (config := { maxSteps := 1000000 }) only [go_sem, ↓reduceIte, Nat.reduceEqDiff, Nat.reduceAdd, Nat.reduceMul, Nat.reduceSub, Nat.reduceLT, Nat.reduceLeDiff, Int.reduceLT, Int.reduceLE, Int.reduceEq, Int.reduceNe, Int.reduceAdd, Int.reduceNeg, Int.reduceToNat, f1, f2, f3, f4, f9, o4, hw]
      by_cases k6 : kind = 6
      · subst k6
        by_cases zsize : size = 0
        rotate_left
        · simp (config := { maxSteps := 1000000 }) only [go_sem, ↓reduceIte, Nat.reduceEqDiff, Nat.reduceAdd, Nat.reduceMul, Nat.reduceSub, Nat.reduceLT, Nat.reduceLeDiff, Int.reduceLT, Int.reduceLE, Int.reduceEq, Int.reduceNe, Int.reduceAdd, Int.reduceNeg, Int.reduceToNat, f1, f2, f3, f4, f9, o4, hlt, he, List.length_map, smD, exsD_len, smsD_len, hlv, hlv1, hw, Int.natCast_pos, zsize]
          exact ⟨false, rfl, fun h => by cases h⟩
        by_cases t2 : 0 < el.length
        · simp (config := { maxSteps := 1000000 }) only [go_sem, ↓reduceIte, Nat.reduceEqDiff, Nat.reduceAdd, Nat.reduceMul, Nat.reduceSub, Nat.reduceLT, Nat.reduceLeDiff, Int.reduceLT, Int.reduceLE, Int.reduceEq, Int.reduceNe, Int.reduceAdd, Int.reduceNeg, Int.reduceToNat, f1, f2, f3, f4, f9, o4, hlt, he, List.length_map, smD, exsD_len, smsD_len, hlv, hlv1, hw, Int.natCast_pos, zsize, t2]
          exact ⟨false, rfl, fun h => by cases h⟩
        by_cases t1 : 0 < th.length
        · simp (config := { maxSteps := 1000000 }) only [go_sem, ↓reduceIte, Nat.reduceEqDiff, Nat.reduceAdd, Nat.reduceMul, Nat.reduceSub, Nat.reduceLT, Nat.reduceLeDiff, Int.reduceLT, Int.reduceLE, Int.reduceEq, Int.reduceNe, Int.reduceAdd, Int.reduceNeg, Int.reduceToNat, f1, f2, f3, f4, f9, o4, hlt, he, List.length_map, smD, exsD_len, smsD_len, hlv, hlv1, hw, Int.natCast_pos, zsize, t2, t1]
          exact ⟨false, rfl, fun h => by cases h⟩
        simp (config := { maxSteps := 1000000 }) only [go_sem, ↓reduceIte, Nat.reduceEqDiff, Nat.reduceAdd, Nat.reduceMul, Nat.reduceSub, Nat.reduceLT, Nat.reduceLeDiff, Int.reduceLT, Int.reduceLE, Int.reduceEq, Int.reduceNe, Int.reduceAdd, Int.reduceNeg, Int.reduceToNat, f1, f2, f3, f4, f9, o4, hlt, he, List.length_map, smD, exsD_len, smsD_len, hlv, hlv1, hw, Int.natCast_pos, zsize, t2, t1]
        refine hook_call rfl (callee_A w fs f slot e.length false (by omega)) (by rfl) ?_
        rintro _ rfl
        by_cases hca : calleeB fs f slot e.length false = true
        rotate_left
        · have hca : calleeB fs f slot e.length false = false := by simpa using hca
          simp (config := { maxSteps := 1000000 }) only [go_sem, ↓reduceIte, Nat.reduceEqDiff, Nat.reduceAdd, Nat.reduceMul, Nat.reduceSub, Nat.reduceLT, Nat.reduceLeDiff, Int.reduceLT, Int.reduceLE, Int.reduceEq, Int.reduceNe, Int.reduceAdd, Int.reduceNeg, Int.reduceToNat, f1, f2, f3, f4, f9, o4, hlt, he, List.length_map, smD, exsD_len, smsD_len, hlv, hlv1, hw, Int.natCast_pos, zsize, t2, t1, hca]
          exact ⟨false, rfl, fun h => by cases h⟩
        simp (config := { maxSteps := 1000000 }) only [go_sem, ↓reduceIte, Nat.reduceEqDiff, Nat.reduceAdd, Nat.reduceMul, Nat.reduceSub, Nat.reduceLT, Nat.reduceLeDiff, Int.reduceLT, Int.reduceLE, Int.reduceEq, Int.reduceNe, Int.reduceAdd, Int.reduceNeg, Int.reduceToNat, f1, f2, f3, f4, f9, o4, hlt, he, List.length_map, smD, exsD_len, smsD_len, hlv, hlv1, hw, Int.natCast_pos, zsize, t2, t1, hca]
        refine hook_call rfl (rightExprs_A w fs hw0 f (by omega) (sizeEs e) e (lv + 1) (Nat.le_refl _) (by omega) (by omega)) (by rfl) ?_
        rintro _ ⟨b1, rfl, hb1⟩
        cases b1 with
        | false =>
          simp (config := { maxSteps := 1000000 }) only [go_sem, ↓reduceIte, Nat.reduceEqDiff, Nat.reduceAdd, Nat.reduceMul, Nat.reduceSub, Nat.reduceLT, Nat.reduceLeDiff, Int.reduceLT, Int.reduceLE, Int.reduceEq, Int.reduceNe, Int.reduceAdd, Int.reduceNeg, Int.reduceToNat, f1, f2, f3, f4, f9, o4, hlt, he, List.length_map, smD, exsD_len, smsD_len, hlv, hlv1, hw, Int.natCast_pos, zsize, t2, t1]
          exact ⟨false, rfl, fun h => by cases h⟩
        | true =>
          simp (config := { maxSteps := 1000000 }) only [go_sem, ↓reduceIte, Nat.reduceEqDiff, Nat.reduceAdd, Nat.reduceMul, Nat.reduceSub, Nat.reduceLT, Nat.reduceLeDiff, Int.reduceLT, Int.reduceLE, Int.reduceEq, Int.reduceNe, Int.reduceAdd, Int.reduceNeg, Int.reduceToNat, f1, f2, f3, f4, f9, o4, hlt, he, List.length_map, smD, exsD_len, smsD_len, hlv, hlv1, hw, Int.natCast_pos, zsize, t2, t1]
          refine hook_call rfl (ih (sizeSs th) (by omega) th (lv + 1) (Nat.le_refl _) (by omega) (by omega)) (by rfl) ?_
          rintro _ ⟨b2, rfl, hb2⟩
          cases b2 with
          | false =>
            simp (config := { maxSteps := 1000000 }) only [go_sem, ↓reduceIte, Nat.reduceEqDiff, Nat.reduceAdd, Nat.reduceMul, Nat.reduceSub, Nat.reduceLT, Nat.reduceLeDiff, Int.reduceLT, Int.reduceLE, Int.reduceEq, Int.reduceNe, Int.reduceAdd, Int.reduceNeg, Int.reduceToNat, f1, f2, f3, f4, f9, o4, hlt, he, List.length_map, smD, exsD_len, smsD_len, hlv, hlv1, hw, Int.natCast_pos, zsize, t2, t1]
            exact ⟨false, rfl, fun h => by cases h⟩
          | true =>
            simp (config := { maxSteps := 1000000 }) only [go_sem, ↓reduceIte, Nat.reduceEqDiff, Nat.reduceAdd, Nat.reduceMul, Nat.reduceSub, Nat.reduceLT, Nat.reduceLeDiff, Int.reduceLT, Int.reduceLE, Int.reduceEq, Int.reduceNe, Int.reduceAdd, Int.reduceNeg, Int.reduceToNat, f1, f2, f3, f4, f9, o4, hlt, he, List.length_map, smD, exsD_len, smsD_len, hlv, hlv1, hw, Int.natCast_pos, zsize, t2, t1]
            refine hook_call rfl (ih (sizeSs el) (by omega) el (lv + 1) (Nat.le_refl _) (by omega) (by omega)) (by rfl) ?_
            rintro _ ⟨b3, rfl, hb3⟩
            cases b3 with
            | false =>
              simp (config := { maxSteps := 1000000 }) only [go_sem, ↓reduceIte, Nat.reduceEqDiff, Nat.reduceAdd, Nat.reduceMul, Nat.reduceSub, Nat.reduceLT, Nat.reduceLeDiff, Int.reduceLT, Int.reduceLE, Int.reduceEq, Int.reduceNe, Int.reduceAdd, Int.reduceNeg, Int.reduceToNat, f1, f2, f3, f4, f9, o4, hlt, he, List.length_map, smD, exsD_len, smsD_len, hlv, hlv1, hw, Int.natCast_pos, zsize, t2, t1]
              exact ⟨false, rfl, fun h => by cases h⟩
            | true =>
              simp (config := { maxSteps := 1000000 }) only [go_sem, ↓reduceIte, Nat.reduceEqDiff, Nat.reduceAdd, Nat.reduceMul, Nat.reduceSub, Nat.reduceLT, Nat.reduceLeDiff, Int.reduceLT, Int.reduceLE, Int.reduceEq, Int.reduceNe, Int.reduceAdd, Int.reduceNeg, Int.reduceToNat, f1, f2, f3, f4, f9, o4, hlt, he, List.length_map, smD, exsD_len, smsD_len, hlv, hlv1, hw, Int.natCast_pos, zsize, t2, t1]
              refine round_endB (n - 1) (by omega) ⟨k + 1, by omega, htk ⟨⟨by omega, by omega, by omega, by omega, by omega, .inr (.inr (.inr (.inl ⟨rfl, calleeB_iff.1 hca⟩)))⟩, hb1 rfl, hb2 rfl, hb3 rfl⟩, ?_⟩
              simp (config := { maxSteps := 1000000 }) only [go_sem, ↓reduceIte, Nat.reduceEqDiff, Nat.reduceAdd, Nat.reduceMul, Nat.reduceSub, Nat.reduceLT, Nat.reduceLeDiff, Int.reduceLT, Int.reduceLE, Int.reduceEq, Int.reduceNe, Int.reduceAdd, Int.reduceNeg, Int.reduceToNat, f1, f2, f3, f4, f9, o4, hw]
      by_cases k7 : kind = 7
      · subst k7
        by_cases zsize : size = 0
        rotate_left
        · simp (config := { maxSteps := 1000000 }) only [go_sem, ↓reduceIte, Nat.reduceEqDiff, Nat.reduceAdd, Nat.reduceMul, Nat.reduceSub, Nat.reduceLT, Nat.reduceLeDiff, Int.reduceLT, Int.reduceLE, Int.reduceEq, Int.reduceNe, Int.reduceAdd, Int.reduceNeg, Int.reduceToNat, f1, f2, f3, f4, f9, o4, hlt, he, List.length_map, smD, exsD_len, smsD_len, hlv, hlv1, hw, Int.natCast_pos, zsize]
          exact ⟨false, rfl, fun h => by cases h⟩
        by_cases zslot : slot = 0
        rotate_left
        · simp (config := { maxSteps := 1000000 }) only [go_sem, ↓reduceIte, Nat.reduceEqDiff, Nat.reduceAdd, Nat.reduceMul, Nat.reduceSub, Nat.reduceLT, Nat.reduceLeDiff, Int.reduceLT, Int.reduceLE, Int.reduceEq, Int.reduceNe, Int.reduceAdd, Int.reduceNeg, Int.reduceToNat, f1, f2, f3, f4, f9, o4, hlt, he, List.length_map, smD, exsD_len, smsD_len, hlv, hlv1, hw, Int.natCast_pos, zsize, zslot]
          exact ⟨false, rfl, fun h => by cases h⟩
        by_cases t2 : 0 < el.length
        · simp (config := { maxSteps := 1000000 }) only [go_sem, ↓reduceIte, Nat.reduceEqDiff, Nat.reduceAdd, Nat.reduceMul, Nat.reduceSub, Nat.reduceLT, Nat.reduceLeDiff, Int.reduceLT, Int.reduceLE, Int.reduceEq, Int.reduceNe, Int.reduceAdd, Int.reduceNeg, Int.reduceToNat, f1, f2, f3, f4, f9, o4, hlt, he, List.length_map, smD, exsD_len, smsD_len, hlv, hlv1, hw, Int.natCast_pos, zsize, zslot, t2]
          exact ⟨false, rfl, fun h => by cases h⟩
        by_cases t1 : 0 < th.length
        · simp (config := { maxSteps := 1000000 }) only [go_sem, ↓reduceIte, Nat.reduceEqDiff, Nat.reduceAdd, Nat.reduceMul, Nat.reduceSub, Nat.reduceLT, Nat.reduceLeDiff, Int.reduceLT, Int.reduceLE, Int.reduceEq, Int.reduceNe, Int.reduceAdd, Int.reduceNeg, Int.reduceToNat, f1, f2, f3, f4, f9, o4, hlt, he, List.length_map, smD, exsD_len, smsD_len, hlv, hlv1, hw, Int.natCast_pos, zsize, zslot, t2, t1]
          exact ⟨false, rfl, fun h => by cases h⟩
        by_cases hz : (e.length : Int) = 0
        · have hz' : e.length = 0 := by omega
          simp (config := { maxSteps := 1000000 }) only [go_sem, ↓reduceIte, Nat.reduceEqDiff, Nat.reduceAdd, Nat.reduceMul, Nat.reduceSub, Nat.reduceLT, Nat.reduceLeDiff, Int.reduceLT, Int.reduceLE, Int.reduceEq, Int.reduceNe, Int.reduceAdd, Int.reduceNeg, Int.reduceToNat, f1, f2, f3, f4, f9, o4, hlt, he, List.length_map, smD, exsD_len, smsD_len, hlv, hlv1, hw, Int.natCast_pos, zsize, zslot, t2, t1, hz, hz']
          refine hook_call rfl (rightExprs_A w fs hw0 f (by omega) (sizeEs e) e (lv + 1) (Nat.le_refl _) (by omega) (by omega)) (by rfl) ?_
          rintro _ ⟨b1, rfl, hb1⟩
          cases b1 with
          | false =>
            simp (config := { maxSteps := 1000000 }) only [go_sem, ↓reduceIte, Nat.reduceEqDiff, Nat.reduceAdd, Nat.reduceMul, Nat.reduceSub, Nat.reduceLT, Nat.reduceLeDiff, Int.reduceLT, Int.reduceLE, Int.reduceEq, Int.reduceNe, Int.reduceAdd, Int.reduceNeg, Int.reduceToNat, f1, f2, f3, f4, f9, o4, hlt, he, List.length_map, smD, exsD_len, smsD_len, hlv, hlv1, hw, Int.natCast_pos, zsize, zslot, t2, t1, hz]
            exact ⟨false, rfl, fun h => by cases h⟩
          | true =>
            simp (config := { maxSteps := 1000000 }) only [go_sem, ↓reduceIte, Nat.reduceEqDiff, Nat.reduceAdd, Nat.reduceMul, Nat.reduceSub, Nat.reduceLT, Nat.reduceLeDiff, Int.reduceLT, Int.reduceLE, Int.reduceEq, Int.reduceNe, Int.reduceAdd, Int.reduceNeg, Int.reduceToNat, f1, f2, f3, f4, f9, o4, hlt, he, List.length_map, smD, exsD_len, smsD_len, hlv, hlv1, hw, Int.natCast_pos, zsize, zslot, t2, t1, hz]
            refine hook_call rfl (ih (sizeSs th) (by omega) th (lv + 1) (Nat.le_refl _) (by omega) (by omega)) (by rfl) ?_
            rintro _ ⟨b2, rfl, hb2⟩
            cases b2 with
            | false =>
              simp (config := { maxSteps := 1000000 }) only [go_sem, ↓reduceIte, Nat.reduceEqDiff, Nat.reduceAdd, Nat.reduceMul, Nat.reduceSub, Nat.reduceLT, Nat.reduceLeDiff, Int.reduceLT, Int.reduceLE, Int.reduceEq, Int.reduceNe, Int.reduceAdd, Int.reduceNeg, Int.reduceToNat, f1, f2, f3, f4, f9, o4, hlt, he, List.length_map, smD, exsD_len, smsD_len, hlv, hlv1, hw, Int.natCast_pos, zsize, zslot, t2, t1, hz]
              exact ⟨false, rfl, fun h => by cases h⟩
            | true =>
              simp (config := { maxSteps := 1000000 }) only [go_sem, ↓reduceIte, Nat.reduceEqDiff, Nat.reduceAdd, Nat.reduceMul, Nat.reduceSub, Nat.reduceLT, Nat.reduceLeDiff, Int.reduceLT, Int.reduceLE, Int.reduceEq, Int.reduceNe, Int.reduceAdd, Int.reduceNeg, Int.reduceToNat, f1, f2, f3, f4, f9, o4, hlt, he, List.length_map, smD, exsD_len, smsD_len, hlv, hlv1, hw, Int.natCast_pos, zsize, zslot, t2, t1, hz]
              refine hook_call rfl (ih (sizeSs el) (by omega) el (lv + 1) (Nat.le_refl _) (by omega) (by omega)) (by rfl) ?_
              rintro _ ⟨b3, rfl, hb3⟩
              cases b3 with
              | false =>
                simp (config := { maxSteps := 1000000 }) only [go_sem, ↓reduceIte, Nat.reduceEqDiff, Nat.reduceAdd, Nat.reduceMul, Nat.reduceSub, Nat.reduceLT, Nat.reduceLeDiff, Int.reduceLT, Int.reduceLE, Int.reduceEq, Int.reduceNe, Int.reduceAdd, Int.reduceNeg, Int.reduceToNat, f1, f2, f3, f4, f9, o4, hlt, he, List.length_map, smD, exsD_len, smsD_len, hlv, hlv1, hw, Int.natCast_pos, zsize, zslot, t2, t1, hz]
                exact ⟨false, rfl, fun h => by cases h⟩
              | true =>
                simp (config := { maxSteps := 1000000 }) only [go_sem, ↓reduceIte, Nat.reduceEqDiff, Nat.reduceAdd, Nat.reduceMul, Nat.reduceSub, Nat.reduceLT, Nat.reduceLeDiff, Int.reduceLT, Int.reduceLE, Int.reduceEq, Int.reduceNe, Int.reduceAdd, Int.reduceNeg, Int.reduceToNat, f1, f2, f3, f4, f9, o4, hlt, he, List.length_map, smD, exsD_len, smsD_len, hlv, hlv1, hw, Int.natCast_pos, zsize, zslot, t2, t1, hz]
                refine round_endB (n - 1) (by omega) ⟨k + 1, by omega, htk ⟨⟨by omega, by omega, by omega, by omega, by omega, .inr (.inr (.inr (.inr ⟨rfl, .inl (by omega)⟩)))⟩, hb1 rfl, hb2 rfl, hb3 rfl⟩, ?_⟩
                simp (config := { maxSteps := 1000000 }) only [go_sem, ↓reduceIte, Nat.reduceEqDiff, Nat.reduceAdd, Nat.reduceMul, Nat.reduceSub, Nat.reduceLT, Nat.reduceLeDiff, Int.reduceLT, Int.reduceLE, Int.reduceEq, Int.reduceNe, Int.reduceAdd, Int.reduceNeg, Int.reduceToNat, f1, f2, f3, f4, f9, o4, hw]
        · rcases Bool.eq_false_or_eq_true fx.word with hwd | hwd
          rotate_left
          · skip
            simp (config := { maxSteps := 1000000 }) only [go_sem, ↓reduceIte, Nat.reduceEqDiff, Nat.reduceAdd, Nat.reduceMul, Nat.reduceSub, Nat.reduceLT, Nat.reduceLeDiff, Int.reduceLT, Int.reduceLE, Int.reduceEq, Int.reduceNe, Int.reduceAdd, Int.reduceNeg, Int.reduceToNat, f1, f2, f3, f4, f9, o4, hlt, he, List.length_map, smD, exsD_len, smsD_len, hlv, hlv1, hw, Int.natCast_pos, zsize, zslot, t2, t1, hz, hfx, hfl, fnD, hwd]
            exact ⟨false, rfl, fun h => by cases h⟩
          · skip
            by_cases hn : (e.length : Int) = 1
            rotate_left
            · simp (config := { maxSteps := 1000000 }) only [go_sem, ↓reduceIte, Nat.reduceEqDiff, Nat.reduceAdd, Nat.reduceMul, Nat.reduceSub, Nat.reduceLT, Nat.reduceLeDiff, Int.reduceLT, Int.reduceLE, Int.reduceEq, Int.reduceNe, Int.reduceAdd, Int.reduceNeg, Int.reduceToNat, f1, f2, f3, f4, f9, o4, hlt, he, List.length_map, smD, exsD_len, smsD_len, hlv, hlv1, hw, Int.natCast_pos, zsize, zslot, t2, t1, hz, hfx, hfl, fnD, hwd, hn]
              exact ⟨false, rfl, fun h => by cases h⟩
            simp (config := { maxSteps := 1000000 }) only [go_sem, ↓reduceIte, Nat.reduceEqDiff, Nat.reduceAdd, Nat.reduceMul, Nat.reduceSub, Nat.reduceLT, Nat.reduceLeDiff, Int.reduceLT, Int.reduceLE, Int.reduceEq, Int.reduceNe, Int.reduceAdd, Int.reduceNeg, Int.reduceToNat, f1, f2, f3, f4, f9, o4, hlt, he, List.length_map, smD, exsD_len, smsD_len, hlv, hlv1, hw, Int.natCast_pos, zsize, zslot, t2, t1, hz, hfx, hfl, fnD, hwd, hn]
            refine hook_call rfl (rightExprs_A w fs hw0 f (by omega) (sizeEs e) e (lv + 1) (Nat.le_refl _) (by omega) (by omega)) (by rfl) ?_
            rintro _ ⟨b1, rfl, hb1⟩
            cases b1 with
            | false =>
              simp (config := { maxSteps := 1000000 }) only [go_sem, ↓reduceIte, Nat.reduceEqDiff, Nat.reduceAdd, Nat.reduceMul, Nat.reduceSub, Nat.reduceLT, Nat.reduceLeDiff, Int.reduceLT, Int.reduceLE, Int.reduceEq, Int.reduceNe, Int.reduceAdd, Int.reduceNeg, Int.reduceToNat, f1, f2, f3, f4, f9, o4, hlt, he, List.length_map, smD, exsD_len, smsD_len, hlv, hlv1, hw, Int.natCast_pos, zsize, zslot, t2, t1]
              exact ⟨false, rfl, fun h => by cases h⟩
            | true =>
              simp (config := { maxSteps := 1000000 }) only [go_sem, ↓reduceIte, Nat.reduceEqDiff, Nat.reduceAdd, Nat.reduceMul, Nat.reduceSub, Nat.reduceLT, Nat.reduceLeDiff, Int.reduceLT, Int.reduceLE, Int.reduceEq, Int.reduceNe, Int.reduceAdd, Int.reduceNeg, Int.reduceToNat, f1, f2, f3, f4, f9, o4, hlt, he, List.length_map, smD, exsD_len, smsD_len, hlv, hlv1, hw, Int.natCast_pos, zsize, zslot, t2, t1]
              refine hook_call rfl (ih (sizeSs th) (by omega) th (lv + 1) (Nat.le_refl _) (by omega) (by omega)) (by rfl) ?_
              rintro _ ⟨b2, rfl, hb2⟩
              cases b2 with
              | false =>
                simp (config := { maxSteps := 1000000 }) only [go_sem, ↓reduceIte, Nat.reduceEqDiff, Nat.reduceAdd, Nat.reduceMul, Nat.reduceSub, Nat.reduceLT, Nat.reduceLeDiff, Int.reduceLT, Int.reduceLE, Int.reduceEq, Int.reduceNe, Int.reduceAdd, Int.reduceNeg, Int.reduceToNat, f1, f2, f3, f4, f9, o4, hlt, he, List.length_map, smD, exsD_len, smsD_len, hlv, hlv1, hw, Int.natCast_pos, zsize, zslot, t2, t1]
                exact ⟨false, rfl, fun h => by cases h⟩
              | true =>
                simp (config := { maxSteps := 1000000 }) only [go_sem, ↓reduceIte, Nat.reduceEqDiff, Nat.reduceAdd, Nat.reduceMul, Nat.reduceSub, Nat.reduceLT, Nat.reduceLeDiff, Int.reduceLT, Int.reduceLE, Int.reduceEq, Int.reduceNe, Int.reduceAdd, Int.reduceNeg, Int.reduceToNat, f1, f2, f3, f4, f9, o4, hlt, he, List.length_map, smD, exsD_len, smsD_len, hlv, hlv1, hw, Int.natCast_pos, zsize, zslot, t2, t1]
                refine hook_call rfl (ih (sizeSs el) (by omega) el (lv + 1) (Nat.le_refl _) (by omega) (by omega)) (by rfl) ?_
                rintro _ ⟨b3, rfl, hb3⟩
                cases b3 with
                | false =>
                  simp (config := { maxSteps := 1000000 }) only [go_sem, ↓reduceIte, Nat.reduceEqDiff, Nat.reduceAdd, Nat.reduceMul, Nat.reduceSub, Nat.reduceLT, Nat.reduceLeDiff, Int.reduceLT, Int.reduceLE, Int.reduceEq, Int.reduceNe, Int.reduceAdd, Int.reduceNeg, Int.reduceToNat, f1, f2, f3, f4, f9, o4, hlt, he, List.length_map, smD, exsD_len, smsD_len, hlv, hlv1, hw, Int.natCast_pos, zsize, zslot, t2, t1]
                  exact ⟨false, rfl, fun h => by cases h⟩
                | true =>
                  simp (config := { maxSteps := 1000000 }) only [go_sem, ↓reduceIte, Nat.reduceEqDiff, Nat.reduceAdd, Nat.reduceMul, Nat.reduceSub, Nat.reduceLT, Nat.reduceLeDiff, Int.reduceLT, Int.reduceLE, Int.reduceEq, Int.reduceNe, Int.reduceAdd, Int.reduceNeg, Int.reduceToNat, f1, f2, f3, f4, f9, o4, hlt, he, List.length_map, smD, exsD_len, smsD_len, hlv, hlv1, hw, Int.natCast_pos, zsize, zslot, t2, t1]
                  refine round_endB (n - 1) (by omega) ⟨k + 1, by omega, htk ⟨⟨by omega, by omega, by omega, by omega, by omega, .inr (.inr (.inr (.inr ⟨rfl, .inr ⟨hwd, by omega⟩⟩)))⟩, hb1 rfl, hb2 rfl, hb3 rfl⟩, ?_⟩
                  simp (config := { maxSteps := 1000000 }) only [go_sem, ↓reduceIte, Nat.reduceEqDiff, Nat.reduceAdd, Nat.reduceMul, Nat.reduceSub, Nat.reduceLT, Nat.reduceLeDiff, Int.reduceLT, Int.reduceLE, Int.reduceEq, Int.reduceNe, Int.reduceAdd, Int.reduceNeg, Int.reduceToNat, f1, f2, f3, f4, f9, o4, hw]
      by_cases zsize : size = 0
      rotate_left
      · simp (config := { maxSteps := 1000000 }) only [go_sem, ↓reduceIte, Nat.reduceEqDiff, Nat.reduceAdd, Nat.reduceMul, Nat.reduceSub, Nat.reduceLT, Nat.reduceLeDiff, Int.reduceLT, Int.reduceLE, Int.reduceEq, Int.reduceNe, Int.reduceAdd, Int.reduceNeg, Int.reduceToNat, f1, f2, f3, f4, f9, o4, hlt, he, List.length_map, smD, exsD_len, smsD_len, hlv, hlv1, hw, Int.natCast_pos, k1, k2, k3, k4, k5, k6, k7, zsize]
        exact ⟨false, rfl, fun h => by cases h⟩
      by_cases zslot : slot = 0
      rotate_left
      · simp (config := { maxSteps := 1000000 }) only [go_sem, ↓reduceIte, Nat.reduceEqDiff, Nat.reduceAdd, Nat.reduceMul, Nat.reduceSub, Nat.reduceLT, Nat.reduceLeDiff, Int.reduceLT, Int.reduceLE, Int.reduceEq, Int.reduceNe, Int.reduceAdd, Int.reduceNeg, Int.reduceToNat, f1, f2, f3, f4, f9, o4, hlt, he, List.length_map, smD, exsD_len, smsD_len, hlv, hlv1, hw, Int.natCast_pos, k1, k2, k3, k4, k5, k6, k7, zsize, zslot]
        exact ⟨false, rfl, fun h => by cases h⟩
      by_cases t2 : 0 < el.length
      · simp (config := { maxSteps := 1000000 }) only [go_sem, ↓reduceIte, Nat.reduceEqDiff, Nat.reduceAdd, Nat.reduceMul, Nat.reduceSub, Nat.reduceLT, Nat.reduceLeDiff, Int.reduceLT, Int.reduceLE, Int.reduceEq, Int.reduceNe, Int.reduceAdd, Int.reduceNeg, Int.reduceToNat, f1, f2, f3, f4, f9, o4, hlt, he, List.length_map, smD, exsD_len, smsD_len, hlv, hlv1, hw, Int.natCast_pos, k1, k2, k3, k4, k5, k6, k7, zsize, zslot, t2]
        exact ⟨false, rfl, fun h => by cases h⟩
      by_cases t1 : 0 < th.length
      · simp (config := { maxSteps := 1000000 }) only [go_sem, ↓reduceIte, Nat.reduceEqDiff, Nat.reduceAdd, Nat.reduceMul, Nat.reduceSub, Nat.reduceLT, Nat.reduceLeDiff, Int.reduceLT, Int.reduceLE, Int.reduceEq, Int.reduceNe, Int.reduceAdd, Int.reduceNeg, Int.reduceToNat, f1, f2, f3, f4, f9, o4, hlt, he, List.length_map, smD, exsD_len, smsD_len, hlv, hlv1, hw, Int.natCast_pos, k1, k2, k3, k4, k5, k6, k7, zsize, zslot, t2, t1]
        exact ⟨false, rfl, fun h => by cases h⟩
      simp (config := { maxSteps := 1000000 }) only [go_sem, ↓reduceIte, Nat.reduceEqDiff, Nat.reduceAdd, Nat.reduceMul, Nat.reduceSub, Nat.reduceLT, Nat.reduceLeDiff, Int.reduceLT, Int.reduceLE, Int.reduceEq, Int.reduceNe, Int.reduceAdd, Int.reduceNeg, Int.reduceToNat, f1, f2, f3, f4, f9, o4, hlt, he, List.length_map, smD, exsD_len, smsD_len, hlv, hlv1, hw, Int.natCast_pos, k1, k2, k3, k4, k5, k6, k7, zsize, zslot, t2, t1]
      exact ⟨false, rfl, fun h => by cases h⟩
    · simp (config := { maxSteps := 1000000 }) only [go_sem, ↓reduceIte, Nat.reduceEqDiff, Nat.reduceAdd, Nat.reduceMul, Nat.reduceSub, Nat.reduceLT, Nat.reduceLeDiff, Int.reduceLT, Int.reduceLE, Int.reduceEq, Int.reduceNe, Int.reduceAdd, Int.reduceNeg, Int.reduceToNat, f1, f2, f3, f4, f9, o4, hlt, List.length_map]
      refine ⟨true, rfl, fun _ => ?_⟩
      rw [List.take_of_length_le (by omega)] at hr
      exact hr

end Go.Proofs.Ythengcpckdlpgaa
