/- The fixed fact: its run. -/
import Derived.Test.YthengcpckdlpgaaL18
set_option linter.unusedSimpArgs false
set_option linter.unusedVariables false
namespace Go.Proofs.Ythengcpckdlpgaa
open Go Go.Am Go.Lower

def lAt : Nat → List Int
  | 1 => [40] | 2 => [40, 25] | 3 => [65] | _ => []
def oAt (k : Nat) : List Int := if k ≤ 3 then [] else [65]
def eAt (k : Nat) : Int := if k < 5 then 0 else 1
def cAt (k : Nat) : Nat := if k < 5 then 1 else 0

theorem does_at (k : Nat) (hk : k < 5) : ∃ x d, (codeOf f0.word f0.body)[k]? = some (x, d) ∧ Does x (lAt k) (oAt k) (lAt (k + 1)) (oAt (k + 1)) (eAt (k + 1)) (cAt (k + 1)) := by
  have hc : codeOf f0.word f0.body = [(⟨1, 0, 0, 40⟩, 0), (⟨1, 0, 0, 25⟩, 1), (⟨6, 4, 0, 0⟩, 2), (⟨13, 0, 0, 0⟩, 1), (⟨11, 0, 0, 0⟩, 0)] := code0
  rw [hc]
  match k, hk with
  | 0, _ => exact ⟨_, _, rfl, .push 40 [] []⟩
  | 1, _ => exact ⟨_, _, rfl, .push 25 [40] []⟩
  | 2, _ => exact ⟨_, _, rfl, .add [] []⟩
  | 3, _ => exact ⟨_, _, rfl, .put [] []⟩
  | 4, _ => exact ⟨_, _, rfl, .ret [] [65]⟩

theorem lAt_len (k : Nat) : (lAt k).length ≤ 50 := by
  unfold lAt; split <;> simp
theorem oAt_len (k : Nat) : (oAt k).length ≤ 50 := by
  unfold oAt; split <;> simp

set_option maxHeartbeats 4000000 in
set_option maxRecDepth 100000 in
theorem Run_A : PureR Try.prog 10 [stackC 0 [f0], sv [], iv .i64 99] (· = .agg [.d (.int .i64 1), .d (.str [65]), .d (.int .i64 5)]) := by
  refine pure_of_wpR Tt_ok mixed Try.func10 rfl (by rfl) [.cell 6 41] rfl (by kernel_rfl) (by simp [Try.ntmps10]) fun g => ?_
  unfold stackC
  simp (config := { maxSteps := 1000000 }) only [go_sem, ↓reduceIte, Nat.reduceEqDiff, Nat.reduceAdd, Nat.reduceMul, Nat.reduceSub, Nat.reduceLT, Nat.reduceLeDiff, Int.reduceLT, Int.reduceLE, Int.reduceEq, Int.reduceNe, Int.reduceAdd, Int.reduceNeg, Int.reduceToNat, List.length_map, List.length_cons, List.length_nil]
  refine draw_det Tt_ok mixed [17, 23, 25] [([3], [0, 1], [], false), ([1], [0, 1], [], false), ([3], [1], [], false), ([15], [1], [], false), ([16], [1], [0], false), ([3], [0], [], false), ([18], [0], [], false), ([19], [0], [], false), ([20], [0], [], false), ([21], [0], [], false), ([22], [0], [1], false), ([13, 14, 17, 23], [], [], false), ([24], [], [2], false), ([25], [], [], true)] 3 (by decide +kernel) rfl (by decide) ?_
  simp (config := { maxSteps := 1000000 }) only [go_sem, ↓reduceIte, Nat.reduceEqDiff, Nat.reduceAdd, Nat.reduceMul, Nat.reduceSub, Nat.reduceLT, Nat.reduceLeDiff, Int.reduceLT, Int.reduceLE, Int.reduceEq, Int.reduceNe, Int.reduceAdd, Int.reduceNeg, Int.reduceToNat]
  iterate 4 (apply det_pure; · (intro fa ga oa K' hK; simp (config := { maxSteps := 1000000 }) only [go_sem, ↓reduceIte, Nat.reduceEqDiff, Nat.reduceAdd, Nat.reduceMul, Nat.reduceSub, Nat.reduceLT, Nat.reduceLeDiff, Int.reduceLT, Int.reduceLE, Int.reduceEq, Int.reduceNe, Int.reduceAdd, Int.reduceNeg, Int.reduceToNat] at hK ⊢; exact hK))
  apply det_new
  · intro fa ga oa K' hK
    simp (config := { maxSteps := 1000000 }) only [go_sem, ↓reduceIte, Nat.reduceEqDiff, Nat.reduceAdd, Nat.reduceMul, Nat.reduceSub, Nat.reduceLT, Nat.reduceLeDiff, Int.reduceLT, Int.reduceLE, Int.reduceEq, Int.reduceNe, Int.reduceAdd, Int.reduceNeg, Int.reduceToNat] at hK ⊢
    exact ⟨by decide, hK⟩
  iterate 5 (apply det_pure; · (intro fa ga oa K' hK; simp (config := { maxSteps := 1000000 }) only [go_sem, ↓reduceIte, Nat.reduceEqDiff, Nat.reduceAdd, Nat.reduceMul, Nat.reduceSub, Nat.reduceLT, Nat.reduceLeDiff, Int.reduceLT, Int.reduceLE, Int.reduceEq, Int.reduceNe, Int.reduceAdd, Int.reduceNeg, Int.reduceToNat, show IntKind.i64.wrap ((1 : Int) - 1) = 0 by decide] at hK ⊢; exact hK))
  (apply det_new; · (intro fa ga oa K' hK; simp (config := { maxSteps := 1000000 }) only [go_sem, ↓reduceIte, Nat.reduceEqDiff, Nat.reduceAdd, Nat.reduceMul, Nat.reduceSub, Nat.reduceLT, Nat.reduceLeDiff, Int.reduceLT, Int.reduceLE, Int.reduceEq, Int.reduceNe, Int.reduceAdd, Int.reduceNeg, Int.reduceToNat] at hK ⊢; exact hK))
  (apply det_pure; · (intro fa ga oa K' hK; simp (config := { maxSteps := 1000000 }) only [go_sem, ↓reduceIte, Nat.reduceEqDiff, Nat.reduceAdd, Nat.reduceMul, Nat.reduceSub, Nat.reduceLT, Nat.reduceLeDiff, Int.reduceLT, Int.reduceLE, Int.reduceEq, Int.reduceNe, Int.reduceAdd, Int.reduceNeg, Int.reduceToNat] at hK ⊢; exact hK))
  (apply det_new; · (intro fa ga oa K' hK; simp (config := { maxSteps := 1000000 }) only [go_sem, ↓reduceIte, Nat.reduceEqDiff, Nat.reduceAdd, Nat.reduceMul, Nat.reduceSub, Nat.reduceLT, Nat.reduceLeDiff, Int.reduceLT, Int.reduceLE, Int.reduceEq, Int.reduceNe, Int.reduceAdd, Int.reduceNeg, Int.reduceToNat] at hK ⊢; exact hK))
  apply det_last
  intro K' hK'
  simp (config := { maxSteps := 1000000 }) only [go_sem, ↓reduceIte, Nat.reduceEqDiff, Nat.reduceAdd, Nat.reduceMul, Nat.reduceSub, Nat.reduceLT, Nat.reduceLeDiff, Int.reduceLT, Int.reduceLE, Int.reduceEq, Int.reduceNe, Int.reduceAdd, Int.reduceNeg, Int.reduceToNat]
  refine hK' _ ?_
  clear hK' K'
  simp (config := { maxSteps := 1000000 }) only [go_sem, ↓reduceIte, Nat.reduceEqDiff, Nat.reduceAdd, Nat.reduceMul, Nat.reduceSub, Nat.reduceLT, Nat.reduceLeDiff, Int.reduceLT, Int.reduceLE, Int.reduceEq, Int.reduceNe, Int.reduceAdd, Int.reduceNeg, Int.reduceToNat]
  refine loop_vsB _ (SemVs.trans (vs_claimAt' (t := 23) (o := 23) (b := 100) (j := 2) (sz := 1) (.inr ⟨3, 0, 1, rfl⟩) rfl rfl (by decide)) (vs_claimAt (t := 7) (o := 25) (b := 101) (j := 5) (sz := 1) (off := 0) rfl rfl rfl (by decide)))
    (fun n s => ∃ k : Nat, n + k = 5 ∧ s.f 2 = iv .i64 99 ∧ s.f 6 = .one (.ptr 6 (s.gen 6) 0) ∧ s.f 7 = .one (.ptr 25 (s.gen 25) 0) ∧ (∃ a b c, s.obj 6 = some [.d a, .d b, .d c]) ∧ Ms (.sl ([f0].map sfD)) (.osl 17 (g 17 + 1) 1 0 0) s.gen s.obj k k (eAt k) (lAt k) (oAt k) (cAt k)) 5 ?_ ?_
  · refine ⟨0, rfl, ?_⟩
    simp only [St.claimAt]
    simp (config := { maxSteps := 1000000 }) only [go_sem, ↓reduceIte, Nat.reduceEqDiff, Nat.reduceAdd, Nat.reduceMul, Nat.reduceSub, Nat.reduceLT, Nat.reduceLeDiff, Int.reduceLT, Int.reduceLE, Int.reduceEq, Int.reduceNe, Int.reduceAdd, Int.reduceNeg, Int.reduceToNat]
    refine ⟨⟨_, _, _, rfl, rfl, rfl⟩, ⟨?_, ?_, ⟨[], ?_⟩, ?_⟩⟩
    · simp [upd, oAt, eAt, cAt]
    · simp [upd, lAt]
    · simp [upd, lAt, c32]
    · simp [upd, oAt, c8]
  · rintro n f g1 ob ⟨k, hk, f2, f6, f7, ⟨a, b, c, o6⟩, h⟩
    simp only at f2 f6 f7 o6 h
    have hm := h.m
    by_cases hk5 : k = 5
    · subst hk5
      have ho : ob 101 = some [.d (.int .u8 65)] := h.o
      have hm : ob 25 = some [.d (.int .i64 0), .d (.sl ([f0].map sfD)), .d (.str []), .d (.int .i64 0), .osl 17 (g 17 + 1) 1 0 0, .osl 101 (g1 101) 1 0 1, .d (.int .i64 5), .d (.int .i64 1), .osl 23 (g1 23) 3 0 0] := hm
      simp (config := { maxSteps := 1000000 }) only [go_sem, ↓reduceIte, Nat.reduceEqDiff, Nat.reduceAdd, Nat.reduceMul, Nat.reduceSub, Nat.reduceLT, Nat.reduceLeDiff, Int.reduceLT, Int.reduceLE, Int.reduceEq, Int.reduceNe, Int.reduceAdd, Int.reduceNeg, Int.reduceToNat, f2, f6, f7, hm]
      refine draw_introB (by decide +kernel) ?_
      simp (config := { maxSteps := 1000000 }) only [go_sem, ↓reduceIte, Nat.reduceEqDiff, Nat.reduceAdd, Nat.reduceMul, Nat.reduceSub, Nat.reduceLT, Nat.reduceLeDiff, Int.reduceLT, Int.reduceLE, Int.reduceEq, Int.reduceNe, Int.reduceAdd, Int.reduceNeg, Int.reduceToNat, f2, f6, f7, hm, ho, o6, setAt]
      refine ⟨_, ⟨[.int .i64 1, .str [65], .int .i64 5], rfl, fun i c hc => ?_, rfl⟩, rfl⟩
      match i, hc with
      | 0, hc => cases hc; exact ⟨_, rfl, .d _⟩
      | 1, hc => cases hc; exact ⟨_, rfl, .d _⟩
      | 2, hc => cases hc; exact ⟨_, rfl, .d _⟩
    · have he : eAt k = 0 := by unfold eAt; rw [if_pos (by omega)]
      have hc : cAt k = 1 := by unfold cAt; rw [if_pos (by omega)]
      rw [he, hc] at h
      rw [he, hc] at hm
      obtain ⟨x, d, hx, hd⟩ := does_at k (by omega)
      have h99 : ¬ (99 : Int) ≤ k := by omega
      simp (config := { maxSteps := 1000000 }) only [go_sem, ↓reduceIte, Nat.reduceEqDiff, Nat.reduceAdd, Nat.reduceMul, Nat.reduceSub, Nat.reduceLT, Nat.reduceLeDiff, Int.reduceLT, Int.reduceLE, Int.reduceEq, Int.reduceNe, Int.reduceAdd, Int.reduceNeg, Int.reduceToNat, f2, f6, f7, hm, h99]
      refine hook_fun rfl (step_A (fs := [f0]) (fx := f0) rfl rfl h rfl hx hd (lAt_len k) (oAt_len k) (by omega) (by omega)) ?_
      rintro _ g2 ob2 ⟨rfl, h2, e25, q⟩
      have q6 := q 6 (by decide) (by decide) (by decide) (by decide) (by decide)
      simp (config := { maxSteps := 1000000 }) only [go_sem, ↓reduceIte, Nat.reduceEqDiff, Nat.reduceAdd, Nat.reduceMul, Nat.reduceSub, Nat.reduceLT, Nat.reduceLeDiff, Int.reduceLT, Int.reduceLE, Int.reduceEq, Int.reduceNe, Int.reduceAdd, Int.reduceNeg, Int.reduceToNat, f2, f6, f7]
      refine round_endB (n - 1) (by omega) ⟨k + 1, by omega, ?_⟩
      simp (config := { maxSteps := 1000000 }) only [go_sem, ↓reduceIte, Nat.reduceEqDiff, Nat.reduceAdd, Nat.reduceMul, Nat.reduceSub, Nat.reduceLT, Nat.reduceLeDiff, Int.reduceLT, Int.reduceLE, Int.reduceEq, Int.reduceNe, Int.reduceAdd, Int.reduceNeg, Int.reduceToNat, f2, f6, f7, q6.2, e25]
      exact ⟨⟨a, b, c, q6.1.trans o6⟩, h2⟩

end Go.Proofs.Ythengcpckdlpgaa
