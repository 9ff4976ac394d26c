/- GraphLevels and GraphCircles. -/
import Derived.Test.YtfhmibodjfpdfaaG11
set_option linter.unusedSimpArgs false
set_option linter.unusedVariables false
namespace Go.Proofs.Ytfhmibodjfpdfaa
open Go Go.Am

theorem LevelsOut.same {xs : List (List Int)} {r r' : AV} (h : LevelsOut xs r) (h' : LevelsOut xs r') : r = r' := by
  rcases h with ⟨hn, rfl⟩ | ⟨ys, rfl, hR, h⟩
  · rcases h' with ⟨_, rfl⟩ | ⟨ys, rfl, hR, _⟩
    · rfl
    · exfalso
      refine hn fun r hr m hm => ?_
      simp only [toI, List.mem_map] at hr
      obtain ⟨r0, hr0, rfl⟩ := hr
      obtain ⟨m0, hm0, rfl⟩ := List.mem_map.1 hm
      have := hR r0 hr0 m0 hm0
      simp [toI]; omega
  · rcases h' with ⟨hn, _⟩ | ⟨zs, e, hR', h'⟩
    · exfalso
      refine hn fun r hr m hm => ?_
      simp only [toI, List.mem_map] at hr
      obtain ⟨r0, hr0, rfl⟩ := hr
      obtain ⟨m0, hm0, rfl⟩ := List.mem_map.1 hm
      have := hR r0 hr0 m0 hm0
      simp [toI]; omega
    · obtain rfl := toI_inj e
      rcases h with ⟨lv, h1, rfl⟩ | ⟨hno, rfl⟩ <;> rcases h' with ⟨lv', h1', rfl⟩ | ⟨hno', rfl⟩
      · rw [IsLv.unique hR h1 h1']
      · exact absurd ⟨_, h1⟩ hno'
      · exact absurd ⟨_, h1'⟩ hno
      · rfl

/-- Order's result, by Levels'. -/
theorem OrderOut.same {xs : List (List Int)} {r r' : AV} (h : OrderOut xs r) (h' : OrderOut xs r') : r = r' := by
  rcases h with ⟨hn, rfl⟩ | ⟨ys, rfl, hR, h⟩
  · rcases h' with ⟨_, rfl⟩ | ⟨ys, rfl, hR, _⟩
    · rfl
    · exfalso
      refine hn fun r hr m hm => ?_
      simp only [toI, List.mem_map] at hr
      obtain ⟨r0, hr0, rfl⟩ := hr
      obtain ⟨m0, hm0, rfl⟩ := List.mem_map.1 hm
      have := hR r0 hr0 m0 hm0
      simp [toI]; omega
  · rcases h' with ⟨hn, _⟩ | ⟨zs, e, hR', h'⟩
    · exfalso
      refine hn fun r hr m hm => ?_
      simp only [toI, List.mem_map] at hr
      obtain ⟨r0, hr0, rfl⟩ := hr
      obtain ⟨m0, hm0, rfl⟩ := List.mem_map.1 hm
      have := hR r0 hr0 m0 hm0
      simp [toI]; omega
    · obtain rfl := toI_inj e
      rcases h with ⟨lv, h1, rfl⟩ | ⟨hno, rfl⟩ <;> rcases h' with ⟨lv', h1', rfl⟩ | ⟨hno', rfl⟩
      · rw [IsLv.unique hR h1 h1']
      · exact absurd ⟨_, h1⟩ hno'
      · exact absurd ⟨_, h1'⟩ hno
      · rfl

theorem OrderOut.form {xs : List (List Int)} (hbn : xs.length ≤ 1000000) {r : AV} (h : OrderOut xs r) : ∃ (l : List Nat) (e : Int), r = .tup [.one (.d (nats l)), iv .i64 e] ∧ l.length ≤ 1000000 := by
  rcases h with ⟨hn, rfl⟩ | ⟨ys, rfl, hR, ⟨lv, h1, rfl⟩ | ⟨_, rfl⟩⟩
  · exact ⟨[], 1, rfl, by simp⟩
  · refine ⟨_, 0, rfl, ?_⟩
    have h2 := groups_flat (lv := lv)
    have h3 := h1.len
    have : (toI ys).length = ys.length := by simp [toI]
    omega
  · exact ⟨[], 11, rfl, by simp⟩

theorem total_row {xs : List (List Int)} : ∀ r ∈ xs, r.length ≤ (xs.map List.length).sum := by
  induction xs with
  | nil => intro r h; cases h
  | cons x xs ih =>
    intro r h
    rcases List.mem_cons.1 h with rfl | h
    · simp
    · have := ih r h; simp only [List.map_cons, List.sum_cons]; omega

theorem fits_total {xs : List (List Int)} {m : Nat} (hm : m ≤ 1000000) (h : total xs ≤ m) : Fits xs := by
  unfold total at h
  exact ⟨by omega, fun r hr => by have := total_row r hr; omega⟩

theorem Same_N (l m : List Nat) (hl : l.length ≤ 1000000) (hm : m.length ≤ 1000000) : PureR Try.prog 15 [.one (.d (nats l)), .one (.d (nats m))] (· = bv (decide (l = m))) := by
  have h := Same_A (l.map fun m : Nat => (m : Int)) (m.map fun m : Nat => (m : Int)) (by simpa using hl) (by simpa using hm)
  rw [ints_nats, ints_nats] at h
  have e : ((l.map fun m : Nat => (m : Int)) = (m.map fun m : Nat => (m : Int))) ↔ l = m := ⟨fun h => (List.map_inj_right (fun a b h => Int.ofNat_inj.1 h)).1 h, fun h => h ▸ rfl⟩
  simpa only [e] using h

set_option maxHeartbeats 4000000 in
set_option maxRecDepth 100000 in
theorem GraphLevels_A (xs : List (List Int)) (h1 : xs.length ≤ 140737488355328) (h2 : ∀ r ∈ xs, r.length ≤ 140737488355328) : PureR Try.prog 5 [.one (.d (intss xs))] (· = bv true) := by
  refine pure_of_wp Tt_ok mixed Try.func5 rfl (by rfl) [2] rfl (by kernel_rfl) (by simp [Try.ntmps5]) fun g => ?_
  simp (config := { maxSteps := 1000000 }) only [go_sem, ↓reduceIte, Nat.reduceEqDiff, Nat.reduceAdd, Nat.reduceMul, Nat.reduceSub, Nat.reduceLT, Nat.reduceLeDiff, Int.reduceLT, Int.reduceLE, Int.reduceEq, Int.reduceNe, Int.reduceAdd, Int.reduceNeg, Int.reduceToNat, intss]
  refine hook_call rfl (Few_A xs 300 (by decide) h1 h2) (by rfl) ?_
  rintro _ rfl
  by_cases hf : total xs ≤ 300
  · have hb := fits_total (by decide) hf
    have hbn := hb.n
    simp (config := { maxSteps := 1000000 }) only [go_sem, ↓reduceIte, Nat.reduceEqDiff, Nat.reduceAdd, Nat.reduceMul, Nat.reduceSub, Nat.reduceLT, Nat.reduceLeDiff, Int.reduceLT, Int.reduceLE, Int.reduceEq, Int.reduceNe, Int.reduceAdd, Int.reduceNeg, Int.reduceToNat, hf]
    refine hook_call rfl (Levels_A xs hb) (by rfl) ?_
    intro r hr
    obtain ⟨gs, e, rfl, hgf, hgl, hgo⟩ := hr.flat hbn
    simp (config := { maxSteps := 1000000 }) only [go_sem, ↓reduceIte, Nat.reduceEqDiff, Nat.reduceAdd, Nat.reduceMul, Nat.reduceSub, Nat.reduceLT, Nat.reduceLeDiff, Int.reduceLT, Int.reduceLE, Int.reduceEq, Int.reduceNe, Int.reduceAdd, Int.reduceNeg, Int.reduceToNat]
    refine hook_call rfl (RLevels_A xs hb) (by rfl) ?_
    intro r' hr'
    obtain rfl := hr.same hr'
    have hrow : ∀ l ∈ gs, l.length ≤ 1000000 := fun l hl => by
      have : l.length ≤ gs.flatten.length := by
        rw [List.length_flatten]
        clear hr hr' hgo hgl hgf
        induction gs with
        | nil => cases hl
        | cons a gs ih =>
          rcases List.mem_cons.1 hl with rfl | hl
          · simp
          · have := ih hl; simp only [List.map_cons, List.sum_cons]; omega
      omega
    simp (config := { maxSteps := 1000000 }) only [go_sem, ↓reduceIte, Nat.reduceEqDiff, Nat.reduceAdd, Nat.reduceMul, Nat.reduceSub, Nat.reduceLT, Nat.reduceLeDiff, Int.reduceLT, Int.reduceLE, Int.reduceEq, Int.reduceNe, Int.reduceAdd, Int.reduceNeg, Int.reduceToNat, natss, not_true_eq_false, decide_false]
    refine loop_introB (fun n s => ∃ k : Nat, n + k = gs.length ∧ s.f 0 = .one (.d (intss xs)) ∧ s.f 3 = .one (.d (natss gs)) ∧ s.f 5 = .one (.d (natss gs)) ∧ s.f 7 = iv .i64 k) gs.length ?_ ?_
    · refine ⟨0, ?_⟩
      simp (config := { maxSteps := 1000000 }) only [go_sem, ↓reduceIte, Nat.reduceEqDiff, Nat.reduceAdd, Nat.reduceMul, Nat.reduceSub, Nat.reduceLT, Nat.reduceLeDiff, Int.reduceLT, Int.reduceLE, Int.reduceEq, Int.reduceNe, Int.reduceAdd, Int.reduceNeg, Int.reduceToNat, natss, intss]
    · rintro n f g ob ⟨k, hk, f0, f3, f5, f7⟩
      simp only at f0 f3 f5 f7
      have hw := wrap_succ (k := k) (by omega)
      by_cases hlt : k < gs.length
      · obtain ⟨l, hl⟩ := getq hlt
        have hll := hrow l (List.mem_of_getElem? hl)
        simp (config := { maxSteps := 1000000 }) only [go_sem, ↓reduceIte, Nat.reduceEqDiff, Nat.reduceAdd, Nat.reduceMul, Nat.reduceSub, Nat.reduceLT, Nat.reduceLeDiff, Int.reduceLT, Int.reduceLE, Int.reduceEq, Int.reduceNe, Int.reduceAdd, Int.reduceNeg, Int.reduceToNat, f0, f3, f5, f7, natss, hlt, hl]
        refine draw_calls Tt_ok mixed (by decide +kernel) ?_
        simp (config := { maxSteps := 1000000 }) only [go_sem, ↓reduceIte, Nat.reduceEqDiff, Nat.reduceAdd, Nat.reduceMul, Nat.reduceSub, Nat.reduceLT, Nat.reduceLeDiff, Int.reduceLT, Int.reduceLE, Int.reduceEq, Int.reduceNe, Int.reduceAdd, Int.reduceNeg, Int.reduceToNat, f0, f3, f5, f7, natss, hlt, hl]
        refine quiet_call rfl (Same_N l l hll hll) (frzVs_data rfl) rfl ?_
        simp (config := { maxSteps := 1000000 }) only [go_sem, ↓reduceIte, Nat.reduceEqDiff, Nat.reduceAdd, Nat.reduceMul, Nat.reduceSub, Nat.reduceLT, Nat.reduceLeDiff, Int.reduceLT, Int.reduceLE, Int.reduceEq, Int.reduceNe, Int.reduceAdd, Int.reduceNeg, Int.reduceToNat, f0, f3, f5, f7, natss, hlt, hl, hw]
        refine round_endB (n - 1) (by omega) ⟨k + 1, by omega, ?_⟩
        simp (config := { maxSteps := 1000000 }) only [go_sem, ↓reduceIte, Nat.reduceEqDiff, Nat.reduceAdd, Nat.reduceMul, Nat.reduceSub, Nat.reduceLT, Nat.reduceLeDiff, Int.reduceLT, Int.reduceLE, Int.reduceEq, Int.reduceNe, Int.reduceAdd, Int.reduceNeg, Int.reduceToNat, f0, f3, f5, natss]
      · simp (config := { maxSteps := 1000000 }) only [go_sem, ↓reduceIte, Nat.reduceEqDiff, Nat.reduceAdd, Nat.reduceMul, Nat.reduceSub, Nat.reduceLT, Nat.reduceLeDiff, Int.reduceLT, Int.reduceLE, Int.reduceEq, Int.reduceNe, Int.reduceAdd, Int.reduceNeg, Int.reduceToNat, f0, f3, f5, f7, natss, hlt, intss]
        refine hook_call rfl (Order_A xs hb) (by rfl) ?_
        intro r hr
        obtain ⟨l, e, rfl, hl⟩ := hr.form hbn
        simp (config := { maxSteps := 1000000 }) only [go_sem, ↓reduceIte, Nat.reduceEqDiff, Nat.reduceAdd, Nat.reduceMul, Nat.reduceSub, Nat.reduceLT, Nat.reduceLeDiff, Int.reduceLT, Int.reduceLE, Int.reduceEq, Int.reduceNe, Int.reduceAdd, Int.reduceNeg, Int.reduceToNat, f0, intss]
        refine hook_call rfl (ROrder_A xs hb) (by rfl) ?_
        intro r' hr'
        obtain rfl := hr.same hr'
        simp (config := { maxSteps := 1000000 }) only [go_sem, ↓reduceIte, Nat.reduceEqDiff, Nat.reduceAdd, Nat.reduceMul, Nat.reduceSub, Nat.reduceLT, Nat.reduceLeDiff, Int.reduceLT, Int.reduceLE, Int.reduceEq, Int.reduceNe, Int.reduceAdd, Int.reduceNeg, Int.reduceToNat, nats]
        refine hook_call rfl awake_A (by rfl) ?_
        rintro _ rfl
        simp (config := { maxSteps := 1000000 }) only [go_sem, ↓reduceIte, Nat.reduceEqDiff, Nat.reduceAdd, Nat.reduceMul, Nat.reduceSub, Nat.reduceLT, Nat.reduceLeDiff, Int.reduceLT, Int.reduceLE, Int.reduceEq, Int.reduceNe, Int.reduceAdd, Int.reduceNeg, Int.reduceToNat]
        refine hook_call rfl (Same_N l l hl hl) (by rfl) ?_
        rintro _ rfl
        simp (config := { maxSteps := 1000000 }) only [go_sem, ↓reduceIte, Nat.reduceEqDiff, Nat.reduceAdd, Nat.reduceMul, Nat.reduceSub, Nat.reduceLT, Nat.reduceLeDiff, Int.reduceLT, Int.reduceLE, Int.reduceEq, Int.reduceNe, Int.reduceAdd, Int.reduceNeg, Int.reduceToNat]
  · simp (config := { maxSteps := 1000000 }) only [go_sem, ↓reduceIte, Nat.reduceEqDiff, Nat.reduceAdd, Nat.reduceMul, Nat.reduceSub, Nat.reduceLT, Nat.reduceLeDiff, Int.reduceLT, Int.reduceLE, Int.reduceEq, Int.reduceNe, Int.reduceAdd, Int.reduceNeg, Int.reduceToNat, hf]
    refine hook_call rfl awake_A (by rfl) ?_
    rintro _ rfl
    simp (config := { maxSteps := 1000000 }) only [go_sem, ↓reduceIte, Nat.reduceEqDiff, Nat.reduceAdd, Nat.reduceMul, Nat.reduceSub, Nat.reduceLT, Nat.reduceLeDiff, Int.reduceLT, Int.reduceLE, Int.reduceEq, Int.reduceNe, Int.reduceAdd, Int.reduceNeg, Int.reduceToNat]

set_option maxHeartbeats 4000000 in
set_option maxRecDepth 100000 in
theorem GraphCircles_A (xs : List (List Int)) (h1 : xs.length ≤ 140737488355328) (h2 : ∀ r ∈ xs, r.length ≤ 140737488355328) : PureR Try.prog 7 [.one (.d (intss xs))] (· = bv true) := by
  refine pure_of_wp Tt_ok mixed Try.func7 rfl (by rfl) [2] rfl (by kernel_rfl) (by simp [Try.ntmps7]) fun g => ?_
  simp (config := { maxSteps := 1000000 }) only [go_sem, ↓reduceIte, Nat.reduceEqDiff, Nat.reduceAdd, Nat.reduceMul, Nat.reduceSub, Nat.reduceLT, Nat.reduceLeDiff, Int.reduceLT, Int.reduceLE, Int.reduceEq, Int.reduceNe, Int.reduceAdd, Int.reduceNeg, Int.reduceToNat, intss]
  refine hook_call rfl (Few_A xs 300 (by decide) h1 h2) (by rfl) ?_
  rintro _ rfl
  by_cases hf : total xs ≤ 300
  · have hb := fits_total (by decide) hf
    have hbn := hb.n
    simp (config := { maxSteps := 1000000 }) only [go_sem, ↓reduceIte, Nat.reduceEqDiff, Nat.reduceAdd, Nat.reduceMul, Nat.reduceSub, Nat.reduceLT, Nat.reduceLeDiff, Int.reduceLT, Int.reduceLE, Int.reduceEq, Int.reduceNe, Int.reduceAdd, Int.reduceNeg, Int.reduceToNat, hf]
    refine hook_call rfl (Circle_A xs hb) (by rfl) ?_
    rintro _ ⟨c, rfl, hc⟩
    simp (config := { maxSteps := 1000000 }) only [go_sem, ↓reduceIte, Nat.reduceEqDiff, Nat.reduceAdd, Nat.reduceMul, Nat.reduceSub, Nat.reduceLT, Nat.reduceLeDiff, Int.reduceLT, Int.reduceLE, Int.reduceEq, Int.reduceNe, Int.reduceAdd, Int.reduceNeg, Int.reduceToNat, nats]
    refine hook_call rfl (Order_A xs hb) (by rfl) ?_
    intro r hr
    rcases hc with ⟨hn, rfl⟩ | ⟨ys, rfl, hR, hc⟩
    · rcases hr with ⟨_, rfl⟩ | ⟨ys, rfl, hR, _⟩
      · simp (config := { maxSteps := 1000000 }) only [go_sem, ↓reduceIte, Nat.reduceEqDiff, Nat.reduceAdd, Nat.reduceMul, Nat.reduceSub, Nat.reduceLT, Nat.reduceLeDiff, Int.reduceLT, Int.reduceLE, Int.reduceEq, Int.reduceNe, Int.reduceAdd, Int.reduceNeg, Int.reduceToNat]
        refine hook_call rfl awake_A (by rfl) ?_
        rintro _ rfl
        simp (config := { maxSteps := 1000000 }) only [go_sem, ↓reduceIte, Nat.reduceEqDiff, Nat.reduceAdd, Nat.reduceMul, Nat.reduceSub, Nat.reduceLT, Nat.reduceLeDiff, Int.reduceLT, Int.reduceLE, Int.reduceEq, Int.reduceNe, Int.reduceAdd, Int.reduceNeg, Int.reduceToNat, List.map_nil]
      · exact absurd (by
          intro r hr m hm
          simp only [toI, List.mem_map] at hr
          obtain ⟨r0, hr0, rfl⟩ := hr
          obtain ⟨m0, hm0, rfl⟩ := List.mem_map.1 hm
          have := hR r0 hr0 m0 hm0
          simp [toI]; omega) hn
    · rcases hr with ⟨hn, _⟩ | ⟨zs, e, hR', hr⟩
      · exact absurd (by
          intro r hr m hm
          simp only [toI, List.mem_map] at hr
          obtain ⟨r0, hr0, rfl⟩ := hr
          obtain ⟨m0, hm0, rfl⟩ := List.mem_map.1 hm
          have := hR r0 hr0 m0 hm0
          simp [toI]; omega) hn
      · obtain rfl := toI_inj e
        rcases hc with ⟨rfl, hlv⟩ | hc
        · rcases hr with ⟨lv, h1, rfl⟩ | ⟨hno, _⟩
          · simp (config := { maxSteps := 1000000 }) only [go_sem, ↓reduceIte, Nat.reduceEqDiff, Nat.reduceAdd, Nat.reduceMul, Nat.reduceSub, Nat.reduceLT, Nat.reduceLeDiff, Int.reduceLT, Int.reduceLE, Int.reduceEq, Int.reduceNe, Int.reduceAdd, Int.reduceNeg, Int.reduceToNat]
            refine hook_call rfl awake_A (by rfl) ?_
            rintro _ rfl
            simp (config := { maxSteps := 1000000 }) only [go_sem, ↓reduceIte, Nat.reduceEqDiff, Nat.reduceAdd, Nat.reduceMul, Nat.reduceSub, Nat.reduceLT, Nat.reduceLeDiff, Int.reduceLT, Int.reduceLE, Int.reduceEq, Int.reduceNe, Int.reduceAdd, Int.reduceNeg, Int.reduceToNat, List.map_nil]
          · exact absurd hlv hno
        · rcases hr with ⟨lv, h1, rfl⟩ | ⟨_, rfl⟩
          · exact absurd ⟨_, h1⟩ hc.noLv
          · have hpos : 0 < c.length := List.length_pos_iff.2 hc.ne
            have hne : ¬ c.length = 0 := by omega
            have hne' : ¬ ((c.length : Nat) : Int) = 0 := by omega
            simp (config := { maxSteps := 1000000 }) only [go_sem, ↓reduceIte, Nat.reduceEqDiff, Nat.reduceAdd, Nat.reduceMul, Nat.reduceSub, Nat.reduceLT, Nat.reduceLeDiff, Int.reduceLT, Int.reduceLE, Int.reduceEq, Int.reduceNe, Int.reduceAdd, Int.reduceNeg, Int.reduceToNat]
            refine hook_call rfl awake_A (by rfl) ?_
            rintro _ rfl
            have hint := intss_toI ys
            simp only [intss] at hint
            simp (config := { maxSteps := 1000000 }) only [go_sem, ↓reduceIte, Nat.reduceEqDiff, Nat.reduceAdd, Nat.reduceMul, Nat.reduceSub, Nat.reduceLT, Nat.reduceLeDiff, Int.reduceLT, Int.reduceLE, Int.reduceEq, Int.reduceNe, Int.reduceAdd, Int.reduceNeg, Int.reduceToNat, hpos, hne', Int.natCast_pos, hint]
            refine hook_call rfl (Is_A ys hR hb c hc) (by rfl) ?_
            rintro _ rfl
            simp (config := { maxSteps := 1000000 }) only [go_sem, ↓reduceIte, Nat.reduceEqDiff, Nat.reduceAdd, Nat.reduceMul, Nat.reduceSub, Nat.reduceLT, Nat.reduceLeDiff, Int.reduceLT, Int.reduceLE, Int.reduceEq, Int.reduceNe, Int.reduceAdd, Int.reduceNeg, Int.reduceToNat]
  · simp (config := { maxSteps := 1000000 }) only [go_sem, ↓reduceIte, Nat.reduceEqDiff, Nat.reduceAdd, Nat.reduceMul, Nat.reduceSub, Nat.reduceLT, Nat.reduceLeDiff, Int.reduceLT, Int.reduceLE, Int.reduceEq, Int.reduceNe, Int.reduceAdd, Int.reduceNeg, Int.reduceToNat, hf]
    refine hook_call rfl awake_A (by rfl) ?_
    rintro _ rfl
    simp (config := { maxSteps := 1000000 }) only [go_sem, ↓reduceIte, Nat.reduceEqDiff, Nat.reduceAdd, Nat.reduceMul, Nat.reduceSub, Nat.reduceLT, Nat.reduceLeDiff, Int.reduceLT, Int.reduceLE, Int.reduceEq, Int.reduceNe, Int.reduceAdd, Int.reduceNeg, Int.reduceToNat]

end Go.Proofs.Ytfhmibodjfpdfaa
