/- The contract of Behind. -/
import Derived.Test.YtfhmibodjfpdfaaGB
import Derived.Test.YtfhmibodjfpdfaaG12
set_option linter.unusedSimpArgs false
set_option linter.unusedVariables false
namespace Go.Proofs.Ytfhmibodjfpdfaa
open Go Go.Am

def BehindOut (xs : List (List Int)) (i : Int) (r : AV) : Prop :=
  (¬ (Right xs ∧ 0 ≤ i ∧ i < (xs.length : Int)) ∧ r = .tup [.one (.d (.sl [])), iv .i64 1]) ∨
  ∃ (ys : List (List Nat)) (i' : Nat) (S : List Bool), xs = toI ys ∧ Rt ys ∧ i = (i' : Int) ∧ i' < ys.length ∧ S.length = ys.length ∧ (∀ k, sn S k = true ↔ Reach ys i' k) ∧ r = .tup [.one (.d (nats (behindOf S i' ys.length))), iv .i64 0]

theorem unseen_le {wt : Nat → Nat} {c n : Nat} (hw : ∀ x, wt x ≤ c) (S : List Bool) : unseen wt n S ≤ c * n := by
  unfold unseen
  induction n with
  | zero => simp
  | succ n ih =>
    rw [List.range_succ, List.map_append, List.sum_append]
    have : (if sn S n = true then 0 else wt n) ≤ c := by split; omega; exact hw n
    simp only [List.map_cons, List.map_nil, List.sum_cons, List.sum_nil]
    rw [Nat.mul_add]; omega

theorem rows_toI {ys : List (List Nat)} (hb : Fits (toI ys)) : ys.length ≤ 1000000 ∧ ∀ r ∈ ys, r.length ≤ 1000000 := by
  have h1 := hb.n
  refine ⟨by simpa [toI] using h1, fun r hr => ?_⟩
  have := hb.rows (r.map fun m : Nat => (m : Int)) (by simp only [toI, List.mem_map]; exact ⟨r, hr, rfl⟩)
  simpa using this

theorem nc_last {T : List Nat} {k : Nat} {rest : List C} : (ncells (T ++ [k]) ++ rest)[T.length]? = some (.d (.int .i64 k)) := by
  rw [ncells_snoc, List.append_assoc, List.getElem?_append_right (by rw [ncells_len]; exact Nat.le_refl _), ncells_len, Nat.sub_self]; rfl
theorem nc_take {T : List Nat} {rest : List C} : (ncells T ++ rest).take T.length = ncells T := by
  rw [List.take_append_of_le_length (by rw [ncells_len]; exact Nat.le_refl _), ← ncells_len (l := T), List.take_length]

set_option maxHeartbeats 4000000 in
set_option maxRecDepth 100000 in
theorem Behind_A (xs : List (List Int)) (hb : Fits xs) (i : Int) : PureR Try.prog 19 [.one (.d (intss xs)), iv .i64 i] (BehindOut xs i) := by
  refine pure_of_wp Tt_ok mixed Try.func19 rfl (by rfl) [4, 5] rfl (by kernel_rfl) (by simp [Try.ntmps19]) fun g => ?_
  simp (config := { maxSteps := 1000000 }) only [go_sem, ↓reduceIte, Nat.reduceEqDiff, Nat.reduceAdd, Nat.reduceMul, Nat.reduceSub, Nat.reduceLT, Nat.reduceLeDiff, Int.reduceLT, Int.reduceLE, Int.reduceEq, Int.reduceNe, Int.reduceAdd, Int.reduceNeg, Int.reduceToNat]
  refine hook_call rfl (mayBe_A xs hb) (by rfl) ?_
  rintro _ rfl
  by_cases hR : Right xs
  · by_cases hi0 : i < 0
    · simp (config := { maxSteps := 1000000 }) only [go_sem, ↓reduceIte, Nat.reduceEqDiff, Nat.reduceAdd, Nat.reduceMul, Nat.reduceSub, Nat.reduceLT, Nat.reduceLeDiff, Int.reduceLT, Int.reduceLE, Int.reduceEq, Int.reduceNe, Int.reduceAdd, Int.reduceNeg, Int.reduceToNat, hR, hi0]
      exact .inl ⟨fun h => by omega, rfl⟩
    · by_cases hin : (xs.length : Int) ≤ i
      · simp (config := { maxSteps := 1000000 }) only [go_sem, ↓reduceIte, Nat.reduceEqDiff, Nat.reduceAdd, Nat.reduceMul, Nat.reduceSub, Nat.reduceLT, Nat.reduceLeDiff, Int.reduceLT, Int.reduceLE, Int.reduceEq, Int.reduceNe, Int.reduceAdd, Int.reduceNeg, Int.reduceToNat, hR, hi0, hin, intss]
        exact .inl ⟨fun h => by omega, rfl⟩
      · obtain ⟨ys, rfl, hRt⟩ := hR.nat
        obtain ⟨hbn, hrows⟩ := rows_toI hb
        have hyl : (toI ys).length = ys.length := by simp [toI]
        rw [hyl] at hin
        obtain ⟨i, rfl⟩ : ∃ k : Nat, i = (k : Int) := ⟨i.toNat, by omega⟩
        have hil : i < ys.length := by omega
        rw [intss_toI]
        have hRtI : Right (toI ys) := hR
        simp (config := { maxSteps := 1000000 }) only [go_sem, ↓reduceIte, Nat.reduceEqDiff, Nat.reduceAdd, Nat.reduceMul, Nat.reduceSub, Nat.reduceLT, Nat.reduceLeDiff, Int.reduceLT, Int.reduceLE, Int.reduceEq, Int.reduceNe, Int.reduceAdd, Int.reduceNeg, Int.reduceToNat, hRtI, hi0, hin, natss, bcells_rep]
        refine ⟨Nat.le_refl _, by omega, by omega, ?_⟩
        refine loop_introB (fun n s => ∃ (S : List Bool) (T : List Nat) (rest : List C), n = unseen (fun _ => 2) ys.length S + T.length ∧ n ≤ 2 * ys.length + 1 ∧ Srch ys i S T none ∧ s.f 0 = .one (.d (natss ys)) ∧ s.f 1 = iv .i64 i ∧ s.f 5 = iv .i64 0 ∧
          s.f 6 = .one (.osl 29 (s.gen 29) 1 0 ys.length) ∧ s.f 7 = .one (.osl 31 (s.gen 31) 1 0 T.length) ∧ s.obj 29 = some (bcells S) ∧ s.obj 31 = some (ncells T ++ rest)) (unseen (fun _ => 2) ys.length (List.replicate ys.length false) + 1) ?_ ?_
        · refine ⟨List.replicate ys.length false, [i], [], by simp, ?_, Srch.init hil, ?_⟩
          · have := unseen_le (wt := fun _ => 2) (c := 2) (n := ys.length) (fun _ => Nat.le_refl _) (List.replicate ys.length false)
            omega
          · simp (config := { maxSteps := 1000000 }) only [go_sem, ↓reduceIte, Nat.reduceEqDiff, Nat.reduceAdd, Nat.reduceMul, Nat.reduceSub, Nat.reduceLT, Nat.reduceLeDiff, Int.reduceLT, Int.reduceLE, Int.reduceEq, Int.reduceNe, Int.reduceAdd, Int.reduceNeg, Int.reduceToNat, natss, ncells, List.map_cons, List.map_nil]
        · rintro n f g ob ⟨S, T, rest, hn, hle, hS, f0, f1, f5, f6, f7, o29, o31⟩
          simp only at f0 f1 f5 f6 f7 o29 o31
          rcases List.eq_nil_or_concat T with rfl | ⟨T, k, rfl⟩
          · simp (config := { maxSteps := 1000000 }) only [go_sem, ↓reduceIte, Nat.reduceEqDiff, Nat.reduceAdd, Nat.reduceMul, Nat.reduceSub, Nat.reduceLT, Nat.reduceLeDiff, Int.reduceLT, Int.reduceLE, Int.reduceEq, Int.reduceNe, Int.reduceAdd, Int.reduceNeg, Int.reduceToNat, f0, f1, f5, f6, f7, o29, o31]
            refine loop_vsB (St.grab _ 11 84 1) (vs_grab rfl) (fun n s => ∃ k : Nat, n + k = ys.length ∧ s.f 1 = iv .i64 i ∧ s.f 11 = .one (.osl 84 (s.gen 84) 1 0 (behindOf S i k).length) ∧ s.f 68 = .one (.osl 29 (s.gen 29) 1 0 ys.length) ∧ s.f 69 = iv .i64 ys.length ∧ s.f 70 = iv .i64 k ∧
              s.obj 29 = some (bcells S) ∧ s.obj 84 = some (ncells (behindOf S i k))) ys.length ?_ ?_
            · refine ⟨0, ?_⟩
              simp (config := { maxSteps := 1000000 }) only [go_sem, ↓reduceIte, Nat.reduceEqDiff, Nat.reduceAdd, Nat.reduceMul, Nat.reduceSub, Nat.reduceLT, Nat.reduceLeDiff, Int.reduceLT, Int.reduceLE, Int.reduceEq, Int.reduceNe, Int.reduceAdd, Int.reduceNeg, Int.reduceToNat, St.grab, f1, o29]
              exact ⟨rfl, rfl⟩
            · rintro n3 f g ob ⟨k, hk, f1, f11, f68, f69, f70, o29, o84⟩
              simp only at f1 f11 f68 f69 f70 o29 o84
              have hw := wrap_succ (k := k) (by omega)
              have hsl := hS.len
              by_cases hlt : k < ys.length
              · have hbk := bcells_get (sn_get (S := S) (k := k) (by omega))
                have hsc := behindOf_succ S i k
                have hbl := behindOf_len S i k
                by_cases hs : sn S k = true
                · by_cases hki : k = i
                  · subst hki
                    rw [hs] at hsc
                    simp only [Bool.true_and, ne_eq, not_true_eq_false, decide_false, Bool.false_eq_true, if_false] at hsc
                    simp (config := { maxSteps := 1000000 }) only [go_sem, ↓reduceIte, Nat.reduceEqDiff, Nat.reduceAdd, Nat.reduceMul, Nat.reduceSub, Nat.reduceLT, Nat.reduceLeDiff, Int.reduceLT, Int.reduceLE, Int.reduceEq, Int.reduceNe, Int.reduceAdd, Int.reduceNeg, Int.reduceToNat, f1, f11, f68, f69, f70, o29, o84, hlt, hbk, hs, hw]
                    refine round_endB (n3 - 1) (by omega) ⟨k + 1, by omega, ?_⟩
                    simp (config := { maxSteps := 1000000 }) only [go_sem, ↓reduceIte, Nat.reduceEqDiff, Nat.reduceAdd, Nat.reduceMul, Nat.reduceSub, Nat.reduceLT, Nat.reduceLeDiff, Int.reduceLT, Int.reduceLE, Int.reduceEq, Int.reduceNe, Int.reduceAdd, Int.reduceNeg, Int.reduceToNat, f1, f11, f68, f69, o29, o84, hsc]
                  · have hki' : ¬ (k : Int) = (i : Int) := by omega
                    rw [hs] at hsc
                    simp only [Bool.true_and, ne_eq, hki, not_false_eq_true, decide_true, if_true] at hsc
                    simp (config := { maxSteps := 1000000 }) only [go_sem, ↓reduceIte, Nat.reduceEqDiff, Nat.reduceAdd, Nat.reduceMul, Nat.reduceSub, Nat.reduceLT, Nat.reduceLeDiff, Int.reduceLT, Int.reduceLE, Int.reduceEq, Int.reduceNe, Int.reduceAdd, Int.reduceNeg, Int.reduceToNat, f1, f11, f68, f69, f70, o29, o84, hlt, hbk, hs, hki, hki', hw, ncells_len, ncells_take, Int.natCast_inj]
                    refine ⟨Nat.le_refl _, room8 (by omega), round_endB (n3 - 1) (by omega) ⟨k + 1, by omega, ?_⟩⟩
                    simp (config := { maxSteps := 1000000 }) only [go_sem, ↓reduceIte, Nat.reduceEqDiff, Nat.reduceAdd, Nat.reduceMul, Nat.reduceSub, Nat.reduceLT, Nat.reduceLeDiff, Int.reduceLT, Int.reduceLE, Int.reduceEq, Int.reduceNe, Int.reduceAdd, Int.reduceNeg, Int.reduceToNat, f1, f68, f69, o29, hsc, List.length_append, ncells_snoc]
                · have hs : sn S k = false := by simpa using hs
                  rw [hs] at hsc
                  simp only [Bool.false_and, Bool.false_eq_true, if_false] at hsc
                  simp (config := { maxSteps := 1000000 }) only [go_sem, ↓reduceIte, Nat.reduceEqDiff, Nat.reduceAdd, Nat.reduceMul, Nat.reduceSub, Nat.reduceLT, Nat.reduceLeDiff, Int.reduceLT, Int.reduceLE, Int.reduceEq, Int.reduceNe, Int.reduceAdd, Int.reduceNeg, Int.reduceToNat, f1, f11, f68, f69, f70, o29, o84, hlt, hbk, hs, hw]
                  refine round_endB (n3 - 1) (by omega) ⟨k + 1, by omega, ?_⟩
                  simp (config := { maxSteps := 1000000 }) only [go_sem, ↓reduceIte, Nat.reduceEqDiff, Nat.reduceAdd, Nat.reduceMul, Nat.reduceSub, Nat.reduceLT, Nat.reduceLeDiff, Int.reduceLT, Int.reduceLE, Int.reduceEq, Int.reduceNe, Int.reduceAdd, Int.reduceNeg, Int.reduceToNat, f1, f11, f68, f69, o29, o84, hsc]
              · have hke : k = ys.length := by omega
                subst hke
                simp (config := { maxSteps := 1000000 }) only [go_sem, ↓reduceIte, Nat.reduceEqDiff, Nat.reduceAdd, Nat.reduceMul, Nat.reduceSub, Nat.reduceLT, Nat.reduceLeDiff, Int.reduceLT, Int.reduceLE, Int.reduceEq, Int.reduceNe, Int.reduceAdd, Int.reduceNeg, Int.reduceToNat, f1, f11, f68, f69, f70, o29, o84, Nat.lt_irrefl]
                refine ⟨_, ⟨_, frz_nats rfl ?_ rfl, rfl⟩, .inr ⟨ys, i, S, rfl, hRt, rfl, hil, hS.len, hS.done, rfl⟩⟩
                simp (config := { maxSteps := 1000000 }) only [go_sem, ↓reduceIte, Nat.reduceEqDiff, Nat.reduceAdd, Nat.reduceMul, Nat.reduceSub, Nat.reduceLT, Nat.reduceLeDiff, Int.reduceLT, Int.reduceLE, Int.reduceEq, Int.reduceNe, Int.reduceAdd, Int.reduceNeg, Int.reduceToNat, o84]
          · rw [List.concat_eq_append] at *
            have hkn : k < ys.length := hS.lt k (by simp)
            obtain ⟨r, hr⟩ := getq hkn
            have hrow := row_of hr
            have hrl := hrows r (List.mem_of_getElem? hr)
            have hTl : (T ++ [k]).length = T.length + 1 := by simp
            have hwp : IntKind.i64.wrap (((T.length + 1 : Nat) : Int) - 1) = ((T.length : Nat) : Int) := by rw [wrap_i64] <;> omega
            have hpos : 0 < T.length + 1 := by omega
            have hpll : ((T.length : Nat) : Int) < ((T.length + 1 : Nat) : Int) := by omega
            rw [hTl] at hn
            simp (config := { maxSteps := 1000000 }) only [go_sem, ↓reduceIte, Nat.reduceEqDiff, Nat.reduceAdd, Nat.reduceMul, Nat.reduceSub, Nat.reduceLT, Nat.reduceLeDiff, Int.reduceLT, Int.reduceLE, Int.reduceEq, Int.reduceNe, Int.reduceAdd, Int.reduceNeg, Int.reduceToNat, f0, f1, f5, f6, f7, o29, o31, hTl, hwp, hpos, hpll, Int.natCast_pos, nc_last, natss, hr, nats, Nat.zero_le, Nat.le_succ]
            refine loop_introB (fun n2 s => ∃ (S : List Bool) (T : List Nat) (rest : List C) (idx : Nat), n2 + idx = r.length ∧ unseen (fun _ => 2) ys.length S + T.length < n ∧ Srch ys i S T (some (k, idx)) ∧ s.f 0 = .one (.d (natss ys)) ∧ s.f 1 = iv .i64 i ∧ s.f 5 = iv .i64 0 ∧
              s.f 6 = .one (.osl 29 (s.gen 29) 1 0 ys.length) ∧ s.f 7 = .one (.osl 31 (s.gen 31) 1 0 T.length) ∧ s.f 49 = .one (.d (nats r)) ∧ s.f 50 = iv .i64 r.length ∧ s.f 51 = iv .i64 idx ∧ s.obj 29 = some (bcells S) ∧ s.obj 31 = some (ncells T ++ rest)) r.length ?_ ?_
            · refine ⟨S, T, .d (.int .i64 k) :: rest, 0, by omega, by omega, hS.pop, ?_⟩
              simp (config := { maxSteps := 1000000 }) only [go_sem, ↓reduceIte, Nat.reduceEqDiff, Nat.reduceAdd, Nat.reduceMul, Nat.reduceSub, Nat.reduceLT, Nat.reduceLeDiff, Int.reduceLT, Int.reduceLE, Int.reduceEq, Int.reduceNe, Int.reduceAdd, Int.reduceNeg, Int.reduceToNat, f0, f1, f5, f6, o29, o31, natss, nats, ncells_snoc, List.append_assoc]
            · clear f0 f1 f5 f6 f7 o29 o31 hS hn hTl hwp hpos hpll
              rintro n2 f g ob ⟨S, T, rest, idx, hn2, hlt, hS, f0, f1, f5, f6, f7, f49, f50, f51, o29, o31⟩
              simp only at f0 f1 f5 f6 f7 f49 f50 f51 o29 o31
              have hw := wrap_succ (k := idx) (by omega)
              by_cases hil2 : idx < r.length
              · obtain ⟨x, hx⟩ := getq hil2
                have hxr : (row ys k)[idx]? = some x := by rw [hrow]; exact hx
                have hxn : x < ys.length := (hRt.lt (List.mem_of_getElem? hxr)).1
                have hsl := hS.len
                have hbk := bcells_get (sn_get (S := S) (k := x) (by omega))
                by_cases hs : sn S x = true
                · simp (config := { maxSteps := 1000000 }) only [go_sem, ↓reduceIte, Nat.reduceEqDiff, Nat.reduceAdd, Nat.reduceMul, Nat.reduceSub, Nat.reduceLT, Nat.reduceLeDiff, Int.reduceLT, Int.reduceLE, Int.reduceEq, Int.reduceNe, Int.reduceAdd, Int.reduceNeg, Int.reduceToNat, f0, f1, f5, f6, f7, f49, f50, f51, o29, o31, hil2, nats, hx, hxn, hbk, hs, hw]
                  refine round_endB (n2 - 1) (by omega) ⟨S, T, rest, idx + 1, by omega, hlt, hS.skip hxr hs, ?_⟩
                  simp (config := { maxSteps := 1000000 }) only [go_sem, ↓reduceIte, Nat.reduceEqDiff, Nat.reduceAdd, Nat.reduceMul, Nat.reduceSub, Nat.reduceLT, Nat.reduceLeDiff, Int.reduceLT, Int.reduceLE, Int.reduceEq, Int.reduceNe, Int.reduceAdd, Int.reduceNeg, Int.reduceToNat, f0, f1, f5, f6, f7, f49, f50, o29, o31, nats]
                · have hs : sn S x = false := by simpa using hs
                  have hx1 : x + 1 ≤ (bcells S).length := by rw [bcells_len]; omega
                  have hun := unseen_set (wt := fun _ => 2) hsl hxn hs
                  have hcl : T.length ≤ (ncells T).length + rest.length := by rw [ncells_len]; omega
                  simp (config := { maxSteps := 1000000 }) only [go_sem, ↓reduceIte, Nat.reduceEqDiff, Nat.reduceAdd, Nat.reduceMul, Nat.reduceSub, Nat.reduceLT, Nat.reduceLeDiff, Int.reduceLT, Int.reduceLE, Int.reduceEq, Int.reduceNe, Int.reduceAdd, Int.reduceNeg, Int.reduceToNat, f0, f1, f5, f6, f7, f49, f50, f51, o29, o31, hil2, nats, hx, hxn, hbk, hs, hw, hx1, bcells_set, List.length_append, nc_take]
                  refine ⟨hcl, room8 (by omega), round_endB (n2 - 1) (by omega) ⟨S.set x true, T ++ [x], [], idx + 1, by omega, by simp; omega, hS.push hRt hxr, ?_⟩⟩
                  simp (config := { maxSteps := 1000000 }) only [go_sem, ↓reduceIte, Nat.reduceEqDiff, Nat.reduceAdd, Nat.reduceMul, Nat.reduceSub, Nat.reduceLT, Nat.reduceLeDiff, Int.reduceLT, Int.reduceLE, Int.reduceEq, Int.reduceNe, Int.reduceAdd, Int.reduceNeg, Int.reduceToNat, f0, f1, f5, f6, f49, f50, nats, ncells_snoc, List.length_append, List.append_nil]
              · simp (config := { maxSteps := 1000000 }) only [go_sem, ↓reduceIte, Nat.reduceEqDiff, Nat.reduceAdd, Nat.reduceMul, Nat.reduceSub, Nat.reduceLT, Nat.reduceLeDiff, Int.reduceLT, Int.reduceLE, Int.reduceEq, Int.reduceNe, Int.reduceAdd, Int.reduceNeg, Int.reduceToNat, f0, f1, f5, f6, f7, f49, f50, f51, o29, o31, hil2]
                refine round_endB (unseen (fun _ => 2) ys.length S + T.length) (by omega) ⟨S, T, rest, rfl, by omega, hS.next (by rw [hrow]; omega), ?_⟩
                simp (config := { maxSteps := 1000000 }) only [go_sem, ↓reduceIte, Nat.reduceEqDiff, Nat.reduceAdd, Nat.reduceMul, Nat.reduceSub, Nat.reduceLT, Nat.reduceLeDiff, Int.reduceLT, Int.reduceLE, Int.reduceEq, Int.reduceNe, Int.reduceAdd, Int.reduceNeg, Int.reduceToNat, f0, f1, f5, f6, f7, o29, o31, natss, nats]
  · simp (config := { maxSteps := 1000000 }) only [go_sem, ↓reduceIte, Nat.reduceEqDiff, Nat.reduceAdd, Nat.reduceMul, Nat.reduceSub, Nat.reduceLT, Nat.reduceLeDiff, Int.reduceLT, Int.reduceLE, Int.reduceEq, Int.reduceNe, Int.reduceAdd, Int.reduceNeg, Int.reduceToNat, hR]
    exact .inl ⟨fun h => hR h.1, rfl⟩

end Go.Proofs.Ytfhmibodjfpdfaa
