/- The contract of the document's Behind. -/
import Derived.Test.YtfhmibodjfpdfaaG14
set_option linter.unusedSimpArgs false
set_option linter.unusedVariables false
namespace Go.Proofs.Ytfhmibodjfpdfaa
open Go Go.Am

theorem nc_get {L : List Nat} {k x : Nat} (h : L[k]? = some x) : (ncells L)[k]? = some (.d (.int .i64 x)) := ncells_get h

set_option maxHeartbeats 4000000 in
set_option maxRecDepth 100000 in
theorem RBehind_A (xs : List (List Int)) (hb : Fits xs) (i : Int) : PureR Try.prog 20 [.one (.d (intss xs)), iv .i64 i] (BehindOut xs i) := by
  refine pure_of_wp Tt_ok mixed Try.func20 rfl (by rfl) [4, 5] rfl (by kernel_rfl) (by simp [Try.ntmps20]) fun g => ?_
  simp (config := { maxSteps := 1000000 }) only [go_sem, ↓reduceIte, Nat.reduceEqDiff, Nat.reduceAdd, Nat.reduceMul, Nat.reduceSub, Nat.reduceLT, Nat.reduceLeDiff, Int.reduceLT, Int.reduceLE, Int.reduceEq, Int.reduceNe, Int.reduceAdd, Int.reduceNeg, Int.reduceToNat]
  refine hook_call rfl (Right_A xs hb) (by rfl) ?_
  rintro _ rfl
  by_cases hR : Right xs
  · by_cases hi0 : i < 0
    · simp (config := { maxSteps := 1000000 }) only [go_sem, ↓reduceIte, Nat.reduceEqDiff, Nat.reduceAdd, Nat.reduceMul, Nat.reduceSub, Nat.reduceLT, Nat.reduceLeDiff, Int.reduceLT, Int.reduceLE, Int.reduceEq, Int.reduceNe, Int.reduceAdd, Int.reduceNeg, Int.reduceToNat, hR, hi0]
      exact .inl ⟨fun h => by omega, rfl⟩
    · by_cases hin : (xs.length : Int) ≤ i
      · simp (config := { maxSteps := 1000000 }) only [go_sem, ↓reduceIte, Nat.reduceEqDiff, Nat.reduceAdd, Nat.reduceMul, Nat.reduceSub, Nat.reduceLT, Nat.reduceLeDiff, Int.reduceLT, Int.reduceLE, Int.reduceEq, Int.reduceNe, Int.reduceAdd, Int.reduceNeg, Int.reduceToNat, hR, hi0, hin, intss]
        exact .inl ⟨fun h => by omega, rfl⟩
      · obtain ⟨ys, rfl, hRt⟩ := hR.nat
        obtain ⟨hbn, hrows⟩ := rows_toI hb
        have hyl : (toI ys).length = ys.length := by simp [toI]
        rw [hyl] at hin
        obtain ⟨i, rfl⟩ : ∃ k : Nat, i = (k : Int) := ⟨i.toNat, by omega⟩
        have hil : i < ys.length := by omega
        obtain ⟨r0, hr0⟩ := getq hil
        have hrow0 := row_of hr0
        rw [intss_toI]
        have hRtI : Right (toI ys) := hR
        have hwt : ∀ x, (row ys x).length ≤ 1000000 := fun x => by
          by_cases hx : x < ys.length
          · obtain ⟨r, hr⟩ := getq hx
            rw [row_of hr]; exact hrows r (List.mem_of_getElem? hr)
          · rw [row_out (by omega)]; simp
        have hul : ∀ S, unseen (fun x => (row ys x).length) ys.length S ≤ 1000000 * 1000000 := fun S => by
          have := unseen_le (n := ys.length) hwt S
          have h2 : 1000000 * ys.length ≤ 1000000 * 1000000 := Nat.mul_le_mul_left _ hbn
          omega
        have hr0l := hwt i
        rw [hrow0] at hr0l
        simp (config := { maxSteps := 1000000 }) only [go_sem, ↓reduceIte, Nat.reduceEqDiff, Nat.reduceAdd, Nat.reduceMul, Nat.reduceSub, Nat.reduceLT, Nat.reduceLeDiff, Int.reduceLT, Int.reduceLE, Int.reduceEq, Int.reduceNe, Int.reduceAdd, Int.reduceNeg, Int.reduceToNat, hRtI, hi0, hin, natss, bcells_rep, Nat.zero_le, hr0, nats]
        refine ⟨Nat.le_refl _, by omega, by omega, nats_ones r0, room8 (by omega), ?_⟩
        simp only [nats_flat]
        refine loop_introB (fun n s => ∃ (S : List Bool) (L : List Nat) (k : Nat), n + k = unseen (fun x => (row ys x).length) ys.length S + L.length ∧ unseen (fun x => (row ys x).length) ys.length S + L.length ≤ 1000000 + 1000000 * 1000000 ∧ Srch2 ys i S L k ∧ s.f 0 = .one (.d (natss ys)) ∧ s.f 1 = iv .i64 i ∧ s.f 5 = iv .i64 0 ∧
          s.f 6 = .one (.osl 26 (s.gen 26) 1 0 ys.length) ∧ s.f 7 = .one (.osl 27 (s.gen 27) 1 0 L.length) ∧ s.f 8 = iv .i64 k ∧ s.obj 26 = some (bcells S) ∧ s.obj 27 = some (ncells L)) (unseen (fun x => (row ys x).length) ys.length (List.replicate ys.length false) + r0.length) ?_ ?_
        · refine ⟨List.replicate ys.length false, r0, 0, by omega, ?_, by rw [← hrow0]; exact Srch2.init ys i, ?_⟩
          · have := hul (List.replicate ys.length false); omega
          · simp (config := { maxSteps := 1000000 }) only [go_sem, ↓reduceIte, Nat.reduceEqDiff, Nat.reduceAdd, Nat.reduceMul, Nat.reduceSub, Nat.reduceLT, Nat.reduceLeDiff, Int.reduceLT, Int.reduceLE, Int.reduceEq, Int.reduceNe, Int.reduceAdd, Int.reduceNeg, Int.reduceToNat, natss, nats]
        · rintro n f g ob ⟨S, L, k, hn, hle, hS, f0, f1, f5, f6, f7, f8, o26, o27⟩
          simp only at f0 f1 f5 f6 f7 f8 o26 o27
          have hw := wrap_succ (k := k) (by have := hS.le; omega)
          have hsl := hS.len
          by_cases hlt : k < L.length
          · obtain ⟨x, hx⟩ := getq hlt
            have hxn : x < ys.length := (hS.reach x (List.mem_of_getElem? hx)).lt hRt
            obtain ⟨r, hr⟩ := getq hxn
            have hrow := row_of hr
            have hbk := bcells_get (sn_get (S := S) (k := x) (by omega))
            have hxc := nc_get hx
            by_cases hs : sn S x = true
            · simp (config := { maxSteps := 1000000 }) only [go_sem, ↓reduceIte, Nat.reduceEqDiff, Nat.reduceAdd, Nat.reduceMul, Nat.reduceSub, Nat.reduceLT, Nat.reduceLeDiff, Int.reduceLT, Int.reduceLE, Int.reduceEq, Int.reduceNe, Int.reduceAdd, Int.reduceNeg, Int.reduceToNat, f0, f1, f5, f6, f7, f8, o26, o27, hlt, hxc, hxn, hbk, hs, hw]
              refine round_endB (n - 1) (by omega) ⟨S, L, k + 1, by omega, hle, hS.skip hx hs, ?_⟩
              simp (config := { maxSteps := 1000000 }) only [go_sem, ↓reduceIte, Nat.reduceEqDiff, Nat.reduceAdd, Nat.reduceMul, Nat.reduceSub, Nat.reduceLT, Nat.reduceLeDiff, Int.reduceLT, Int.reduceLE, Int.reduceEq, Int.reduceNe, Int.reduceAdd, Int.reduceNeg, Int.reduceToNat, f0, f1, f5, f6, f7, o26, o27, natss]
            · have hs : sn S x = false := by simpa using hs
              have hx1 : x + 1 ≤ (bcells S).length := by rw [bcells_len]; omega
              have hun := unseen_set (wt := fun x => (row ys x).length) hsl hxn hs
              simp only [hrow] at hun
              simp (config := { maxSteps := 1000000 }) only [go_sem, ↓reduceIte, Nat.reduceEqDiff, Nat.reduceAdd, Nat.reduceMul, Nat.reduceSub, Nat.reduceLT, Nat.reduceLeDiff, Int.reduceLT, Int.reduceLE, Int.reduceEq, Int.reduceNe, Int.reduceAdd, Int.reduceNeg, Int.reduceToNat, f0, f1, f5, f6, f7, f8, o26, o27, hlt, hxc, hxn, hbk, hs, hw, hx1, bcells_set, natss, hr, nats, ncells_len, ncells_take]
              refine ⟨Nat.le_refl _, nats_ones r, room8 (by omega), round_endB (n - 1) (by omega) ⟨S.set x true, L ++ r, k + 1, by simp; omega, by simp; omega, by rw [← hrow]; exact hS.add hRt hx, ?_⟩⟩
              simp (config := { maxSteps := 1000000 }) only [go_sem, ↓reduceIte, Nat.reduceEqDiff, Nat.reduceAdd, Nat.reduceMul, Nat.reduceSub, Nat.reduceLT, Nat.reduceLeDiff, Int.reduceLT, Int.reduceLE, Int.reduceEq, Int.reduceNe, Int.reduceAdd, Int.reduceNeg, Int.reduceToNat, f0, f1, f5, f6, natss, nats, nats_flat, ncells_app, List.length_append]
          · have hkl : k = L.length := by have := hS.le; omega
            subst hkl
            have hdone := hS.done
            simp (config := { maxSteps := 1000000 }) only [go_sem, ↓reduceIte, Nat.reduceEqDiff, Nat.reduceAdd, Nat.reduceMul, Nat.reduceSub, Nat.reduceLT, Nat.reduceLeDiff, Int.reduceLT, Int.reduceLE, Int.reduceEq, Int.reduceNe, Int.reduceAdd, Int.reduceNeg, Int.reduceToNat, f0, f1, f5, f6, f7, f8, o26, o27, Nat.lt_irrefl]
            refine loop_vsB (St.grab _ 9 80 1) (vs_grab rfl) (fun n s => ∃ k : Nat, n + k = ys.length ∧ s.f 0 = .one (.d (natss ys)) ∧ s.f 1 = iv .i64 i ∧ s.f 9 = .one (.osl 80 (s.gen 80) 1 0 (behindOf S i k).length) ∧ s.f 6 = .one (.osl 26 (s.gen 26) 1 0 ys.length) ∧ s.f 10 = iv .i64 k ∧
              s.obj 26 = some (bcells S) ∧ s.obj 80 = some (ncells (behindOf S i k))) ys.length ?_ ?_
            · refine ⟨0, ?_⟩
              simp (config := { maxSteps := 1000000 }) only [go_sem, ↓reduceIte, Nat.reduceEqDiff, Nat.reduceAdd, Nat.reduceMul, Nat.reduceSub, Nat.reduceLT, Nat.reduceLeDiff, Int.reduceLT, Int.reduceLE, Int.reduceEq, Int.reduceNe, Int.reduceAdd, Int.reduceNeg, Int.reduceToNat, St.grab, f0, f1, f6, o26]
              exact ⟨rfl, rfl⟩
            · clear f0 f1 f5 f6 f7 f8 o26 o27
              rintro n3 f g ob ⟨k, hk, f0, f1, f9, f6, f10, o26, o80⟩
              simp only at f0 f1 f9 f6 f10 o26 o80
              have hw := wrap_succ (k := k) (by omega)
              by_cases hlt : k < ys.length
              · have hbk := bcells_get (sn_get (S := S) (k := k) (by omega))
                have hsc := behindOf_succ S i k
                have hbl := behindOf_len S i k
                by_cases hs : sn S k = true
                · by_cases hki : k = i
                  · subst hki
                    rw [hs] at hsc
                    simp only [Bool.true_and, ne_eq, not_true_eq_false, decide_false, Bool.false_eq_true, if_false] at hsc
                    simp (config := { maxSteps := 1000000 }) only [go_sem, ↓reduceIte, Nat.reduceEqDiff, Nat.reduceAdd, Nat.reduceMul, Nat.reduceSub, Nat.reduceLT, Nat.reduceLeDiff, Int.reduceLT, Int.reduceLE, Int.reduceEq, Int.reduceNe, Int.reduceAdd, Int.reduceNeg, Int.reduceToNat, f0, f1, f9, f6, f10, o26, o80, natss, hlt, hbk, hs, hw]
                    refine round_endB (n3 - 1) (by omega) ⟨k + 1, by omega, ?_⟩
                    simp (config := { maxSteps := 1000000 }) only [go_sem, ↓reduceIte, Nat.reduceEqDiff, Nat.reduceAdd, Nat.reduceMul, Nat.reduceSub, Nat.reduceLT, Nat.reduceLeDiff, Int.reduceLT, Int.reduceLE, Int.reduceEq, Int.reduceNe, Int.reduceAdd, Int.reduceNeg, Int.reduceToNat, f0, f1, f9, f6, o26, o80, natss, hsc]
                  · have hki' : ¬ (k : Int) = (i : Int) := by omega
                    rw [hs] at hsc
                    simp only [Bool.true_and, ne_eq, hki, not_false_eq_true, decide_true, if_true] at hsc
                    simp (config := { maxSteps := 1000000 }) only [go_sem, ↓reduceIte, Nat.reduceEqDiff, Nat.reduceAdd, Nat.reduceMul, Nat.reduceSub, Nat.reduceLT, Nat.reduceLeDiff, Int.reduceLT, Int.reduceLE, Int.reduceEq, Int.reduceNe, Int.reduceAdd, Int.reduceNeg, Int.reduceToNat, f0, f1, f9, f6, f10, o26, o80, natss, hlt, hbk, hs, hki, hki', hw, ncells_len, ncells_take, Int.natCast_inj]
                    refine ⟨Nat.le_refl _, room8 (by omega), round_endB (n3 - 1) (by omega) ⟨k + 1, by omega, ?_⟩⟩
                    simp (config := { maxSteps := 1000000 }) only [go_sem, ↓reduceIte, Nat.reduceEqDiff, Nat.reduceAdd, Nat.reduceMul, Nat.reduceSub, Nat.reduceLT, Nat.reduceLeDiff, Int.reduceLT, Int.reduceLE, Int.reduceEq, Int.reduceNe, Int.reduceAdd, Int.reduceNeg, Int.reduceToNat, f0, f1, f6, o26, natss, hsc, List.length_append, ncells_snoc]
                · have hs : sn S k = false := by simpa using hs
                  rw [hs] at hsc
                  simp only [Bool.false_and, Bool.false_eq_true, if_false] at hsc
                  simp (config := { maxSteps := 1000000 }) only [go_sem, ↓reduceIte, Nat.reduceEqDiff, Nat.reduceAdd, Nat.reduceMul, Nat.reduceSub, Nat.reduceLT, Nat.reduceLeDiff, Int.reduceLT, Int.reduceLE, Int.reduceEq, Int.reduceNe, Int.reduceAdd, Int.reduceNeg, Int.reduceToNat, f0, f1, f9, f6, f10, o26, o80, natss, hlt, hbk, hs, hw]
                  refine round_endB (n3 - 1) (by omega) ⟨k + 1, by omega, ?_⟩
                  simp (config := { maxSteps := 1000000 }) only [go_sem, ↓reduceIte, Nat.reduceEqDiff, Nat.reduceAdd, Nat.reduceMul, Nat.reduceSub, Nat.reduceLT, Nat.reduceLeDiff, Int.reduceLT, Int.reduceLE, Int.reduceEq, Int.reduceNe, Int.reduceAdd, Int.reduceNeg, Int.reduceToNat, f0, f1, f9, f6, o26, o80, natss, hsc]
              · have hke : k = ys.length := by omega
                subst hke
                simp (config := { maxSteps := 1000000 }) only [go_sem, ↓reduceIte, Nat.reduceEqDiff, Nat.reduceAdd, Nat.reduceMul, Nat.reduceSub, Nat.reduceLT, Nat.reduceLeDiff, Int.reduceLT, Int.reduceLE, Int.reduceEq, Int.reduceNe, Int.reduceAdd, Int.reduceNeg, Int.reduceToNat, f0, f1, f9, f6, f10, o26, o80, natss, Nat.lt_irrefl]
                refine ⟨_, ⟨_, frz_nats rfl ?_ rfl, rfl⟩, .inr ⟨ys, i, S, rfl, hRt, rfl, hil, hsl, hdone, rfl⟩⟩
                simp (config := { maxSteps := 1000000 }) only [go_sem, ↓reduceIte, Nat.reduceEqDiff, Nat.reduceAdd, Nat.reduceMul, Nat.reduceSub, Nat.reduceLT, Nat.reduceLeDiff, Int.reduceLT, Int.reduceLE, Int.reduceEq, Int.reduceNe, Int.reduceAdd, Int.reduceNeg, Int.reduceToNat, o80]
  · simp (config := { maxSteps := 1000000 }) only [go_sem, ↓reduceIte, Nat.reduceEqDiff, Nat.reduceAdd, Nat.reduceMul, Nat.reduceSub, Nat.reduceLT, Nat.reduceLeDiff, Int.reduceLT, Int.reduceLE, Int.reduceEq, Int.reduceNe, Int.reduceAdd, Int.reduceNeg, Int.reduceToNat, hR]
    exact .inl ⟨fun h => hR h.1, rfl⟩

end Go.Proofs.Ytfhmibodjfpdfaa
