/- GraphReaches. -/
import Derived.Test.YtfhmibodjfpdfaaG16
set_option linter.unusedSimpArgs false
set_option linter.unusedVariables false
namespace Go.Proofs.Ytfhmibodjfpdfaa
open Go Go.Am

theorem mem_behindOf {S : List Bool} {i n k : Nat} : k ∈ behindOf S i n ↔ k < n ∧ sn S k = true ∧ k ≠ i := by
  simp [behindOf]

theorem behindOf_sorted (S : List Bool) (i n : Nat) : (behindOf S i n).Pairwise (· < ·) := by
  unfold behindOf
  exact List.Pairwise.sublist List.filter_sublist List.pairwise_lt_range

theorem sorted_get {l : List Nat} (h : l.Pairwise (· < ·)) {i j a b : Nat} (hi : l[i]? = some a) (hj : l[j]? = some b) (hij : i < j) : a < b := by
  obtain ⟨h1, e1⟩ := List.getElem?_eq_some_iff.1 hi
  obtain ⟨h2, e2⟩ := List.getElem?_eq_some_iff.1 hj
  have := List.pairwise_iff_getElem.1 h i j h1 h2 hij
  rw [e1, e2] at this; exact this

set_option maxHeartbeats 8000000 in
set_option maxRecDepth 100000 in
theorem GraphReaches_A (xs : List (List Int)) (h1 : xs.length ≤ 140737488355328) (h2 : ∀ r ∈ xs, r.length ≤ 140737488355328) (i : Nat) (hi : i < 256) : PureR Try.prog 9 [.one (.d (intss xs)), iv .u8 i] (· = bv true) := by
  refine pure_of_wp Tt_ok mixed Try.func9 rfl (by rfl) [4] rfl (by kernel_rfl) (by simp [Try.ntmps9]) fun g => ?_
  simp (config := { maxSteps := 1000000 }) only [go_sem, ↓reduceIte, Nat.reduceEqDiff, Nat.reduceAdd, Nat.reduceMul, Nat.reduceSub, Nat.reduceLT, Nat.reduceLeDiff, Int.reduceLT, Int.reduceLE, Int.reduceEq, Int.reduceNe, Int.reduceAdd, Int.reduceNeg, Int.reduceToNat, intss]
  refine hook_call rfl (Few_A xs 300 (by decide) h1 h2) (by rfl) ?_
  rintro _ rfl
  by_cases hf : total xs ≤ 300
  · have hb := fits_total (by decide) hf
    have hbn := hb.n
    by_cases h0 : (xs.length : Int) = 0
    · simp (config := { maxSteps := 1000000 }) only [go_sem, ↓reduceIte, Nat.reduceEqDiff, Nat.reduceAdd, Nat.reduceMul, Nat.reduceSub, Nat.reduceLT, Nat.reduceLeDiff, Int.reduceLT, Int.reduceLE, Int.reduceEq, Int.reduceNe, Int.reduceAdd, Int.reduceNeg, Int.reduceToNat, hf, h0]
      refine hook_call rfl awake_A (by rfl) ?_
      rintro _ rfl
      simp (config := { maxSteps := 1000000 }) only [go_sem, ↓reduceIte, Nat.reduceEqDiff, Nat.reduceAdd, Nat.reduceMul, Nat.reduceSub, Nat.reduceLT, Nat.reduceLeDiff, Int.reduceLT, Int.reduceLE, Int.reduceEq, Int.reduceNe, Int.reduceAdd, Int.reduceNeg, Int.reduceToNat]
    · simp (config := { maxSteps := 1000000 }) only [go_sem, ↓reduceIte, Nat.reduceEqDiff, Nat.reduceAdd, Nat.reduceMul, Nat.reduceSub, Nat.reduceLT, Nat.reduceLeDiff, Int.reduceLT, Int.reduceLE, Int.reduceEq, Int.reduceNe, Int.reduceAdd, Int.reduceNeg, Int.reduceToNat, hf, h0]
      refine hook_call rfl (Right_A xs hb) (by rfl) ?_
      rintro _ rfl
      by_cases hR : Right xs
      · obtain ⟨ys, rfl, hRt⟩ := hR.nat
        obtain ⟨hbn, hrows⟩ := rows_toI hb
        have hyl : (toI ys).length = ys.length := by simp [toI]
        rw [hyl] at h0
        have hint := intss_toI ys
        simp only [intss] at hint
        have hmod : IntKind.i64.wrap (i : Int) = (i : Int) := by rw [wrap_i64] <;> omega
        have hal : i % ys.length < ys.length := Nat.mod_lt _ (by omega)
        have hRtI : Right (toI ys) := hR
        simp (config := { maxSteps := 1000000 }) only [go_sem, ↓reduceIte, Nat.reduceEqDiff, Nat.reduceAdd, Nat.reduceMul, Nat.reduceSub, Nat.reduceLT, Nat.reduceLeDiff, Int.reduceLT, Int.reduceLE, Int.reduceEq, Int.reduceNe, Int.reduceAdd, Int.reduceNeg, Int.reduceToNat, hRtI, hint, natss, hmod, h0, tmod_nat]
        generalize hat : i % ys.length = at' at *
        have hBA := Behind_A (toI ys) hb at'
        rw [intss_toI] at hBA
        refine hook_call rfl hBA (by rfl) ?_
        rintro r (⟨hn, _⟩ | ⟨zs, j, S, e, _, e2, _, hSl, hS, rfl⟩)
        · exact absurd ⟨hR, by omega, by rw [hyl]; omega⟩ hn
        obtain rfl := toI_inj e
        have : j = at' := by omega
        subst this
        have hlen := behindOf_len S j ys.length
        have hsort := behindOf_sorted S j ys.length
        have hmem := fun k => mem_behindOf (S := S) (i := j) (n := ys.length) (k := k)
        generalize hL : behindOf S j ys.length = L at *
        simp (config := { maxSteps := 1000000 }) only [go_sem, ↓reduceIte, Nat.reduceEqDiff, Nat.reduceAdd, Nat.reduceMul, Nat.reduceSub, Nat.reduceLT, Nat.reduceLeDiff, Int.reduceLT, Int.reduceLE, Int.reduceEq, Int.reduceNe, Int.reduceAdd, Int.reduceNeg, Int.reduceToNat, nats, bcells_rep]
        refine ⟨Nat.le_refl _, by omega, by omega, ?_⟩
        refine loop_introB (fun n s => ∃ k : Nat, n + k = L.length ∧ s.f 0 = .one (.d (natss ys)) ∧ s.f 5 = iv .i64 j ∧ s.f 6 = .one (.d (nats L)) ∧ s.f 8 = .one (.osl 42 (s.gen 42) 1 0 ys.length) ∧ s.f 9 = iv .i64 k ∧
          s.obj 42 = some (bcells (marks (L.take k) (List.replicate ys.length false)))) L.length ?_ ?_
        · refine ⟨0, ?_⟩
          simp (config := { maxSteps := 1000000 }) only [go_sem, ↓reduceIte, Nat.reduceEqDiff, Nat.reduceAdd, Nat.reduceMul, Nat.reduceSub, Nat.reduceLT, Nat.reduceLeDiff, Int.reduceLT, Int.reduceLE, Int.reduceEq, Int.reduceNe, Int.reduceAdd, Int.reduceNeg, Int.reduceToNat, natss, nats]
          rfl
        · rintro n f g ob ⟨k, hk, f0, f5, f6, f8, f9, o42⟩
          simp only at f0 f5 f6 f8 f9 o42
          have hw := wrap_succ (k := k) (by omega)
          by_cases hlt : k < L.length
          · obtain ⟨a, ha⟩ := getq hlt
            obtain ⟨ha1, ha2, ha3⟩ := (hmem a).1 (List.mem_of_getElem? ha)
            have hna : ¬ ((a : Nat) : Int) < 0 := by omega
            have hnb : ¬ (ys.length : Int) ≤ (a : Int) := by omega
            have hnj : ¬ (a : Int) = (j : Int) := by omega
            have htk : L.take (k + 1) = L.take k ++ [a] := by rw [List.take_add_one, ha]; rfl
            have ha1' : a + 1 ≤ ys.length := ha1
            simp (config := { maxSteps := 1000000 }) only [go_sem, ↓reduceIte, Nat.reduceEqDiff, Nat.reduceAdd, Nat.reduceMul, Nat.reduceSub, Nat.reduceLT, Nat.reduceLeDiff, Int.reduceLT, Int.reduceLE, Int.reduceEq, Int.reduceNe, Int.reduceAdd, Int.reduceNeg, Int.reduceToNat, f0, f5, f6, f8, f9, o42, natss, nats, hlt]
            refine draw_introB (by decide +kernel) ?_
            by_cases hk0 : k = 0
            · subst hk0
              simp (config := { maxSteps := 1000000 }) only [go_sem, ↓reduceIte, Nat.reduceEqDiff, Nat.reduceAdd, Nat.reduceMul, Nat.reduceSub, Nat.reduceLT, Nat.reduceLeDiff, Int.reduceLT, Int.reduceLE, Int.reduceEq, Int.reduceNe, Int.reduceAdd, Int.reduceNeg, Int.reduceToNat, f0, f5, f6, f8, f9, o42, natss, nats, ha, hna, hnb, hnj, ha3, Int.natCast_inj, bcells_len, marks_len, List.length_replicate, ha1, ha1', bcells_set, hw, Int.lt_irrefl]
              refine round_endB (n - 1) (by omega) ⟨0 + 1, by omega, ?_⟩
              simp (config := { maxSteps := 1000000 }) only [go_sem, ↓reduceIte, Nat.reduceEqDiff, Nat.reduceAdd, Nat.reduceMul, Nat.reduceSub, Nat.reduceLT, Nat.reduceLeDiff, Int.reduceLT, Int.reduceLE, Int.reduceEq, Int.reduceNe, Int.reduceAdd, Int.reduceNeg, Int.reduceToNat, f0, f5, f6, f8, natss, nats, htk, marks_snoc]
              exact ⟨wrap_i64 1 (by decide) (by decide), rfl⟩
            · have hpos : (0 : Int) < (k : Int) := by omega
              obtain ⟨b, hb⟩ := getq (show k - 1 < L.length by omega)
              have hwp : IntKind.i64.wrap ((k : Int) - 1) = ((k - 1 : Nat) : Int) := by rw [wrap_i64] <;> omega
              have hba := sorted_get hsort hb ha (by omega)
              have hnba : ¬ (a : Int) ≤ (b : Int) := by omega
              have hk1 : 0 ≤ ((k - 1 : Nat) : Int) := by omega
              simp (config := { maxSteps := 1000000 }) only [go_sem, ↓reduceIte, Nat.reduceEqDiff, Nat.reduceAdd, Nat.reduceMul, Nat.reduceSub, Nat.reduceLT, Nat.reduceLeDiff, Int.reduceLT, Int.reduceLE, Int.reduceEq, Int.reduceNe, Int.reduceAdd, Int.reduceNeg, Int.reduceToNat, f0, f5, f6, f8, f9, o42, natss, nats, ha, hna, hnb, hnj, ha3, hpos, hwp, hb, hnba, Int.natCast_inj, bcells_len, marks_len, List.length_replicate, ha1, ha1', bcells_set, hw]
              refine round_endB (n - 1) (by omega) ⟨k + 1, by omega, ?_⟩
              simp (config := { maxSteps := 1000000 }) only [go_sem, ↓reduceIte, Nat.reduceEqDiff, Nat.reduceAdd, Nat.reduceMul, Nat.reduceSub, Nat.reduceLT, Nat.reduceLeDiff, Int.reduceLT, Int.reduceLE, Int.reduceEq, Int.reduceNe, Int.reduceAdd, Int.reduceNeg, Int.reduceToNat, f0, f5, f6, f8, natss, nats, htk, marks_snoc]
          · rw [List.take_of_length_le (by omega)] at o42
            have hin : ∀ m, m < ys.length → Reach ys j m → m ≠ j → (bcells (marks L (List.replicate ys.length false)))[m]? = some (.d (.bool true)) := fun m hm hr hne => by
              refine bcells_get ?_
              rw [marks_get (by simpa using hm), if_pos ((hmem m).2 ⟨hm, (hS m).2 hr, hne⟩)]
            obtain ⟨ra, hra⟩ := getq hal
            have hrow := row_of hra
            have hral := hrows ra (List.mem_of_getElem? hra)
            simp (config := { maxSteps := 1000000 }) only [go_sem, ↓reduceIte, Nat.reduceEqDiff, Nat.reduceAdd, Nat.reduceMul, Nat.reduceSub, Nat.reduceLT, Nat.reduceLeDiff, Int.reduceLT, Int.reduceLE, Int.reduceEq, Int.reduceNe, Int.reduceAdd, Int.reduceNeg, Int.reduceToNat, f0, f5, f6, f8, f9, o42, natss, nats, hlt]
            refine loop_introB (fun n s => ∃ k : Nat, n + k = ra.length ∧ s.f 0 = .one (.d (natss ys)) ∧ s.f 5 = iv .i64 j ∧ s.f 6 = .one (.d (nats L)) ∧ s.f 8 = .one (.osl 42 (s.gen 42) 1 0 ys.length) ∧ s.f 10 = iv .i64 k ∧
              s.obj 42 = some (bcells (marks L (List.replicate ys.length false)))) ra.length ?_ ?_
            · refine ⟨0, ?_⟩
              simp (config := { maxSteps := 1000000 }) only [go_sem, ↓reduceIte, Nat.reduceEqDiff, Nat.reduceAdd, Nat.reduceMul, Nat.reduceSub, Nat.reduceLT, Nat.reduceLeDiff, Int.reduceLT, Int.reduceLE, Int.reduceEq, Int.reduceNe, Int.reduceAdd, Int.reduceNeg, Int.reduceToNat, f0, f5, f6, f8, o42, natss, nats]
            · clear f0 f5 f6 f8 f9 o42
              rintro n2 f g ob ⟨k2, hk2, f0, f5, f6, f8, f10, o42⟩
              simp only at f0 f5 f6 f8 f10 o42
              have hw := wrap_succ (k := k2) (by omega)
              by_cases hlt2 : k2 < ra.length
              · obtain ⟨m, hm⟩ := getq hlt2
                have hmr : m ∈ row ys j := by rw [hrow]; exact List.mem_of_getElem? hm
                have hmn := (hRt.lt hmr).1
                by_cases hmj : m = j
                · simp (config := { maxSteps := 1000000 }) only [go_sem, ↓reduceIte, Nat.reduceEqDiff, Nat.reduceAdd, Nat.reduceMul, Nat.reduceSub, Nat.reduceLT, Nat.reduceLeDiff, Int.reduceLT, Int.reduceLE, Int.reduceEq, Int.reduceNe, Int.reduceAdd, Int.reduceNeg, Int.reduceToNat, f0, f5, f6, f8, f10, o42, natss, nats, hra, hlt2, hm, hmj, hw]
                  refine round_endB (n2 - 1) (by omega) ⟨k2 + 1, by omega, ?_⟩
                  simp (config := { maxSteps := 1000000 }) only [go_sem, ↓reduceIte, Nat.reduceEqDiff, Nat.reduceAdd, Nat.reduceMul, Nat.reduceSub, Nat.reduceLT, Nat.reduceLeDiff, Int.reduceLT, Int.reduceLE, Int.reduceEq, Int.reduceNe, Int.reduceAdd, Int.reduceNeg, Int.reduceToNat, f0, f5, f6, f8, o42, natss, nats]
                · have hmi := hin m hmn (.base hmr) hmj
                  have hmj' : ¬ (m : Int) = (j : Int) := by omega
                  simp (config := { maxSteps := 1000000 }) only [go_sem, ↓reduceIte, Nat.reduceEqDiff, Nat.reduceAdd, Nat.reduceMul, Nat.reduceSub, Nat.reduceLT, Nat.reduceLeDiff, Int.reduceLT, Int.reduceLE, Int.reduceEq, Int.reduceNe, Int.reduceAdd, Int.reduceNeg, Int.reduceToNat, f0, f5, f6, f8, f10, o42, natss, nats, hra, hlt2, hm, hmj, hmj', hmi, hmn, Int.natCast_inj, hw]
                  refine round_endB (n2 - 1) (by omega) ⟨k2 + 1, by omega, ?_⟩
                  simp (config := { maxSteps := 1000000 }) only [go_sem, ↓reduceIte, Nat.reduceEqDiff, Nat.reduceAdd, Nat.reduceMul, Nat.reduceSub, Nat.reduceLT, Nat.reduceLeDiff, Int.reduceLT, Int.reduceLE, Int.reduceEq, Int.reduceNe, Int.reduceAdd, Int.reduceNeg, Int.reduceToNat, f0, f5, f6, f8, o42, natss, nats]
              · simp (config := { maxSteps := 1000000 }) only [go_sem, ↓reduceIte, Nat.reduceEqDiff, Nat.reduceAdd, Nat.reduceMul, Nat.reduceSub, Nat.reduceLT, Nat.reduceLeDiff, Int.reduceLT, Int.reduceLE, Int.reduceEq, Int.reduceNe, Int.reduceAdd, Int.reduceNeg, Int.reduceToNat, f0, f5, f6, f8, f10, o42, natss, nats, hra, hlt2]
                refine loop_introB (fun n s => ∃ k : Nat, n + k = L.length ∧ s.f 0 = .one (.d (natss ys)) ∧ s.f 5 = iv .i64 j ∧ s.f 6 = .one (.d (nats L)) ∧ s.f 8 = .one (.osl 42 (s.gen 42) 1 0 ys.length) ∧ s.f 11 = iv .i64 k ∧
                  s.obj 42 = some (bcells (marks L (List.replicate ys.length false)))) L.length ?_ ?_
                · refine ⟨0, ?_⟩
                  simp (config := { maxSteps := 1000000 }) only [go_sem, ↓reduceIte, Nat.reduceEqDiff, Nat.reduceAdd, Nat.reduceMul, Nat.reduceSub, Nat.reduceLT, Nat.reduceLeDiff, Int.reduceLT, Int.reduceLE, Int.reduceEq, Int.reduceNe, Int.reduceAdd, Int.reduceNeg, Int.reduceToNat, f0, f5, f6, f8, o42, natss, nats]
                · clear f0 f5 f6 f8 f10 o42
                  rintro n3 f g ob ⟨k3, hk3, f0, f5, f6, f8, f11, o42⟩
                  simp only at f0 f5 f6 f8 f11 o42
                  have hw3 := wrap_succ (k := k3) (by omega)
                  by_cases hlt3 : k3 < L.length
                  · obtain ⟨a, ha⟩ := getq hlt3
                    obtain ⟨ha1, ha2, ha3⟩ := (hmem a).1 (List.mem_of_getElem? ha)
                    have harc := (hS a).1 ha2
                    obtain ⟨rb, hrb⟩ := getq ha1
                    have hrowb := row_of hrb
                    have hrbl := hrows rb (List.mem_of_getElem? hrb)
                    simp (config := { maxSteps := 1000000 }) only [go_sem, ↓reduceIte, Nat.reduceEqDiff, Nat.reduceAdd, Nat.reduceMul, Nat.reduceSub, Nat.reduceLT, Nat.reduceLeDiff, Int.reduceLT, Int.reduceLE, Int.reduceEq, Int.reduceNe, Int.reduceAdd, Int.reduceNeg, Int.reduceToNat, f0, f5, f6, f8, f11, o42, natss, nats, hlt3]
                    refine loop_introB (fun n s => ∃ k : Nat, n + k = rb.length ∧ s.f 0 = .one (.d (natss ys)) ∧ s.f 5 = iv .i64 j ∧ s.f 6 = .one (.d (nats L)) ∧ s.f 8 = .one (.osl 42 (s.gen 42) 1 0 ys.length) ∧ s.f 11 = iv .i64 k3 ∧ s.f 12 = iv .i64 k ∧
                      s.obj 42 = some (bcells (marks L (List.replicate ys.length false)))) rb.length ?_ ?_
                    · refine ⟨0, ?_⟩
                      simp (config := { maxSteps := 1000000 }) only [go_sem, ↓reduceIte, Nat.reduceEqDiff, Nat.reduceAdd, Nat.reduceMul, Nat.reduceSub, Nat.reduceLT, Nat.reduceLeDiff, Int.reduceLT, Int.reduceLE, Int.reduceEq, Int.reduceNe, Int.reduceAdd, Int.reduceNeg, Int.reduceToNat, f0, f5, f6, f8, f11, o42, natss, nats]
                    · clear f0 f5 f6 f8 f11 o42
                      rintro n4 f g ob ⟨k4, hk4, f0, f5, f6, f8, f11, f12, o42⟩
                      simp only at f0 f5 f6 f8 f11 f12 o42
                      have hw4 := wrap_succ (k := k4) (by omega)
                      by_cases hlt4 : k4 < rb.length
                      · obtain ⟨m, hm⟩ := getq hlt4
                        have hmr : m ∈ row ys a := by rw [hrowb]; exact List.mem_of_getElem? hm
                        have hmn := (hRt.lt hmr).1
                        by_cases hmj : m = j
                        · simp (config := { maxSteps := 1000000 }) only [go_sem, ↓reduceIte, Nat.reduceEqDiff, Nat.reduceAdd, Nat.reduceMul, Nat.reduceSub, Nat.reduceLT, Nat.reduceLeDiff, Int.reduceLT, Int.reduceLE, Int.reduceEq, Int.reduceNe, Int.reduceAdd, Int.reduceNeg, Int.reduceToNat, f0, f5, f6, f8, f11, f12, o42, natss, nats, ha, hrb, hlt4, hm, hmj, hw4]
                          refine round_endB (n4 - 1) (by omega) ⟨k4 + 1, by omega, ?_⟩
                          simp (config := { maxSteps := 1000000 }) only [go_sem, ↓reduceIte, Nat.reduceEqDiff, Nat.reduceAdd, Nat.reduceMul, Nat.reduceSub, Nat.reduceLT, Nat.reduceLeDiff, Int.reduceLT, Int.reduceLE, Int.reduceEq, Int.reduceNe, Int.reduceAdd, Int.reduceNeg, Int.reduceToNat, f0, f5, f6, f8, f11, o42, natss, nats]
                        · have hmi := hin m hmn (.step harc hmr) hmj
                          have hmj' : ¬ (m : Int) = (j : Int) := by omega
                          simp (config := { maxSteps := 1000000 }) only [go_sem, ↓reduceIte, Nat.reduceEqDiff, Nat.reduceAdd, Nat.reduceMul, Nat.reduceSub, Nat.reduceLT, Nat.reduceLeDiff, Int.reduceLT, Int.reduceLE, Int.reduceEq, Int.reduceNe, Int.reduceAdd, Int.reduceNeg, Int.reduceToNat, f0, f5, f6, f8, f11, f12, o42, natss, nats, ha, hrb, hlt4, hm, hmj, hmj', hmi, hmn, Int.natCast_inj, hw4]
                          refine round_endB (n4 - 1) (by omega) ⟨k4 + 1, by omega, ?_⟩
                          simp (config := { maxSteps := 1000000 }) only [go_sem, ↓reduceIte, Nat.reduceEqDiff, Nat.reduceAdd, Nat.reduceMul, Nat.reduceSub, Nat.reduceLT, Nat.reduceLeDiff, Int.reduceLT, Int.reduceLE, Int.reduceEq, Int.reduceNe, Int.reduceAdd, Int.reduceNeg, Int.reduceToNat, f0, f5, f6, f8, f11, o42, natss, nats]
                      · simp (config := { maxSteps := 1000000 }) only [go_sem, ↓reduceIte, Nat.reduceEqDiff, Nat.reduceAdd, Nat.reduceMul, Nat.reduceSub, Nat.reduceLT, Nat.reduceLeDiff, Int.reduceLT, Int.reduceLE, Int.reduceEq, Int.reduceNe, Int.reduceAdd, Int.reduceNeg, Int.reduceToNat, f0, f5, f6, f8, f11, f12, o42, natss, nats, ha, hrb, hlt4, hw3]
                        refine round_endB (n3 - 1) (by omega) ⟨k3 + 1, by omega, ?_⟩
                        simp (config := { maxSteps := 1000000 }) only [go_sem, ↓reduceIte, Nat.reduceEqDiff, Nat.reduceAdd, Nat.reduceMul, Nat.reduceSub, Nat.reduceLT, Nat.reduceLeDiff, Int.reduceLT, Int.reduceLE, Int.reduceEq, Int.reduceNe, Int.reduceAdd, Int.reduceNeg, Int.reduceToNat, f0, f5, f6, f8, o42, natss, nats]
                  · simp (config := { maxSteps := 1000000 }) only [go_sem, ↓reduceIte, Nat.reduceEqDiff, Nat.reduceAdd, Nat.reduceMul, Nat.reduceSub, Nat.reduceLT, Nat.reduceLeDiff, Int.reduceLT, Int.reduceLE, Int.reduceEq, Int.reduceNe, Int.reduceAdd, Int.reduceNeg, Int.reduceToNat, f0, f5, f6, f8, f11, o42, natss, nats, hlt3]
                    refine hook_call rfl awake_A (by rfl) ?_
                    rintro _ rfl
                    simp (config := { maxSteps := 1000000 }) only [go_sem, ↓reduceIte, Nat.reduceEqDiff, Nat.reduceAdd, Nat.reduceMul, Nat.reduceSub, Nat.reduceLT, Nat.reduceLeDiff, Int.reduceLT, Int.reduceLE, Int.reduceEq, Int.reduceNe, Int.reduceAdd, Int.reduceNeg, Int.reduceToNat]
      · simp (config := { maxSteps := 1000000 }) only [go_sem, ↓reduceIte, Nat.reduceEqDiff, Nat.reduceAdd, Nat.reduceMul, Nat.reduceSub, Nat.reduceLT, Nat.reduceLeDiff, Int.reduceLT, Int.reduceLE, Int.reduceEq, Int.reduceNe, Int.reduceAdd, Int.reduceNeg, Int.reduceToNat, hR]
        refine hook_call rfl awake_A (by rfl) ?_
        rintro _ rfl
        simp (config := { maxSteps := 1000000 }) only [go_sem, ↓reduceIte, Nat.reduceEqDiff, Nat.reduceAdd, Nat.reduceMul, Nat.reduceSub, Nat.reduceLT, Nat.reduceLeDiff, Int.reduceLT, Int.reduceLE, Int.reduceEq, Int.reduceNe, Int.reduceAdd, Int.reduceNeg, Int.reduceToNat]
  · simp (config := { maxSteps := 1000000 }) only [go_sem, ↓reduceIte, Nat.reduceEqDiff, Nat.reduceAdd, Nat.reduceMul, Nat.reduceSub, Nat.reduceLT, Nat.reduceLeDiff, Int.reduceLT, Int.reduceLE, Int.reduceEq, Int.reduceNe, Int.reduceAdd, Int.reduceNeg, Int.reduceToNat, hf]
    refine hook_call rfl awake_A (by rfl) ?_
    rintro _ rfl
    simp (config := { maxSteps := 1000000 }) only [go_sem, ↓reduceIte, Nat.reduceEqDiff, Nat.reduceAdd, Nat.reduceMul, Nat.reduceSub, Nat.reduceLT, Nat.reduceLeDiff, Int.reduceLT, Int.reduceLE, Int.reduceEq, Int.reduceNe, Int.reduceAdd, Int.reduceNeg, Int.reduceToNat]

end Go.Proofs.Ytfhmibodjfpdfaa
