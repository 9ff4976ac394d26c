/- GraphLess. -/
import Derived.Test.YtfhmibodjfpdfaaG19
import Derived.Test.YtfhmibodjfpdfaaG14
import Derived.Test.YtfhmibodjfpdfaaG11
set_option linter.unusedSimpArgs false
set_option linter.unusedVariables false
namespace Go.Proofs.Ytfhmibodjfpdfaa
open Go Go.Am

set_option maxHeartbeats 8000000 in
set_option maxRecDepth 100000 in
theorem GraphLess_A (xs : List (List Int)) (h1 : xs.length ≤ 140737488355328) (h2 : ∀ r ∈ xs, r.length ≤ 140737488355328) (i k : Nat) (hi : i < 256) (hk : k < 256) : PureR Try.prog 4 [.one (.d (intss xs)), iv .u8 i, iv .u8 k] (· = bv true) := by
  refine pure_of_wp Tt_ok mixed Try.func4 rfl (by rfl) [6] rfl (by kernel_rfl) (by simp [Try.ntmps4]) fun g => ?_
  simp (config := { maxSteps := 1000000 }) only [go_sem, ↓reduceIte, Nat.reduceEqDiff, Nat.reduceAdd, Nat.reduceMul, Nat.reduceSub, Nat.reduceLT, Nat.reduceLeDiff, Int.reduceLT, Int.reduceLE, Int.reduceEq, Int.reduceNe, Int.reduceAdd, Int.reduceNeg, Int.reduceToNat]
  refine hook_call rfl (Few_A xs 300 (by decide) h1 h2) (by rfl) ?_
  rintro _ rfl
  by_cases hf : total xs ≤ 300
  rotate_left
  · simp (config := { maxSteps := 1000000 }) only [go_sem, ↓reduceIte, Nat.reduceEqDiff, Nat.reduceAdd, Nat.reduceMul, Nat.reduceSub, Nat.reduceLT, Nat.reduceLeDiff, Int.reduceLT, Int.reduceLE, Int.reduceEq, Int.reduceNe, Int.reduceAdd, Int.reduceNeg, Int.reduceToNat, hf]
    refine hook_call rfl awake_A (by rfl) ?_
    rintro _ rfl
    simp (config := { maxSteps := 1000000 }) only [go_sem, ↓reduceIte, Nat.reduceEqDiff, Nat.reduceAdd, Nat.reduceMul, Nat.reduceSub, Nat.reduceLT, Nat.reduceLeDiff, Int.reduceLT, Int.reduceLE, Int.reduceEq, Int.reduceNe, Int.reduceAdd, Int.reduceNeg, Int.reduceToNat]
  have hb := fits_total (by decide) hf
  have hbn := hb.n
  by_cases h0 : (xs.length : Int) = 0
  · simp (config := { maxSteps := 1000000 }) only [go_sem, ↓reduceIte, Nat.reduceEqDiff, Nat.reduceAdd, Nat.reduceMul, Nat.reduceSub, Nat.reduceLT, Nat.reduceLeDiff, Int.reduceLT, Int.reduceLE, Int.reduceEq, Int.reduceNe, Int.reduceAdd, Int.reduceNeg, Int.reduceToNat, hf, h0, intss]
    refine hook_call rfl awake_A (by rfl) ?_
    rintro _ rfl
    simp (config := { maxSteps := 1000000 }) only [go_sem, ↓reduceIte, Nat.reduceEqDiff, Nat.reduceAdd, Nat.reduceMul, Nat.reduceSub, Nat.reduceLT, Nat.reduceLeDiff, Int.reduceLT, Int.reduceLE, Int.reduceEq, Int.reduceNe, Int.reduceAdd, Int.reduceNeg, Int.reduceToNat]
  have hwi : IntKind.i64.wrap (i : Int) = (i : Int) := by rw [wrap_i64] <;> omega
  have hwk : IntKind.i64.wrap (k : Int) = (k : Int) := by rw [wrap_i64] <;> omega
  simp (config := { maxSteps := 1000000 }) only [go_sem, ↓reduceIte, Nat.reduceEqDiff, Nat.reduceAdd, Nat.reduceMul, Nat.reduceSub, Nat.reduceLT, Nat.reduceLeDiff, Int.reduceLT, Int.reduceLE, Int.reduceEq, Int.reduceNe, Int.reduceAdd, Int.reduceNeg, Int.reduceToNat, hf, h0, intss]
  refine hook_call rfl (Levels_A xs hb) (by rfl) ?_
  rintro r (⟨hn, rfl⟩ | ⟨ys, rfl, hR, ⟨lv, hl, rfl⟩ | ⟨hno, rfl⟩⟩)
  · simp (config := { maxSteps := 1000000 }) only [go_sem, ↓reduceIte, Nat.reduceEqDiff, Nat.reduceAdd, Nat.reduceMul, Nat.reduceSub, Nat.reduceLT, Nat.reduceLeDiff, Int.reduceLT, Int.reduceLE, Int.reduceEq, Int.reduceNe, Int.reduceAdd, Int.reduceNeg, Int.reduceToNat, hwi, h0, tmod_nat]
    refine hook_call rfl awake_A (by rfl) ?_
    rintro _ rfl
    simp (config := { maxSteps := 1000000 }) only [go_sem, ↓reduceIte, Nat.reduceEqDiff, Nat.reduceAdd, Nat.reduceMul, Nat.reduceSub, Nat.reduceLT, Nat.reduceLeDiff, Int.reduceLT, Int.reduceLE, Int.reduceEq, Int.reduceNe, Int.reduceAdd, Int.reduceNeg, Int.reduceToNat]
  rotate_left
  · simp (config := { maxSteps := 1000000 }) only [go_sem, ↓reduceIte, Nat.reduceEqDiff, Nat.reduceAdd, Nat.reduceMul, Nat.reduceSub, Nat.reduceLT, Nat.reduceLeDiff, Int.reduceLT, Int.reduceLE, Int.reduceEq, Int.reduceNe, Int.reduceAdd, Int.reduceNeg, Int.reduceToNat, hwi, h0, tmod_nat]
    refine hook_call rfl awake_A (by rfl) ?_
    rintro _ rfl
    simp (config := { maxSteps := 1000000 }) only [go_sem, ↓reduceIte, Nat.reduceEqDiff, Nat.reduceAdd, Nat.reduceMul, Nat.reduceSub, Nat.reduceLT, Nat.reduceLeDiff, Int.reduceLT, Int.reduceLE, Int.reduceEq, Int.reduceNe, Int.reduceAdd, Int.reduceNeg, Int.reduceToNat]
  obtain ⟨hbn, hrows⟩ := rows_toI hb
  have hyl : (toI ys).length = ys.length := by simp [toI]
  rw [hyl] at h0
  have hint := intss_toI ys
  simp only [intss] at hint
  have hat : i % ys.length < ys.length := Nat.mod_lt _ (by omega)
  generalize hatd : i % ys.length = at' at *
  obtain ⟨r, hr⟩ := getq hat
  have hrow := row_of hr
  have hrl := hrows r (List.mem_of_getElem? hr)
  by_cases hr0 : (r.length : Int) = 0
  · simp (config := { maxSteps := 1000000 }) only [go_sem, ↓reduceIte, Nat.reduceEqDiff, Nat.reduceAdd, Nat.reduceMul, Nat.reduceSub, Nat.reduceLT, Nat.reduceLeDiff, Int.reduceLT, Int.reduceLE, Int.reduceEq, Int.reduceNe, Int.reduceAdd, Int.reduceNeg, Int.reduceToNat, hint, natss, hwi, h0, tmod_nat, hatd, hr, nats, hr0]
    refine hook_call rfl awake_A (by rfl) ?_
    rintro _ rfl
    simp (config := { maxSteps := 1000000 }) only [go_sem, ↓reduceIte, Nat.reduceEqDiff, Nat.reduceAdd, Nat.reduceMul, Nat.reduceSub, Nat.reduceLT, Nat.reduceLeDiff, Int.reduceLT, Int.reduceLE, Int.reduceEq, Int.reduceNe, Int.reduceAdd, Int.reduceNeg, Int.reduceToNat]
  have hou : k % r.length < r.length := Nat.mod_lt _ (by omega)
  generalize hod : k % r.length = out at *
  have hflat : ((ys.map fun r => [nats r]).flatten.map C.d) = dcells ys := by
    exact dcells_flat ys
  have hone : ∀ e ∈ ys.map (fun r => [nats r]), e.length = 1 := fun e he => by obtain ⟨_, _, rfl⟩ := List.mem_map.1 he; rfl
  simp (config := { maxSteps := 1000000 }) only [go_sem, ↓reduceIte, Nat.reduceEqDiff, Nat.reduceAdd, Nat.reduceMul, Nat.reduceSub, Nat.reduceLT, Nat.reduceLeDiff, Int.reduceLT, Int.reduceLE, Int.reduceEq, Int.reduceNe, Int.reduceAdd, Int.reduceNeg, Int.reduceToNat, hint, natss, hwi, h0, tmod_nat, hatd, hr, hr0, hwk, hod, nats, hflat]
  refine ⟨hone, ⟨by decide, by omega⟩, cut_D (fun f g ob => f 0 = .one (.d (natss ys)) ∧ f 7 = .one (.d (natss (groups lv))) ∧ f 9 = iv .i64 at' ∧ f 10 = iv .i64 out ∧ f 11 = .one (.osl 59 (g 59) 1 0 ys.length) ∧ ob 59 = some (dcells ys)) ?_ ?_⟩
  · simp only [nats] at hflat
    simp (config := { maxSteps := 1000000 }) only [go_sem, ↓reduceIte, Nat.reduceEqDiff, Nat.reduceAdd, Nat.reduceMul, Nat.reduceSub, Nat.reduceLT, Nat.reduceLeDiff, Int.reduceLT, Int.reduceLE, Int.reduceEq, Int.reduceNe, Int.reduceAdd, Int.reduceNeg, Int.reduceToNat, natss, nats, hflat]
  · clear g
    rintro f g ob ⟨f0, f7, f9, f10, f11, o59⟩
    have hwo : IntKind.i64.wrap ((out : Int) + 1) = ((out + 1 : Nat) : Int) := wrap_succ (by omega)
    have hol : (r.take out).length = out := by simp; omega
    have hlw : out + (r.drop (out + 1)).length = (lrow r out).length := by simp [lrow, hol]
    have hll : (lrow r out).length ≤ 1000000 := by simp [lrow]; omega
    have hat1 : at' + 1 ≤ ys.length := hat
    have hour : out ≤ r.length := by omega
    have hour1 : out + 1 ≤ r.length := hou
    have htk : List.take out (List.map (fun m : Nat => [D.int .i64 m]) r) = (r.take out).map (fun m : Nat => [D.int .i64 m]) := by rw [List.map_take]
    have hdr : List.drop (out + 1) (List.take r.length (List.map (fun m : Nat => [D.int .i64 m]) r)) = (r.drop (out + 1)).map (fun m : Nat => [D.int .i64 m]) := by rw [List.take_of_length_le (by simp), List.map_drop]
    have hto : (ncells (r.take out)).take out = ncells (r.take out) := List.take_of_length_le (by rw [ncells_len, hol]; exact Nat.le_refl _)
    obtain ⟨lw, hw, hwl, hwd⟩ := less_lv hR hl at' out
    refine draw_any Tt_ok mixed (by decide +kernel) (fun L s => (s.f 0 = .one (.d (natss ys))) ∧ (s.f 7 = .one (.d (natss (groups lv)))) ∧ (s.f 9 = iv .i64 at') ∧ (s.f 10 = iv .i64 out) ∧ (s.f 11 = .one (.osl 59 (s.gen 59) 1 0 ys.length)) ∧ (L 0 = true → s.f 62 = .one (.osl 59 (s.gen 59) 1 0 ys.length)) ∧ (L 1 = true → s.f 63 = iv .i64 at') ∧ (L 2 = true → L 9 = false → s.f 64 = .one (.osl 64 (s.gen 64) 1 0 0) ∧ s.obj 64 = some (ncells [])) ∧ (L 3 = true → s.f 65 = .one (.d (natss ys))) ∧ (L 4 = true → s.f 66 = iv .i64 at') ∧ (L 5 = true → s.f 67 = .one (.d (.iptr [nats r]))) ∧ (L 6 = true → s.f 68 = .one (.d (nats r))) ∧ (L 7 = true → s.f 69 = iv .i64 out) ∧ (L 8 = true → s.f 70 = .one (.d (nats (r.take out)))) ∧ (L 9 = true → L 17 = false → s.f 71 = .one (.osl 64 (s.gen 64) 1 0 out) ∧ s.obj 64 = some (ncells (r.take out))) ∧ (L 10 = true → s.f 72 = .one (.d (natss ys))) ∧ (L 11 = true → s.f 73 = iv .i64 at') ∧ (L 12 = true → s.f 74 = .one (.d (.iptr [nats r]))) ∧ (L 13 = true → s.f 75 = .one (.d (nats r))) ∧ (L 14 = true → s.f 76 = iv .i64 out) ∧ (L 15 = true → s.f 77 = iv .i64 ((out + 1 : Nat) : Int)) ∧ (L 16 = true → s.f 78 = .one (.d (nats (r.drop (out + 1))))) ∧ (L 17 = true → s.f 79 = .one (.osl 64 (s.gen 64) 1 0 (lrow r out).length) ∧ s.obj 64 = some (ncells (lrow r out))) ∧ (L 18 = true → s.f 80 = .one (.ptr 59 (s.gen 59) at')) ∧ (L 19 = false → s.obj 59 = some (dcells ys)) ∧ (L 19 = true → s.obj 59 = some ((dcells ys).set at' (.osl 64 (s.gen 64) 1 0 (lrow r out).length)))) ?_ ?_ ?_
    · simp (config := { maxSteps := 1000000 }) only [go_sem, ↓reduceIte, Nat.reduceEqDiff, Nat.reduceAdd, Nat.reduceMul, Nat.reduceSub, Nat.reduceLT, Nat.reduceLeDiff, Int.reduceLT, Int.reduceLE, Int.reduceEq, Int.reduceNe, Int.reduceAdd, Int.reduceNeg, Int.reduceToNat, f0, f7, f9, f10, f11, o59]
    · intro L s i o hI ho hL hdep hid
      obtain ⟨f0, f7, f9, f10, f11, h62, h63, h64, h65, h66, h67, h68, h69, h70, h71, h72, h73, h74, h75, h76, h77, h78, h79, h80, h59, h60⟩ := hI
      match i, ho with
      | 0, ho =>
        simp only [List.getElem?_toArray, List.getElem?_cons_zero, List.getElem?_cons_succ, Option.some.injEq] at ho; subst ho
        simp (config := { maxSteps := 1000000 }) only [go_sem, ↓reduceIte, Nat.reduceEqDiff, Nat.reduceAdd, Nat.reduceMul, Nat.reduceSub, Nat.reduceLT, Nat.reduceLeDiff, Int.reduceLT, Int.reduceLE, Int.reduceEq, Int.reduceNe, Int.reduceAdd, Int.reduceNeg, Int.reduceToNat, f0, f7, f9, f10, f11]
        repeat' (first | assumption | exact h59 ‹_› | exact Nat.zero_le _ | omega | rfl | (exact fun _ h => by rw [d9] at h; cases h) | (exact fun _ h => by rw [d17] at h; cases h) | (intro x hx; obtain ⟨_, _, rfl⟩ := List.mem_map.1 hx; rfl) | apply And.intro)
      | 1, ho =>
        simp only [List.getElem?_toArray, List.getElem?_cons_zero, List.getElem?_cons_succ, Option.some.injEq] at ho; subst ho
        simp (config := { maxSteps := 1000000 }) only [go_sem, ↓reduceIte, Nat.reduceEqDiff, Nat.reduceAdd, Nat.reduceMul, Nat.reduceSub, Nat.reduceLT, Nat.reduceLeDiff, Int.reduceLT, Int.reduceLE, Int.reduceEq, Int.reduceNe, Int.reduceAdd, Int.reduceNeg, Int.reduceToNat, f0, f7, f9, f10, f11]
        repeat' (first | assumption | exact h59 ‹_› | exact Nat.zero_le _ | omega | rfl | (exact fun _ h => by rw [d9] at h; cases h) | (exact fun _ h => by rw [d17] at h; cases h) | (intro x hx; obtain ⟨_, _, rfl⟩ := List.mem_map.1 hx; rfl) | apply And.intro)
      | 2, ho =>
        simp only [List.getElem?_toArray, List.getElem?_cons_zero, List.getElem?_cons_succ, Option.some.injEq] at ho; subst ho
        have n9 : L 9 = false := by cases h : L 9 with | false => rfl | true => exact absurd (hid 9 _ h rfl ⟨2, .data⟩ (by simp) rfl) (by simp [hL])
        have n17 : L 17 = false := by cases h : L 17 with | false => rfl | true => exact absurd (hid 17 _ h rfl ⟨9, .data⟩ (by simp) rfl) (by simp [n9])
        have n19 : L 19 = false := by cases h : L 19 with | false => rfl | true => exact absurd (hid 19 _ h rfl ⟨17, .data⟩ (by simp) rfl) (by simp [n17])
        simp (config := { maxSteps := 1000000 }) only [go_sem, ↓reduceIte, Nat.reduceEqDiff, Nat.reduceAdd, Nat.reduceMul, Nat.reduceSub, Nat.reduceLT, Nat.reduceLeDiff, Int.reduceLT, Int.reduceLE, Int.reduceEq, Int.reduceNe, Int.reduceAdd, Int.reduceNeg, Int.reduceToNat, f0, f7, f9, f10, f11, n9, n17, n19, ncells_nil]
        repeat' (first | assumption | exact h59 ‹_› | exact Nat.zero_le _ | omega | rfl | (exact fun _ h => by rw [d9] at h; cases h) | (exact fun _ h => by rw [d17] at h; cases h) | (intro x hx; obtain ⟨_, _, rfl⟩ := List.mem_map.1 hx; rfl) | apply And.intro)
      | 3, ho =>
        simp only [List.getElem?_toArray, List.getElem?_cons_zero, List.getElem?_cons_succ, Option.some.injEq] at ho; subst ho
        simp (config := { maxSteps := 1000000 }) only [go_sem, ↓reduceIte, Nat.reduceEqDiff, Nat.reduceAdd, Nat.reduceMul, Nat.reduceSub, Nat.reduceLT, Nat.reduceLeDiff, Int.reduceLT, Int.reduceLE, Int.reduceEq, Int.reduceNe, Int.reduceAdd, Int.reduceNeg, Int.reduceToNat, f0, f7, f9, f10, f11]
        repeat' (first | assumption | exact h59 ‹_› | exact Nat.zero_le _ | omega | rfl | (exact fun _ h => by rw [d9] at h; cases h) | (exact fun _ h => by rw [d17] at h; cases h) | (intro x hx; obtain ⟨_, _, rfl⟩ := List.mem_map.1 hx; rfl) | apply And.intro)
      | 4, ho =>
        simp only [List.getElem?_toArray, List.getElem?_cons_zero, List.getElem?_cons_succ, Option.some.injEq] at ho; subst ho
        simp (config := { maxSteps := 1000000 }) only [go_sem, ↓reduceIte, Nat.reduceEqDiff, Nat.reduceAdd, Nat.reduceMul, Nat.reduceSub, Nat.reduceLT, Nat.reduceLeDiff, Int.reduceLT, Int.reduceLE, Int.reduceEq, Int.reduceNe, Int.reduceAdd, Int.reduceNeg, Int.reduceToNat, f0, f7, f9, f10, f11]
        repeat' (first | assumption | exact h59 ‹_› | exact Nat.zero_le _ | omega | rfl | (exact fun _ h => by rw [d9] at h; cases h) | (exact fun _ h => by rw [d17] at h; cases h) | (intro x hx; obtain ⟨_, _, rfl⟩ := List.mem_map.1 hx; rfl) | apply And.intro)
      | 5, ho =>
        simp only [List.getElem?_toArray, List.getElem?_cons_zero, List.getElem?_cons_succ, Option.some.injEq] at ho; subst ho
        have d3 : L 3 = true := hdep ⟨3, .data⟩ (by simp) rfl
        have d4 : L 4 = true := hdep ⟨4, .data⟩ (by simp) rfl
        simp (config := { maxSteps := 1000000 }) only [go_sem, ↓reduceIte, Nat.reduceEqDiff, Nat.reduceAdd, Nat.reduceMul, Nat.reduceSub, Nat.reduceLT, Nat.reduceLeDiff, Int.reduceLT, Int.reduceLE, Int.reduceEq, Int.reduceNe, Int.reduceAdd, Int.reduceNeg, Int.reduceToNat, f0, f7, f9, f10, f11, h65 d3, h66 d4, natss, hr]
        repeat' (first | assumption | exact h59 ‹_› | exact Nat.zero_le _ | omega | rfl | (exact fun _ h => by rw [d9] at h; cases h) | (exact fun _ h => by rw [d17] at h; cases h) | (intro x hx; obtain ⟨_, _, rfl⟩ := List.mem_map.1 hx; rfl) | apply And.intro)
      | 6, ho =>
        simp only [List.getElem?_toArray, List.getElem?_cons_zero, List.getElem?_cons_succ, Option.some.injEq] at ho; subst ho
        have d5 : L 5 = true := hdep ⟨5, .data⟩ (by simp) rfl
        simp (config := { maxSteps := 1000000 }) only [go_sem, ↓reduceIte, Nat.reduceEqDiff, Nat.reduceAdd, Nat.reduceMul, Nat.reduceSub, Nat.reduceLT, Nat.reduceLeDiff, Int.reduceLT, Int.reduceLE, Int.reduceEq, Int.reduceNe, Int.reduceAdd, Int.reduceNeg, Int.reduceToNat, f0, f7, f9, f10, f11, h67 d5]
        repeat' (first | assumption | exact h59 ‹_› | exact Nat.zero_le _ | omega | rfl | (exact fun _ h => by rw [d9] at h; cases h) | (exact fun _ h => by rw [d17] at h; cases h) | (intro x hx; obtain ⟨_, _, rfl⟩ := List.mem_map.1 hx; rfl) | apply And.intro)
      | 7, ho =>
        simp only [List.getElem?_toArray, List.getElem?_cons_zero, List.getElem?_cons_succ, Option.some.injEq] at ho; subst ho
        simp (config := { maxSteps := 1000000 }) only [go_sem, ↓reduceIte, Nat.reduceEqDiff, Nat.reduceAdd, Nat.reduceMul, Nat.reduceSub, Nat.reduceLT, Nat.reduceLeDiff, Int.reduceLT, Int.reduceLE, Int.reduceEq, Int.reduceNe, Int.reduceAdd, Int.reduceNeg, Int.reduceToNat, f0, f7, f9, f10, f11]
        repeat' (first | assumption | exact h59 ‹_› | exact Nat.zero_le _ | omega | rfl | (exact fun _ h => by rw [d9] at h; cases h) | (exact fun _ h => by rw [d17] at h; cases h) | (intro x hx; obtain ⟨_, _, rfl⟩ := List.mem_map.1 hx; rfl) | apply And.intro)
      | 8, ho =>
        simp only [List.getElem?_toArray, List.getElem?_cons_zero, List.getElem?_cons_succ, Option.some.injEq] at ho; subst ho
        have d6 : L 6 = true := hdep ⟨6, .data⟩ (by simp) rfl
        have d7 : L 7 = true := hdep ⟨7, .data⟩ (by simp) rfl
        simp (config := { maxSteps := 1000000 }) only [go_sem, ↓reduceIte, Nat.reduceEqDiff, Nat.reduceAdd, Nat.reduceMul, Nat.reduceSub, Nat.reduceLT, Nat.reduceLeDiff, Int.reduceLT, Int.reduceLE, Int.reduceEq, Int.reduceNe, Int.reduceAdd, Int.reduceNeg, Int.reduceToNat, f0, f7, f9, f10, f11, h68 d6, h69 d7, nats, hou, htk]
        repeat' (first | assumption | exact h59 ‹_› | exact Nat.zero_le _ | omega | rfl | (exact fun _ h => by rw [d9] at h; cases h) | (exact fun _ h => by rw [d17] at h; cases h) | (intro x hx; obtain ⟨_, _, rfl⟩ := List.mem_map.1 hx; rfl) | apply And.intro)
      | 9, ho =>
        simp only [List.getElem?_toArray, List.getElem?_cons_zero, List.getElem?_cons_succ, Option.some.injEq] at ho; subst ho
        have d2 : L 2 = true := hdep ⟨2, .data⟩ (by simp) rfl
        have d8 : L 8 = true := hdep ⟨8, .data⟩ (by simp) rfl
        have n17 : L 17 = false := by cases h : L 17 with | false => rfl | true => exact absurd (hid 17 _ h rfl ⟨9, .data⟩ (by simp) rfl) (by simp [hL])
        have n19 : L 19 = false := by cases h : L 19 with | false => rfl | true => exact absurd (hid 19 _ h rfl ⟨17, .data⟩ (by simp) rfl) (by simp [n17])
        have e1 := (h64 d2 hL).1
        have e2 := (h64 d2 hL).2
        simp (config := { maxSteps := 1000000 }) only [go_sem, ↓reduceIte, Nat.reduceEqDiff, Nat.reduceAdd, Nat.reduceMul, Nat.reduceSub, Nat.reduceLT, Nat.reduceLeDiff, Int.reduceLT, Int.reduceLE, Int.reduceEq, Int.reduceNe, Int.reduceAdd, Int.reduceNeg, Int.reduceToNat, f0, f7, f9, f10, f11, h70 d8, n17, n19, e1, e2, nats, ncells_len, nats_flat, hol, List.length_nil, ncells_nil, List.length_take]
        repeat' (first | assumption | exact h59 ‹_› | exact Nat.zero_le _ | omega | rfl | (exact fun _ h => by rw [d9] at h; cases h) | (exact fun _ h => by rw [d17] at h; cases h) | (intro x hx; obtain ⟨_, _, rfl⟩ := List.mem_map.1 hx; rfl) | apply And.intro)
      | 10, ho =>
        simp only [List.getElem?_toArray, List.getElem?_cons_zero, List.getElem?_cons_succ, Option.some.injEq] at ho; subst ho
        simp (config := { maxSteps := 1000000 }) only [go_sem, ↓reduceIte, Nat.reduceEqDiff, Nat.reduceAdd, Nat.reduceMul, Nat.reduceSub, Nat.reduceLT, Nat.reduceLeDiff, Int.reduceLT, Int.reduceLE, Int.reduceEq, Int.reduceNe, Int.reduceAdd, Int.reduceNeg, Int.reduceToNat, f0, f7, f9, f10, f11]
        repeat' (first | assumption | exact h59 ‹_› | exact Nat.zero_le _ | omega | rfl | (exact fun _ h => by rw [d9] at h; cases h) | (exact fun _ h => by rw [d17] at h; cases h) | (intro x hx; obtain ⟨_, _, rfl⟩ := List.mem_map.1 hx; rfl) | apply And.intro)
      | 11, ho =>
        simp only [List.getElem?_toArray, List.getElem?_cons_zero, List.getElem?_cons_succ, Option.some.injEq] at ho; subst ho
        simp (config := { maxSteps := 1000000 }) only [go_sem, ↓reduceIte, Nat.reduceEqDiff, Nat.reduceAdd, Nat.reduceMul, Nat.reduceSub, Nat.reduceLT, Nat.reduceLeDiff, Int.reduceLT, Int.reduceLE, Int.reduceEq, Int.reduceNe, Int.reduceAdd, Int.reduceNeg, Int.reduceToNat, f0, f7, f9, f10, f11]
        repeat' (first | assumption | exact h59 ‹_› | exact Nat.zero_le _ | omega | rfl | (exact fun _ h => by rw [d9] at h; cases h) | (exact fun _ h => by rw [d17] at h; cases h) | (intro x hx; obtain ⟨_, _, rfl⟩ := List.mem_map.1 hx; rfl) | apply And.intro)
      | 12, ho =>
        simp only [List.getElem?_toArray, List.getElem?_cons_zero, List.getElem?_cons_succ, Option.some.injEq] at ho; subst ho
        have d10 : L 10 = true := hdep ⟨10, .data⟩ (by simp) rfl
        have d11 : L 11 = true := hdep ⟨11, .data⟩ (by simp) rfl
        simp (config := { maxSteps := 1000000 }) only [go_sem, ↓reduceIte, Nat.reduceEqDiff, Nat.reduceAdd, Nat.reduceMul, Nat.reduceSub, Nat.reduceLT, Nat.reduceLeDiff, Int.reduceLT, Int.reduceLE, Int.reduceEq, Int.reduceNe, Int.reduceAdd, Int.reduceNeg, Int.reduceToNat, f0, f7, f9, f10, f11, h72 d10, h73 d11, natss, hr]
        repeat' (first | assumption | exact h59 ‹_› | exact Nat.zero_le _ | omega | rfl | (exact fun _ h => by rw [d9] at h; cases h) | (exact fun _ h => by rw [d17] at h; cases h) | (intro x hx; obtain ⟨_, _, rfl⟩ := List.mem_map.1 hx; rfl) | apply And.intro)
      | 13, ho =>
        simp only [List.getElem?_toArray, List.getElem?_cons_zero, List.getElem?_cons_succ, Option.some.injEq] at ho; subst ho
        have d12 : L 12 = true := hdep ⟨12, .data⟩ (by simp) rfl
        simp (config := { maxSteps := 1000000 }) only [go_sem, ↓reduceIte, Nat.reduceEqDiff, Nat.reduceAdd, Nat.reduceMul, Nat.reduceSub, Nat.reduceLT, Nat.reduceLeDiff, Int.reduceLT, Int.reduceLE, Int.reduceEq, Int.reduceNe, Int.reduceAdd, Int.reduceNeg, Int.reduceToNat, f0, f7, f9, f10, f11, h74 d12]
        repeat' (first | assumption | exact h59 ‹_› | exact Nat.zero_le _ | omega | rfl | (exact fun _ h => by rw [d9] at h; cases h) | (exact fun _ h => by rw [d17] at h; cases h) | (intro x hx; obtain ⟨_, _, rfl⟩ := List.mem_map.1 hx; rfl) | apply And.intro)
      | 14, ho =>
        simp only [List.getElem?_toArray, List.getElem?_cons_zero, List.getElem?_cons_succ, Option.some.injEq] at ho; subst ho
        simp (config := { maxSteps := 1000000 }) only [go_sem, ↓reduceIte, Nat.reduceEqDiff, Nat.reduceAdd, Nat.reduceMul, Nat.reduceSub, Nat.reduceLT, Nat.reduceLeDiff, Int.reduceLT, Int.reduceLE, Int.reduceEq, Int.reduceNe, Int.reduceAdd, Int.reduceNeg, Int.reduceToNat, f0, f7, f9, f10, f11]
        repeat' (first | assumption | exact h59 ‹_› | exact Nat.zero_le _ | omega | rfl | (exact fun _ h => by rw [d9] at h; cases h) | (exact fun _ h => by rw [d17] at h; cases h) | (intro x hx; obtain ⟨_, _, rfl⟩ := List.mem_map.1 hx; rfl) | apply And.intro)
      | 15, ho =>
        simp only [List.getElem?_toArray, List.getElem?_cons_zero, List.getElem?_cons_succ, Option.some.injEq] at ho; subst ho
        have d14 : L 14 = true := hdep ⟨14, .data⟩ (by simp) rfl
        simp (config := { maxSteps := 1000000 }) only [go_sem, ↓reduceIte, Nat.reduceEqDiff, Nat.reduceAdd, Nat.reduceMul, Nat.reduceSub, Nat.reduceLT, Nat.reduceLeDiff, Int.reduceLT, Int.reduceLE, Int.reduceEq, Int.reduceNe, Int.reduceAdd, Int.reduceNeg, Int.reduceToNat, f0, f7, f9, f10, f11, h76 d14, hwo]
        repeat' (first | assumption | exact h59 ‹_› | exact Nat.zero_le _ | omega | rfl | (exact fun _ h => by rw [d9] at h; cases h) | (exact fun _ h => by rw [d17] at h; cases h) | (intro x hx; obtain ⟨_, _, rfl⟩ := List.mem_map.1 hx; rfl) | apply And.intro)
      | 16, ho =>
        simp only [List.getElem?_toArray, List.getElem?_cons_zero, List.getElem?_cons_succ, Option.some.injEq] at ho; subst ho
        have d13 : L 13 = true := hdep ⟨13, .data⟩ (by simp) rfl
        have d15 : L 15 = true := hdep ⟨15, .data⟩ (by simp) rfl
        simp (config := { maxSteps := 1000000 }) only [go_sem, ↓reduceIte, Nat.reduceEqDiff, Nat.reduceAdd, Nat.reduceMul, Nat.reduceSub, Nat.reduceLT, Nat.reduceLeDiff, Int.reduceLT, Int.reduceLE, Int.reduceEq, Int.reduceNe, Int.reduceAdd, Int.reduceNeg, Int.reduceToNat, f0, f7, f9, f10, f11, h75 d13, h77 d15, nats, hour1, hdr, List.length_map]
        repeat' (first | assumption | exact h59 ‹_› | exact Nat.zero_le _ | omega | rfl | (exact fun _ h => by rw [d9] at h; cases h) | (exact fun _ h => by rw [d17] at h; cases h) | (intro x hx; obtain ⟨_, _, rfl⟩ := List.mem_map.1 hx; rfl) | apply And.intro)
      | 17, ho =>
        simp only [List.getElem?_toArray, List.getElem?_cons_zero, List.getElem?_cons_succ, Option.some.injEq] at ho; subst ho
        have d9 : L 9 = true := hdep ⟨9, .data⟩ (by simp) rfl
        have d16 : L 16 = true := hdep ⟨16, .data⟩ (by simp) rfl
        have n19 : L 19 = false := by cases h : L 19 with | false => rfl | true => exact absurd (hid 19 _ h rfl ⟨17, .data⟩ (by simp) rfl) (by simp [hL])
        have e1 := (h71 d9 hL).1
        have e2 := (h71 d9 hL).2
        simp (config := { maxSteps := 1000000 }) only [go_sem, ↓reduceIte, Nat.reduceEqDiff, Nat.reduceAdd, Nat.reduceMul, Nat.reduceSub, Nat.reduceLT, Nat.reduceLeDiff, Int.reduceLT, Int.reduceLE, Int.reduceEq, Int.reduceNe, Int.reduceAdd, Int.reduceNeg, Int.reduceToNat, f0, f7, f9, f10, f11, h78 d16, n19, e1, e2, nats, ncells_len, nats_flat, hol, hto, ← ncells_app, hlw]
        repeat' (first | assumption | exact h59 ‹_› | exact Nat.zero_le _ | omega | rfl | (exact fun _ h => by rw [d9] at h; cases h) | (exact fun _ h => by rw [d17] at h; cases h) | (intro x hx; obtain ⟨_, _, rfl⟩ := List.mem_map.1 hx; rfl) | apply And.intro)
      | 18, ho =>
        simp only [List.getElem?_toArray, List.getElem?_cons_zero, List.getElem?_cons_succ, Option.some.injEq] at ho; subst ho
        have d0 : L 0 = true := hdep ⟨0, .data⟩ (by simp) rfl
        have d1 : L 1 = true := hdep ⟨1, .data⟩ (by simp) rfl
        have n19 : L 19 = false := by cases h : L 19 with | false => rfl | true => exact absurd (hid 19 _ h rfl ⟨18, .data⟩ (by simp) rfl) (by simp [hL])
        have e3 := h59 n19
        simp (config := { maxSteps := 1000000 }) only [go_sem, ↓reduceIte, Nat.reduceEqDiff, Nat.reduceAdd, Nat.reduceMul, Nat.reduceSub, Nat.reduceLT, Nat.reduceLeDiff, Int.reduceLT, Int.reduceLE, Int.reduceEq, Int.reduceNe, Int.reduceAdd, Int.reduceNeg, Int.reduceToNat, f0, f7, f9, f10, f11, h62 d0, h63 d1, hat, n19, e3, dcells_len]
        repeat' (first | assumption | exact h59 ‹_› | exact Nat.zero_le _ | omega | rfl | (exact fun _ h => by rw [d9] at h; cases h) | (exact fun _ h => by rw [d17] at h; cases h) | (intro x hx; obtain ⟨_, _, rfl⟩ := List.mem_map.1 hx; rfl) | apply And.intro)
      | 19, ho =>
        simp only [List.getElem?_toArray, List.getElem?_cons_zero, List.getElem?_cons_succ, Option.some.injEq] at ho; subst ho
        have d18 : L 18 = true := hdep ⟨18, .data⟩ (by simp) rfl
        have d17 : L 17 = true := hdep ⟨17, .data⟩ (by simp) rfl
        have d9 : L 9 = true := hid 17 _ d17 rfl ⟨9, .data⟩ (by simp) rfl
        have e1 := (h79 d17).1
        have e2 := (h79 d17).2
        have e3 := h59 hL
        simp (config := { maxSteps := 1000000 }) only [go_sem, ↓reduceIte, Nat.reduceEqDiff, Nat.reduceAdd, Nat.reduceMul, Nat.reduceSub, Nat.reduceLT, Nat.reduceLeDiff, Int.reduceLT, Int.reduceLE, Int.reduceEq, Int.reduceNe, Int.reduceAdd, Int.reduceNeg, Int.reduceToNat, f0, f7, f9, f10, f11, h80 d18, e1, e2, e3, hat1, dcells_len]
        repeat' (first | assumption | exact h59 ‹_› | exact Nat.zero_le _ | omega | rfl | (exact fun _ h => by rw [d9] at h; cases h) | (exact fun _ h => by rw [d17] at h; cases h) | (intro x hx; obtain ⟨_, _, rfl⟩ := List.mem_map.1 hx; rfl) | apply And.intro)
      | j + 20, ho => exact absurd ho (by simp)
    · rintro L ⟨f, g, ob⟩ hI hall
      obtain ⟨f0, f7, f9, f10, f11, h62, h63, h64, h65, h66, h67, h68, h69, h70, h71, h72, h73, h74, h75, h76, h77, h78, h79, h80, h59, h60⟩ := hI
      have o59 := h60 (hall 19 (by decide))
      have o64 := (h79 (hall 17 (by decide))).2
      simp only at f0 f7 f9 f10 f11 o59 o64
      clear h62  h63  h64  h65  h66  h67  h68  h69  h70  h71  h72  h73  h74  h75  h76  h77  h78  h79  h80  h59  h60 hall
      have hzR := less_Rt hR (at' := at') (out := out)
      have hzl : (less ys at' out).length = ys.length := less_len
      have hzrow : ∀ r' ∈ less ys at' out, r'.length ≤ 1000000 := fun r' hr' => by
        rcases List.mem_or_eq_of_mem_set hr' with h | h
        · exact hrows r' h
        · rw [h, hrow]; exact hll
      have hLA := Levels_A (toI (less ys at' out)) (fits_toI (by omega) hzrow)
      rw [intss_toI] at hLA
      have hll2 : lv.length = ys.length := hl.len
      have hlw2 : lw.length = ys.length := by rw [hw.len, hzl]
      have hdl := hl.depth_le hR
      simp (config := { maxSteps := 1000000 }) only [go_sem, ↓reduceIte, Nat.reduceEqDiff, Nat.reduceAdd, Nat.reduceMul, Nat.reduceSub, Nat.reduceLT, Nat.reduceLeDiff, Int.reduceLT, Int.reduceLE, Int.reduceEq, Int.reduceNe, Int.reduceAdd, Int.reduceNeg, Int.reduceToNat, f11]
      refine hook_vs _ (vs_gives (fun i => i == 59 || i == 64) (t := 82) rfl (x := natss (less ys at' out)) ?_) ?_
      · have := frzp_list (P := fun i => (i == 59 || i == 64) = true) (s := ⟨upd f 82 (.one (.osl 59 (g 59) 1 0 ys.length)), g, ob⟩) (id := 59) (g := g 59) (len := ys.length) rfl rfl o59 ((less ys at' out).map nats) (by simp [hzl]) (by simp [hzl, dcells]) (fun j d c h1 h2 => by
          rw [List.getElem?_map] at h1
          simp only [less, List.getElem?_set] at h1
          rw [List.getElem?_set] at h2
          by_cases hj : at' = j
          · subst hj
            rw [if_pos rfl, if_pos hat] at h1
            rw [if_pos rfl, if_pos (by rw [dcells_len]; exact hat)] at h2
            cases h1; cases h2
            rw [hrow]
            exact frzp_nats rfl rfl o64 rfl
          · rw [if_neg hj] at h1 h2
            simp only [dcells, List.getElem?_map] at h2
            cases hq : ys[j]? with
            | none => rw [hq] at h1; cases h1
            | some r' => rw [hq] at h1 h2; cases h1; cases h2; exact FrzP.d _)
        simpa [natss, List.map_map, Function.comp_def] using this
      refine hook_call rfl hLA (by rfl) ?_
      rintro r' (⟨hn, _⟩ | ⟨zs, e, _, h⟩)
      · exact absurd (Right_toI' hzR) hn
      obtain rfl := toI_inj e
      rcases h with ⟨lw', h1', rfl⟩ | ⟨hno, _⟩
      rotate_left
      · exact absurd ⟨_, hw⟩ hno
      obtain rfl := IsLv.unique hzR hw h1'
      have hng : ¬ ((depth lv : Nat) : Int) < ((depth lw : Nat) : Int) := by omega
      simp (config := { maxSteps := 1000000 }) only [go_sem, ↓reduceIte, Nat.reduceEqDiff, Nat.reduceAdd, Nat.reduceMul, Nat.reduceSub, Nat.reduceLT, Nat.reduceLeDiff, Int.reduceLT, Int.reduceLE, Int.reduceEq, Int.reduceNe, Int.reduceAdd, Int.reduceNeg, Int.reduceToNat, f7, natss, List.length_map, groups_len, hng]
      refine cut_D (fun f g ob => f 0 = .one (.d (natss ys)) ∧ f 7 = .one (.d (natss (groups lv))) ∧ f 12 = .one (.d (natss (groups lw)))) ?_ ?_
      · simp (config := { maxSteps := 1000000 }) only [go_sem, ↓reduceIte, Nat.reduceEqDiff, Nat.reduceAdd, Nat.reduceMul, Nat.reduceSub, Nat.reduceLT, Nat.reduceLeDiff, Int.reduceLT, Int.reduceLE, Int.reduceEq, Int.reduceNe, Int.reduceAdd, Int.reduceNeg, Int.reduceToNat, f0, f7, natss, nats]
      clear f0 f7 f9 f10 f11 o59 o64
      clear f g ob
      rintro f g ob ⟨f0, f7, f12⟩
      refine draw_any Tt_ok mixed (by decide +kernel) (fun L s => (s.f 0 = .one (.d (natss ys))) ∧ (s.f 7 = .one (.d (natss (groups lv)))) ∧ (s.f 12 = .one (.d (natss (groups lw)))) ∧ (L 0 = true → s.f 95 = .one (.d (natss ys))) ∧ (L 1 = true → s.f 96 = iv .i64 ys.length) ∧ (L 2 = true → s.f 97 = .one (.osl 97 (s.gen 97) 1 0 ys.length) ∧ s.obj 97 = some (ncells (List.replicate ys.length 0))) ∧ (L 3 = true → s.f 98 = .one (.d (natss ys))) ∧ (L 4 = true → s.f 99 = iv .i64 ys.length) ∧ (L 5 = true → s.f 100 = .one (.osl 100 (s.gen 100) 1 0 ys.length) ∧ s.obj 100 = some (ncells (List.replicate ys.length 0))) ∧ (L 6 = true → s.f 14 = .one (.osl 97 (s.gen 97) 1 0 ys.length)) ∧ (L 7 = true → s.f 15 = .one (.osl 100 (s.gen 100) 1 0 ys.length))) ?_ ?_ ?_
      · simp (config := { maxSteps := 1000000 }) only [go_sem, ↓reduceIte, Nat.reduceEqDiff, Nat.reduceAdd, Nat.reduceMul, Nat.reduceSub, Nat.reduceLT, Nat.reduceLeDiff, Int.reduceLT, Int.reduceLE, Int.reduceEq, Int.reduceNe, Int.reduceAdd, Int.reduceNeg, Int.reduceToNat, f0, f7, f12]
      · intro L s i o hI ho hL hdep hid
        obtain ⟨f0, f7, f12, h95, h96, h97, h98, h99, h100, h14, h15⟩ := hI
        match i, ho with
        | 0, ho =>
          simp only [List.getElem?_toArray, List.getElem?_cons_zero, List.getElem?_cons_succ, Option.some.injEq] at ho; subst ho
          simp (config := { maxSteps := 1000000 }) only [go_sem, ↓reduceIte, Nat.reduceEqDiff, Nat.reduceAdd, Nat.reduceMul, Nat.reduceSub, Nat.reduceLT, Nat.reduceLeDiff, Int.reduceLT, Int.reduceLE, Int.reduceEq, Int.reduceNe, Int.reduceAdd, Int.reduceNeg, Int.reduceToNat, f0, f7, f12]
          repeat' (first | assumption | exact h59 ‹_› | exact Nat.zero_le _ | omega | rfl | (exact fun _ h => by rw [d9] at h; cases h) | (exact fun _ h => by rw [d17] at h; cases h) | (intro x hx; obtain ⟨_, _, rfl⟩ := List.mem_map.1 hx; rfl) | apply And.intro)
        | 1, ho =>
          simp only [List.getElem?_toArray, List.getElem?_cons_zero, List.getElem?_cons_succ, Option.some.injEq] at ho; subst ho
          have d0 : L 0 = true := hdep ⟨0, .data⟩ (by simp) rfl
          simp (config := { maxSteps := 1000000 }) only [go_sem, ↓reduceIte, Nat.reduceEqDiff, Nat.reduceAdd, Nat.reduceMul, Nat.reduceSub, Nat.reduceLT, Nat.reduceLeDiff, Int.reduceLT, Int.reduceLE, Int.reduceEq, Int.reduceNe, Int.reduceAdd, Int.reduceNeg, Int.reduceToNat, f0, f7, f12, h95 d0, natss, List.length_map]
          repeat' (first | assumption | exact h59 ‹_› | exact Nat.zero_le _ | omega | rfl | (exact fun _ h => by rw [d9] at h; cases h) | (exact fun _ h => by rw [d17] at h; cases h) | (intro x hx; obtain ⟨_, _, rfl⟩ := List.mem_map.1 hx; rfl) | apply And.intro)
        | 2, ho =>
          simp only [List.getElem?_toArray, List.getElem?_cons_zero, List.getElem?_cons_succ, Option.some.injEq] at ho; subst ho
          have d1 : L 1 = true := hdep ⟨1, .data⟩ (by simp) rfl
          have n6 : L 6 = false := by cases h : L 6 with | false => rfl | true => exact absurd (hid 6 _ h rfl ⟨2, .data⟩ (by simp) rfl) (by simp [hL])
          simp (config := { maxSteps := 1000000 }) only [go_sem, ↓reduceIte, Nat.reduceEqDiff, Nat.reduceAdd, Nat.reduceMul, Nat.reduceSub, Nat.reduceLT, Nat.reduceLeDiff, Int.reduceLT, Int.reduceLE, Int.reduceEq, Int.reduceNe, Int.reduceAdd, Int.reduceNeg, Int.reduceToNat, f0, f7, f12, h96 d1, ncells_rep]
          repeat' (first | assumption | exact Nat.zero_le _ | omega | rfl | (exact fun h => by rw [n6] at h; cases h) | apply And.intro)
        | 3, ho =>
          simp only [List.getElem?_toArray, List.getElem?_cons_zero, List.getElem?_cons_succ, Option.some.injEq] at ho; subst ho
          simp (config := { maxSteps := 1000000 }) only [go_sem, ↓reduceIte, Nat.reduceEqDiff, Nat.reduceAdd, Nat.reduceMul, Nat.reduceSub, Nat.reduceLT, Nat.reduceLeDiff, Int.reduceLT, Int.reduceLE, Int.reduceEq, Int.reduceNe, Int.reduceAdd, Int.reduceNeg, Int.reduceToNat, f0, f7, f12]
          repeat' (first | assumption | exact h59 ‹_› | exact Nat.zero_le _ | omega | rfl | (exact fun _ h => by rw [d9] at h; cases h) | (exact fun _ h => by rw [d17] at h; cases h) | (intro x hx; obtain ⟨_, _, rfl⟩ := List.mem_map.1 hx; rfl) | apply And.intro)
        | 4, ho =>
          simp only [List.getElem?_toArray, List.getElem?_cons_zero, List.getElem?_cons_succ, Option.some.injEq] at ho; subst ho
          have d3 : L 3 = true := hdep ⟨3, .data⟩ (by simp) rfl
          simp (config := { maxSteps := 1000000 }) only [go_sem, ↓reduceIte, Nat.reduceEqDiff, Nat.reduceAdd, Nat.reduceMul, Nat.reduceSub, Nat.reduceLT, Nat.reduceLeDiff, Int.reduceLT, Int.reduceLE, Int.reduceEq, Int.reduceNe, Int.reduceAdd, Int.reduceNeg, Int.reduceToNat, f0, f7, f12, h98 d3, natss, List.length_map]
          repeat' (first | assumption | exact h59 ‹_› | exact Nat.zero_le _ | omega | rfl | (exact fun _ h => by rw [d9] at h; cases h) | (exact fun _ h => by rw [d17] at h; cases h) | (intro x hx; obtain ⟨_, _, rfl⟩ := List.mem_map.1 hx; rfl) | apply And.intro)
        | 5, ho =>
          simp only [List.getElem?_toArray, List.getElem?_cons_zero, List.getElem?_cons_succ, Option.some.injEq] at ho; subst ho
          have d4 : L 4 = true := hdep ⟨4, .data⟩ (by simp) rfl
          have n7 : L 7 = false := by cases h : L 7 with | false => rfl | true => exact absurd (hid 7 _ h rfl ⟨5, .data⟩ (by simp) rfl) (by simp [hL])
          simp (config := { maxSteps := 1000000 }) only [go_sem, ↓reduceIte, Nat.reduceEqDiff, Nat.reduceAdd, Nat.reduceMul, Nat.reduceSub, Nat.reduceLT, Nat.reduceLeDiff, Int.reduceLT, Int.reduceLE, Int.reduceEq, Int.reduceNe, Int.reduceAdd, Int.reduceNeg, Int.reduceToNat, f0, f7, f12, h99 d4, ncells_rep]
          repeat' (first | assumption | exact Nat.zero_le _ | omega | rfl | (exact fun h => by rw [n7] at h; cases h) | apply And.intro)
        | 6, ho =>
          simp only [List.getElem?_toArray, List.getElem?_cons_zero, List.getElem?_cons_succ, Option.some.injEq] at ho; subst ho
          have d2 : L 2 = true := hdep ⟨2, .data⟩ (by simp) rfl
          have e1 := (h97 d2).1
          simp (config := { maxSteps := 1000000 }) only [go_sem, ↓reduceIte, Nat.reduceEqDiff, Nat.reduceAdd, Nat.reduceMul, Nat.reduceSub, Nat.reduceLT, Nat.reduceLeDiff, Int.reduceLT, Int.reduceLE, Int.reduceEq, Int.reduceNe, Int.reduceAdd, Int.reduceNeg, Int.reduceToNat, f0, f7, f12, e1]
          repeat' (first | assumption | exact Nat.zero_le _ | omega | rfl | exact fun _ => (h97 d2).2 | apply And.intro)
        | 7, ho =>
          simp only [List.getElem?_toArray, List.getElem?_cons_zero, List.getElem?_cons_succ, Option.some.injEq] at ho; subst ho
          have d5 : L 5 = true := hdep ⟨5, .data⟩ (by simp) rfl
          have e1 := (h100 d5).1
          simp (config := { maxSteps := 1000000 }) only [go_sem, ↓reduceIte, Nat.reduceEqDiff, Nat.reduceAdd, Nat.reduceMul, Nat.reduceSub, Nat.reduceLT, Nat.reduceLeDiff, Int.reduceLT, Int.reduceLE, Int.reduceEq, Int.reduceNe, Int.reduceAdd, Int.reduceNeg, Int.reduceToNat, f0, f7, f12, e1]
          repeat' (first | assumption | exact Nat.zero_le _ | omega | rfl | exact fun _ => (h100 d5).2 | apply And.intro)
        | j + 8, ho => exact absurd ho (by simp)
      · rintro L ⟨f, g, ob⟩ hI hall
        obtain ⟨f0, f7, f12, h95, h96, h97, h98, h99, h100, h14, h15⟩ := hI
        have f14 := h14 (hall 6 (by decide))
        have f15 := h15 (hall 7 (by decide))
        have o97 := (h97 (hall 2 (by decide))).2
        have o100 := (h100 (hall 5 (by decide))).2
        simp only at f0 f7 f12 f14 f15 o97 o100
        clear h95 h96 h97 h98 h99 h100 h14 h15 hall
        simp (config := { maxSteps := 1000000 }) only [go_sem, ↓reduceIte, Nat.reduceEqDiff, Nat.reduceAdd, Nat.reduceMul, Nat.reduceSub, Nat.reduceLT, Nat.reduceLeDiff, Int.reduceLT, Int.reduceLE, Int.reduceEq, Int.reduceNe, Int.reduceAdd, Int.reduceNeg, Int.reduceToNat]
        refine loop_introB (fun n s => ∃ (k : Nat) (O : List Nat), n + k = depth lv ∧ Laid lv ys.length k [] O ∧ s.f 0 = .one (.d (natss ys)) ∧ s.f 7 = .one (.d (natss (groups lv))) ∧ s.f 12 = .one (.d (natss (groups lw))) ∧ s.f 14 = .one (.osl 97 (s.gen 97) 1 0 ys.length) ∧ s.f 15 = .one (.osl 100 (s.gen 100) 1 0 ys.length) ∧ s.f 16 = iv .i64 k ∧ s.obj 97 = some (ncells O) ∧ s.obj 100 = some (ncells (List.replicate ys.length 0))) (depth lv) ?_ ?_
        · refine ⟨0, _, rfl, Laid.init _ _, ?_⟩
          simp (config := { maxSteps := 1000000 }) only [go_sem, ↓reduceIte, Nat.reduceEqDiff, Nat.reduceAdd, Nat.reduceMul, Nat.reduceSub, Nat.reduceLT, Nat.reduceLeDiff, Int.reduceLT, Int.reduceLE, Int.reduceEq, Int.reduceNe, Int.reduceAdd, Int.reduceNeg, Int.reduceToNat, f0, f7, f12, f14, f15, o97, o100, natss, nats, List.map_nil]
        · try clear fk
          clear f0 f7 f12 f14 f15 o97 o100
          clear f g ob
          rintro n f g ob ⟨k, O, hk, hO, f0, f7, f12, f14, f15, fk, o97, o100⟩
          simp only at f0 f7 f12 f14 f15 fk o97 o100
          have hw := wrap_succ (k := k) (by omega)
          by_cases hlt : k < depth lv
          · have hgk := groups_get hlt
            rw [hll2] at hgk
            have hgl : (group lv ys.length k).length ≤ ys.length := by
              unfold group
              exact Nat.le_trans (List.length_filter_le _ _) (by simp)
            simp (config := { maxSteps := 1000000 }) only [go_sem, ↓reduceIte, Nat.reduceEqDiff, Nat.reduceAdd, Nat.reduceMul, Nat.reduceSub, Nat.reduceLT, Nat.reduceLeDiff, Int.reduceLT, Int.reduceLE, Int.reduceEq, Int.reduceNe, Int.reduceAdd, Int.reduceNeg, Int.reduceToNat, f0, f7, f12, f14, f15, fk, natss, groups_len, List.length_map, hlt]
            refine loop_introB (fun n2 s => ∃ (j : Nat) (O : List Nat), n2 + j = (group lv ys.length k).length ∧ Laid lv ys.length k ((group lv ys.length k).take j) O ∧ s.f 0 = .one (.d (natss ys)) ∧ s.f 7 = .one (.d (natss (groups lv))) ∧ s.f 12 = .one (.d (natss (groups lw))) ∧ s.f 14 = .one (.osl 97 (s.gen 97) 1 0 ys.length) ∧ s.f 15 = .one (.osl 100 (s.gen 100) 1 0 ys.length) ∧ s.f 16 = iv .i64 k ∧ s.f 17 = iv .i64 j ∧ s.obj 97 = some (ncells O) ∧ s.obj 100 = some (ncells (List.replicate ys.length 0))) (group lv ys.length k).length ?_ ?_
            · refine ⟨0, O, rfl, hO, ?_⟩
              simp (config := { maxSteps := 1000000 }) only [go_sem, ↓reduceIte, Nat.reduceEqDiff, Nat.reduceAdd, Nat.reduceMul, Nat.reduceSub, Nat.reduceLT, Nat.reduceLeDiff, Int.reduceLT, Int.reduceLE, Int.reduceEq, Int.reduceNe, Int.reduceAdd, Int.reduceNeg, Int.reduceToNat, f0, f7, f12, f14, f15, fk, o97, o100, natss, nats]
            · clear f0 f7 f12 f14 f15 fk o97 o100 hO
              clear f g ob O
              rintro n2 f g ob ⟨j, O, hj, hO, f0, f7, f12, f14, f15, fk, fj, o97, o100⟩
              simp only at f0 f7 f12 f14 f15 fk fj o97 o100
              have hwj := wrap_succ (k := j) (by omega)
              have hOl := hO.1
              by_cases hjl : j < (group lv ys.length k).length
              · obtain ⟨x, hx⟩ := getq hjl
                obtain ⟨hxn, hxk⟩ := mem_group.1 (List.mem_of_getElem? hx)
                have hx0 : ¬ ((x : Nat) : Int) < 0 := by omega
                have hx1 : ¬ (ys.length : Int) ≤ (x : Int) := by omega
                have hx2 : x + 1 ≤ ys.length := hxn
                have hst := hO.step hll2 hx
                simp (config := { maxSteps := 1000000 }) only [go_sem, ↓reduceIte, Nat.reduceEqDiff, Nat.reduceAdd, Nat.reduceMul, Nat.reduceSub, Nat.reduceLT, Nat.reduceLeDiff, Int.reduceLT, Int.reduceLE, Int.reduceEq, Int.reduceNe, Int.reduceAdd, Int.reduceNeg, Int.reduceToNat, f0, f7, f12, f14, f15, fk, fj, o97, o100, natss, nats, hgk, hx, hjl, List.length_map, hx0, hx1, hx2, hxn, ncells_len, hOl, ncells_set, hwj]
                refine round_endB (n2 - 1) (by omega) ⟨j + 1, _, by omega, hst, ?_⟩
                simp (config := { maxSteps := 1000000 }) only [go_sem, ↓reduceIte, Nat.reduceEqDiff, Nat.reduceAdd, Nat.reduceMul, Nat.reduceSub, Nat.reduceLT, Nat.reduceLeDiff, Int.reduceLT, Int.reduceLE, Int.reduceEq, Int.reduceNe, Int.reduceAdd, Int.reduceNeg, Int.reduceToNat, f0, f7, f12, f14, f15, fk, fj, o97, o100, natss, nats, hwj]
              · have hje : j = (group lv ys.length k).length := by omega
                rw [hje, List.take_length] at hO
                simp (config := { maxSteps := 1000000 }) only [go_sem, ↓reduceIte, Nat.reduceEqDiff, Nat.reduceAdd, Nat.reduceMul, Nat.reduceSub, Nat.reduceLT, Nat.reduceLeDiff, Int.reduceLT, Int.reduceLE, Int.reduceEq, Int.reduceNe, Int.reduceAdd, Int.reduceNeg, Int.reduceToNat, f0, f7, f12, f14, f15, fk, fj, o97, o100, natss, nats, hgk, hjl, List.length_map, hw]
                refine round_endB (n - 1) (by omega) ⟨k + 1, _, by omega, hO.next, ?_⟩
                simp (config := { maxSteps := 1000000 }) only [go_sem, ↓reduceIte, Nat.reduceEqDiff, Nat.reduceAdd, Nat.reduceMul, Nat.reduceSub, Nat.reduceLT, Nat.reduceLeDiff, Int.reduceLT, Int.reduceLE, Int.reduceEq, Int.reduceNe, Int.reduceAdd, Int.reduceNeg, Int.reduceToNat, f0, f7, f12, f14, f15, fk, fj, o97, o100, natss, nats, hw]
          · have hke : k = depth lv := by omega
            rw [hke] at hO
            rw [hO.done hll2] at o97
            simp (config := { maxSteps := 1000000 }) only [go_sem, ↓reduceIte, Nat.reduceEqDiff, Nat.reduceAdd, Nat.reduceMul, Nat.reduceSub, Nat.reduceLT, Nat.reduceLeDiff, Int.reduceLT, Int.reduceLE, Int.reduceEq, Int.reduceNe, Int.reduceAdd, Int.reduceNeg, Int.reduceToNat, f0, f7, f12, f14, f15, fk, natss, groups_len, List.length_map, hlt]
            refine loop_introB (fun n s => ∃ (k : Nat) (O : List Nat), n + k = depth lw ∧ Laid lw ys.length k [] O ∧ s.f 0 = .one (.d (natss ys)) ∧ s.f 7 = .one (.d (natss (groups lv))) ∧ s.f 12 = .one (.d (natss (groups lw))) ∧ s.f 14 = .one (.osl 97 (s.gen 97) 1 0 ys.length) ∧ s.f 15 = .one (.osl 100 (s.gen 100) 1 0 ys.length) ∧ s.f 18 = iv .i64 k ∧ s.obj 100 = some (ncells O) ∧ s.obj 97 = some (ncells lv)) (depth lw) ?_ ?_
            · refine ⟨0, _, rfl, Laid.init _ _, ?_⟩
              simp (config := { maxSteps := 1000000 }) only [go_sem, ↓reduceIte, Nat.reduceEqDiff, Nat.reduceAdd, Nat.reduceMul, Nat.reduceSub, Nat.reduceLT, Nat.reduceLeDiff, Int.reduceLT, Int.reduceLE, Int.reduceEq, Int.reduceNe, Int.reduceAdd, Int.reduceNeg, Int.reduceToNat, f0, f7, f12, f14, f15, o97, o100, natss, nats, List.map_nil]
            · try clear fk
              clear f0 f7 f12 f14 f15 o97 o100
              clear f g ob
              rintro n f g ob ⟨k, O, hk, hO, f0, f7, f12, f14, f15, fk, o100, o97⟩
              simp only at f0 f7 f12 f14 f15 fk o100 o97
              have hw := wrap_succ (k := k) (by omega)
              by_cases hlt : k < depth lw
              · have hgk := groups_get hlt
                rw [hlw2] at hgk
                have hgl : (group lw ys.length k).length ≤ ys.length := by
                  unfold group
                  exact Nat.le_trans (List.length_filter_le _ _) (by simp)
                simp (config := { maxSteps := 1000000 }) only [go_sem, ↓reduceIte, Nat.reduceEqDiff, Nat.reduceAdd, Nat.reduceMul, Nat.reduceSub, Nat.reduceLT, Nat.reduceLeDiff, Int.reduceLT, Int.reduceLE, Int.reduceEq, Int.reduceNe, Int.reduceAdd, Int.reduceNeg, Int.reduceToNat, f0, f7, f12, f14, f15, fk, natss, groups_len, List.length_map, hlt]
                refine loop_introB (fun n2 s => ∃ (j : Nat) (O : List Nat), n2 + j = (group lw ys.length k).length ∧ Laid lw ys.length k ((group lw ys.length k).take j) O ∧ s.f 0 = .one (.d (natss ys)) ∧ s.f 7 = .one (.d (natss (groups lv))) ∧ s.f 12 = .one (.d (natss (groups lw))) ∧ s.f 14 = .one (.osl 97 (s.gen 97) 1 0 ys.length) ∧ s.f 15 = .one (.osl 100 (s.gen 100) 1 0 ys.length) ∧ s.f 18 = iv .i64 k ∧ s.f 19 = iv .i64 j ∧ s.obj 100 = some (ncells O) ∧ s.obj 97 = some (ncells lv)) (group lw ys.length k).length ?_ ?_
                · refine ⟨0, O, rfl, hO, ?_⟩
                  simp (config := { maxSteps := 1000000 }) only [go_sem, ↓reduceIte, Nat.reduceEqDiff, Nat.reduceAdd, Nat.reduceMul, Nat.reduceSub, Nat.reduceLT, Nat.reduceLeDiff, Int.reduceLT, Int.reduceLE, Int.reduceEq, Int.reduceNe, Int.reduceAdd, Int.reduceNeg, Int.reduceToNat, f0, f7, f12, f14, f15, fk, o97, o100, natss, nats]
                · clear f0 f7 f12 f14 f15 fk o97 o100 hO
                  clear f g ob O
                  rintro n2 f g ob ⟨j, O, hj, hO, f0, f7, f12, f14, f15, fk, fj, o100, o97⟩
                  simp only at f0 f7 f12 f14 f15 fk fj o100 o97
                  have hwj := wrap_succ (k := j) (by omega)
                  have hOl := hO.1
                  by_cases hjl : j < (group lw ys.length k).length
                  · obtain ⟨x, hx⟩ := getq hjl
                    obtain ⟨hxn, hxk⟩ := mem_group.1 (List.mem_of_getElem? hx)
                    have hx0 : ¬ ((x : Nat) : Int) < 0 := by omega
                    have hx1 : ¬ (ys.length : Int) ≤ (x : Int) := by omega
                    have hx2 : x + 1 ≤ ys.length := hxn
                    have hst := hO.step hlw2 hx
                    simp (config := { maxSteps := 1000000 }) only [go_sem, ↓reduceIte, Nat.reduceEqDiff, Nat.reduceAdd, Nat.reduceMul, Nat.reduceSub, Nat.reduceLT, Nat.reduceLeDiff, Int.reduceLT, Int.reduceLE, Int.reduceEq, Int.reduceNe, Int.reduceAdd, Int.reduceNeg, Int.reduceToNat, f0, f7, f12, f14, f15, fk, fj, o100, o97, natss, nats, hgk, hx, hjl, List.length_map, hx0, hx1, hx2, hxn, ncells_len, hOl, ncells_set, hwj]
                    refine round_endB (n2 - 1) (by omega) ⟨j + 1, _, by omega, hst, ?_⟩
                    simp (config := { maxSteps := 1000000 }) only [go_sem, ↓reduceIte, Nat.reduceEqDiff, Nat.reduceAdd, Nat.reduceMul, Nat.reduceSub, Nat.reduceLT, Nat.reduceLeDiff, Int.reduceLT, Int.reduceLE, Int.reduceEq, Int.reduceNe, Int.reduceAdd, Int.reduceNeg, Int.reduceToNat, f0, f7, f12, f14, f15, fk, fj, o100, o97, natss, nats, hwj]
                  · have hje : j = (group lw ys.length k).length := by omega
                    rw [hje, List.take_length] at hO
                    simp (config := { maxSteps := 1000000 }) only [go_sem, ↓reduceIte, Nat.reduceEqDiff, Nat.reduceAdd, Nat.reduceMul, Nat.reduceSub, Nat.reduceLT, Nat.reduceLeDiff, Int.reduceLT, Int.reduceLE, Int.reduceEq, Int.reduceNe, Int.reduceAdd, Int.reduceNeg, Int.reduceToNat, f0, f7, f12, f14, f15, fk, fj, o100, o97, natss, nats, hgk, hjl, List.length_map, hw]
                    refine round_endB (n - 1) (by omega) ⟨k + 1, _, by omega, hO.next, ?_⟩
                    simp (config := { maxSteps := 1000000 }) only [go_sem, ↓reduceIte, Nat.reduceEqDiff, Nat.reduceAdd, Nat.reduceMul, Nat.reduceSub, Nat.reduceLT, Nat.reduceLeDiff, Int.reduceLT, Int.reduceLE, Int.reduceEq, Int.reduceNe, Int.reduceAdd, Int.reduceNeg, Int.reduceToNat, f0, f7, f12, f14, f15, fk, fj, o100, o97, natss, nats, hw]
              · have hke : k = depth lw := by omega
                rw [hke] at hO
                rw [hO.done hlw2] at o100
                simp (config := { maxSteps := 1000000 }) only [go_sem, ↓reduceIte, Nat.reduceEqDiff, Nat.reduceAdd, Nat.reduceMul, Nat.reduceSub, Nat.reduceLT, Nat.reduceLeDiff, Int.reduceLT, Int.reduceLE, Int.reduceEq, Int.reduceNe, Int.reduceAdd, Int.reduceNeg, Int.reduceToNat, f0, f7, f12, f14, f15, fk, natss, groups_len, List.length_map, hlt]
                refine loop_introB (fun n s => ∃ k : Nat, n + k = ys.length ∧ s.f 0 = .one (.d (natss ys)) ∧ s.f 14 = .one (.osl 97 (s.gen 97) 1 0 ys.length) ∧ s.f 15 = .one (.osl 100 (s.gen 100) 1 0 ys.length) ∧ s.f 20 = iv .i64 k ∧ s.obj 97 = some (ncells lv) ∧ s.obj 100 = some (ncells lw)) ys.length ?_ ?_
                · refine ⟨0, rfl, ?_⟩
                  simp (config := { maxSteps := 1000000 }) only [go_sem, ↓reduceIte, Nat.reduceEqDiff, Nat.reduceAdd, Nat.reduceMul, Nat.reduceSub, Nat.reduceLT, Nat.reduceLeDiff, Int.reduceLT, Int.reduceLE, Int.reduceEq, Int.reduceNe, Int.reduceAdd, Int.reduceNeg, Int.reduceToNat, f0, f14, f15, natss, nats, o97, o100]
                · clear f0 f7 f12 f14 f15 fk o97 o100
                  clear f g ob
                  rintro n f g ob ⟨k, hk, f0, f14, f15, f20, o97, o100⟩
                  simp only at f0 f14 f15 f20 o97 o100
                  have hw := wrap_succ (k := k) (by omega)
                  by_cases hlt : k < ys.length
                  · obtain ⟨a, ha⟩ := getq (show k < lv.length by omega)
                    obtain ⟨b, hb⟩ := getq (show k < lw.length by omega)
                    have hle := hwl k
                    simp only [List.getD, ha, hb, Option.getD_some] at hle
                    have hab : ¬ (a : Int) < (b : Int) := by omega
                    simp (config := { maxSteps := 1000000 }) only [go_sem, ↓reduceIte, Nat.reduceEqDiff, Nat.reduceAdd, Nat.reduceMul, Nat.reduceSub, Nat.reduceLT, Nat.reduceLeDiff, Int.reduceLT, Int.reduceLE, Int.reduceEq, Int.reduceNe, Int.reduceAdd, Int.reduceNeg, Int.reduceToNat, f0, f14, f15, f20, natss, hlt, List.length_map]
                    refine draw_introB (by decide +kernel) ?_
                    simp (config := { maxSteps := 1000000 }) only [go_sem, ↓reduceIte, Nat.reduceEqDiff, Nat.reduceAdd, Nat.reduceMul, Nat.reduceSub, Nat.reduceLT, Nat.reduceLeDiff, Int.reduceLT, Int.reduceLE, Int.reduceEq, Int.reduceNe, Int.reduceAdd, Int.reduceNeg, Int.reduceToNat, f14, f15, f20, o97, o100, ncells_get ha, ncells_get hb, ncells_len, hab, hll2, hlw2, hlt, hw]
                    refine round_endB (n - 1) (by omega) ⟨k + 1, by omega, ?_⟩
                    simp (config := { maxSteps := 1000000 }) only [go_sem, ↓reduceIte, Nat.reduceEqDiff, Nat.reduceAdd, Nat.reduceMul, Nat.reduceSub, Nat.reduceLT, Nat.reduceLeDiff, Int.reduceLT, Int.reduceLE, Int.reduceEq, Int.reduceNe, Int.reduceAdd, Int.reduceNeg, Int.reduceToNat, f0, f14, f15, natss, nats, o97, o100, hw]
                  · simp (config := { maxSteps := 1000000 }) only [go_sem, ↓reduceIte, Nat.reduceEqDiff, Nat.reduceAdd, Nat.reduceMul, Nat.reduceSub, Nat.reduceLT, Nat.reduceLeDiff, Int.reduceLT, Int.reduceLE, Int.reduceEq, Int.reduceNe, Int.reduceAdd, Int.reduceNeg, Int.reduceToNat, f0, f14, f15, f20, natss, hlt, List.length_map]
                    refine hook_call rfl awake_A (by rfl) ?_
                    rintro _ rfl
                    simp (config := { maxSteps := 1000000 }) only [go_sem, ↓reduceIte, Nat.reduceEqDiff, Nat.reduceAdd, Nat.reduceMul, Nat.reduceSub, Nat.reduceLT, Nat.reduceLeDiff, Int.reduceLT, Int.reduceLE, Int.reduceEq, Int.reduceNe, Int.reduceAdd, Int.reduceNeg, Int.reduceToNat]

end Go.Proofs.Ytfhmibodjfpdfaa
