/- A part of the proof; no conditions. -/
import Derived.Test.YtifciocionlciaaDoorPart5
import Derived.Lib.LaidU8
import Derived.Test.YtifciocionlciaaDoorTie
import Derived.Test.YtifciocionlciaaDoorCards
set_option linter.unusedSimpArgs false
set_option linter.unusedVariables false
namespace Go.Proofs.YtifciocionlciaaDoor
open Go Go.Am Go.Asm

/-- Line numbers stay small. -/
theorem stepA_uses {n : Nat} {st st' : Sta} {s : Str} (h : stepA n st s = .ok st') : ∀ u ∈ st'.uses, u ∈ st.uses ∨ u.1 = n := by
  have hop : ∀ (st : Sta) (op : Str) (args : List Str), Asm.opA n st op args = .ok st' → ∀ u ∈ st'.uses, u ∈ st.uses ∨ u.1 = n := by
    intro st op args ha
    have hins : ∀ {op : Nat}, Asm.insA n st op args = .ok st' → ∀ u ∈ st'.uses, u ∈ st.uses ∨ u.1 = n := by
      intro op ha u hu
      unfold Asm.insA at ha
      repeat' split at ha
      all_goals first
        | (cases ha; done)
        | (have := (addW_grow ha).2
           rw [this] at hu
           simp only [List.mem_append, List.mem_singleton] at hu
           rcases hu with hu | hu
           · exact .inl hu
           · exact .inr (by rw [hu]))
        | (have := (addW_grow ha).2
           rw [this] at hu
           exact .inl hu)
    have hdir : ∀ {b : Bool}, Asm.dirA st b args = .ok st' → ∀ u ∈ st'.uses, u ∈ st.uses ∨ u.1 = n := by
      intro b ha u hu
      unfold Asm.dirA at ha
      repeat' split at ha
      all_goals first
        | (cases ha; done)
        | (have := (addW_grow ha).2
           rw [this] at hu
           exact .inl hu)
        | (cases ha; exact .inl hu)
    unfold Asm.opA at ha
    repeat' split at ha
    all_goals first | (cases ha; done) | (cases ha; exact fun u hu => .inl hu) | exact hdir ha | exact hins ha
  unfold Asm.stepA at h
  repeat' split at h
  all_goals first | (cases h; done) | (have := hop _ _ _ h; exact this)
theorem linesA_uses : ∀ {n : Nat} {st st' : Sta} {ls : List Str}, (∀ u ∈ st.uses, u.1 ≤ n) → linesA n st ls = .inl st' → ∀ u ∈ st'.uses, u.1 ≤ n + ls.length
  | _, _, _, [], h, e => by cases e; exact h
  | n, st, st', s :: ls, h, e => by
    cases hs : stepA (n + 1) st s with
    | err e' => rw [linesA_bad hs] at e; cases e
    | ok st1 =>
      rw [linesA_ok hs] at e
      have := linesA_uses (n := n + 1) (fun u hu => by
        rcases stepA_uses hs u hu with h1 | h1
        · have := h u h1; omega
        · omega) e
      intro u hu
      have := this u hu
      simp only [List.length_cons]; omega
theorem usesA_err {labs : List (Str × Nat)} : ∀ {code : List Nat} {us : List (Nat × Nat × Str)} {n e : Nat}, usesA labs code us = .inr (n, e) → ∃ u ∈ us, u.1 = n
  | _, [], _, _, e => by cases e
  | code, u :: us, n, e, h => by
    cases hp : Asm.placeOf labs u.2.2 with
    | none => rw [usesA_bad hp] at h; cases h; exact ⟨u, by simp, rfl⟩
    | some p => rw [usesA_cons hp] at h; obtain ⟨v, h1, h2⟩ := usesA_err h; exact ⟨v, by simp [h1], h2⟩
theorem readA_line (t : Str) : (readA t).2.1 ≤ t.length + 1 := by
  by_cases ht : 20000 < t.length
  · unfold readA; rw [if_pos ht]; simp
  have hsl := splitC_len (c := 10) t
  cases hl : linesA 0 st0 (splitC 10 t) with
  | inr x => obtain ⟨n, e⟩ := x; rw [readA_bad ht hl]; have := linesA_err hl; simp only; omega
  | inl st =>
    cases hu : usesA st.labs st.code st.uses with
    | inr x =>
      obtain ⟨n, e⟩ := x
      rw [readA_use ht hl hu]
      obtain ⟨u, h1, h2⟩ := usesA_err hu
      have := linesA_uses (n := 0) (fun u hu => by cases hu) hl u h1
      simp only; omega
    | inl code => rw [readA_good ht hl hu]; simp

theorem flat_code (ca : List Nat) : List.map C.d (List.map (fun n : Nat => [D.int .u32 (n : Nat)]) ca).flatten = ca.map fun n => C.d (.int .u32 (n : Nat)) := by
  induction ca with
  | nil => rfl
  | cons a l ih => simpa using ih
theorem one_code (ca : List Nat) : ∀ e ∈ List.map (fun n : Nat => [D.int .u32 (n : Nat)]) ca, e.length = 1 := fun e he => by
  obtain ⟨n, _, rfl⟩ := List.mem_map.1 he; rfl

theorem frz_two {s : St} {c1 c2 : List Nat} {d1 d2 : Nat} {cc : C} (h : Frz s cc (codeD c2)) : FrzVs s [.agg [.d (codeD c1), .d (.int .i64 (d1 : Nat))], .agg [cc, .d (.int .i64 (d2 : Nat))]] [imgV (c1, d1), imgV (c2, d2)] := by
  refine ⟨_, _, rfl, ⟨[codeD c1, .int .i64 (d1 : Nat)], rfl, fun i c hc' => ?_, rfl⟩, _, _, rfl, ⟨[codeD c2, .int .i64 (d2 : Nat)], rfl, fun i c hc' => ?_, rfl⟩, rfl⟩
  · match i, hc' with
    | 0, hc' => cases hc'; exact ⟨_, rfl, .d (codeD c1)⟩
    | 1, hc' => cases hc'; exact ⟨_, rfl, .d _⟩
  · match i, hc' with
    | 0, hc' => cases hc'; exact ⟨_, rfl, h⟩
    | 1, hc' => cases hc'; exact ⟨_, rfl, .d _⟩

set_option maxHeartbeats 16000000 in
set_option maxRecDepth 100000 in
theorem AsmBehind_G {o : Obj} (ho : SmallO o) (s t : Str) : PureG Tryd.prog 3 o 7 [sv s, sv t] (· = bv true) := by
  refine pure_of_wpG2 0 3 o Tt_ok mixed Tryd.func7 rfl (by rfl) [.tmp 4] rfl (by kernel_rfl) (by kernel_rfl) (by simp [Tryd.ntmps7]) fun b₀ β0 s0 w0 g => ?_
  by_cases h1 : 500 < s.length
  · have h1i : (500 : Int) < (s.length : Int) := by omega
    simp (config := { maxSteps := 1000000 }) only [go_sem, ↓reduceIte, Nat.reduceEqDiff, Nat.reduceAdd, Nat.reduceMul, Nat.reduceSub, Nat.reduceLT, Nat.reduceLeDiff, Int.reduceLT, Int.reduceLE, Int.reduceEq, Int.reduceNe, Int.reduceAdd, Int.reduceNeg, Int.reduceToNat, h1i]
    refine hook_callG kept_phiG (fun s β ds w h => h.1.2) rfl (by simp (config := { maxSteps := 1000000 }) only [go_sem, ↓reduceIte, Nat.reduceEqDiff, Nat.reduceAdd, Nat.reduceMul, Nat.reduceSub, Nat.reduceLT, Nat.reduceLeDiff, Int.reduceLT, Int.reduceLE, Int.reduceEq, Int.reduceNe, Int.reduceAdd, Int.reduceNeg, Int.reduceToNat]; exact awake_G ho) (by simp (config := { maxSteps := 1000000 }) only [go_sem, ↓reduceIte, Nat.reduceEqDiff, Nat.reduceAdd, Nat.reduceMul, Nat.reduceSub, Nat.reduceLT, Nat.reduceLeDiff, Int.reduceLT, Int.reduceLE, Int.reduceEq, Int.reduceNe, Int.reduceAdd, Int.reduceNeg, Int.reduceToNat]; rfl) ?_
    rintro _ rfl
    simp (config := { maxSteps := 1000000 }) only [go_sem, ↓reduceIte, Nat.reduceEqDiff, Nat.reduceAdd, Nat.reduceMul, Nat.reduceSub, Nat.reduceLT, Nat.reduceLeDiff, Int.reduceLT, Int.reduceLE, Int.reduceEq, Int.reduceNe, Int.reduceAdd, Int.reduceNeg, Int.reduceToNat]
  have h1i : ¬ (500 : Int) < (s.length : Int) := by omega
  by_cases h2 : 500 < t.length
  · have h2i : (500 : Int) < (t.length : Int) := by omega
    simp (config := { maxSteps := 1000000 }) only [go_sem, ↓reduceIte, Nat.reduceEqDiff, Nat.reduceAdd, Nat.reduceMul, Nat.reduceSub, Nat.reduceLT, Nat.reduceLeDiff, Int.reduceLT, Int.reduceLE, Int.reduceEq, Int.reduceNe, Int.reduceAdd, Int.reduceNeg, Int.reduceToNat, h1i, h2i]
    refine hook_callG kept_phiG (fun s β ds w h => h.1.2) rfl (by simp (config := { maxSteps := 1000000 }) only [go_sem, ↓reduceIte, Nat.reduceEqDiff, Nat.reduceAdd, Nat.reduceMul, Nat.reduceSub, Nat.reduceLT, Nat.reduceLeDiff, Int.reduceLT, Int.reduceLE, Int.reduceEq, Int.reduceNe, Int.reduceAdd, Int.reduceNeg, Int.reduceToNat]; exact awake_G ho) (by simp (config := { maxSteps := 1000000 }) only [go_sem, ↓reduceIte, Nat.reduceEqDiff, Nat.reduceAdd, Nat.reduceMul, Nat.reduceSub, Nat.reduceLT, Nat.reduceLeDiff, Int.reduceLT, Int.reduceLE, Int.reduceEq, Int.reduceNe, Int.reduceAdd, Int.reduceNeg, Int.reduceToNat]; rfl) ?_
    rintro _ rfl
    simp (config := { maxSteps := 1000000 }) only [go_sem, ↓reduceIte, Nat.reduceEqDiff, Nat.reduceAdd, Nat.reduceMul, Nat.reduceSub, Nat.reduceLT, Nat.reduceLeDiff, Int.reduceLT, Int.reduceLE, Int.reduceEq, Int.reduceNe, Int.reduceAdd, Int.reduceNeg, Int.reduceToNat]
  have h2i : ¬ (500 : Int) < (t.length : Int) := by omega
  simp (config := { maxSteps := 1000000 }) only [go_sem, ↓reduceIte, Nat.reduceEqDiff, Nat.reduceAdd, Nat.reduceMul, Nat.reduceSub, Nat.reduceLT, Nat.reduceLeDiff, Int.reduceLT, Int.reduceLE, Int.reduceEq, Int.reduceNe, Int.reduceAdd, Int.reduceNeg, Int.reduceToNat, h1i, h2i, List.length_append]
  repeat (refine And.intro (by omega) ?_)
  have est : s ++ [10] ++ t = s ++ 10 :: t := by simp
  rw [est]
  refine hook_callF kept_phiG rfl (by simp (config := { maxSteps := 1000000 }) only [go_sem, ↓reduceIte, Nat.reduceEqDiff, Nat.reduceAdd, Nat.reduceMul, Nat.reduceSub, Nat.reduceLT, Nat.reduceLeDiff, Int.reduceLT, Int.reduceLE, Int.reduceEq, Int.reduceNe, Int.reduceAdd, Int.reduceNeg, Int.reduceToNat]; exact LinesR_A (s ++ 10 :: t) (by simp only [List.length_append, List.length_cons]; omega)) (by simp (config := { maxSteps := 1000000 }) only [go_sem, ↓reduceIte, Nat.reduceEqDiff, Nat.reduceAdd, Nat.reduceMul, Nat.reduceSub, Nat.reduceLT, Nat.reduceLeDiff, Int.reduceLT, Int.reduceLE, Int.reduceEq, Int.reduceNe, Int.reduceAdd, Int.reduceNeg, Int.reduceToNat]; rfl) ?_
  rintro _ rfl
  have hls := splitC_len (c := 10) (s ++ 10 :: t)
  have hlt := splitC_text (c := 10) (s ++ 10 :: t)
  simp only [List.length_append, List.length_cons] at hls hlt
  have hbe : (∀ x ∈ splitC 10 (s ++ 10 :: t), bareL x = true) → behindOk s (readA s) (readA t) (readA (s ++ 10 :: t)) := readA_behind (by omega) (by omega)
  generalize splitC 10 (s ++ 10 :: t) = ls at hls hlt hbe
  simp (config := { maxSteps := 1000000 }) only [go_sem, ↓reduceIte, Nat.reduceEqDiff, Nat.reduceAdd, Nat.reduceMul, Nat.reduceSub, Nat.reduceLT, Nat.reduceLeDiff, Int.reduceLT, Int.reduceLE, Int.reduceEq, Int.reduceNe, Int.reduceAdd, Int.reduceNeg, Int.reduceToNat, strs]
  refine loop_introF (fun nn st => ∃ k : Nat, nn + k = ls.length ∧ st.f 0 = sv s ∧ st.f 1 = sv t ∧ st.f 5 = .one (.d (.sl (ls.map fun w => [D.str w]))) ∧ st.f 6 = iv .i64 k ∧ ∀ x ∈ ls.take k, bareL x = true) ls.length ?_ ?_
  · refine ⟨0, by omega, ?_⟩
    simp (config := { maxSteps := 1000000 }) only [go_sem, ↓reduceIte, Nat.reduceEqDiff, Nat.reduceAdd, Nat.reduceMul, Nat.reduceSub, Nat.reduceLT, Nat.reduceLeDiff, Int.reduceLT, Int.reduceLE, Int.reduceEq, Int.reduceNe, Int.reduceAdd, Int.reduceNeg, Int.reduceToNat]
    exact fun x hx => by simp at hx
  rintro nn f g ob ⟨k, hk, q0, q1, q5, q6, hbr⟩
  simp only at q0 q1 q5 q6
  have hw := wrap_succ (k := k) (by omega)
  by_cases hkl : k < ls.length
  · obtain ⟨x, hx⟩ := getq hkl
    have hxl := hlt x (List.mem_of_getElem? hx)
    have hgx : (ls.map fun w => [D.str w])[k]? = some [D.str x] := by rw [List.getElem?_map, hx]; rfl
    have hki : (k : Int) < (ls.length : Int) := by omega
    have hk0 : (0 : Int) ≤ (k : Int) := by omega
    simp (config := { maxSteps := 1000000 }) only [go_sem, ↓reduceIte, Nat.reduceEqDiff, Nat.reduceAdd, Nat.reduceMul, Nat.reduceSub, Nat.reduceLT, Nat.reduceLeDiff, Int.reduceLT, Int.reduceLE, Int.reduceEq, Int.reduceNe, Int.reduceAdd, Int.reduceNeg, Int.reduceToNat, q5, q6, hki, hk0, hgx]
    refine hook_callF kept_phiG rfl (by simp (config := { maxSteps := 1000000 }) only [go_sem, ↓reduceIte, Nat.reduceEqDiff, Nat.reduceAdd, Nat.reduceMul, Nat.reduceSub, Nat.reduceLT, Nat.reduceLeDiff, Int.reduceLT, Int.reduceLE, Int.reduceEq, Int.reduceNe, Int.reduceAdd, Int.reduceNeg, Int.reduceToNat]; exact LineR_A x (by omega)) (by simp (config := { maxSteps := 1000000 }) only [go_sem, ↓reduceIte, Nat.reduceEqDiff, Nat.reduceAdd, Nat.reduceMul, Nat.reduceSub, Nat.reduceLT, Nat.reduceLeDiff, Int.reduceLT, Int.reduceLE, Int.reduceEq, Int.reduceNe, Int.reduceAdd, Int.reduceNeg, Int.reduceToNat]; rfl) ?_
    rintro _ rfl
    cases hb : bareL x
    · have hcase : lineA x = none ∨ ∃ l op args, lineA x = some (l, op, args) ∧ (l ≠ [] ∨ op = dataW) := by
        unfold bareL at hb
        cases hl : lineA x with
        | none => exact .inl rfl
        | some y =>
          obtain ⟨l, op, args⟩ := y
          rw [hl] at hb
          simp only [Bool.and_eq_false_iff, decide_eq_false_iff_not] at hb
          exact .inr ⟨l, op, args, rfl, by rcases hb with h | h; exact .inl h; exact .inr (Classical.not_not.1 h)⟩
      rcases hcase with hl | ⟨l, op, args, hl, hlo⟩
      · rw [hl]
        unfold lineV
        simp (config := { maxSteps := 1000000 }) only [go_sem, ↓reduceIte, Nat.reduceEqDiff, Nat.reduceAdd, Nat.reduceMul, Nat.reduceSub, Nat.reduceLT, Nat.reduceLeDiff, Int.reduceLT, Int.reduceLE, Int.reduceEq, Int.reduceNe, Int.reduceAdd, Int.reduceNeg, Int.reduceToNat, reduceCtorEq]
        refine hook_callG kept_phiG (fun s β ds w h => h.1.2) rfl (by simp (config := { maxSteps := 1000000 }) only [go_sem, ↓reduceIte, Nat.reduceEqDiff, Nat.reduceAdd, Nat.reduceMul, Nat.reduceSub, Nat.reduceLT, Nat.reduceLeDiff, Int.reduceLT, Int.reduceLE, Int.reduceEq, Int.reduceNe, Int.reduceAdd, Int.reduceNeg, Int.reduceToNat]; exact awake_G ho) (by simp (config := { maxSteps := 1000000 }) only [go_sem, ↓reduceIte, Nat.reduceEqDiff, Nat.reduceAdd, Nat.reduceMul, Nat.reduceSub, Nat.reduceLT, Nat.reduceLeDiff, Int.reduceLT, Int.reduceLE, Int.reduceEq, Int.reduceNe, Int.reduceAdd, Int.reduceNeg, Int.reduceToNat]; rfl) ?_
        rintro _ rfl
        simp (config := { maxSteps := 1000000 }) only [go_sem, ↓reduceIte, Nat.reduceEqDiff, Nat.reduceAdd, Nat.reduceMul, Nat.reduceSub, Nat.reduceLT, Nat.reduceLeDiff, Int.reduceLT, Int.reduceLE, Int.reduceEq, Int.reduceNe, Int.reduceAdd, Int.reduceNeg, Int.reduceToNat]
      · rw [hl]
        unfold lineV
        by_cases hl0 : l = []
        · have hop : op = [46, 100, 97, 116, 97] := by rcases hlo with h | h; exact absurd hl0 h; exact h
          simp (config := { maxSteps := 1000000 }) only [go_sem, ↓reduceIte, Nat.reduceEqDiff, Nat.reduceAdd, Nat.reduceMul, Nat.reduceSub, Nat.reduceLT, Nat.reduceLeDiff, Int.reduceLT, Int.reduceLE, Int.reduceEq, Int.reduceNe, Int.reduceAdd, Int.reduceNeg, Int.reduceToNat, hl0, hop]
          refine hook_callG kept_phiG (fun s β ds w h => h.1.2) rfl (by simp (config := { maxSteps := 1000000 }) only [go_sem, ↓reduceIte, Nat.reduceEqDiff, Nat.reduceAdd, Nat.reduceMul, Nat.reduceSub, Nat.reduceLT, Nat.reduceLeDiff, Int.reduceLT, Int.reduceLE, Int.reduceEq, Int.reduceNe, Int.reduceAdd, Int.reduceNeg, Int.reduceToNat]; exact awake_G ho) (by simp (config := { maxSteps := 1000000 }) only [go_sem, ↓reduceIte, Nat.reduceEqDiff, Nat.reduceAdd, Nat.reduceMul, Nat.reduceSub, Nat.reduceLT, Nat.reduceLeDiff, Int.reduceLT, Int.reduceLE, Int.reduceEq, Int.reduceNe, Int.reduceAdd, Int.reduceNeg, Int.reduceToNat]; rfl) ?_
          rintro _ rfl
          simp (config := { maxSteps := 1000000 }) only [go_sem, ↓reduceIte, Nat.reduceEqDiff, Nat.reduceAdd, Nat.reduceMul, Nat.reduceSub, Nat.reduceLT, Nat.reduceLeDiff, Int.reduceLT, Int.reduceLE, Int.reduceEq, Int.reduceNe, Int.reduceAdd, Int.reduceNeg, Int.reduceToNat]
        · simp (config := { maxSteps := 1000000 }) only [go_sem, ↓reduceIte, Nat.reduceEqDiff, Nat.reduceAdd, Nat.reduceMul, Nat.reduceSub, Nat.reduceLT, Nat.reduceLeDiff, Int.reduceLT, Int.reduceLE, Int.reduceEq, Int.reduceNe, Int.reduceAdd, Int.reduceNeg, Int.reduceToNat, hl0]
          refine hook_callG kept_phiG (fun s β ds w h => h.1.2) rfl (by simp (config := { maxSteps := 1000000 }) only [go_sem, ↓reduceIte, Nat.reduceEqDiff, Nat.reduceAdd, Nat.reduceMul, Nat.reduceSub, Nat.reduceLT, Nat.reduceLeDiff, Int.reduceLT, Int.reduceLE, Int.reduceEq, Int.reduceNe, Int.reduceAdd, Int.reduceNeg, Int.reduceToNat]; exact awake_G ho) (by simp (config := { maxSteps := 1000000 }) only [go_sem, ↓reduceIte, Nat.reduceEqDiff, Nat.reduceAdd, Nat.reduceMul, Nat.reduceSub, Nat.reduceLT, Nat.reduceLeDiff, Int.reduceLT, Int.reduceLE, Int.reduceEq, Int.reduceNe, Int.reduceAdd, Int.reduceNeg, Int.reduceToNat]; rfl) ?_
          rintro _ rfl
          simp (config := { maxSteps := 1000000 }) only [go_sem, ↓reduceIte, Nat.reduceEqDiff, Nat.reduceAdd, Nat.reduceMul, Nat.reduceSub, Nat.reduceLT, Nat.reduceLeDiff, Int.reduceLT, Int.reduceLE, Int.reduceEq, Int.reduceNe, Int.reduceAdd, Int.reduceNeg, Int.reduceToNat]
    · have hl : ∃ op args, lineA x = some ([], op, args) ∧ ¬ op = [46, 100, 97, 116, 97] := by
        unfold bareL at hb
        cases hl : lineA x with
        | none => rw [hl] at hb; cases hb
        | some y =>
          obtain ⟨l, op, args⟩ := y
          rw [hl] at hb
          simp only [Bool.and_eq_true, decide_eq_true_eq] at hb
          obtain ⟨rfl, h⟩ := hb
          exact ⟨op, args, rfl, h⟩
      obtain ⟨op, args, hl, hop⟩ := hl
      rw [hl]
      unfold lineV
      simp (config := { maxSteps := 1000000 }) only [go_sem, ↓reduceIte, Nat.reduceEqDiff, Nat.reduceAdd, Nat.reduceMul, Nat.reduceSub, Nat.reduceLT, Nat.reduceLeDiff, Int.reduceLT, Int.reduceLE, Int.reduceEq, Int.reduceNe, Int.reduceAdd, Int.reduceNeg, Int.reduceToNat, hop, q6, hw]
      refine ⟨nn - 1, _, by omega, SemVs.refl _, k + 1, by omega, ?_⟩
      simp (config := { maxSteps := 1000000 }) only [go_sem, ↓reduceIte, Nat.reduceEqDiff, Nat.reduceAdd, Nat.reduceMul, Nat.reduceSub, Nat.reduceLT, Nat.reduceLeDiff, Int.reduceLT, Int.reduceLE, Int.reduceEq, Int.reduceNe, Int.reduceAdd, Int.reduceNeg, Int.reduceToNat, q0, q1, q5]
      intro y hy
      rw [List.take_add_one, hx, List.mem_append] at hy
      rcases hy with hy | hy
      · exact hbr y hy
      · simp at hy; rw [hy]; exact hb
  · have hki : ¬ (k : Int) < (ls.length : Int) := by omega
    rw [List.take_of_length_le (by omega)] at hbr
    obtain ⟨k1, k2, k3⟩ := hbe hbr
    have l1 := readA_len s
    have l2 := readA_len t
    have l3 := readA_len (s ++ 10 :: t)
    have l4 := readA_line t
    have l5 := splitC_len (c := 10) s
    simp (config := { maxSteps := 1000000 }) only [go_sem, ↓reduceIte, Nat.reduceEqDiff, Nat.reduceAdd, Nat.reduceMul, Nat.reduceSub, Nat.reduceLT, Nat.reduceLeDiff, Int.reduceLT, Int.reduceLE, Int.reduceEq, Int.reduceNe, Int.reduceAdd, Int.reduceNeg, Int.reduceToNat, q0, q1, q5, q6, hki]
    refine hook_callG kept_phiG (fun s β ds w h => h.1.2) rfl (by simp (config := { maxSteps := 1000000 }) only [go_sem, ↓reduceIte, Nat.reduceEqDiff, Nat.reduceAdd, Nat.reduceMul, Nat.reduceSub, Nat.reduceLT, Nat.reduceLeDiff, Int.reduceLT, Int.reduceLE, Int.reduceEq, Int.reduceNe, Int.reduceAdd, Int.reduceNeg, Int.reduceToNat, q0]; exact Read_G ho s) (by simp (config := { maxSteps := 1000000 }) only [go_sem, ↓reduceIte, Nat.reduceEqDiff, Nat.reduceAdd, Nat.reduceMul, Nat.reduceSub, Nat.reduceLT, Nat.reduceLeDiff, Int.reduceLT, Int.reduceLE, Int.reduceEq, Int.reduceNe, Int.reduceAdd, Int.reduceNeg, Int.reduceToNat, q0]; rfl) ?_
    rintro _ rfl
    generalize readA s = A at k1 k2 k3 l1
    obtain ⟨⟨ca, da⟩, na, ea⟩ := A
    unfold readV imgV
    simp (config := { maxSteps := 1000000 }) only [go_sem, ↓reduceIte, Nat.reduceEqDiff, Nat.reduceAdd, Nat.reduceMul, Nat.reduceSub, Nat.reduceLT, Nat.reduceLeDiff, Int.reduceLT, Int.reduceLE, Int.reduceEq, Int.reduceNe, Int.reduceAdd, Int.reduceNeg, Int.reduceToNat, q1]
    refine hook_callG kept_phiG (fun s β ds w h => h.1.2) rfl (by simp (config := { maxSteps := 1000000 }) only [go_sem, ↓reduceIte, Nat.reduceEqDiff, Nat.reduceAdd, Nat.reduceMul, Nat.reduceSub, Nat.reduceLT, Nat.reduceLeDiff, Int.reduceLT, Int.reduceLE, Int.reduceEq, Int.reduceNe, Int.reduceAdd, Int.reduceNeg, Int.reduceToNat, q1]; exact Read_G ho t) (by simp (config := { maxSteps := 1000000 }) only [go_sem, ↓reduceIte, Nat.reduceEqDiff, Nat.reduceAdd, Nat.reduceMul, Nat.reduceSub, Nat.reduceLT, Nat.reduceLeDiff, Int.reduceLT, Int.reduceLE, Int.reduceEq, Int.reduceNe, Int.reduceAdd, Int.reduceNeg, Int.reduceToNat, q1]; rfl) ?_
    rintro _ rfl
    generalize readA t = B at k1 k2 k3 l2 l4
    obtain ⟨⟨cb, db⟩, nb, eb⟩ := B
    unfold readV imgV
    simp (config := { maxSteps := 1000000 }) only [go_sem, ↓reduceIte, Nat.reduceEqDiff, Nat.reduceAdd, Nat.reduceMul, Nat.reduceSub, Nat.reduceLT, Nat.reduceLeDiff, Int.reduceLT, Int.reduceLE, Int.reduceEq, Int.reduceNe, Int.reduceAdd, Int.reduceNeg, Int.reduceToNat, q0, q1, List.length_append]
    repeat (refine And.intro (by omega) ?_)
    rw [est]
    refine hook_callG kept_phiG (fun s β ds w h => h.1.2) rfl (by simp (config := { maxSteps := 1000000 }) only [go_sem, ↓reduceIte, Nat.reduceEqDiff, Nat.reduceAdd, Nat.reduceMul, Nat.reduceSub, Nat.reduceLT, Nat.reduceLeDiff, Int.reduceLT, Int.reduceLE, Int.reduceEq, Int.reduceNe, Int.reduceAdd, Int.reduceNeg, Int.reduceToNat]; exact Read_G ho _) (by simp (config := { maxSteps := 1000000 }) only [go_sem, ↓reduceIte, Nat.reduceEqDiff, Nat.reduceAdd, Nat.reduceMul, Nat.reduceSub, Nat.reduceLT, Nat.reduceLeDiff, Int.reduceLT, Int.reduceLE, Int.reduceEq, Int.reduceNe, Int.reduceAdd, Int.reduceNeg, Int.reduceToNat]; rfl) ?_
    rintro _ rfl
    generalize readA (s ++ 10 :: t) = Cc at k1 k2 k3 l3
    obtain ⟨⟨cc, dc⟩, nc, ec⟩ := Cc
    unfold readV imgV
    simp only at k1 k2 k3 l1 l2 l3 l4
    by_cases hea : ea = 0
    case neg =>
      have heai : ¬ (ea : Int) = 0 := by omega
      have heci : ¬ (ec : Int) = 0 := by have := k1 hea; omega
      simp (config := { maxSteps := 1000000 }) only [go_sem, ↓reduceIte, Nat.reduceEqDiff, Nat.reduceAdd, Nat.reduceMul, Nat.reduceSub, Nat.reduceLT, Nat.reduceLeDiff, Int.reduceLT, Int.reduceLE, Int.reduceEq, Int.reduceNe, Int.reduceAdd, Int.reduceNeg, Int.reduceToNat, heai]
      refine hook_callG kept_phiG (fun s β ds w h => h.1.2) rfl (by simp (config := { maxSteps := 1000000 }) only [go_sem, ↓reduceIte, Nat.reduceEqDiff, Nat.reduceAdd, Nat.reduceMul, Nat.reduceSub, Nat.reduceLT, Nat.reduceLeDiff, Int.reduceLT, Int.reduceLE, Int.reduceEq, Int.reduceNe, Int.reduceAdd, Int.reduceNeg, Int.reduceToNat]; exact awake_G ho) (by simp (config := { maxSteps := 1000000 }) only [go_sem, ↓reduceIte, Nat.reduceEqDiff, Nat.reduceAdd, Nat.reduceMul, Nat.reduceSub, Nat.reduceLT, Nat.reduceLeDiff, Int.reduceLT, Int.reduceLE, Int.reduceEq, Int.reduceNe, Int.reduceAdd, Int.reduceNeg, Int.reduceToNat]; rfl) ?_
      rintro _ rfl
      simp (config := { maxSteps := 1000000 }) only [go_sem, ↓reduceIte, Nat.reduceEqDiff, Nat.reduceAdd, Nat.reduceMul, Nat.reduceSub, Nat.reduceLT, Nat.reduceLeDiff, Int.reduceLT, Int.reduceLE, Int.reduceEq, Int.reduceNe, Int.reduceAdd, Int.reduceNeg, Int.reduceToNat, heci]
    subst hea
    by_cases heb : eb = 0
    case neg =>
      have hebi : ¬ (eb : Int) = 0 := by omega
      obtain ⟨rfl, rfl⟩ := k2 rfl heb
      simp (config := { maxSteps := 1000000 }) only [go_sem, ↓reduceIte, Nat.reduceEqDiff, Nat.reduceAdd, Nat.reduceMul, Nat.reduceSub, Nat.reduceLT, Nat.reduceLeDiff, Int.reduceLT, Int.reduceLE, Int.reduceEq, Int.reduceNe, Int.reduceAdd, Int.reduceNeg, Int.reduceToNat, hebi]
      refine hook_callG kept_phiG (fun s β ds w h => h.1.2) rfl (by simp (config := { maxSteps := 1000000 }) only [go_sem, ↓reduceIte, Nat.reduceEqDiff, Nat.reduceAdd, Nat.reduceMul, Nat.reduceSub, Nat.reduceLT, Nat.reduceLeDiff, Int.reduceLT, Int.reduceLE, Int.reduceEq, Int.reduceNe, Int.reduceAdd, Int.reduceNeg, Int.reduceToNat]; exact awake_G ho) (by simp (config := { maxSteps := 1000000 }) only [go_sem, ↓reduceIte, Nat.reduceEqDiff, Nat.reduceAdd, Nat.reduceMul, Nat.reduceSub, Nat.reduceLT, Nat.reduceLeDiff, Int.reduceLT, Int.reduceLE, Int.reduceEq, Int.reduceNe, Int.reduceAdd, Int.reduceNeg, Int.reduceToNat]; rfl) ?_
      rintro _ rfl
      simp (config := { maxSteps := 1000000 }) only [go_sem, ↓reduceIte, Nat.reduceEqDiff, Nat.reduceAdd, Nat.reduceMul, Nat.reduceSub, Nat.reduceLT, Nat.reduceLeDiff, Int.reduceLT, Int.reduceLE, Int.reduceEq, Int.reduceNe, Int.reduceAdd, Int.reduceNeg, Int.reduceToNat, q0]
      refine hook_callF kept_phiG rfl (by simp (config := { maxSteps := 1000000 }) only [go_sem, ↓reduceIte, Nat.reduceEqDiff, Nat.reduceAdd, Nat.reduceMul, Nat.reduceSub, Nat.reduceLT, Nat.reduceLeDiff, Int.reduceLT, Int.reduceLE, Int.reduceEq, Int.reduceNe, Int.reduceAdd, Int.reduceNeg, Int.reduceToNat, q0]; exact LinesR_A s (by omega)) (by simp (config := { maxSteps := 1000000 }) only [go_sem, ↓reduceIte, Nat.reduceEqDiff, Nat.reduceAdd, Nat.reduceMul, Nat.reduceSub, Nat.reduceLT, Nat.reduceLeDiff, Int.reduceLT, Int.reduceLE, Int.reduceEq, Int.reduceNe, Int.reduceAdd, Int.reduceNeg, Int.reduceToNat, q0]; rfl) ?_
      rintro _ rfl
      have hwl : IntKind.i64.wrap ((nb : Int) + ((splitC 10 s).length : Int)) = ((nb + (splitC 10 s).length : Nat) : Int) := by rw [IntKind.wrap_i64] <;> omega
      simp (config := { maxSteps := 1000000 }) only [go_sem, ↓reduceIte, Nat.reduceEqDiff, Nat.reduceAdd, Nat.reduceMul, Nat.reduceSub, Nat.reduceLT, Nat.reduceLeDiff, Int.reduceLT, Int.reduceLE, Int.reduceEq, Int.reduceNe, Int.reduceAdd, Int.reduceNeg, Int.reduceToNat, strs, List.length_map, hwl]
    subst heb
    obtain ⟨rfl, k4⟩ := k3 rfl rfl
    simp only [Prod.mk.injEq] at k4
    obtain ⟨rfl, rfl⟩ := k4
    simp (config := { maxSteps := 1000000 }) only [go_sem, ↓reduceIte, Nat.reduceEqDiff, Nat.reduceAdd, Nat.reduceMul, Nat.reduceSub, Nat.reduceLT, Nat.reduceLeDiff, Int.reduceLT, Int.reduceLE, Int.reduceEq, Int.reduceNe, Int.reduceAdd, Int.reduceNeg, Int.reduceToNat]
    refine draw_detG Tt_ok mixed kept_phiG [113] [([], [], [], false), ([106], [], [], false), ([19, 107], [], [], false), ([108, 107], [], [], false), ([107, 109], [], [], false), ([110], [], [], false), ([17, 111], [0], [], false), ([111], [], [0], false),
      ([11, 111], [0], [], false), ([114, 111], [0], [], false), ([113, 115, 111], [], [0], false), ([14, 111], [0], [], false), ([117, 111], [0], [], false), ([116, 118, 111], [], [0], false), ([119, 111], [], [], false), ([112, 120, 111], [], [], false), ([111, 121], [], [], false), ([122], [], [], false)] 1 rfl (by decide +kernel) rfl (by decide) ?_
    simp (config := { maxSteps := 1000000 }) only [go_sem, ↓reduceIte, Nat.reduceEqDiff, Nat.reduceAdd, Nat.reduceMul, Nat.reduceSub, Nat.reduceLT, Nat.reduceLeDiff, Int.reduceLT, Int.reduceLE, Int.reduceEq, Int.reduceNe, Int.reduceAdd, Int.reduceNeg, Int.reduceToNat]
    (apply detG_pure; (case hg => exact True.intro); (case h1 => intro fa ga oa K' hK; simp (config := { maxSteps := 1000000 }) only [go_sem, ↓reduceIte, Nat.reduceEqDiff, Nat.reduceAdd, Nat.reduceMul, Nat.reduceSub, Nat.reduceLT, Nat.reduceLeDiff, Int.reduceLT, Int.reduceLE, Int.reduceEq, Int.reduceNe, Int.reduceAdd, Int.reduceNeg, Int.reduceToNat] at hK ⊢; refine hook_callG kept_phiG (fun s β ds w h => h.1.2) rfl (by simp (config := { maxSteps := 1000000 }) only [go_sem, ↓reduceIte, Nat.reduceEqDiff, Nat.reduceAdd, Nat.reduceMul, Nat.reduceSub, Nat.reduceLT, Nat.reduceLeDiff, Int.reduceLT, Int.reduceLE, Int.reduceEq, Int.reduceNe, Int.reduceAdd, Int.reduceNeg, Int.reduceToNat]; exact awake_G ho) (by simp (config := { maxSteps := 1000000 }) only [go_sem, ↓reduceIte, Nat.reduceEqDiff, Nat.reduceAdd, Nat.reduceMul, Nat.reduceSub, Nat.reduceLT, Nat.reduceLeDiff, Int.reduceLT, Int.reduceLE, Int.reduceEq, Int.reduceNe, Int.reduceAdd, Int.reduceNeg, Int.reduceToNat]; rfl) ?_; rintro _ rfl; simp (config := { maxSteps := 1000000 }) only [go_sem, ↓reduceIte, Nat.reduceEqDiff, Nat.reduceAdd, Nat.reduceMul, Nat.reduceSub, Nat.reduceLT, Nat.reduceLeDiff, Int.reduceLT, Int.reduceLE, Int.reduceEq, Int.reduceNe, Int.reduceAdd, Int.reduceNeg, Int.reduceToNat]; exact hK))
    (apply detG_pure; (case hg => first | exact True.intro | exact ⟨_, rfl, by decide, rfl⟩); (case h1 => intro fa ga oa K' hK; simp (config := { maxSteps := 1000000 }) only [go_sem, ↓reduceIte, Nat.reduceEqDiff, Nat.reduceAdd, Nat.reduceMul, Nat.reduceSub, Nat.reduceLT, Nat.reduceLeDiff, Int.reduceLT, Int.reduceLE, Int.reduceEq, Int.reduceNe, Int.reduceAdd, Int.reduceNeg, Int.reduceToNat] at hK ⊢; exact hK))
    iterate 4 (apply detG_pure; (case hg => first | exact True.intro | exact ⟨_, rfl, by decide, rfl⟩); (case h1 => intro fa ga oa K' hK; simp (config := { maxSteps := 1000000 }) only [go_sem, ↓reduceIte, Nat.reduceEqDiff, Nat.reduceAdd, Nat.reduceMul, Nat.reduceSub, Nat.reduceLT, Nat.reduceLeDiff, Int.reduceLT, Int.reduceLE, Int.reduceEq, Int.reduceNe, Int.reduceAdd, Int.reduceNeg, Int.reduceToNat] at hK ⊢; exact hK))
    (apply detG_pure; (case hg => first | exact True.intro | exact ⟨_, rfl, by decide, rfl⟩); (case h1 => intro fa ga oa K' hK; simp (config := { maxSteps := 1000000 }) only [go_sem, ↓reduceIte, Nat.reduceEqDiff, Nat.reduceAdd, Nat.reduceMul, Nat.reduceSub, Nat.reduceLT, Nat.reduceLeDiff, Int.reduceLT, Int.reduceLE, Int.reduceEq, Int.reduceNe, Int.reduceAdd, Int.reduceNeg, Int.reduceToNat] at hK ⊢; exact hK))
    (apply detG_new; (case hg => first | exact True.intro | exact ⟨_, rfl, by decide, rfl⟩); (case h1 => intro fa ga oa K' hK; simp (config := { maxSteps := 1000000 }) only [go_sem, ↓reduceIte, Nat.reduceEqDiff, Nat.reduceAdd, Nat.reduceMul, Nat.reduceSub, Nat.reduceLT, Nat.reduceLeDiff, Int.reduceLT, Int.reduceLE, Int.reduceEq, Int.reduceNe, Int.reduceAdd, Int.reduceNeg, Int.reduceToNat, elemTy] at hK ⊢; exact hK))
    iterate 2 (apply detG_pure; (case hg => first | exact True.intro | exact ⟨_, rfl, by decide, rfl⟩); (case h1 => intro fa ga oa K' hK; simp (config := { maxSteps := 1000000 }) only [go_sem, ↓reduceIte, Nat.reduceEqDiff, Nat.reduceAdd, Nat.reduceMul, Nat.reduceSub, Nat.reduceLT, Nat.reduceLeDiff, Int.reduceLT, Int.reduceLE, Int.reduceEq, Int.reduceNe, Int.reduceAdd, Int.reduceNeg, Int.reduceToNat] at hK ⊢; exact hK))
    apply detG_new
    case hg => exact ⟨_, rfl, by decide, rfl⟩
    case h1 =>
      intro fa ga oa K' hK
      simp (config := { maxSteps := 1000000 }) only [go_sem, ↓reduceIte, Nat.reduceEqDiff, Nat.reduceAdd, Nat.reduceMul, Nat.reduceSub, Nat.reduceLT, Nat.reduceLeDiff, Int.reduceLT, Int.reduceLE, Int.reduceEq, Int.reduceNe, Int.reduceAdd, Int.reduceNeg, Int.reduceToNat, elemTy, codeD, flat_code] at hK ⊢
      exact ⟨one_code ca, ⟨by decide, by omega⟩, hK⟩
    iterate 2 (apply detG_pure; (case hg => first | exact True.intro | exact ⟨_, rfl, by decide, rfl⟩); (case h1 => intro fa ga oa K' hK; simp (config := { maxSteps := 1000000 }) only [go_sem, ↓reduceIte, Nat.reduceEqDiff, Nat.reduceAdd, Nat.reduceMul, Nat.reduceSub, Nat.reduceLT, Nat.reduceLeDiff, Int.reduceLT, Int.reduceLE, Int.reduceEq, Int.reduceNe, Int.reduceAdd, Int.reduceNeg, Int.reduceToNat, codeD] at hK ⊢; exact hK))
    apply detG_new
    case hg => exact ⟨_, rfl, by decide, rfl⟩
    case h1 =>
      intro fa ga oa K' hK
      simp (config := { maxSteps := 1000000 }) only [go_sem, ↓reduceIte, Nat.reduceEqDiff, Nat.reduceAdd, Nat.reduceMul, Nat.reduceSub, Nat.reduceLT, Nat.reduceLeDiff, Int.reduceLT, Int.reduceLE, Int.reduceEq, Int.reduceNe, Int.reduceAdd, Int.reduceNeg, Int.reduceToNat, elemTy, codeD, flat_code, List.length_map] at hK ⊢
      refine ⟨Nat.le_refl _, one_code cb, ⟨by decide, by omega⟩, ?_⟩
      rw [List.take_of_length_le (by rw [List.length_map]; exact Nat.le_refl _), ← List.map_append] at *
      exact hK
    (apply detG_pure; (case hg => first | exact True.intro | exact ⟨_, rfl, by decide, rfl⟩); (case h1 => intro fa ga oa K' hK; simp (config := { maxSteps := 1000000 }) only [go_sem, ↓reduceIte, Nat.reduceEqDiff, Nat.reduceAdd, Nat.reduceMul, Nat.reduceSub, Nat.reduceLT, Nat.reduceLeDiff, Int.reduceLT, Int.reduceLE, Int.reduceEq, Int.reduceNe, Int.reduceAdd, Int.reduceNeg, Int.reduceToNat, buildA] at hK ⊢; exact hK))
    apply detG_pure
    case hg => exact ⟨_, rfl, by decide, rfl⟩
    case h1 =>
      intro fa ga oa K' hK
      simp (config := { maxSteps := 1000000 }) only [go_sem, ↓reduceIte, Nat.reduceEqDiff, Nat.reduceAdd, Nat.reduceMul, Nat.reduceSub, Nat.reduceLT, Nat.reduceLeDiff, Int.reduceLT, Int.reduceLE, Int.reduceEq, Int.reduceNe, Int.reduceAdd, Int.reduceNeg, Int.reduceToNat] at hK ⊢
      refine hook_viewF kept_phiG rfl (xs := [imgV (ca ++ cb, 0), imgV (ca ++ cb, 0)]) ?_ (Same_A (ca ++ cb, 0) (ca ++ cb, 0) (by simp only; omega)) (by rintro _ rfl; rfl) ?_
      · simp (config := { maxSteps := 1000000 }) only [go_sem, ↓reduceIte, Nat.reduceEqDiff, Nat.reduceAdd, Nat.reduceMul, Nat.reduceSub, Nat.reduceLT, Nat.reduceLeDiff, Int.reduceLT, Int.reduceLE, Int.reduceEq, Int.reduceNe, Int.reduceAdd, Int.reduceNeg, Int.reduceToNat]
        exact frz_two (frz_code rfl (by simp [upd]) (by simp))
      · rintro _ rfl
        rw [show decide ((ca ++ cb, 0) = (ca ++ cb, 0)) = true from by simp]
        simp (config := { maxSteps := 1000000 }) only [go_sem, ↓reduceIte, Nat.reduceEqDiff, Nat.reduceAdd, Nat.reduceMul, Nat.reduceSub, Nat.reduceLT, Nat.reduceLeDiff, Int.reduceLT, Int.reduceLE, Int.reduceEq, Int.reduceNe, Int.reduceAdd, Int.reduceNeg, Int.reduceToNat]
        exact hK
    iterate 2 (apply detG_pure; (case hg => first | exact True.intro | exact ⟨_, rfl, by decide, rfl⟩); (case h1 => intro fa ga oa K' hK; simp (config := { maxSteps := 1000000 }) only [go_sem, ↓reduceIte, Nat.reduceEqDiff, Nat.reduceAdd, Nat.reduceMul, Nat.reduceSub, Nat.reduceLT, Nat.reduceLeDiff, Int.reduceLT, Int.reduceLE, Int.reduceEq, Int.reduceNe, Int.reduceAdd, Int.reduceNeg, Int.reduceToNat] at hK ⊢; exact hK))
    apply detG_nil
    simp (config := { maxSteps := 1000000 }) only [go_sem, ↓reduceIte, Nat.reduceEqDiff, Nat.reduceAdd, Nat.reduceMul, Nat.reduceSub, Nat.reduceLT, Nat.reduceLeDiff, Int.reduceLT, Int.reduceLE, Int.reduceEq, Int.reduceNe, Int.reduceAdd, Int.reduceNeg, Int.reduceToNat]

end Go.Proofs.YtifciocionlciaaDoor

namespace Go.Proofs.YtifciocionlciaaDoor
open Go Go.Am Go.ChangeShapes Go.WideShapes Go.ChangeAt Go.RowKit Go.Lib
set_option maxRecDepth 100000

theorem own : ownKnob Tryd.prog.godebug = none := by kernel_rfl
theorem laidOut : laidOutB Tryd.prog = true := by kernel_rfl
def laidV : List (String × DataW Unit) := [("unicode/utf8.acceptRanges", Rows.laid_unicode_utf8_acceptRanges), ("seedcorn/hex.small", Rows.laid_seedcorn_hex_small), ("unicode/utf8.first", Rows.laid_unicode_utf8_first)]

theorem reach_eq : reachBytes = 140737488351232 := by kernel_rfl
theorem u9 : Tryd.prog.underlying 9 = some .string := by kernel_rfl
theorem u5 : Tryd.prog.underlying 5 = some (.int .u8) := by kernel_rfl
theorem u29 : Tryd.prog.underlying 29 = some (.int .u16) := by kernel_rfl
theorem u40 : Tryd.prog.underlying 40 = some (.int .u32) := by kernel_rfl
theorem u4 : Tryd.prog.underlying 4 = some .bool := by kernel_rfl

theorem hasT_str {n : Nat} {x : D} (h : HasT Tryd.prog (n + 1) 9 [x]) : ∃ s, x = .str s ∧ s.length ≤ 140737488351232 := by
  unfold HasT at h
  rw [u9] at h
  obtain ⟨s, h1, h2⟩ := h
  simp only [List.cons.injEq, and_true] at h1
  rw [reach_eq] at h2
  exact ⟨s, h1, h2⟩
theorem hasT_u8 {n : Nat} {x : D} (h : HasT Tryd.prog (n + 1) 5 [x]) : ∃ m : Nat, x = .int .u8 m ∧ m < 256 := by
  unfold HasT at h
  rw [u5] at h
  obtain ⟨m, h1, h2⟩ := h
  simp only [List.cons.injEq, and_true] at h1
  have : 0 ≤ m ∧ m ≤ 255 := by
    simp only [Lit.wf, Bool.and_eq_true, decide_eq_true_eq] at h2
    have e1 : IntKind.u8.min = 0 := by decide
    have e2 : IntKind.u8.max = 255 := by decide
    rw [e1, e2] at h2; exact h2
  exact ⟨m.toNat, by rw [h1]; congr 1; omega, by omega⟩
theorem hasT_u16 {n : Nat} {x : D} (h : HasT Tryd.prog (n + 1) 29 [x]) : ∃ m : Nat, x = .int .u16 m ∧ m < 65536 := by
  unfold HasT at h
  rw [u29] at h
  obtain ⟨m, h1, h2⟩ := h
  simp only [List.cons.injEq, and_true] at h1
  have : 0 ≤ m ∧ m ≤ 65535 := by
    simp only [Lit.wf, Bool.and_eq_true, decide_eq_true_eq] at h2
    have e1 : IntKind.u16.min = 0 := by decide
    have e2 : IntKind.u16.max = 65535 := by decide
    rw [e1, e2] at h2; exact h2
  exact ⟨m.toNat, by rw [h1]; congr 1; omega, by omega⟩
theorem hasT_u32 {n : Nat} {x : D} (h : HasT Tryd.prog (n + 1) 40 [x]) : ∃ m : Nat, x = .int .u32 m ∧ m < 4294967296 := by
  unfold HasT at h
  rw [u40] at h
  obtain ⟨m, h1, h2⟩ := h
  simp only [List.cons.injEq, and_true] at h1
  have : 0 ≤ m ∧ m ≤ 4294967295 := by
    simp only [Lit.wf, Bool.and_eq_true, decide_eq_true_eq] at h2
    have e1 : IntKind.u32.min = 0 := by decide
    have e2 : IntKind.u32.max = 4294967295 := by decide
    rw [e1, e2] at h2; exact h2
  exact ⟨m.toNat, by rw [h1]; congr 1; omega, by omega⟩

/-- The table of digits lies where it is read. -/
theorem small_held {W : World} (h : laidMetH Tryd.prog laidV W) : ∃ o, Held 3 o W ∧ SmallO o := by
  rw [MakeChecks.laidMetH_plain _ _ _ (by kernel_rfl)] at h
  obtain ⟨g, t, cs, fuel, p, hg, hty, hvar, hd⟩ := laidMet.reads h (n := "seedcorn/hex.small") (d := Rows.laid_seedcorn_hex_small) (by simp [laidV])
  obtain rfl := Option.some.inj ((show Tryd.prog.globalNamed "seedcorn/hex.small" = some 3 by kernel_rfl).symm.trans hg)
  obtain rfl := Option.some.inj ((show (Tryd.prog.globals[3]?).map (·.type) = some 130 by kernel_rfl).symm.trans hty)
  have hcs := cells_of_tab (H := Unit) (k := .u8) (zs := (List.range 16).map hexs) (show Tryd.prog.underlying 130 = some (.array 16 5) by kernel_rfl) u5 (by kernel_rfl) (by kernel_rfl) hd
  have hcell : ∀ i : Nat, i < 16 → W.cell? ⟨3, i, none⟩ = some (.int .u8 (hexs i)) := fun i hi => by
    have := World.var?_cell hg hvar i
    rw [this, ← Array.getElem?_toList, hcs]
    simp [hi]
  have h0 := hcell 0 (by decide)
  have hblk : ∀ (w : World) (i : Nat), w.cell? ⟨3, i, none⟩ = (w.heap[3]?).bind fun _ => w.cell? ⟨3, i, none⟩ := fun w i => by
    cases hw : w.heap[3]? with
    | some o => rfl
    | none => simp [World.cell?, hw]
  cases ho : W.heap[3]? with
  | none => rw [hblk, ho] at h0; cases h0
  | some o =>
    refine ⟨o, ho, fun w hw i hi => ?_⟩
    rw [← hcell i hi]
    unfold Held at hw
    unfold World.cell?
    simp only [hw, ho]

end Go.Proofs.YtifciocionlciaaDoor
