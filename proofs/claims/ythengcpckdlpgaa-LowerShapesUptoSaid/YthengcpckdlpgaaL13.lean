/- Stack code: what an instruction takes, where it goes, and whether it fits. -/
import Derived.Test.YthengcpckdlpgaaL12
set_option linter.unusedSimpArgs false
set_option linter.unusedVariables false
namespace Go.Proofs.Ythengcpckdlpgaa
open Go Go.Am Go.Lower

theorem takes_op {ps : Sig} {word : Bool} {x : Ins} {r : Int × Int} (h : takes ps word x = some r) : x.op = 1 ∨ x.op = 2 ∨ x.op = 3 ∨ x.op = 4 ∨ x.op = 5 ∨ x.op = 6 ∨ x.op = 7 ∨ x.op = 8 ∨ x.op = 9 ∨ x.op = 10 ∨ x.op = 11 ∨ x.op = 12 ∨ x.op = 13 := by
  unfold takes at h
  by_cases h1 : x.op = 1 ∨ x.op = 2 ∨ x.op = 12
  · omega
  by_cases h2 : x.op = 3 ∨ x.op = 9 ∨ x.op = 13
  · omega
  by_cases h3 : x.op = 4 ∨ x.op = 7
  · omega
  by_cases h4 : x.op = 5
  · omega
  by_cases h5 : x.op = 6
  · omega
  by_cases h6 : x.op = 8
  · omega
  by_cases h7 : x.op = 10
  · omega
  by_cases h8 : x.op = 11
  · omega
  rw [if_neg h1, if_neg h2, if_neg h3, if_neg h4, if_neg h5, if_neg h6, if_neg h7, if_neg h8] at h
  cases h

set_option maxHeartbeats 4000000 in
set_option maxRecDepth 100000 in
theorem Takes_A {w : Int} {fs : List Fn} {f : Nat} {fx : Fn} (hf : fs[f]? = some fx) {x : Ins} {t p : Int} (h : takes (sig fs) fx.word x = some (t, p)) :
    PureR Try.prog 26 [stackC w fs, iv .i64 f, .agg ((insD x).map .d)] (· = .tup [iv .i64 t, iv .i64 p, bv true]) := by
  refine pure_of_wp Tt_ok mixed Try.func26 rfl (by rfl) [6, 7, 8] rfl (by kernel_rfl) (by simp [Try.ntmps26]) fun g => ?_
  have hop := takes_op h
  obtain ⟨op, a, b, n⟩ := x
  have hfl : f < fs.length := (List.getElem?_eq_some_iff.1 hf).1
  unfold stackC
  simp only at hop
  rcases hop with rfl | rfl | rfl | rfl | rfl | rfl | rfl | rfl | rfl | rfl | rfl | rfl | rfl
  all_goals try (obtain ⟨rfl, rfl⟩ : _ = t ∧ _ = p := by simpa [takes] using h)
  · simp (config := { maxSteps := 1000000 }) only [go_sem, ↓reduceIte, Nat.reduceEqDiff, Nat.reduceAdd, Nat.reduceMul, Nat.reduceSub, Nat.reduceLT, Nat.reduceLeDiff, Int.reduceLT, Int.reduceLE, Int.reduceEq, Int.reduceNe, Int.reduceAdd, Int.reduceNeg, Int.reduceToNat, insD]
  · simp (config := { maxSteps := 1000000 }) only [go_sem, ↓reduceIte, Nat.reduceEqDiff, Nat.reduceAdd, Nat.reduceMul, Nat.reduceSub, Nat.reduceLT, Nat.reduceLeDiff, Int.reduceLT, Int.reduceLE, Int.reduceEq, Int.reduceNe, Int.reduceAdd, Int.reduceNeg, Int.reduceToNat, insD]
  · simp (config := { maxSteps := 1000000 }) only [go_sem, ↓reduceIte, Nat.reduceEqDiff, Nat.reduceAdd, Nat.reduceMul, Nat.reduceSub, Nat.reduceLT, Nat.reduceLeDiff, Int.reduceLT, Int.reduceLE, Int.reduceEq, Int.reduceNe, Int.reduceAdd, Int.reduceNeg, Int.reduceToNat, insD]
  · simp (config := { maxSteps := 1000000 }) only [go_sem, ↓reduceIte, Nat.reduceEqDiff, Nat.reduceAdd, Nat.reduceMul, Nat.reduceSub, Nat.reduceLT, Nat.reduceLeDiff, Int.reduceLT, Int.reduceLE, Int.reduceEq, Int.reduceNe, Int.reduceAdd, Int.reduceNeg, Int.reduceToNat, insD]
  · simp (config := { maxSteps := 1000000 }) only [go_sem, ↓reduceIte, Nat.reduceEqDiff, Nat.reduceAdd, Nat.reduceMul, Nat.reduceSub, Nat.reduceLT, Nat.reduceLeDiff, Int.reduceLT, Int.reduceLE, Int.reduceEq, Int.reduceNe, Int.reduceAdd, Int.reduceNeg, Int.reduceToNat, insD]
  · simp (config := { maxSteps := 1000000 }) only [go_sem, ↓reduceIte, Nat.reduceEqDiff, Nat.reduceAdd, Nat.reduceMul, Nat.reduceSub, Nat.reduceLT, Nat.reduceLeDiff, Int.reduceLT, Int.reduceLE, Int.reduceEq, Int.reduceNe, Int.reduceAdd, Int.reduceNeg, Int.reduceToNat, insD]
  · simp (config := { maxSteps := 1000000 }) only [go_sem, ↓reduceIte, Nat.reduceEqDiff, Nat.reduceAdd, Nat.reduceMul, Nat.reduceSub, Nat.reduceLT, Nat.reduceLeDiff, Int.reduceLT, Int.reduceLE, Int.reduceEq, Int.reduceNe, Int.reduceAdd, Int.reduceNeg, Int.reduceToNat, insD]
  · simp (config := { maxSteps := 1000000 }) only [go_sem, ↓reduceIte, Nat.reduceEqDiff, Nat.reduceAdd, Nat.reduceMul, Nat.reduceSub, Nat.reduceLT, Nat.reduceLeDiff, Int.reduceLT, Int.reduceLE, Int.reduceEq, Int.reduceNe, Int.reduceAdd, Int.reduceNeg, Int.reduceToNat, insD]
  · simp (config := { maxSteps := 1000000 }) only [go_sem, ↓reduceIte, Nat.reduceEqDiff, Nat.reduceAdd, Nat.reduceMul, Nat.reduceSub, Nat.reduceLT, Nat.reduceLeDiff, Int.reduceLT, Int.reduceLE, Int.reduceEq, Int.reduceNe, Int.reduceAdd, Int.reduceNeg, Int.reduceToNat, insD]
  · by_cases ha : a < 0
    · simp [takes, ha] at h
    · obtain ⟨k, rfl⟩ : ∃ k : Nat, a = (k : Int) := ⟨a.toNat, by omega⟩
      simp only [takes, sig, ha, if_false, Int.toNat_natCast, List.getElem?_map, Option.map_map] at h
      cases hk : fs[k]? with
      | none => simp [hk] at h
      | some y =>
        have hkl : k < fs.length := (List.getElem?_eq_some_iff.1 hk).1
        have hkl' : ¬ fs.length ≤ k := by omega
        cases hw : y.word with
        | false =>
          obtain ⟨rfl, rfl⟩ : y.params = t ∧ (0 : Int) = p := by simpa [hk, hw] using h
          simp (config := { maxSteps := 1000000 }) only [go_sem, ↓reduceIte, Nat.reduceEqDiff, Nat.reduceAdd, Nat.reduceMul, Nat.reduceSub, Nat.reduceLT, Nat.reduceLeDiff, Int.reduceLT, Int.reduceLE, Int.reduceEq, Int.reduceNe, Int.reduceAdd, Int.reduceNeg, Int.reduceToNat, insD, hk, hkl, hkl', ha, hw, sfD, List.length_map]
        | true =>
          obtain ⟨rfl, rfl⟩ : y.params = t ∧ (1 : Int) = p := by simpa [hk, hw] using h
          simp (config := { maxSteps := 1000000 }) only [go_sem, ↓reduceIte, Nat.reduceEqDiff, Nat.reduceAdd, Nat.reduceMul, Nat.reduceSub, Nat.reduceLT, Nat.reduceLeDiff, Int.reduceLT, Int.reduceLE, Int.reduceEq, Int.reduceNe, Int.reduceAdd, Int.reduceNeg, Int.reduceToNat, insD, hk, hkl, hkl', ha, hw, sfD, List.length_map]
  · cases hw : fx.word with
    | false =>
      obtain ⟨rfl, rfl⟩ : (0 : Int) = t ∧ (0 : Int) = p := by simpa [takes, hw] using h
      simp (config := { maxSteps := 1000000 }) only [go_sem, ↓reduceIte, Nat.reduceEqDiff, Nat.reduceAdd, Nat.reduceMul, Nat.reduceSub, Nat.reduceLT, Nat.reduceLeDiff, Int.reduceLT, Int.reduceLE, Int.reduceEq, Int.reduceNe, Int.reduceAdd, Int.reduceNeg, Int.reduceToNat, insD, hf, hfl, hw, sfD, List.length_map]
    | true =>
      obtain ⟨rfl, rfl⟩ : (1 : Int) = t ∧ (0 : Int) = p := by simpa [takes, hw] using h
      simp (config := { maxSteps := 1000000 }) only [go_sem, ↓reduceIte, Nat.reduceEqDiff, Nat.reduceAdd, Nat.reduceMul, Nat.reduceSub, Nat.reduceLT, Nat.reduceLeDiff, Int.reduceLT, Int.reduceLE, Int.reduceEq, Int.reduceNe, Int.reduceAdd, Int.reduceNeg, Int.reduceToNat, insD, hf, hfl, hw, sfD, List.length_map]
  · simp (config := { maxSteps := 1000000 }) only [go_sem, ↓reduceIte, Nat.reduceEqDiff, Nat.reduceAdd, Nat.reduceMul, Nat.reduceSub, Nat.reduceLT, Nat.reduceLeDiff, Int.reduceLT, Int.reduceLE, Int.reduceEq, Int.reduceNe, Int.reduceAdd, Int.reduceNeg, Int.reduceToNat, insD]
  · simp (config := { maxSteps := 1000000 }) only [go_sem, ↓reduceIte, Nat.reduceEqDiff, Nat.reduceAdd, Nat.reduceMul, Nat.reduceSub, Nat.reduceLT, Nat.reduceLeDiff, Int.reduceLT, Int.reduceLE, Int.reduceEq, Int.reduceNe, Int.reduceAdd, Int.reduceNeg, Int.reduceToNat, insD]

def ksD (l : List Int) : D := .sl (l.map fun k => [.int .i64 k])

set_option maxHeartbeats 4000000 in
set_option maxRecDepth 100000 in
theorem Next_A {at' : Nat} (hat : at' ≤ 1000000000) {x : Ins} : PureR Try.prog 27 [.agg ((insD x).map .d), iv .i64 at'] (· = .one (.d (ksD (next x at')))) := by
  refine pure_of_wp Tt_ok mixed Try.func27 rfl (by rfl) [4] rfl (by kernel_rfl) (by simp [Try.ntmps27]) fun g => ?_
  obtain ⟨op, a, b, n⟩ := x
  have hw := wrap_succ (k := at') (by omega)
  by_cases h8 : op = 8
  · subst h8
    simp (config := { maxSteps := 1000000 }) only [go_sem, ↓reduceIte, Nat.reduceEqDiff, Nat.reduceAdd, Nat.reduceMul, Nat.reduceSub, Nat.reduceLT, Nat.reduceLeDiff, Int.reduceLT, Int.reduceLE, Int.reduceEq, Int.reduceNe, Int.reduceAdd, Int.reduceNeg, Int.reduceToNat, insD]
    exact ⟨_, ⟨_, frz_rows (s := ⟨_, _, _⟩) rfl [a] (fun k => [.int .i64 k]) (by simp only [upd]; rfl) rfl (fun _ _ y hy => by simp at hy; subst hy; rfl) (fun _ _ => rfl) rfl, rfl⟩, rfl⟩
  by_cases h9 : op = 9
  · subst h9
    simp (config := { maxSteps := 1000000 }) only [go_sem, ↓reduceIte, Nat.reduceEqDiff, Nat.reduceAdd, Nat.reduceMul, Nat.reduceSub, Nat.reduceLT, Nat.reduceLeDiff, Int.reduceLT, Int.reduceLE, Int.reduceEq, Int.reduceNe, Int.reduceAdd, Int.reduceNeg, Int.reduceToNat, insD, hw]
    exact ⟨_, ⟨_, frz_rows (s := ⟨_, _, _⟩) rfl [((at' + 1 : Nat) : Int), a] (fun k => [.int .i64 k]) (by simp only [upd]; rfl) rfl (fun _ _ y hy => by simp at hy; subst hy; rfl) (fun _ _ => rfl) rfl, rfl⟩, rfl⟩
  by_cases h11 : op = 11
  · subst h11
    simp (config := { maxSteps := 1000000 }) only [go_sem, ↓reduceIte, Nat.reduceEqDiff, Nat.reduceAdd, Nat.reduceMul, Nat.reduceSub, Nat.reduceLT, Nat.reduceLeDiff, Int.reduceLT, Int.reduceLE, Int.reduceEq, Int.reduceNe, Int.reduceAdd, Int.reduceNeg, Int.reduceToNat, insD]
    rfl
  · simp (config := { maxSteps := 1000000 }) only [go_sem, ↓reduceIte, Nat.reduceEqDiff, Nat.reduceAdd, Nat.reduceMul, Nat.reduceSub, Nat.reduceLT, Nat.reduceLeDiff, Int.reduceLT, Int.reduceLE, Int.reduceEq, Int.reduceNe, Int.reduceAdd, Int.reduceNeg, Int.reduceToNat, insD, h8, h9, h11, hw]
    have e : next ⟨op, a, b, n⟩ at' = [((at' + 1 : Nat) : Int)] := by simp [next, h8, h9, h11]
    rw [e]
    exact ⟨_, ⟨_, frz_rows (s := ⟨_, _, _⟩) rfl [((at' + 1 : Nat) : Int)] (fun k => [.int .i64 k]) (by simp only [upd]; rfl) rfl (fun _ _ y hy => by simp at hy; subst hy; rfl) (fun _ _ => rfl) rfl, rfl⟩, rfl⟩

set_option maxHeartbeats 4000000 in
set_option maxRecDepth 100000 in
theorem Fits_A {w : Int} (hw0 : 0 ≤ w ∧ w ≤ 1000000) {fs : List Fn} {f : Nat} {fx : Fn} (hf : fs[f]? = some fx) {x : Ins} (h : fit0 w f x) (hj : x.op = 8 ∨ x.op = 9 → 0 ≤ x.a ∧ x.a < ((codeOf fx.word fx.body).length : Int)) :
    PureR Try.prog 17 [stackC w fs, iv .i64 f, .agg ((insD x).map .d)] (· = bv true) := by
  refine pure_of_wp Tt_ok mixed Try.func17 rfl (by rfl) [6] rfl (by kernel_rfl) (by simp [Try.ntmps17]) fun g => ?_
  have hfl : f < fs.length := (List.getElem?_eq_some_iff.1 hf).1
  obtain ⟨op, a, b, n⟩ := x
  obtain ⟨hn, hb, h⟩ := h
  simp only at hn hb h hj
  unfold stackC
  rcases h with ⟨rfl | rfl | rfl | rfl | rfl, rfl⟩ | ⟨rfl | rfl, ha, hw⟩ | ⟨rfl | rfl, ha, h1, h2, h3⟩ | ⟨rfl, h1, h2⟩ | rfl | rfl | ⟨rfl, h1, h2⟩
  · obtain rfl : b = 0 := by omega
    simp (config := { maxSteps := 1000000 }) only [go_sem, ↓reduceIte, Nat.reduceEqDiff, Nat.reduceAdd, Nat.reduceMul, Nat.reduceSub, Nat.reduceLT, Nat.reduceLeDiff, Int.reduceLT, Int.reduceLE, Int.reduceEq, Int.reduceNe, Int.reduceAdd, Int.reduceNeg, Int.reduceToNat, insD]
  · obtain rfl : b = 0 := by omega
    obtain rfl : n = 0 := by omega
    simp (config := { maxSteps := 1000000 }) only [go_sem, ↓reduceIte, Nat.reduceEqDiff, Nat.reduceAdd, Nat.reduceMul, Nat.reduceSub, Nat.reduceLT, Nat.reduceLeDiff, Int.reduceLT, Int.reduceLE, Int.reduceEq, Int.reduceNe, Int.reduceAdd, Int.reduceNeg, Int.reduceToNat, insD]
  · obtain rfl : b = 0 := by omega
    obtain rfl : n = 0 := by omega
    simp (config := { maxSteps := 1000000 }) only [go_sem, ↓reduceIte, Nat.reduceEqDiff, Nat.reduceAdd, Nat.reduceMul, Nat.reduceSub, Nat.reduceLT, Nat.reduceLeDiff, Int.reduceLT, Int.reduceLE, Int.reduceEq, Int.reduceNe, Int.reduceAdd, Int.reduceNeg, Int.reduceToNat, insD]
  · obtain rfl : b = 0 := by omega
    obtain rfl : n = 0 := by omega
    simp (config := { maxSteps := 1000000 }) only [go_sem, ↓reduceIte, Nat.reduceEqDiff, Nat.reduceAdd, Nat.reduceMul, Nat.reduceSub, Nat.reduceLT, Nat.reduceLeDiff, Int.reduceLT, Int.reduceLE, Int.reduceEq, Int.reduceNe, Int.reduceAdd, Int.reduceNeg, Int.reduceToNat, insD]
  · obtain rfl : b = 0 := by omega
    obtain rfl : n = 0 := by omega
    simp (config := { maxSteps := 1000000 }) only [go_sem, ↓reduceIte, Nat.reduceEqDiff, Nat.reduceAdd, Nat.reduceMul, Nat.reduceSub, Nat.reduceLT, Nat.reduceLeDiff, Int.reduceLT, Int.reduceLE, Int.reduceEq, Int.reduceNe, Int.reduceAdd, Int.reduceNeg, Int.reduceToNat, insD]
  · obtain rfl : b = 0 := by omega
    obtain rfl : n = 0 := by omega
    simp (config := { maxSteps := 1000000 }) only [go_sem, ↓reduceIte, Nat.reduceEqDiff, Nat.reduceAdd, Nat.reduceMul, Nat.reduceSub, Nat.reduceLT, Nat.reduceLeDiff, Int.reduceLT, Int.reduceLE, Int.reduceEq, Int.reduceNe, Int.reduceAdd, Int.reduceNeg, Int.reduceToNat, insD, ha, hw, decide_true]
  · obtain rfl : b = 0 := by omega
    obtain rfl : n = 0 := by omega
    simp (config := { maxSteps := 1000000 }) only [go_sem, ↓reduceIte, Nat.reduceEqDiff, Nat.reduceAdd, Nat.reduceMul, Nat.reduceSub, Nat.reduceLT, Nat.reduceLeDiff, Int.reduceLT, Int.reduceLE, Int.reduceEq, Int.reduceNe, Int.reduceAdd, Int.reduceNeg, Int.reduceToNat, insD, ha, hw, decide_true]
  · obtain rfl : n = 0 := by omega
    have hs : IntKind.i64.wrap (w - b) = w - b := by rw [wrap_i64] <;> omega
    simp (config := { maxSteps := 1000000 }) only [go_sem, ↓reduceIte, Nat.reduceEqDiff, Nat.reduceAdd, Nat.reduceMul, Nat.reduceSub, Nat.reduceLT, Nat.reduceLeDiff, Int.reduceLT, Int.reduceLE, Int.reduceEq, Int.reduceNe, Int.reduceAdd, Int.reduceNeg, Int.reduceToNat, insD, ha, h1, h2, h3, hs, decide_true]
  · obtain rfl : n = 0 := by omega
    have hs : IntKind.i64.wrap (w - b) = w - b := by rw [wrap_i64] <;> omega
    simp (config := { maxSteps := 1000000 }) only [go_sem, ↓reduceIte, Nat.reduceEqDiff, Nat.reduceAdd, Nat.reduceMul, Nat.reduceSub, Nat.reduceLT, Nat.reduceLeDiff, Int.reduceLT, Int.reduceLE, Int.reduceEq, Int.reduceNe, Int.reduceAdd, Int.reduceNeg, Int.reduceToNat, insD, ha, h1, h2, h3, hs, decide_true]
  · obtain rfl : b = 0 := by omega
    obtain rfl : n = 0 := by omega
    simp (config := { maxSteps := 1000000 }) only [go_sem, ↓reduceIte, Nat.reduceEqDiff, Nat.reduceAdd, Nat.reduceMul, Nat.reduceSub, Nat.reduceLT, Nat.reduceLeDiff, Int.reduceLT, Int.reduceLE, Int.reduceEq, Int.reduceNe, Int.reduceAdd, Int.reduceNeg, Int.reduceToNat, insD, h1, h2, decide_true]
  · obtain rfl : b = 0 := by omega
    obtain rfl : n = 0 := by omega
    obtain ⟨h1, h2⟩ := hj (.inl rfl)
    simp (config := { maxSteps := 1000000 }) only [go_sem, ↓reduceIte, Nat.reduceEqDiff, Nat.reduceAdd, Nat.reduceMul, Nat.reduceSub, Nat.reduceLT, Nat.reduceLeDiff, Int.reduceLT, Int.reduceLE, Int.reduceEq, Int.reduceNe, Int.reduceAdd, Int.reduceNeg, Int.reduceToNat, insD]
    refine draw_intro (by decide +kernel) ?_
    simp (config := { maxSteps := 1000000 }) only [go_sem, ↓reduceIte, Nat.reduceEqDiff, Nat.reduceAdd, Nat.reduceMul, Nat.reduceSub, Nat.reduceLT, Nat.reduceLeDiff, Int.reduceLT, Int.reduceLE, Int.reduceEq, Int.reduceNe, Int.reduceAdd, Int.reduceNeg, Int.reduceToNat, h1, h2, hf, hfl, sfD, List.length_map, decide_true]
  · obtain rfl : b = 0 := by omega
    obtain rfl : n = 0 := by omega
    obtain ⟨h1, h2⟩ := hj (.inr rfl)
    simp (config := { maxSteps := 1000000 }) only [go_sem, ↓reduceIte, Nat.reduceEqDiff, Nat.reduceAdd, Nat.reduceMul, Nat.reduceSub, Nat.reduceLT, Nat.reduceLeDiff, Int.reduceLT, Int.reduceLE, Int.reduceEq, Int.reduceNe, Int.reduceAdd, Int.reduceNeg, Int.reduceToNat, insD]
    refine draw_intro (by decide +kernel) ?_
    simp (config := { maxSteps := 1000000 }) only [go_sem, ↓reduceIte, Nat.reduceEqDiff, Nat.reduceAdd, Nat.reduceMul, Nat.reduceSub, Nat.reduceLT, Nat.reduceLeDiff, Int.reduceLT, Int.reduceLE, Int.reduceEq, Int.reduceNe, Int.reduceAdd, Int.reduceNeg, Int.reduceToNat, h1, h2, hf, hfl, sfD, List.length_map, decide_true]
  · obtain rfl : b = 0 := by omega
    obtain rfl : n = 0 := by omega
    simp (config := { maxSteps := 1000000 }) only [go_sem, ↓reduceIte, Nat.reduceEqDiff, Nat.reduceAdd, Nat.reduceMul, Nat.reduceSub, Nat.reduceLT, Nat.reduceLeDiff, Int.reduceLT, Int.reduceLE, Int.reduceEq, Int.reduceNe, Int.reduceAdd, Int.reduceNeg, Int.reduceToNat, insD, h1, h2, decide_true]

end Go.Proofs.Ythengcpckdlpgaa
