/- Words, and what may be called. -/
import Derived.Test.YthengcpckdlpgaaL2
set_option linter.unusedSimpArgs false
set_option linter.unusedVariables false
namespace Go.Proofs.Ythengcpckdlpgaa
open Go Go.Am Go.Lower

instance (w a n : Int) : Decidable (within w a n) := by unfold within; infer_instance

set_option maxHeartbeats 2000000 in
set_option maxRecDepth 100000 in
theorem within_A (w : Int) (fs : List Fn) (a n : Int) (hw : w ≤ 1000000) : PureR Try.prog 20 [coreC w fs, iv .i64 a, iv .i64 n] (· = bv (decide (within w a n))) := by
  refine pure_of_wp Tt_ok mixed Try.func20 rfl (by rfl) [6] rfl (by kernel_rfl) (by simp [Try.ntmps20]) fun g => ?_
  unfold coreC
  by_cases h1 : 0 ≤ a
  · by_cases h2 : 0 ≤ n
    · by_cases h3 : a ≤ w
      · have hs : IntKind.i64.wrap (w - a) = w - a := by rw [wrap_i64] <;> omega
        have e : decide (within w a n) = decide (n ≤ w - a) := by simp [within, h1, h2, h3]
        rw [e]
        simp (config := { maxSteps := 1000000 }) only [go_sem, ↓reduceIte, Nat.reduceEqDiff, Nat.reduceAdd, Nat.reduceMul, Nat.reduceSub, Nat.reduceLT, Nat.reduceLeDiff, Int.reduceLT, Int.reduceLE, Int.reduceEq, Int.reduceNe, Int.reduceAdd, Int.reduceNeg, Int.reduceToNat, h1, h2, h3, hs, decide_true]
      · have e : decide (within w a n) = false := by simp [within, h3]
        rw [e]
        simp (config := { maxSteps := 1000000 }) only [go_sem, ↓reduceIte, Nat.reduceEqDiff, Nat.reduceAdd, Nat.reduceMul, Nat.reduceSub, Nat.reduceLT, Nat.reduceLeDiff, Int.reduceLT, Int.reduceLE, Int.reduceEq, Int.reduceNe, Int.reduceAdd, Int.reduceNeg, Int.reduceToNat, h1, h2, h3, decide_true, decide_false]
    · have e : decide (within w a n) = false := by simp [within, h2]
      rw [e]
      simp (config := { maxSteps := 1000000 }) only [go_sem, ↓reduceIte, Nat.reduceEqDiff, Nat.reduceAdd, Nat.reduceMul, Nat.reduceSub, Nat.reduceLT, Nat.reduceLeDiff, Int.reduceLT, Int.reduceLE, Int.reduceEq, Int.reduceNe, Int.reduceAdd, Int.reduceNeg, Int.reduceToNat, h1, h2, decide_true, decide_false]
  · have e : decide (within w a n) = false := by simp [within, h1]
    rw [e]
    simp (config := { maxSteps := 1000000 }) only [go_sem, ↓reduceIte, Nat.reduceEqDiff, Nat.reduceAdd, Nat.reduceMul, Nat.reduceSub, Nat.reduceLT, Nat.reduceLeDiff, Int.reduceLT, Int.reduceLE, Int.reduceEq, Int.reduceNe, Int.reduceAdd, Int.reduceNeg, Int.reduceToNat, h1, decide_true, decide_false]

def sig (fs : List Fn) : Sig := fs.map fun x => (x.params, x.word)
def calleeB (fs : List Fn) (f : Nat) (g args : Int) (word : Bool) : Bool :=
  decide (0 ≤ g ∧ g < (f : Int)) && ((fs[g.toNat]?).map fun x => (x.word == word) && decide (x.params = args)).getD false

theorem calleeB_iff {fs : List Fn} {f args : Nat} {g : Int} {word : Bool} : calleeB fs f g args word = true ↔ callee (sig fs) f g args word := by
  unfold calleeB callee sig
  constructor
  · intro h
    simp only [Bool.and_eq_true, decide_eq_true_eq] at h
    obtain ⟨⟨h1, h2⟩, h3⟩ := h
    obtain ⟨k, rfl⟩ : ∃ k : Nat, g = (k : Int) := ⟨g.toNat, by omega⟩
    refine ⟨k, rfl, by omega, ?_⟩
    rw [Int.toNat_natCast] at h3
    rw [List.getElem?_map]
    cases hx : fs[k]? with
    | none => rw [hx] at h3; cases h3
    | some x =>
      rw [hx] at h3
      simp at h3
      simp [h3]
  · rintro ⟨k, rfl, h1, h2⟩
    rw [List.getElem?_map] at h2
    cases hx : fs[k]? with
    | none => rw [hx] at h2; cases h2
    | some x =>
      rw [hx] at h2
      simp at h2
      simp [hx, h2, h1]

set_option maxHeartbeats 2000000 in
set_option maxRecDepth 100000 in
theorem callee_A (w : Int) (fs : List Fn) (f : Nat) (g args : Int) (word : Bool) (hf : f ≤ fs.length) : PureR Try.prog 29 [coreC w fs, iv .i64 f, iv .i64 g, iv .i64 args, bv word] (· = bv (calleeB fs f g args word)) := by
  refine pure_of_wp Tt_ok mixed Try.func29 rfl (by rfl) [10] rfl (by kernel_rfl) (by simp [Try.ntmps29]) fun gg => ?_
  unfold coreC
  by_cases h1 : 0 ≤ g
  · by_cases h2 : g < (f : Int)
    · obtain ⟨k, rfl⟩ : ∃ k : Nat, g = (k : Int) := ⟨g.toNat, by omega⟩
      obtain ⟨x, hx⟩ := getq (show k < fs.length by omega)
      have hkf : k < f := by omega
      have e : calleeB fs f k args word = (decide (x.word = word) && decide (x.params = args)) := by
        have : (x.word == word) = decide (x.word = word) := by cases x.word <;> cases word <;> rfl
        simp [calleeB, hkf, hx, this]
      rw [e]
      by_cases h3 : x.word = word
      · simp (config := { maxSteps := 1000000 }) only [go_sem, ↓reduceIte, Nat.reduceEqDiff, Nat.reduceAdd, Nat.reduceMul, Nat.reduceSub, Nat.reduceLT, Nat.reduceLeDiff, Int.reduceLT, Int.reduceLE, Int.reduceEq, Int.reduceNe, Int.reduceAdd, Int.reduceNeg, Int.reduceToNat, h1, h2, hkf, hx, fnD, h3, decide_true, Bool.true_and]
      · simp (config := { maxSteps := 1000000 }) only [go_sem, ↓reduceIte, Nat.reduceEqDiff, Nat.reduceAdd, Nat.reduceMul, Nat.reduceSub, Nat.reduceLT, Nat.reduceLeDiff, Int.reduceLT, Int.reduceLE, Int.reduceEq, Int.reduceNe, Int.reduceAdd, Int.reduceNeg, Int.reduceToNat, h1, h2, hkf, hx, fnD, h3, decide_true, decide_false, Bool.false_and]
    · have e : calleeB fs f g args word = false := by simp [calleeB, h2]
      rw [e]
      simp (config := { maxSteps := 1000000 }) only [go_sem, ↓reduceIte, Nat.reduceEqDiff, Nat.reduceAdd, Nat.reduceMul, Nat.reduceSub, Nat.reduceLT, Nat.reduceLeDiff, Int.reduceLT, Int.reduceLE, Int.reduceEq, Int.reduceNe, Int.reduceAdd, Int.reduceNeg, Int.reduceToNat, h1, h2, decide_true, decide_false]
  · have e : calleeB fs f g args word = false := by simp [calleeB, h1]
    rw [e]
    simp (config := { maxSteps := 1000000 }) only [go_sem, ↓reduceIte, Nat.reduceEqDiff, Nat.reduceAdd, Nat.reduceMul, Nat.reduceSub, Nat.reduceLT, Nat.reduceLeDiff, Int.reduceLT, Int.reduceLE, Int.reduceEq, Int.reduceNe, Int.reduceAdd, Int.reduceNeg, Int.reduceToNat, h1, decide_true, decide_false]

end Go.Proofs.Ythengcpckdlpgaa
