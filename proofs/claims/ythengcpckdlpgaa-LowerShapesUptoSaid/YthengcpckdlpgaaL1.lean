/- Programs without names as data; how many parts they have. -/
import Derived.Test.YthengcpckdlpgaaLTab
import Derived.Test.YthengcpckdlpgaaLP4
import Derived.Test.YthengcpckdlpgaaAm16
set_option linter.unusedSimpArgs false
set_option linter.unusedVariables false
namespace Go.Proofs.Ythengcpckdlpgaa
open Go Go.Am Go.Lower

def Ex.kids : Ex → List Ex | .mk _ _ _ _ _ l => l
mutual
def exD : Ex → List D
  | .mk kind op num slot size kids => [.int .i64 kind, .int .i64 op, .int .u32 num, .int .i64 slot, .int .i64 size, .sl (exsD kids)]
def exsD : List Ex → List (List D)
  | [] => []
  | e :: l => exD e :: exsD l
end
theorem exsD_map : ∀ l : List Ex, exsD l = l.map exD
  | [] => by simp [exsD]
  | e :: l => by simp [exsD, exsD_map l]

mutual
def sizeE : Ex → Nat
  | .mk _ _ _ _ _ kids => sizeEs kids
def sizeEs : List Ex → Nat
  | [] => 0
  | e :: l => 1 + sizeE e + sizeEs l
end
theorem sizeEs_sum : ∀ l : List Ex, sizeEs l = l.length + (l.map sizeE).sum
  | [] => by simp [sizeEs]
  | e :: l => by simp only [sizeEs, sizeEs_sum l, List.length_cons, List.map_cons, List.sum_cons]; omega
def sizeTo (l : List Ex) (k : Nat) : Nat := l.length + ((l.take k).map sizeE).sum
theorem sizeTo_all {l : List Ex} {k : Nat} (h : l.length ≤ k) : sizeTo l k = sizeEs l := by rw [sizeTo, List.take_of_length_le h, sizeEs_sum]
theorem sizeTo_le (l : List Ex) (k : Nat) : sizeTo l k ≤ sizeEs l := by
  rw [sizeEs_sum, sizeTo]
  conv => rhs; rw [← List.take_append_drop k l]
  simp only [List.map_append, List.sum_append, List.length_append, List.length_take, List.length_drop]; omega
theorem sizeTo_succ {l : List Ex} {k : Nat} {e : Ex} (h : l[k]? = some e) : sizeTo l (k + 1) = sizeTo l k + sizeE e := by
  simp only [sizeTo, List.take_add_one, h, Option.toList_some, List.map_append, List.sum_append, List.map_cons, List.map_nil, List.sum_cons, List.sum_nil]; omega

theorem getq {α : Type} {l : List α} {k : Nat} (h : k < l.length) : ∃ x, l[k]? = some x := ⟨_, List.getElem?_eq_getElem h⟩

set_option maxHeartbeats 2000000 in
set_option maxRecDepth 100000 in
theorem sizeExprs_A : ∀ (N : Nat) (l : List Ex), sizeEs l ≤ N → N ≤ 1000000000000 → PureR Try.prog 28 [.one (.d (.sl (exsD l)))] (· = iv .i64 (sizeEs l)) := by
  intro N
  induction N using Nat.strongRecOn with
  | ind N ih =>
  intro l hl hN
  refine pure_of_wp Tt_ok mixed Try.func28 rfl (by rfl) [2] rfl (by kernel_rfl) (by simp [Try.ntmps28]) fun g => ?_
  rw [exsD_map]
  simp (config := { maxSteps := 1000000 }) only [go_sem, ↓reduceIte, Nat.reduceEqDiff, Nat.reduceAdd, Nat.reduceMul, Nat.reduceSub, Nat.reduceLT, Nat.reduceLeDiff, Int.reduceLT, Int.reduceLE, Int.reduceEq, Int.reduceNe, Int.reduceAdd, Int.reduceNeg, Int.reduceToNat, List.length_map]
  refine loop_introB (fun n s => ∃ k : Nat, n + k = l.length ∧ s.f 0 = .one (.d (.sl (l.map exD))) ∧ s.f 3 = iv .i64 (sizeTo l k) ∧ s.f 4 = iv .i64 k) l.length ?_ ?_
  · refine ⟨0, rfl, ?_⟩
    simp (config := { maxSteps := 1000000 }) only [go_sem, ↓reduceIte, Nat.reduceEqDiff, Nat.reduceAdd, Nat.reduceMul, Nat.reduceSub, Nat.reduceLT, Nat.reduceLeDiff, Int.reduceLT, Int.reduceLE, Int.reduceEq, Int.reduceNe, Int.reduceAdd, Int.reduceNeg, Int.reduceToNat, sizeTo, List.take_zero, List.map_nil, List.sum_nil]
  · rintro n f g ob ⟨k, hk, f0, f3, f4⟩
    simp only at f0 f3 f4
    have h1 := sizeTo_le l k
    have hll : l.length ≤ sizeEs l := by rw [sizeEs_sum]; omega
    have hw := wrap_succ (k := k) (by omega)
    by_cases hlt : k < l.length
    · obtain ⟨e, he⟩ := getq hlt
      obtain ⟨kind, op, num, slot, size, kids⟩ := e
      have h2 := sizeTo_succ he
      have h3 := sizeTo_le l (k + 1)
      have hke : sizeE (.mk kind op num slot size kids) = sizeEs kids := rfl
      have hkk : sizeEs kids + 1 ≤ sizeEs l := by
        have h4 : l.length ≤ sizeTo l k := by unfold sizeTo; omega
        omega
      have hadd : IntKind.i64.wrap ((sizeTo l k : Int) + (sizeEs kids : Int)) = ((sizeTo l (k + 1) : Nat) : Int) := by rw [wrap_i64] <;> omega
      simp (config := { maxSteps := 1000000 }) only [go_sem, ↓reduceIte, Nat.reduceEqDiff, Nat.reduceAdd, Nat.reduceMul, Nat.reduceSub, Nat.reduceLT, Nat.reduceLeDiff, Int.reduceLT, Int.reduceLE, Int.reduceEq, Int.reduceNe, Int.reduceAdd, Int.reduceNeg, Int.reduceToNat, f0, f3, f4, hlt, he, List.length_map, exD]
      refine hook_call rfl (ih (sizeEs kids) (by omega) kids (Nat.le_refl _) (by omega)) (by rfl) ?_
      rintro _ rfl
      simp (config := { maxSteps := 1000000 }) only [go_sem, ↓reduceIte, Nat.reduceEqDiff, Nat.reduceAdd, Nat.reduceMul, Nat.reduceSub, Nat.reduceLT, Nat.reduceLeDiff, Int.reduceLT, Int.reduceLE, Int.reduceEq, Int.reduceNe, Int.reduceAdd, Int.reduceNeg, Int.reduceToNat, f0, f3, f4, hadd, hw]
      refine round_endB (n - 1) (by omega) ⟨k + 1, by omega, ?_⟩
      simp (config := { maxSteps := 1000000 }) only [go_sem, ↓reduceIte, Nat.reduceEqDiff, Nat.reduceAdd, Nat.reduceMul, Nat.reduceSub, Nat.reduceLT, Nat.reduceLeDiff, Int.reduceLT, Int.reduceLE, Int.reduceEq, Int.reduceNe, Int.reduceAdd, Int.reduceNeg, Int.reduceToNat, f0, f3, f4, hw]
    · simp (config := { maxSteps := 1000000 }) only [go_sem, ↓reduceIte, Nat.reduceEqDiff, Nat.reduceAdd, Nat.reduceMul, Nat.reduceSub, Nat.reduceLT, Nat.reduceLeDiff, Int.reduceLT, Int.reduceLE, Int.reduceEq, Int.reduceNe, Int.reduceAdd, Int.reduceNeg, Int.reduceToNat, f0, f3, f4, hlt, List.length_map]
      rw [sizeTo_all (by omega)]
      first | rfl | exact ⟨_, rfl, rfl⟩ | skip

end Go.Proofs.Ythengcpckdlpgaa
