/- Statements and programs as data; how many parts they have; words, and what may be called. -/
import Derived.Test.YthengcpckdlpgaaL1
import Derived.Test.YthengcpckdlpgaaAm19
set_option linter.unusedSimpArgs false
set_option linter.unusedVariables false
namespace Go.Proofs.Ythengcpckdlpgaa
open Go Go.Am Go.Lower

mutual
def smD : Stm → List D
  | .mk kind slot size e th el => [.int .i64 kind, .int .i64 slot, .int .i64 size, .sl (exsD e), .sl (smsD th), .sl (smsD el)]
def smsD : List Stm → List (List D)
  | [] => []
  | e :: l => smD e :: smsD l
end
theorem smsD_map : ∀ l : List Stm, smsD l = l.map smD
  | [] => by simp [smsD]
  | e :: l => by simp [smsD, smsD_map l]

mutual
def sizeS : Stm → Nat
  | .mk _ _ _ e th el => sizeEs e + sizeSs th + sizeSs el
def sizeSs : List Stm → Nat
  | [] => 0
  | e :: l => 1 + sizeS e + sizeSs l
end
theorem sizeSs_sum : ∀ l : List Stm, sizeSs l = l.length + (l.map sizeS).sum
  | [] => by simp [sizeSs]
  | e :: l => by simp only [sizeSs, sizeSs_sum l, List.length_cons, List.map_cons, List.sum_cons]; omega
def ssTo (l : List Stm) (k : Nat) : Nat := l.length + ((l.take k).map sizeS).sum
theorem ssTo_all {l : List Stm} {k : Nat} (h : l.length ≤ k) : ssTo l k = sizeSs l := by rw [ssTo, List.take_of_length_le h, sizeSs_sum]
theorem ssTo_le (l : List Stm) (k : Nat) : ssTo l k ≤ sizeSs l := by
  rw [sizeSs_sum, ssTo]
  conv => rhs; rw [← List.take_append_drop k l]
  simp only [List.map_append, List.sum_append, List.length_append, List.length_take, List.length_drop]; omega
theorem ssTo_succ {l : List Stm} {k : Nat} {e : Stm} (h : l[k]? = some e) : ssTo l (k + 1) = ssTo l k + sizeS e := by
  simp only [ssTo, List.take_add_one, h, Option.toList_some, List.map_append, List.sum_append, List.map_cons, List.map_nil, List.sum_cons, List.sum_nil]; omega

set_option maxHeartbeats 2000000 in
set_option maxRecDepth 100000 in
theorem sizeStmts_A : ∀ (N : Nat) (l : List Stm), sizeSs l ≤ N → N ≤ 1000000000000 → PureR Try.prog 19 [.one (.d (.sl (smsD l)))] (· = iv .i64 (sizeSs l)) := by
  intro N
  induction N using Nat.strongRecOn with
  | ind N ih =>
  intro l hl hN
  refine pure_of_wp Tt_ok mixed Try.func19 rfl (by rfl) [2] rfl (by kernel_rfl) (by simp [Try.ntmps19]) fun g => ?_
  rw [smsD_map]
  simp (config := { maxSteps := 1000000 }) only [go_sem, ↓reduceIte, Nat.reduceEqDiff, Nat.reduceAdd, Nat.reduceMul, Nat.reduceSub, Nat.reduceLT, Nat.reduceLeDiff, Int.reduceLT, Int.reduceLE, Int.reduceEq, Int.reduceNe, Int.reduceAdd, Int.reduceNeg, Int.reduceToNat, List.length_map]
  refine loop_introB (fun n s => ∃ k : Nat, n + k = l.length ∧ s.f 0 = .one (.d (.sl (l.map smD))) ∧ s.f 3 = iv .i64 (ssTo l k) ∧ s.f 4 = iv .i64 k) l.length ?_ ?_
  · refine ⟨0, rfl, ?_⟩
    simp (config := { maxSteps := 1000000 }) only [go_sem, ↓reduceIte, Nat.reduceEqDiff, Nat.reduceAdd, Nat.reduceMul, Nat.reduceSub, Nat.reduceLT, Nat.reduceLeDiff, Int.reduceLT, Int.reduceLE, Int.reduceEq, Int.reduceNe, Int.reduceAdd, Int.reduceNeg, Int.reduceToNat, ssTo, List.take_zero, List.map_nil, List.sum_nil]
  · rintro n f g ob ⟨k, hk, f0, f3, f4⟩
    simp only at f0 f3 f4
    have h1 := ssTo_le l k
    have hll : l.length ≤ sizeSs l := by rw [sizeSs_sum]; omega
    have hw := wrap_succ (k := k) (by omega)
    by_cases hlt : k < l.length
    · obtain ⟨e, he⟩ := getq hlt
      obtain ⟨kind, slot, size, e, th, el⟩ := e
      have h2 := ssTo_succ he
      have h3 := ssTo_le l (k + 1)
      have hke : sizeS (.mk kind slot size e th el) = sizeEs e + sizeSs th + sizeSs el := rfl
      have h4 : l.length ≤ ssTo l k := by unfold ssTo; omega
      have a1 : IntKind.i64.wrap ((ssTo l k : Int) + (sizeEs e : Int)) = ((ssTo l k + sizeEs e : Nat) : Int) := by rw [wrap_i64] <;> omega
      have a2 : IntKind.i64.wrap (((ssTo l k + sizeEs e : Nat) : Int) + (sizeSs th : Int)) = ((ssTo l k + sizeEs e + sizeSs th : Nat) : Int) := by rw [wrap_i64] <;> omega
      have a3 : IntKind.i64.wrap (((ssTo l k + sizeEs e + sizeSs th : Nat) : Int) + (sizeSs el : Int)) = ((ssTo l (k + 1) : Nat) : Int) := by rw [wrap_i64] <;> omega
      simp (config := { maxSteps := 1000000 }) only [go_sem, ↓reduceIte, Nat.reduceEqDiff, Nat.reduceAdd, Nat.reduceMul, Nat.reduceSub, Nat.reduceLT, Nat.reduceLeDiff, Int.reduceLT, Int.reduceLE, Int.reduceEq, Int.reduceNe, Int.reduceAdd, Int.reduceNeg, Int.reduceToNat, f0, f3, f4, hlt, List.length_map]
      refine draw_calls Tt_ok mixed (by decide +kernel) ?_
      simp (config := { maxSteps := 1000000 }) only [go_sem, ↓reduceIte, Nat.reduceEqDiff, Nat.reduceAdd, Nat.reduceMul, Nat.reduceSub, Nat.reduceLT, Nat.reduceLeDiff, Int.reduceLT, Int.reduceLE, Int.reduceEq, Int.reduceNe, Int.reduceAdd, Int.reduceNeg, Int.reduceToNat, f0, f3, f4, hlt, he, List.length_map, smD]
      refine quiet_call rfl (sizeExprs_A (sizeEs e) e (Nat.le_refl _) (by omega)) (frzVs_data rfl) rfl ?_
      simp (config := { maxSteps := 1000000 }) only [go_sem, ↓reduceIte, Nat.reduceEqDiff, Nat.reduceAdd, Nat.reduceMul, Nat.reduceSub, Nat.reduceLT, Nat.reduceLeDiff, Int.reduceLT, Int.reduceLE, Int.reduceEq, Int.reduceNe, Int.reduceAdd, Int.reduceNeg, Int.reduceToNat, f0, f3, f4, hlt, he, List.length_map, smD, a1]
      refine quiet_call rfl (ih (sizeSs th) (by omega) th (Nat.le_refl _) (by omega)) (frzVs_data rfl) rfl ?_
      simp (config := { maxSteps := 1000000 }) only [go_sem, ↓reduceIte, Nat.reduceEqDiff, Nat.reduceAdd, Nat.reduceMul, Nat.reduceSub, Nat.reduceLT, Nat.reduceLeDiff, Int.reduceLT, Int.reduceLE, Int.reduceEq, Int.reduceNe, Int.reduceAdd, Int.reduceNeg, Int.reduceToNat, f0, f3, f4, hlt, he, List.length_map, smD, a2]
      refine quiet_call rfl (ih (sizeSs el) (by omega) el (Nat.le_refl _) (by omega)) (frzVs_data rfl) rfl ?_
      simp (config := { maxSteps := 1000000 }) only [go_sem, ↓reduceIte, Nat.reduceEqDiff, Nat.reduceAdd, Nat.reduceMul, Nat.reduceSub, Nat.reduceLT, Nat.reduceLeDiff, Int.reduceLT, Int.reduceLE, Int.reduceEq, Int.reduceNe, Int.reduceAdd, Int.reduceNeg, Int.reduceToNat, f0, f3, f4, a3, hw]
      refine round_endB (n - 1) (by omega) ⟨k + 1, by omega, ?_⟩
      simp (config := { maxSteps := 1000000 }) only [go_sem, ↓reduceIte, Nat.reduceEqDiff, Nat.reduceAdd, Nat.reduceMul, Nat.reduceSub, Nat.reduceLT, Nat.reduceLeDiff, Int.reduceLT, Int.reduceLE, Int.reduceEq, Int.reduceNe, Int.reduceAdd, Int.reduceNeg, Int.reduceToNat, f0, f3, f4, hw]
    · simp (config := { maxSteps := 1000000 }) only [go_sem, ↓reduceIte, Nat.reduceEqDiff, Nat.reduceAdd, Nat.reduceMul, Nat.reduceSub, Nat.reduceLT, Nat.reduceLeDiff, Int.reduceLT, Int.reduceLE, Int.reduceEq, Int.reduceNe, Int.reduceAdd, Int.reduceNeg, Int.reduceToNat, f0, f3, f4, hlt, List.length_map]
      rw [ssTo_all (by omega)]

structure Fn where
  params : Int
  slots : Int
  first : Int
  word : Bool
  body : List Stm
def fnD (x : Fn) : List D := [.int .i64 x.params, .int .i64 x.slots, .int .i64 x.first, .bool x.word, .sl (smsD x.body)]
def coreC (w : Int) (fs : List Fn) : AV := .agg [.d (.int .i64 w), .d (.sl (fs.map fnD))]

def sizeC (fs : List Fn) : Nat := (fs.map fun x => sizeSs x.body).sum
def sizeCTo (fs : List Fn) (k : Nat) : Nat := sizeC (fs.take k)
theorem sizeCTo_le (fs : List Fn) (k : Nat) : sizeCTo fs k ≤ sizeC fs := by
  conv => rhs; rw [← List.take_append_drop k fs]
  simp only [sizeCTo, sizeC, List.map_append, List.sum_append]; omega
theorem sizeCTo_succ {fs : List Fn} {k : Nat} {x : Fn} (h : fs[k]? = some x) : sizeCTo fs (k + 1) = sizeCTo fs k + sizeSs x.body := by
  simp only [sizeCTo, sizeC, List.take_add_one, h, Option.toList_some, List.map_append, List.sum_append, List.map_cons, List.map_nil, List.sum_cons, List.sum_nil]; omega
theorem sizeCTo_all {fs : List Fn} {k : Nat} (h : fs.length ≤ k) : sizeCTo fs k = sizeC fs := by rw [sizeCTo, List.take_of_length_le h]

set_option maxHeartbeats 2000000 in
set_option maxRecDepth 100000 in
theorem Size_A (w : Int) (fs : List Fn) (hN : sizeC fs ≤ 1000000000000) (hF : fs.length ≤ 1000000000000) : PureR Try.prog 8 [coreC w fs] (· = iv .i64 (sizeC fs)) := by
  refine pure_of_wp Tt_ok mixed Try.func8 rfl (by rfl) [2] rfl (by kernel_rfl) (by simp [Try.ntmps8]) fun g => ?_
  unfold coreC
  simp (config := { maxSteps := 1000000 }) only [go_sem, ↓reduceIte, Nat.reduceEqDiff, Nat.reduceAdd, Nat.reduceMul, Nat.reduceSub, Nat.reduceLT, Nat.reduceLeDiff, Int.reduceLT, Int.reduceLE, Int.reduceEq, Int.reduceNe, Int.reduceAdd, Int.reduceNeg, Int.reduceToNat]
  refine loop_introB (fun n s => ∃ k : Nat, n + k = fs.length ∧ s.f 1 = .one (.ptr 1 (s.gen 1) 0) ∧ s.f 3 = iv .i64 (sizeCTo fs k) ∧ s.f 4 = iv .i64 k ∧ s.obj 1 = some [.d (.int .i64 w), .d (.sl (fs.map fnD))]) fs.length ?_ ?_
  · refine ⟨0, rfl, ?_⟩
    simp (config := { maxSteps := 1000000 }) only [go_sem, ↓reduceIte, Nat.reduceEqDiff, Nat.reduceAdd, Nat.reduceMul, Nat.reduceSub, Nat.reduceLT, Nat.reduceLeDiff, Int.reduceLT, Int.reduceLE, Int.reduceEq, Int.reduceNe, Int.reduceAdd, Int.reduceNeg, Int.reduceToNat]
    try rfl
  · rintro n f g ob ⟨k, hk, f1, f3, f4, o1⟩
    simp only at f1 f3 f4 o1
    have h1 := sizeCTo_le fs k
    have hw := wrap_succ (k := k) (by omega)
    by_cases hlt : k < fs.length
    · obtain ⟨x, hx⟩ := getq hlt
      have h2 := sizeCTo_succ hx
      have h3 := sizeCTo_le fs (k + 1)
      have a1 : IntKind.i64.wrap ((sizeCTo fs k : Int) + (sizeSs x.body : Int)) = ((sizeCTo fs (k + 1) : Nat) : Int) := by rw [wrap_i64] <;> omega
      simp (config := { maxSteps := 1000000 }) only [go_sem, ↓reduceIte, Nat.reduceEqDiff, Nat.reduceAdd, Nat.reduceMul, Nat.reduceSub, Nat.reduceLT, Nat.reduceLeDiff, Int.reduceLT, Int.reduceLE, Int.reduceEq, Int.reduceNe, Int.reduceAdd, Int.reduceNeg, Int.reduceToNat, f1, f3, f4, o1, hlt, hx, List.length_map, fnD]
      refine hook_call rfl (sizeStmts_A (sizeSs x.body) x.body (Nat.le_refl _) (by omega)) (by rfl) ?_
      rintro _ rfl
      simp (config := { maxSteps := 1000000 }) only [go_sem, ↓reduceIte, Nat.reduceEqDiff, Nat.reduceAdd, Nat.reduceMul, Nat.reduceSub, Nat.reduceLT, Nat.reduceLeDiff, Int.reduceLT, Int.reduceLE, Int.reduceEq, Int.reduceNe, Int.reduceAdd, Int.reduceNeg, Int.reduceToNat, f1, f3, f4, o1, a1, hw]
      refine round_endB (n - 1) (by omega) ⟨k + 1, by omega, ?_⟩
      simp (config := { maxSteps := 1000000 }) only [go_sem, ↓reduceIte, Nat.reduceEqDiff, Nat.reduceAdd, Nat.reduceMul, Nat.reduceSub, Nat.reduceLT, Nat.reduceLeDiff, Int.reduceLT, Int.reduceLE, Int.reduceEq, Int.reduceNe, Int.reduceAdd, Int.reduceNeg, Int.reduceToNat, f1, f3, f4, o1, hw]
    · simp (config := { maxSteps := 1000000 }) only [go_sem, ↓reduceIte, Nat.reduceEqDiff, Nat.reduceAdd, Nat.reduceMul, Nat.reduceSub, Nat.reduceLT, Nat.reduceLeDiff, Int.reduceLT, Int.reduceLE, Int.reduceEq, Int.reduceNe, Int.reduceAdd, Int.reduceNeg, Int.reduceToNat, f1, f3, f4, o1, hlt, List.length_map]
      rw [sizeCTo_all (by omega)]

end Go.Proofs.Ythengcpckdlpgaa
