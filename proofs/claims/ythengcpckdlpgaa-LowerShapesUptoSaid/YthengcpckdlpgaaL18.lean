/- The fixed fact: a program that puts a sum. -/
import Derived.Test.YthengcpckdlpgaaL17
set_option linter.unusedSimpArgs false
set_option linter.unusedVariables false
namespace Go.Proofs.Ythengcpckdlpgaa
open Go Go.Am Go.Lower

def e40 : Ex := .mk 1 0 40 0 0 []
def e25 : Ex := .mk 1 0 25 0 0 []
def eSum : Ex := .mk 6 4 0 0 0 [e40, e25]
def sPut : Stm := .mk 3 0 0 [eSum] [] []
def f0 : Fn := ⟨0, 0, 0, false, [sPut]⟩

theorem code0 : codeOf false [sPut] = [(⟨1, 0, 0, 40⟩, 0), (⟨1, 0, 0, 25⟩, 1), (⟨6, 4, 0, 0⟩, 2), (⟨13, 0, 0, 0⟩, 1), (⟨11, 0, 0, 0⟩, 0)] := by
  simp [codeOf, cSs, cS, cEs, cE, sPut, eSum, e40, e25, one, endC, leave]

theorem right0 : rSs 0 (sig [f0]) 0 false 1 [sPut] := by
  simp [rSs, rS, rEs, rE, sPut, eSum, e40, e25, okE, okS]

set_option maxHeartbeats 2000000 in
set_option maxRecDepth 100000 in
theorem num_A (n : Int) : PureR Try.prog 14 [iv .u32 n] (· = .agg ((exD (.mk 1 0 n 0 0 [])).map .d)) := by
  refine pure_of_wpR Tt_ok mixed Try.func14 rfl (by rfl) [.cell 2 50] rfl (by kernel_rfl) (by simp [Try.ntmps14]) fun g => ?_
  simp (config := { maxSteps := 1000000 }) only [go_sem, ↓reduceIte, Nat.reduceEqDiff, Nat.reduceAdd, Nat.reduceMul, Nat.reduceSub, Nat.reduceLT, Nat.reduceLeDiff, Int.reduceLT, Int.reduceLE, Int.reduceEq, Int.reduceNe, Int.reduceAdd, Int.reduceNeg, Int.reduceToNat, setAt]
  refine ⟨_, ⟨[.int .i64 1, .int .i64 0, .int .u32 n, .int .i64 0, .int .i64 0, .sl []], rfl, fun i c hc => ?_, rfl⟩, by simp [exD, exsD]⟩
  match i, hc with
  | 0, hc => cases hc; exact ⟨_, rfl, .d _⟩
  | 1, hc => cases hc; exact ⟨_, rfl, .d _⟩
  | 2, hc => cases hc; exact ⟨_, rfl, .d _⟩
  | 3, hc => cases hc; exact ⟨_, rfl, .d _⟩
  | 4, hc => cases hc; exact ⟨_, rfl, .d _⟩
  | 5, hc => cases hc; exact ⟨_, rfl, .d .nsl⟩

theorem exD_plain (e : Ex) : ∀ x ∈ exD e, normD x = x := by
  obtain ⟨kind, op, num, slot, size, kids⟩ := e
  intro x hx
  simp only [exD, List.mem_cons, List.not_mem_nil, or_false] at hx
  rcases hx with rfl | rfl | rfl | rfl | rfl | rfl <;> rfl
theorem smD_plain (e : Stm) : ∀ x ∈ smD e, normD x = x := by
  obtain ⟨kind, slot, size, l, th, el⟩ := e
  intro x hx
  simp only [smD, List.mem_cons, List.not_mem_nil, or_false] at hx
  rcases hx with rfl | rfl | rfl | rfl | rfl | rfl <;> rfl

set_option maxHeartbeats 2000000 in
set_option maxRecDepth 100000 in
theorem op_A : PureR Try.prog 13 [iv .i64 4, .agg ((exD e40).map .d), .agg ((exD e25).map .d)] (· = .agg ((exD eSum).map .d)) := by
  refine pure_of_wpR Tt_ok mixed Try.func13 rfl (by rfl) [.cell 6 50] rfl (by kernel_rfl) (by simp [Try.ntmps13]) fun g => ?_
  simp (config := { maxSteps := 1000000 }) only [go_sem, ↓reduceIte, Nat.reduceEqDiff, Nat.reduceAdd, Nat.reduceMul, Nat.reduceSub, Nat.reduceLT, Nat.reduceLeDiff, Int.reduceLT, Int.reduceLE, Int.reduceEq, Int.reduceNe, Int.reduceAdd, Int.reduceNeg, Int.reduceToNat, setAt, e40, e25, exD, exsD]
  refine ⟨_, ⟨[.int .i64 6, .int .i64 4, .int .u32 0, .int .i64 0, .int .i64 0, .sl [exD e40, exD e25]], rfl, fun i c hc => ?_, rfl⟩, by simp [eSum, exD, exsD, e40, e25]⟩
  match i, hc with
  | 0, hc => cases hc; exact ⟨_, rfl, .d _⟩
  | 1, hc => cases hc; exact ⟨_, rfl, .d _⟩
  | 2, hc => cases hc; exact ⟨_, rfl, .d _⟩
  | 3, hc => cases hc; exact ⟨_, rfl, .d _⟩
  | 4, hc => cases hc; exact ⟨_, rfl, .d _⟩
  | 5, hc =>
    cases hc
    exact ⟨_, rfl, frz_rows (s := ⟨_, _, _⟩) rfl [e40, e25] exD (by simp only [upd]; rfl) (by simp [e40, e25, exD, exsD]) (fun e _ => exD_plain e) (fun e _ => exD_len e) rfl⟩

set_option maxHeartbeats 2000000 in
set_option maxRecDepth 100000 in
theorem put0_A : PureR Try.prog 12 [.agg ((exD eSum).map .d)] (· = .agg ((smD sPut).map .d)) := by
  refine pure_of_wpR Tt_ok mixed Try.func12 rfl (by rfl) [.cell 2 46] rfl (by kernel_rfl) (by simp [Try.ntmps12]) fun g => ?_
  simp (config := { maxSteps := 1000000 }) only [go_sem, ↓reduceIte, Nat.reduceEqDiff, Nat.reduceAdd, Nat.reduceMul, Nat.reduceSub, Nat.reduceLT, Nat.reduceLeDiff, Int.reduceLT, Int.reduceLE, Int.reduceEq, Int.reduceNe, Int.reduceAdd, Int.reduceNeg, Int.reduceToNat, setAt, eSum, exD]
  refine ⟨_, ⟨[.int .i64 3, .int .i64 0, .int .i64 0, .sl [exD eSum], .sl [], .sl []], rfl, fun i c hc => ?_, rfl⟩, by simp [sPut, smD, smsD, exsD]⟩
  match i, hc with
  | 0, hc => cases hc; exact ⟨_, rfl, .d _⟩
  | 1, hc => cases hc; exact ⟨_, rfl, .d _⟩
  | 2, hc => cases hc; exact ⟨_, rfl, .d _⟩
  | 3, hc =>
    cases hc
    exact ⟨_, rfl, frz_rows (s := ⟨_, _, _⟩) rfl [eSum] exD (by simp only [upd]; rfl) (by simp [eSum, exD]) (fun e _ => exD_plain e) (fun e _ => exD_len e) rfl⟩
  | 4, hc => cases hc; exact ⟨_, rfl, .d .nsl⟩
  | 5, hc => cases hc; exact ⟨_, rfl, .d .nsl⟩

theorem fnD_plain (e : Fn) : ∀ x ∈ fnD e, normD x = x := by
  intro x hx
  simp only [fnD, List.mem_cons, List.not_mem_nil, or_false] at hx
  rcases hx with rfl | rfl | rfl | rfl | rfl <;> rfl

set_option maxHeartbeats 2000000 in
set_option maxRecDepth 100000 in
theorem main_A : PureR Try.prog 11 [iv .i64 0, .one (.d (.sl [smD sPut]))] (· = coreC 0 [f0]) := by
  refine pure_of_wpR Tt_ok mixed Try.func11 rfl (by rfl) [.cell 4 24] rfl (by kernel_rfl) (by simp [Try.ntmps11]) fun g => ?_
  simp (config := { maxSteps := 1000000 }) only [go_sem, ↓reduceIte, Nat.reduceEqDiff, Nat.reduceAdd, Nat.reduceMul, Nat.reduceSub, Nat.reduceLT, Nat.reduceLeDiff, Int.reduceLT, Int.reduceLE, Int.reduceEq, Int.reduceNe, Int.reduceAdd, Int.reduceNeg, Int.reduceToNat, setAt]
  refine ⟨_, ⟨[.int .i64 0, .sl [fnD f0]], rfl, fun i c hc => ?_, rfl⟩, by simp [coreC]⟩
  match i, hc with
  | 0, hc => cases hc; exact ⟨_, rfl, .d _⟩
  | 1, hc =>
    cases hc
    exact ⟨_, rfl, frz_rows (s := ⟨_, _, _⟩) rfl [f0] fnD (by simp only [upd]; rfl) (by simp [f0, fnD, smsD]) (fun e _ => fnD_plain e) (fun e _ => fnD_len e) rfl⟩

end Go.Proofs.Ythengcpckdlpgaa
