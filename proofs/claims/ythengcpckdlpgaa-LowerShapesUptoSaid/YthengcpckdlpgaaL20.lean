/- The fixed fact holds. -/
import Derived.Test.YthengcpckdlpgaaL19
set_option linter.unusedSimpArgs false
set_option linter.unusedVariables false
namespace Go.Proofs.Ythengcpckdlpgaa
open Go Go.Am Go.Lower

/-- Rows of plain data, given up. -/
theorem frzp_rows {α : Type} {P : Nat → Prop} {s : St} {id g sz n : Nat} {cells : List C} (hp : P id) (hg : s.gen id = g) (l : List α) (enc : α → List D) (ho : s.obj id = some cells) (hc : cells = l.flatMap (fun a => (enc a).map .d)) (hs : ∀ a ∈ l, (enc a).length = sz) (hl : l.length = n) :
    FrzP P s (.osl id g sz 0 n) (.sl (l.map enc)) := by
  have hfl : cells = (l.map enc).flatten.map .d := by rw [hc]; clear hs hl hc ho; induction l with | nil => rfl | cons a l ih => simp [ih]
  have hlen : cells.length = n * sz := by
    rw [hfl, List.length_map]
    clear hfl hc ho
    subst hl
    induction l with
    | nil => simp
    | cons a l ih =>
      simp only [List.map_cons, List.flatten_cons, List.length_append, List.length_cons, hs a (by simp), ih (fun b hb => hs b (by simp [hb]))]
      rw [Nat.add_mul]; omega
  refine .osl hp hg ho (by omega) (by simpa using hl) (fun e he => by obtain ⟨a, ha, rfl⟩ := List.mem_map.1 he; exact hs a ha) (fun j => (cells[0 + j]?).getD (.d .nsl)) (fun j x hx => ?_) (fun j x hx => ?_)
  · rw [hfl, Nat.zero_add, List.getElem?_map, hx]; rfl
  · rw [hfl, Nat.zero_add, List.getElem?_map, hx]
    simp only [Option.map_some, Option.getD_some]
    exact .d x

/-- Rows of data, nil slices among it. -/
theorem frz_rowsN {α : Type} {s : St} {id g sz n : Nat} {cells : List C} (hg : s.gen id = g) (l : List α) (raw : α → List D) (ho : s.obj id = some cells) (hc : cells = l.flatMap (fun a => (raw a).map .d)) (hs : ∀ a ∈ l, (raw a).length = sz) (hl : l.length = n) :
    Frz s (.osl id g sz 0 n) (.sl (l.map fun a => (raw a).map normD)) := by
  have hfl : cells = (l.map raw).flatten.map .d := by rw [hc]; clear hs hl hc ho; induction l with | nil => rfl | cons a l ih => simp [ih]
  have hfl2 : (l.map fun a => (raw a).map normD).flatten = (l.map raw).flatten.map normD := by clear hs hl hc ho hfl; induction l with | nil => rfl | cons a l ih => simp [ih]
  have hlen : cells.length = n * sz := by
    rw [hfl, List.length_map]
    clear hfl hfl2 hc ho
    subst hl
    induction l with
    | nil => simp
    | cons a l ih =>
      simp only [List.map_cons, List.flatten_cons, List.length_append, List.length_cons, hs a (by simp), ih (fun b hb => hs b (by simp [hb]))]
      rw [Nat.add_mul]; omega
  refine .osl hg ho (by omega) (by simpa using hl) (fun e he => by obtain ⟨a, ha, rfl⟩ := List.mem_map.1 he; rw [List.length_map]; exact hs a ha) (fun j => (cells[0 + j]?).getD (.d .nsl)) (fun j x hx => ?_) (fun j x hx => ?_)
  · rw [hfl2, List.getElem?_map] at hx
    rw [hfl, Nat.zero_add, List.getElem?_map]
    cases hq : (l.map raw).flatten[j]? with
    | none => rw [hq] at hx; cases hx
    | some y => rfl
  · rw [hfl2, List.getElem?_map] at hx
    rw [hfl, Nat.zero_add, List.getElem?_map]
    cases hq : (l.map raw).flatten[j]? with
    | none => rw [hq] at hx; cases hx
    | some y => rw [hq] at hx; cases hx; exact .d y

set_option maxHeartbeats 4000000 in
set_option maxRecDepth 100000 in
theorem expr5_A {K T B E gT gE : Nat} {word : Bool} {code : List Ins} {g : Nat → Nat} {ob : Obs} (ht : Tape T B word code g ob) (hgT : g T = gT) (hE : ob E = some [.d (.int .i64 1), .d (.int .i64 0), .d (.int .u32 5), .d (.int .i64 0), .d (.int .i64 0), .d (.sl [])]) (hgE : g E = gE) (hTK : T < K) (hBK : B < K) (hK : ∀ i, K ≤ i → ob i = none) (hl : code.length ≤ 1000000) :
    FunR Try.prog 23 [.one (.ptr T gT 0), .one (.ptr E gE 0)] g ob (fun r g' ob' => r = uv ∧ Wrote K T B word (code ++ [⟨1, 0, 0, 5⟩]) g ob g' ob') := by
  have hp := Prog.start (K2 := K + 107) ht hTK hBK hK (by omega)
  refine fun_of_wp K Tt_ok mixed Try.func23 rfl (by rfl) [] rfl (by kernel_rfl) (by simp [Try.ntmps23]) ?_
  simp (config := { maxSteps := 1000000 }) only [go_sem, ↓reduceIte, Nat.reduceEqDiff, Nat.reduceAdd, Nat.reduceMul, Nat.reduceSub, Nat.reduceLT, Nat.reduceLeDiff, Int.reduceLT, Int.reduceLE, Int.reduceEq, Int.reduceNe, Int.reduceAdd, Int.reduceNeg, Int.reduceToNat, hE, hgE, List.length_nil]
  refine loop_introB (fun n s => s.f 0 = .one (.ptr T gT 0) ∧ s.f 1 = .one (.ptr E gE 0) ∧ s.f 24 = iv .i64 0 ∧ s.f 25 = iv .i64 0 ∧ s.gen = g ∧ s.obj = ob) 0 ?_ ?_
  · simp (config := { maxSteps := 1000000 }) only [go_sem, ↓reduceIte, Nat.reduceEqDiff, Nat.reduceAdd, Nat.reduceMul, Nat.reduceSub, Nat.reduceLT, Nat.reduceLeDiff, Int.reduceLT, Int.reduceLE, Int.reduceEq, Int.reduceNe, Int.reduceAdd, Int.reduceNeg, Int.reduceToNat]
  · rintro n f g1 ob1 ⟨f0, f1, f24, f25, hgg, hoo⟩
    simp only at f0 f1 f24 f25 hgg hoo
    subst hgg hoo
    simp (config := { maxSteps := 1000000 }) only [go_sem, ↓reduceIte, Nat.reduceEqDiff, Nat.reduceAdd, Nat.reduceMul, Nat.reduceSub, Nat.reduceLT, Nat.reduceLeDiff, Int.reduceLT, Int.reduceLE, Int.reduceEq, Int.reduceNe, Int.reduceAdd, Int.reduceNeg, Int.reduceToNat, f0, f1, f24, f25, hE, hgE]
    refine hook_put [⟨1, 0, 0, 5⟩] hp rfl hgT (by omega) (by omega) rfl rfl (by simp only [List.length_cons, List.length_nil]; omega) ?_
    intro g2 ob2 p2 q2 r2
    simp (config := { maxSteps := 1000000 }) only [go_sem, ↓reduceIte, Nat.reduceEqDiff, Nat.reduceAdd, Nat.reduceMul, Nat.reduceSub, Nat.reduceLT, Nat.reduceLeDiff, Int.reduceLT, Int.reduceLE, Int.reduceEq, Int.reduceNe, Int.reduceAdd, Int.reduceNeg, Int.reduceToNat]
    refine retF_drops (fun i => decide (K ≤ i)) ?_
    exact ⟨rfl, p2.fin hK⟩

set_option maxHeartbeats 4000000 in
set_option maxRecDepth 100000 in
theorem Expr_A (a b : D) : PureR Try.prog 15 [.agg [.d a, .d b], .agg ((exD (.mk 1 0 5 0 0 [])).map .d)] (· = .one (.d (.sl [insD ⟨1, 0, 0, 5⟩]))) := by
  refine pure_of_wp Tt_ok mixed Try.func15 rfl (by rfl) [4] rfl (by kernel_rfl) (by simp [Try.ntmps15]) fun g => ?_
  simp (config := { maxSteps := 1000000 }) only [go_sem, ↓reduceIte, Nat.reduceEqDiff, Nat.reduceAdd, Nat.reduceMul, Nat.reduceSub, Nat.reduceLT, Nat.reduceLeDiff, Int.reduceLT, Int.reduceLE, Int.reduceEq, Int.reduceNe, Int.reduceAdd, Int.reduceNeg, Int.reduceToNat, exD, exsD]
  refine hook_vs _ (vs_claimAt (t := 5) (o := 5) (b := 20) (j := 1) (sz := 4) (off := 0) rfl rfl rfl (by decide)) ?_
  simp only [St.claimAt]
  refine hook_fun rfl (expr5_A (K := 21) (T := 5) (B := 20) (E := 3) (word := false) (code := []) ⟨by simp [upd], by simp [upd, insCs_nil], by decide⟩ (by simp [upd]) (by simp [upd]) (by simp [upd]) (by decide) (by decide) (fun i hi => by simp only [upd]; rw [if_neg (by omega), if_neg (by omega), if_neg (by omega), if_neg (by omega), if_neg (by omega)]) (by simp)) ?_
  rintro _ g1 ob1 ⟨rfl, t, q1, q2⟩
  simp (config := { maxSteps := 1000000 }) only [go_sem, ↓reduceIte, Nat.reduceEqDiff, Nat.reduceAdd, Nat.reduceMul, Nat.reduceSub, Nat.reduceLT, Nat.reduceLeDiff, Int.reduceLT, Int.reduceLE, Int.reduceEq, Int.reduceNe, Int.reduceAdd, Int.reduceNeg, Int.reduceToNat, t.t, (q1 5 (by decide) (by decide)).trans (by simp [upd] : _ = g 5 + 1)]
  refine ⟨_, ⟨_, frz_rows (s := ⟨_, _, _⟩) rfl [(⟨1, 0, 0, 5⟩ : Ins)] insD t.b (by rfl) (fun a _ y hy => ?_) (fun _ _ => rfl) rfl, rfl⟩, rfl⟩
  simp only [insD, List.mem_cons, List.not_mem_nil, or_false] at hy
  rcases hy with rfl | rfl | rfl | rfl <;> rfl

set_option maxHeartbeats 4000000 in
set_option maxRecDepth 100000 in
theorem awake_A : PureR Try.prog 5 [] (· = bv true) := by
  refine pure_of_wp Tt_ok mixed Try.func5 rfl (by rfl) [0] rfl (by kernel_rfl) (by simp [Try.ntmps5]) fun g => ?_
  simp (config := { maxSteps := 1000000 }) only [go_sem, ↓reduceIte, Nat.reduceEqDiff, Nat.reduceAdd, Nat.reduceMul, Nat.reduceSub, Nat.reduceLT, Nat.reduceLeDiff, Int.reduceLT, Int.reduceLE, Int.reduceEq, Int.reduceNe, Int.reduceAdd, Int.reduceNeg, Int.reduceToNat]
  refine hook_call rfl (num_A 40) (by rfl) ?_
  rintro _ rfl
  simp (config := { maxSteps := 1000000 }) only [go_sem, ↓reduceIte, Nat.reduceEqDiff, Nat.reduceAdd, Nat.reduceMul, Nat.reduceSub, Nat.reduceLT, Nat.reduceLeDiff, Int.reduceLT, Int.reduceLE, Int.reduceEq, Int.reduceNe, Int.reduceAdd, Int.reduceNeg, Int.reduceToNat]
  refine hook_call rfl (num_A 25) (by rfl) ?_
  rintro _ rfl
  simp (config := { maxSteps := 1000000 }) only [go_sem, ↓reduceIte, Nat.reduceEqDiff, Nat.reduceAdd, Nat.reduceMul, Nat.reduceSub, Nat.reduceLT, Nat.reduceLeDiff, Int.reduceLT, Int.reduceLE, Int.reduceEq, Int.reduceNe, Int.reduceAdd, Int.reduceNeg, Int.reduceToNat]
  refine hook_call rfl op_A (by rfl) ?_
  rintro _ rfl
  simp (config := { maxSteps := 1000000 }) only [go_sem, ↓reduceIte, Nat.reduceEqDiff, Nat.reduceAdd, Nat.reduceMul, Nat.reduceSub, Nat.reduceLT, Nat.reduceLeDiff, Int.reduceLT, Int.reduceLE, Int.reduceEq, Int.reduceNe, Int.reduceAdd, Int.reduceNeg, Int.reduceToNat]
  refine hook_call rfl put0_A (by rfl) ?_
  rintro _ rfl
  simp (config := { maxSteps := 1000000 }) only [go_sem, ↓reduceIte, Nat.reduceEqDiff, Nat.reduceAdd, Nat.reduceMul, Nat.reduceSub, Nat.reduceLT, Nat.reduceLeDiff, Int.reduceLT, Int.reduceLE, Int.reduceEq, Int.reduceNe, Int.reduceAdd, Int.reduceNeg, Int.reduceToNat, smD_len, List.length_map]
  refine hook_vs _ (vs_give (t := 6) (id := 6) rfl (frzp_rows (P := (· = 6)) (n := 1) (cells := (smD sPut).map .d) rfl rfl [sPut] smD rfl (by simp) (fun e _ => smD_len e) rfl)) ?_
  refine hook_call rfl main_A (by rfl) ?_
  rintro _ rfl
  simp (config := { maxSteps := 1000000 }) only [go_sem, ↓reduceIte, Nat.reduceEqDiff, Nat.reduceAdd, Nat.reduceMul, Nat.reduceSub, Nat.reduceLT, Nat.reduceLeDiff, Int.reduceLT, Int.reduceLE, Int.reduceEq, Int.reduceNe, Int.reduceAdd, Int.reduceNeg, Int.reduceToNat]
  refine hook_call rfl (Of_A (w := 0) (ps := sig [f0]) (fs := [f0]) (by decide) (by decide) (fun x hx => ?_) (fun k x hx => ?_)) (by rfl) ?_
  · obtain rfl : x = f0 := by simpa using hx
    rw [show codeOf f0.word f0.body = codeOf false [sPut] from rfl, code0]; decide
  · match k, hx with
    | 0, hx => cases hx; exact right0
  rintro _ rfl
  simp (config := { maxSteps := 1000000 }) only [go_sem, ↓reduceIte, Nat.reduceEqDiff, Nat.reduceAdd, Nat.reduceMul, Nat.reduceSub, Nat.reduceLT, Nat.reduceLeDiff, Int.reduceLT, Int.reduceLE, Int.reduceEq, Int.reduceNe, Int.reduceAdd, Int.reduceNeg, Int.reduceToNat]
  refine hook_call rfl Run_A (by rfl) ?_
  rintro _ rfl
  simp (config := { maxSteps := 1000000 }) only [go_sem, ↓reduceIte, Nat.reduceEqDiff, Nat.reduceAdd, Nat.reduceMul, Nat.reduceSub, Nat.reduceLT, Nat.reduceLeDiff, Int.reduceLT, Int.reduceLE, Int.reduceEq, Int.reduceNe, Int.reduceAdd, Int.reduceNeg, Int.reduceToNat, setAt]
  refine hook_call rfl (num_A 5) (by rfl) ?_
  rintro _ rfl
  simp (config := { maxSteps := 1000000 }) only [go_sem, ↓reduceIte, Nat.reduceEqDiff, Nat.reduceAdd, Nat.reduceMul, Nat.reduceSub, Nat.reduceLT, Nat.reduceLeDiff, Int.reduceLT, Int.reduceLE, Int.reduceEq, Int.reduceNe, Int.reduceAdd, Int.reduceNeg, Int.reduceToNat, exD, exsD]
  refine hook_len rfl (Expr_A (.int .i64 0) (.sl [[.int .i64 0, .int .i64 0, .int .i64 0, .bool false, .sl []]])) ⟨_, _, rfl, ⟨[.int .i64 0, .sl [[.int .i64 0, .int .i64 0, .int .i64 0, .bool false, .sl []]]], rfl, fun i c hc => ?_, rfl⟩, _, _, rfl, frzV_agg (cs := [.int .i64 1, .int .i64 0, .int .u32 5, .int .i64 0, .int .i64 0, .sl []]) rfl, rfl⟩ (fun r hr => by subst hr; rfl) ?_
  · match i, hc with
    | 0, hc => cases hc; exact ⟨_, rfl, .d _⟩
    | 1, hc =>
      cases hc
      exact ⟨_, rfl, frz_rowsN (s := ⟨_, _, _⟩) rfl [()] (fun _ => [.int .i64 0, .int .i64 0, .int .i64 0, .bool false, .nsl]) rfl rfl (fun _ _ => rfl) rfl⟩
  rintro _ rfl
  simp (config := { maxSteps := 1000000 }) only [go_sem, ↓reduceIte, Nat.reduceEqDiff, Nat.reduceAdd, Nat.reduceMul, Nat.reduceSub, Nat.reduceLT, Nat.reduceLeDiff, Int.reduceLT, Int.reduceLE, Int.reduceEq, Int.reduceNe, Int.reduceAdd, Int.reduceNeg, Int.reduceToNat, List.length_cons, List.length_nil]

end Go.Proofs.Ythengcpckdlpgaa
