/- Stack code: it may be. -/
import Derived.Test.YthengcpckdlpgaaL14
set_option linter.unusedSimpArgs false
set_option linter.unusedVariables false
namespace Go.Proofs.Ythengcpckdlpgaa
open Go Go.Am Go.Lower

/-- What is known of a program that may be. -/
structure OkC (w : Int) (fs : List Fn) : Prop where
  w0 : 0 ≤ w
  w1 : w ≤ 32768
  n0 : 1 ≤ fs.length
  n1 : fs.length ≤ 64
  fn : ∀ x ∈ fs, 0 ≤ x.params ∧ x.params ≤ x.slots ∧ 0 ≤ x.first ∧ x.slots ≤ w ∧ x.first ≤ w - x.slots
  body : ∀ (k : Nat) (x : Fn), fs[k]? = some x → rSs w (sig fs) k x.word 1 x.body
  last : ∀ x, fs[fs.length - 1]? = some x → x.params = 0 ∧ x.word = false

set_option maxHeartbeats 8000000 in
set_option maxRecDepth 100000 in
theorem RightS_A {w : Int} {fs : List Fn} (h : OkC w fs) (hsh : Short fs) : PureR Try.prog 7 [stackC w fs] (· = bv true) := by
  obtain ⟨w0, w1, n0, n1, hfn, hbody, hlast⟩ := h
  refine pure_of_wp Tt_ok mixed Try.func7 rfl (by rfl) [2] rfl (by kernel_rfl) (by simp [Try.ntmps7]) fun g => ?_
  have hw0 : ¬ w < 0 := by omega
  have hw1 : ¬ 32768 < w := by omega
  have hn0 : ¬ (fs.length : Int) < 1 := by omega
  have hn1 : ¬ (64 : Int) < fs.length := by omega
  unfold stackC
  simp (config := { maxSteps := 1000000 }) only [go_sem, ↓reduceIte, Nat.reduceEqDiff, Nat.reduceAdd, Nat.reduceMul, Nat.reduceSub, Nat.reduceLT, Nat.reduceLeDiff, Int.reduceLT, Int.reduceLE, Int.reduceEq, Int.reduceNe, Int.reduceAdd, Int.reduceNeg, Int.reduceToNat, hw0, hw1, hn0, hn1, List.length_map]
  refine loop_introB (fun m s => ∃ k : Nat, m + k = fs.length ∧ s.f 1 = .one (.ptr 1 (s.gen 1) 0) ∧ s.f 3 = iv .i64 k ∧ s.obj 1 = some [.d (.int .i64 w), .d (.sl (fs.map sfD))]) fs.length ?_ ?_
  · refine ⟨0, rfl, ?_⟩
    simp (config := { maxSteps := 1000000 }) only [go_sem, ↓reduceIte, Nat.reduceEqDiff, Nat.reduceAdd, Nat.reduceMul, Nat.reduceSub, Nat.reduceLT, Nat.reduceLeDiff, Int.reduceLT, Int.reduceLE, Int.reduceEq, Int.reduceNe, Int.reduceAdd, Int.reduceNeg, Int.reduceToNat]
    try rfl
  · clear g
    rintro m g gn ob ⟨k, hk, f1, f3, o1⟩
    simp only at f1 f3 o1
    have hwk := wrap_succ (k := k) (by omega)
    by_cases hlt : k < fs.length
    · obtain ⟨x, hx⟩ := getq hlt
      obtain ⟨p0, p1, p2, p3, p4⟩ := hfn x (List.mem_of_getElem? hx)
      have hb := hbody k x hx
      have hsx := hsh x (List.mem_of_getElem? hx)
      have q0 : ¬ x.params < 0 := by omega
      have q1 : ¬ x.slots < x.params := by omega
      have q2 : ¬ x.first < 0 := by omega
      have q3 : ¬ w < x.slots := by omega
      have hs : IntKind.i64.wrap (w - x.slots) = w - x.slots := by rw [wrap_i64] <;> omega
      have q4 : ¬ w - x.slots < x.first := by omega
      simp (config := { maxSteps := 1000000 }) only [go_sem, ↓reduceIte, Nat.reduceEqDiff, Nat.reduceAdd, Nat.reduceMul, Nat.reduceSub, Nat.reduceLT, Nat.reduceLeDiff, Int.reduceLT, Int.reduceLE, Int.reduceEq, Int.reduceNe, Int.reduceAdd, Int.reduceNeg, Int.reduceToNat, f1, f3, o1, hlt, hx, List.length_map, sfD, setAt, q0, q1, q2, q3, hs, q4]
      generalize hcd : codeOf x.word x.body = cd at *
      refine loop_introB (fun m2 s => ∃ j : Nat, m2 + j = cd.length ∧ s.f 1 = .one (.ptr 1 (s.gen 1) 0) ∧ s.f 3 = iv .i64 k ∧ s.f 4 = .one (.ptr 4 (s.gen 4) 0) ∧ s.f 5 = iv .i64 j ∧ s.obj 1 = some [.d (.int .i64 w), .d (.sl (fs.map sfD))] ∧ s.obj 4 = some [.d (.int .i64 x.params), .d (.int .i64 x.slots), .d (.int .i64 x.first), .d (.bool x.word), .d (insV cd)]) cd.length ?_ ?_
      · refine ⟨0, rfl, ?_⟩
        simp (config := { maxSteps := 1000000 }) only [go_sem, ↓reduceIte, Nat.reduceEqDiff, Nat.reduceAdd, Nat.reduceMul, Nat.reduceSub, Nat.reduceLT, Nat.reduceLeDiff, Int.reduceLT, Int.reduceLE, Int.reduceEq, Int.reduceNe, Int.reduceAdd, Int.reduceNeg, Int.reduceToNat, f1, f3, o1]
        try rfl
      · clear f1 f3 o1
        clear g gn ob
        rintro m2 g gn ob ⟨j, hj, f1, f3, f4, f5, o1, o4⟩
        simp only at f1 f3 f4 f5 o1 o4
        have hwj := wrap_succ (k := j) (by omega)
        by_cases hlj : j < cd.length
        · obtain ⟨⟨y, d⟩, hy⟩ := getq hlj
          have hfit : fit0 w k y := codeOf_fit hb (y, d) (by rw [hcd]; exact List.mem_of_getElem? hy)
          have hpl := fun hj8 => codeOf_place hb (i := j) (x := y) (d := d) (by rw [hcd]; exact hy) hj8
          simp (config := { maxSteps := 1000000 }) only [go_sem, ↓reduceIte, Nat.reduceEqDiff, Nat.reduceAdd, Nat.reduceMul, Nat.reduceSub, Nat.reduceLT, Nat.reduceLeDiff, Int.reduceLT, Int.reduceLE, Int.reduceEq, Int.reduceNe, Int.reduceAdd, Int.reduceNeg, Int.reduceToNat, f1, f3, f4, f5, o1, o4, hlj, List.length_map]
          refine draw_introB (by decide +kernel) ?_
          simp (config := { maxSteps := 1000000 }) only [go_sem, ↓reduceIte, Nat.reduceEqDiff, Nat.reduceAdd, Nat.reduceMul, Nat.reduceSub, Nat.reduceLT, Nat.reduceLeDiff, Int.reduceLT, Int.reduceLE, Int.reduceEq, Int.reduceNe, Int.reduceAdd, Int.reduceNeg, Int.reduceToNat, f1, f3, f4, f5, o1, o4, hlj, hy, List.length_map, insD_len]
          refine hook_call rfl (Fits_A (w := w) (fs := fs) (f := k) (fx := x) ⟨w0, by omega⟩ hx (x := y) hfit hpl) (by rfl) ?_
          rintro _ rfl
          simp (config := { maxSteps := 1000000 }) only [go_sem, ↓reduceIte, Nat.reduceEqDiff, Nat.reduceAdd, Nat.reduceMul, Nat.reduceSub, Nat.reduceLT, Nat.reduceLeDiff, Int.reduceLT, Int.reduceLE, Int.reduceEq, Int.reduceNe, Int.reduceAdd, Int.reduceNeg, Int.reduceToNat, f1, f3, f4, f5, o1, o4, hwj]
          refine round_endB (m2 - 1) (by omega) ⟨j + 1, by omega, ?_⟩
          simp (config := { maxSteps := 1000000 }) only [go_sem, ↓reduceIte, Nat.reduceEqDiff, Nat.reduceAdd, Nat.reduceMul, Nat.reduceSub, Nat.reduceLT, Nat.reduceLeDiff, Int.reduceLT, Int.reduceLE, Int.reduceEq, Int.reduceNe, Int.reduceAdd, Int.reduceNeg, Int.reduceToNat, f1, f3, f4, f5, o1, o4, hwj]
        · simp (config := { maxSteps := 1000000 }) only [go_sem, ↓reduceIte, Nat.reduceEqDiff, Nat.reduceAdd, Nat.reduceMul, Nat.reduceSub, Nat.reduceLT, Nat.reduceLeDiff, Int.reduceLT, Int.reduceLE, Int.reduceEq, Int.reduceNe, Int.reduceAdd, Int.reduceNeg, Int.reduceToNat, f1, f3, f4, f5, o1, o4, hlj, List.length_map]
          have hg := codeOf_good (ps := sig fs) hb
          simp only at hg
          refine hook_call rfl (Depths_A (w := w) (fs := fs) hx hcd hsx (T := fun k => (cd[k]?).map Prod.snd) (fun _ => rfl) (by rw [← hcd]; exact hg.1) (by rw [← hcd]; exact hg.2)) (by rfl) ?_
          rintro _ ⟨z, rfl⟩
          simp (config := { maxSteps := 1000000 }) only [go_sem, ↓reduceIte, Nat.reduceEqDiff, Nat.reduceAdd, Nat.reduceMul, Nat.reduceSub, Nat.reduceLT, Nat.reduceLeDiff, Int.reduceLT, Int.reduceLE, Int.reduceEq, Int.reduceNe, Int.reduceAdd, Int.reduceNeg, Int.reduceToNat, f1, f3, f4, f5, o1, o4, hwk]
          refine round_endB (m - 1) (by omega) ⟨k + 1, by omega, ?_⟩
          simp (config := { maxSteps := 1000000 }) only [go_sem, ↓reduceIte, Nat.reduceEqDiff, Nat.reduceAdd, Nat.reduceMul, Nat.reduceSub, Nat.reduceLT, Nat.reduceLeDiff, Int.reduceLT, Int.reduceLE, Int.reduceEq, Int.reduceNe, Int.reduceAdd, Int.reduceNeg, Int.reduceToNat, f1, f3, f4, f5, o1, o4, hwk]
    · have hkk : k = fs.length := by omega
      subst hkk
      obtain ⟨y, hy⟩ := getq (show fs.length - 1 < fs.length by omega)
      obtain ⟨hp, hwd⟩ := hlast y hy
      have hs : IntKind.i64.wrap ((fs.length : Int) - 1) = ((fs.length - 1 : Nat) : Int) := by rw [wrap_i64] <;> omega
      simp (config := { maxSteps := 1000000 }) only [go_sem, ↓reduceIte, Nat.reduceEqDiff, Nat.reduceAdd, Nat.reduceMul, Nat.reduceSub, Nat.reduceLT, Nat.reduceLeDiff, Int.reduceLT, Int.reduceLE, Int.reduceEq, Int.reduceNe, Int.reduceAdd, Int.reduceNeg, Int.reduceToNat, f1, f3, o1, hlt, hs, hy, List.length_map, sfD, setAt, hp, hwd]

end Go.Proofs.Ythengcpckdlpgaa
