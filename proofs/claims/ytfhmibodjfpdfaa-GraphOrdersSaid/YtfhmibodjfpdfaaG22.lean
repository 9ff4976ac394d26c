/- GraphOrders. -/
import Derived.Test.YtfhmibodjfpdfaaG21
set_option linter.unusedSimpArgs false
set_option linter.unusedVariables false
namespace Go.Proofs.Ytfhmibodjfpdfaa
open Go Go.Am

set_option maxHeartbeats 4000000 in
set_option maxRecDepth 100000 in
theorem GraphOrders_A (xs : List (List Int)) (h1 : xs.length ≤ 140737488355328) (h2 : ∀ r ∈ xs, r.length ≤ 140737488355328) : PureR Try.prog 6 [.one (.d (intss xs))] (· = bv true) := by
  refine pure_of_wp Tt_ok mixed Try.func6 rfl (by rfl) [2] rfl (by kernel_rfl) (by simp [Try.ntmps6]) fun g => ?_
  simp (config := { maxSteps := 1000000 }) only [go_sem, ↓reduceIte, Nat.reduceEqDiff, Nat.reduceAdd, Nat.reduceMul, Nat.reduceSub, Nat.reduceLT, Nat.reduceLeDiff, Int.reduceLT, Int.reduceLE, Int.reduceEq, Int.reduceNe, Int.reduceAdd, Int.reduceNeg, Int.reduceToNat]
  refine hook_call rfl (Few_A xs 300 (by decide) h1 h2) (by rfl) ?_
  rintro _ rfl
  by_cases hf : total xs ≤ 300
  rotate_left
  · simp (config := { maxSteps := 1000000 }) only [go_sem, ↓reduceIte, Nat.reduceEqDiff, Nat.reduceAdd, Nat.reduceMul, Nat.reduceSub, Nat.reduceLT, Nat.reduceLeDiff, Int.reduceLT, Int.reduceLE, Int.reduceEq, Int.reduceNe, Int.reduceAdd, Int.reduceNeg, Int.reduceToNat, hf]
    refine hook_call rfl awake_A (by rfl) ?_
    rintro _ rfl
    simp (config := { maxSteps := 1000000 }) only [go_sem, ↓reduceIte, Nat.reduceEqDiff, Nat.reduceAdd, Nat.reduceMul, Nat.reduceSub, Nat.reduceLT, Nat.reduceLeDiff, Int.reduceLT, Int.reduceLE, Int.reduceEq, Int.reduceNe, Int.reduceAdd, Int.reduceNeg, Int.reduceToNat]
  have hb := fits_total (by decide) hf
  have hbn := hb.n
  simp (config := { maxSteps := 1000000 }) only [go_sem, ↓reduceIte, Nat.reduceEqDiff, Nat.reduceAdd, Nat.reduceMul, Nat.reduceSub, Nat.reduceLT, Nat.reduceLeDiff, Int.reduceLT, Int.reduceLE, Int.reduceEq, Int.reduceNe, Int.reduceAdd, Int.reduceNeg, Int.reduceToNat, hf]
  refine hook_call rfl (Order_A xs hb) (by rfl) ?_
  rintro r (⟨hn, rfl⟩ | ⟨ys, rfl, hR, ⟨lv, hl, rfl⟩ | ⟨hno, rfl⟩⟩)
  · simp (config := { maxSteps := 1000000 }) only [go_sem, ↓reduceIte, Nat.reduceEqDiff, Nat.reduceAdd, Nat.reduceMul, Nat.reduceSub, Nat.reduceLT, Nat.reduceLeDiff, Int.reduceLT, Int.reduceLE, Int.reduceEq, Int.reduceNe, Int.reduceAdd, Int.reduceNeg, Int.reduceToNat]
    refine hook_call rfl awake_A (by rfl) ?_
    rintro _ rfl
    simp (config := { maxSteps := 1000000 }) only [go_sem, ↓reduceIte, Nat.reduceEqDiff, Nat.reduceAdd, Nat.reduceMul, Nat.reduceSub, Nat.reduceLT, Nat.reduceLeDiff, Int.reduceLT, Int.reduceLE, Int.reduceEq, Int.reduceNe, Int.reduceAdd, Int.reduceNeg, Int.reduceToNat, List.map_nil]
  rotate_left
  · simp (config := { maxSteps := 1000000 }) only [go_sem, ↓reduceIte, Nat.reduceEqDiff, Nat.reduceAdd, Nat.reduceMul, Nat.reduceSub, Nat.reduceLT, Nat.reduceLeDiff, Int.reduceLT, Int.reduceLE, Int.reduceEq, Int.reduceNe, Int.reduceAdd, Int.reduceNeg, Int.reduceToNat]
    refine hook_call rfl awake_A (by rfl) ?_
    rintro _ rfl
    simp (config := { maxSteps := 1000000 }) only [go_sem, ↓reduceIte, Nat.reduceEqDiff, Nat.reduceAdd, Nat.reduceMul, Nat.reduceSub, Nat.reduceLT, Nat.reduceLeDiff, Int.reduceLT, Int.reduceLE, Int.reduceEq, Int.reduceNe, Int.reduceAdd, Int.reduceNeg, Int.reduceToNat, List.map_nil]
  obtain ⟨hbn, hrows⟩ := rows_toI hb
  have hint := intss_toI ys
  have hol : (groups lv).flatten.length = ys.length := by rw [groups_all, hl.len]
  have hbeh : ∀ {i x p : Nat}, (groups lv).flatten[i]? = some x → p ∈ row ys x → p ∈ (groups lv).flatten.take i := order_behind hR hl
  have honce : ∀ {i x : Nat}, (groups lv).flatten[i]? = some x → x ∉ (groups lv).flatten.take i := order_once
  have hmem : ∀ x, x ∈ (groups lv).flatten → x < ys.length := fun x hx => by rw [← hl.len]; exact groups_mem.1 hx
  generalize (groups lv).flatten = O at *
  simp (config := { maxSteps := 1000000 }) only [go_sem, ↓reduceIte, Nat.reduceEqDiff, Nat.reduceAdd, Nat.reduceMul, Nat.reduceSub, Nat.reduceLT, Nat.reduceLeDiff, Int.reduceLT, Int.reduceLE, Int.reduceEq, Int.reduceNe, Int.reduceAdd, Int.reduceNeg, Int.reduceToNat, hint, natss, nats, hol, List.length_map, bcells_rep]
  refine ⟨Nat.le_refl _, by omega, by omega, ?_⟩
  refine loop_introB (fun n s => ∃ k : Nat, n + k = O.length ∧ s.f 0 = .one (.d (natss ys)) ∧ s.f 3 = .one (.d (nats O)) ∧ s.f 5 = .one (.osl 32 (s.gen 32) 1 0 ys.length) ∧ s.f 6 = iv .i64 k ∧
    s.obj 32 = some (bcells (marks (O.take k) (List.replicate ys.length false)))) O.length ?_ ?_
  · refine ⟨0, rfl, ?_⟩
    simp (config := { maxSteps := 1000000 }) only [go_sem, ↓reduceIte, Nat.reduceEqDiff, Nat.reduceAdd, Nat.reduceMul, Nat.reduceSub, Nat.reduceLT, Nat.reduceLeDiff, Int.reduceLT, Int.reduceLE, Int.reduceEq, Int.reduceNe, Int.reduceAdd, Int.reduceNeg, Int.reduceToNat, natss, nats, hint]
    rfl
  · clear g
    rintro n f g ob ⟨k, hk, f0, f3, f5, f6, o32⟩
    simp only at f0 f3 f5 f6 o32
    have hw := wrap_succ (k := k) (by omega)
    by_cases hlt : k < O.length
    · obtain ⟨x, hx⟩ := getq hlt
      have hxn := hmem x (List.mem_of_getElem? hx)
      have hx0 : ¬ ((x : Nat) : Int) < 0 := by omega
      have hx1 : ¬ (ys.length : Int) ≤ (x : Int) := by omega
      have hx2 : x + 1 ≤ ys.length := hxn
      obtain ⟨r, hr⟩ := getq hxn
      have hrow := row_of hr
      have hrl := hrows r (List.mem_of_getElem? hr)
      have hbx : (bcells (marks (O.take k) (List.replicate ys.length false)))[x]? = some (.d (.bool false)) := bcells_get (by
        rw [marks_get (by simpa using hxn), if_neg (honce hx)]
        simp [hxn])
      have htk : O.take (k + 1) = O.take k ++ [x] := by rw [List.take_add_one, hx]; rfl
      simp (config := { maxSteps := 1000000 }) only [go_sem, ↓reduceIte, Nat.reduceEqDiff, Nat.reduceAdd, Nat.reduceMul, Nat.reduceSub, Nat.reduceLT, Nat.reduceLeDiff, Int.reduceLT, Int.reduceLE, Int.reduceEq, Int.reduceNe, Int.reduceAdd, Int.reduceNeg, Int.reduceToNat, f0, f3, f5, f6, o32, natss, nats, hlt, hx, hx0, hx1, hxn, hbx, List.length_map]
      refine loop_introB (fun n2 s => ∃ j : Nat, n2 + j = r.length ∧ s.f 0 = .one (.d (natss ys)) ∧ s.f 3 = .one (.d (nats O)) ∧ s.f 5 = .one (.osl 32 (s.gen 32) 1 0 ys.length) ∧ s.f 6 = iv .i64 k ∧ s.f 7 = iv .i64 j ∧
        s.obj 32 = some (bcells (marks (O.take k) (List.replicate ys.length false)))) r.length ?_ ?_
      · refine ⟨0, rfl, ?_⟩
        simp (config := { maxSteps := 1000000 }) only [go_sem, ↓reduceIte, Nat.reduceEqDiff, Nat.reduceAdd, Nat.reduceMul, Nat.reduceSub, Nat.reduceLT, Nat.reduceLeDiff, Int.reduceLT, Int.reduceLE, Int.reduceEq, Int.reduceNe, Int.reduceAdd, Int.reduceNeg, Int.reduceToNat, f0, f3, f5, f6, o32, natss, nats]
      · clear f0 f3 f5 f6 o32
        clear f g ob
        rintro n2 f g ob ⟨j, hj, f0, f3, f5, f6, f7, o32⟩
        simp only at f0 f3 f5 f6 f7 o32
        have hwj := wrap_succ (k := j) (by omega)
        by_cases hjl : j < r.length
        · obtain ⟨p, hp⟩ := getq hjl
          have hpm : p ∈ row ys x := by rw [hrow]; exact List.mem_of_getElem? hp
          have hpn := (hR.lt hpm).1
          have hbp : (bcells (marks (O.take k) (List.replicate ys.length false)))[p]? = some (.d (.bool true)) := bcells_get (by
            rw [marks_get (by simpa using hpn), if_pos (hbeh hx hpm)])
          simp (config := { maxSteps := 1000000 }) only [go_sem, ↓reduceIte, Nat.reduceEqDiff, Nat.reduceAdd, Nat.reduceMul, Nat.reduceSub, Nat.reduceLT, Nat.reduceLeDiff, Int.reduceLT, Int.reduceLE, Int.reduceEq, Int.reduceNe, Int.reduceAdd, Int.reduceNeg, Int.reduceToNat, f0, f3, f5, f6, f7, o32, natss, nats, hx, hr, hp, hjl, hpn, hbp, List.length_map, hwj]
          refine round_endB (n2 - 1) (by omega) ⟨j + 1, by omega, ?_⟩
          simp (config := { maxSteps := 1000000 }) only [go_sem, ↓reduceIte, Nat.reduceEqDiff, Nat.reduceAdd, Nat.reduceMul, Nat.reduceSub, Nat.reduceLT, Nat.reduceLeDiff, Int.reduceLT, Int.reduceLE, Int.reduceEq, Int.reduceNe, Int.reduceAdd, Int.reduceNeg, Int.reduceToNat, f0, f3, f5, f6, o32, natss, nats]
        · simp (config := { maxSteps := 1000000 }) only [go_sem, ↓reduceIte, Nat.reduceEqDiff, Nat.reduceAdd, Nat.reduceMul, Nat.reduceSub, Nat.reduceLT, Nat.reduceLeDiff, Int.reduceLT, Int.reduceLE, Int.reduceEq, Int.reduceNe, Int.reduceAdd, Int.reduceNeg, Int.reduceToNat, f0, f3, f5, f6, f7, o32, natss, nats, hx, hr, hjl, List.length_map, hxn, hx2, bcells_len, marks_len, List.length_replicate, bcells_set, hw]
          refine round_endB (n - 1) (by omega) ⟨k + 1, by omega, ?_⟩
          simp (config := { maxSteps := 1000000 }) only [go_sem, ↓reduceIte, Nat.reduceEqDiff, Nat.reduceAdd, Nat.reduceMul, Nat.reduceSub, Nat.reduceLT, Nat.reduceLeDiff, Int.reduceLT, Int.reduceLE, Int.reduceEq, Int.reduceNe, Int.reduceAdd, Int.reduceNeg, Int.reduceToNat, f0, f3, f5, natss, nats, htk, marks_snoc]
    · simp (config := { maxSteps := 1000000 }) only [go_sem, ↓reduceIte, Nat.reduceEqDiff, Nat.reduceAdd, Nat.reduceMul, Nat.reduceSub, Nat.reduceLT, Nat.reduceLeDiff, Int.reduceLT, Int.reduceLE, Int.reduceEq, Int.reduceNe, Int.reduceAdd, Int.reduceNeg, Int.reduceToNat, f0, f3, f5, f6, o32, nats, hlt, List.length_map]
      refine hook_call rfl awake_A (by rfl) ?_
      rintro _ rfl
      simp (config := { maxSteps := 1000000 }) only [go_sem, ↓reduceIte, Nat.reduceEqDiff, Nat.reduceAdd, Nat.reduceMul, Nat.reduceSub, Nat.reduceLT, Nat.reduceLeDiff, Int.reduceLT, Int.reduceLE, Int.reduceEq, Int.reduceNe, Int.reduceAdd, Int.reduceNeg, Int.reduceToNat]

end Go.Proofs.Ytfhmibodjfpdfaa
