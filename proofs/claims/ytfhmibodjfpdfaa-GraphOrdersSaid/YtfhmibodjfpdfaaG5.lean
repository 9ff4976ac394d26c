/- A part of the proof; no conditions. -/
import Derived.Test.YtfhmibodjfpdfaaG4
import Derived.Test.YtfhmibodjfpdfaaGP2
set_option linter.unusedSimpArgs false
set_option linter.unusedVariables false
namespace Go.Proofs.Ytfhmibodjfpdfaa
open Go Go.Am

/-- What Order gives. -/
def OrderOut (xs : List (List Int)) (r : AV) : Prop :=
  (¬ Right xs ∧ r = .tup [.one (.d (.sl [])), iv .i64 1]) ∨
  ∃ ys, xs = toI ys ∧ Rt ys ∧ ((∃ lv, IsLv ys lv ∧ r = .tup [.one (.d (nats (groups lv).flatten)), iv .i64 0]) ∨ ((¬ ∃ lv, IsLv ys lv) ∧ r = .tup [.one (.d (.sl [])), iv .i64 11]))

theorem take_flat_le (gs : List (List Nat)) (k : Nat) : (gs.take k).flatten.length ≤ gs.flatten.length := by
  conv => rhs; rw [← List.take_append_drop k gs]
  rw [List.flatten_append, List.length_append]; omega
theorem take_flat_succ {gs : List (List Nat)} {k : Nat} {l : List Nat} (h : gs[k]? = some l) : (gs.take (k + 1)).flatten = (gs.take k).flatten ++ l := by
  rw [List.take_add_one, h, List.flatten_append]; simp
theorem nats_flat (l : List Nat) : ((l.map fun m : Nat => [D.int .i64 m]).flatten.map C.d) = ncells l := by
  induction l with
  | nil => rfl
  | cons a l ih => simp only [List.map_cons, List.flatten_cons, List.cons_append, List.nil_append, ih, ncells]
theorem ncells_app {l m : List Nat} : ncells (l ++ m) = ncells l ++ ncells m := by simp [ncells]
theorem nats_ones (l : List Nat) : ∀ e ∈ l.map (fun m : Nat => [D.int .i64 m]), e.length = 1 := fun e he => by obtain ⟨_, _, rfl⟩ := List.mem_map.1 he; rfl

theorem Order_A (xs : List (List Int)) (hb : Fits xs) : PureR Try.prog 16 [.one (.d (intss xs))] (OrderOut xs) := by
  have hbn := hb.n
  refine pure_of_wp Tt_ok mixed Try.func16 rfl (by rfl) [2, 3] rfl (by kernel_rfl) (by simp [Try.ntmps16]) fun g => ?_
  simp (config := { maxSteps := 1000000 }) only [go_sem, ↓reduceIte, Nat.reduceEqDiff, Nat.reduceAdd, Nat.reduceMul, Nat.reduceSub, Nat.reduceLT, Nat.reduceLeDiff, Int.reduceLT, Int.reduceLE, Int.reduceEq, Int.reduceNe, Int.reduceAdd, Int.reduceNeg, Int.reduceToNat]
  refine hook_call rfl (Levels_A xs hb) (by rfl) ?_
  rintro r (⟨hR, rfl⟩ | ⟨ys, rfl, hRt, ⟨lv, hLv, rfl⟩ | ⟨hno, rfl⟩⟩)
  · simp (config := { maxSteps := 1000000 }) only [go_sem, ↓reduceIte, Nat.reduceEqDiff, Nat.reduceAdd, Nat.reduceMul, Nat.reduceSub, Nat.reduceLT, Nat.reduceLeDiff, Int.reduceLT, Int.reduceLE, Int.reduceEq, Int.reduceNe, Int.reduceAdd, Int.reduceNeg, Int.reduceToNat]
    exact .inl ⟨hR, rfl⟩
  · have hyl : (toI ys).length = ys.length := by simp [toI]
    have hdl := hLv.depth_le hRt
    have hfl := groups_flat (lv := lv)
    have hll := hLv.len
    have hgl : (groups lv).length = depth lv := by simp [groups]
    rw [hyl] at hbn
    generalize hgs : groups lv = gs at *
    simp (config := { maxSteps := 1000000 }) only [go_sem, ↓reduceIte, Nat.reduceEqDiff, Nat.reduceAdd, Nat.reduceMul, Nat.reduceSub, Nat.reduceLT, Nat.reduceLeDiff, Int.reduceLT, Int.reduceLE, Int.reduceEq, Int.reduceNe, Int.reduceAdd, Int.reduceNeg, Int.reduceToNat, natss]
    refine loop_vs _ (vs_grab (t := 6) (id := 25) (sz := 1) ?_)
      (fun n s => ∃ k : Nat, n + k = gs.length ∧ s.f 17 = .one (.d (natss gs)) ∧ s.f 18 = iv .i64 gs.length ∧ s.f 19 = iv .i64 k ∧ s.f 6 = .one (.osl 25 (s.gen 25) 1 0 (gs.take k).flatten.length) ∧ s.obj 25 = some (ncells (gs.take k).flatten)) gs.length ?_ ?_
    · simp (config := { maxSteps := 1000000 }) only [go_sem, ↓reduceIte, Nat.reduceEqDiff, Nat.reduceAdd, Nat.reduceMul, Nat.reduceSub, Nat.reduceLT, Nat.reduceLeDiff, Int.reduceLT, Int.reduceLE, Int.reduceEq, Int.reduceNe, Int.reduceAdd, Int.reduceNeg, Int.reduceToNat]
    · refine ⟨0, ?_⟩
      simp (config := { maxSteps := 1000000 }) only [go_sem, ↓reduceIte, Nat.reduceEqDiff, Nat.reduceAdd, Nat.reduceMul, Nat.reduceSub, Nat.reduceLT, Nat.reduceLeDiff, Int.reduceLT, Int.reduceLE, Int.reduceEq, Int.reduceNe, Int.reduceAdd, Int.reduceNeg, Int.reduceToNat, St.grab, natss, List.flatten_nil]
      exact ⟨rfl, rfl, rfl⟩
    · rintro n f g ob ⟨k, hk, h17, h18, h19, h6, h25⟩
      simp only at h17 h18 h19 h6 h25
      have hw := wrap_succ (k := k) (by omega)
      by_cases hlt : k < gs.length
      · obtain ⟨l, hl⟩ := getq hlt
        have h1 := take_flat_le gs (k + 1)
        have hs := take_flat_succ hl
        rw [hs, List.length_append] at h1
        simp (config := { maxSteps := 1000000 }) only [go_sem, ↓reduceIte, Nat.reduceEqDiff, Nat.reduceAdd, Nat.reduceMul, Nat.reduceSub, Nat.reduceLT, Nat.reduceLeDiff, Int.reduceLT, Int.reduceLE, Int.reduceEq, Int.reduceNe, Int.reduceAdd, Int.reduceNeg, Int.reduceToNat, h17, h18, h19, h6, h25, natss, nats, hl, hlt, hw]
        refine ⟨by rw [ncells_len]; exact Nat.le_refl _, nats_ones l, room8 (by omega), ?_⟩
        refine round_end (n - 1) (by omega) ⟨k + 1, by omega, ?_⟩
        simp (config := { maxSteps := 1000000 }) only [go_sem, ↓reduceIte, Nat.reduceEqDiff, Nat.reduceAdd, Nat.reduceMul, Nat.reduceSub, Nat.reduceLT, Nat.reduceLeDiff, Int.reduceLT, Int.reduceLE, Int.reduceEq, Int.reduceNe, Int.reduceAdd, Int.reduceNeg, Int.reduceToNat, h17, h18, natss, nats, hs, List.length_append, ncells_take, ncells_app, nats_flat]
      · simp (config := { maxSteps := 1000000 }) only [go_sem, ↓reduceIte, Nat.reduceEqDiff, Nat.reduceAdd, Nat.reduceMul, Nat.reduceSub, Nat.reduceLT, Nat.reduceLeDiff, Int.reduceLT, Int.reduceLE, Int.reduceEq, Int.reduceNe, Int.reduceAdd, Int.reduceNeg, Int.reduceToNat, h17, h18, h19, h6, h25, natss, hlt]
        rw [List.take_of_length_le (by omega)] at h25
        rw [List.take_of_length_le (by omega)]
        exact ⟨_, ⟨_, frz_nats rfl h25 rfl, rfl⟩, .inr ⟨ys, rfl, hRt, .inl ⟨lv, hLv, by rw [hgs]⟩⟩⟩
  · simp (config := { maxSteps := 1000000 }) only [go_sem, ↓reduceIte, Nat.reduceEqDiff, Nat.reduceAdd, Nat.reduceMul, Nat.reduceSub, Nat.reduceLT, Nat.reduceLeDiff, Int.reduceLT, Int.reduceLE, Int.reduceEq, Int.reduceNe, Int.reduceAdd, Int.reduceNeg, Int.reduceToNat]
    exact .inr ⟨ys, rfl, hRt, .inr ⟨hno, rfl⟩⟩

end Go.Proofs.Ytfhmibodjfpdfaa
