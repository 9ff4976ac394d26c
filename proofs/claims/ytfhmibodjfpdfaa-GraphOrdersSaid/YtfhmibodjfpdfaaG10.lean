/- Contracts of Circle and Is. -/
import Derived.Test.YtfhmibodjfpdfaaG9
import Derived.Test.YtfhmibodjfpdfaaAm17
set_option linter.unusedSimpArgs false
set_option linter.unusedVariables false
namespace Go.Proofs.Ytfhmibodjfpdfaa
open Go Go.Am

def CircleOut (xs : List (List Int)) (r : AV) : Prop := ∃ c : List Nat, r = .one (.d (nats c)) ∧ ((¬ Right xs ∧ c = []) ∨ ∃ ys, xs = toI ys ∧ Rt ys ∧ ((c = [] ∧ ∃ lv, IsLv ys lv) ∨ Circ ys c))

theorem up_set {n k : Nat} (h : k < n) : (List.range k ++ List.replicate (n - k) 0).set k k = List.range (k + 1) ++ List.replicate (n - (k + 1)) 0 := by
  have e : n - k = (n - (k + 1)) + 1 := by omega
  rw [List.set_append_right _ _ (by simp), e, List.replicate_succ, List.length_range, Nat.sub_self, List.set_cons_zero, List.range_succ]
  simp

theorem Circle_A (xs : List (List Int)) (hb : Fits xs) : PureR Try.prog 12 [.one (.d (intss xs))] (CircleOut xs) := by
  have hbn := hb.n
  refine pure_of_wp Tt_ok mixed Try.func12 rfl (by rfl) [2] rfl (by kernel_rfl) (by simp [Try.ntmps12]) fun g => ?_
  simp (config := { maxSteps := 1000000 }) only [go_sem, ↓reduceIte, Nat.reduceEqDiff, Nat.reduceAdd, Nat.reduceMul, Nat.reduceSub, Nat.reduceLT, Nat.reduceLeDiff, Int.reduceLT, Int.reduceLE, Int.reduceEq, Int.reduceNe, Int.reduceAdd, Int.reduceNeg, Int.reduceToNat, intss]
  refine hook_call rfl (mayBe_A xs hb) (by rfl) ?_
  rintro _ rfl
  by_cases hR : Right xs
  · obtain ⟨ys, rfl, hRt⟩ := hR.nat
    have hyl : (toI ys).length = ys.length := by simp [toI]
    have hrows : ∀ r ∈ ys, r.length ≤ 1000000 := fun r hr => by
      have := hb.rows (r.map fun m : Nat => (m : Int)) (by simp only [toI, List.mem_map]; exact ⟨r, hr, rfl⟩)
      simpa using this
    rw [hyl] at hbn
    have hint := intss_toI ys
    simp only [intss] at hint
    simp (config := { maxSteps := 1000000 }) only [go_sem, ↓reduceIte, Nat.reduceEqDiff, Nat.reduceAdd, Nat.reduceMul, Nat.reduceSub, Nat.reduceLT, Nat.reduceLeDiff, Int.reduceLT, Int.reduceLE, Int.reduceEq, Int.reduceNe, Int.reduceAdd, Int.reduceNeg, Int.reduceToNat, hR, hint]
    simp only [natss]
    simp (config := { maxSteps := 1000000 }) only [go_sem, ↓reduceIte, Nat.reduceEqDiff, Nat.reduceAdd, Nat.reduceMul, Nat.reduceSub, Nat.reduceLT, Nat.reduceLeDiff, Int.reduceLT, Int.reduceLE, Int.reduceEq, Int.reduceNe, Int.reduceAdd, Int.reduceNeg, Int.reduceToNat, ncells_rep]
    refine ⟨Nat.le_refl _, by omega, by omega, ?_⟩
    refine loop_introB (fun n s => ∃ k : Nat, n + k = ys.length ∧ s.f 1 = .one (.ptr 1 (s.gen 1) 0) ∧ s.f 3 = .one (.osl 10 (s.gen 10) 1 0 ys.length) ∧ s.f 12 = iv .i64 ys.length ∧ s.f 13 = iv .i64 k ∧
      s.obj 1 = some [.d (natss ys)] ∧ s.obj 10 = some (ncells (List.range k ++ List.replicate (ys.length - k) 0)) ∧ (∀ i, 24 ≤ i → s.obj i = none)) ys.length ?_ ?_
    · refine ⟨0, ?_⟩
      simp (config := { maxSteps := 1000000 }) only [go_sem, ↓reduceIte, Nat.reduceEqDiff, Nat.reduceAdd, Nat.reduceMul, Nat.reduceSub, Nat.reduceLT, Nat.reduceLeDiff, Int.reduceLT, Int.reduceLE, Int.reduceEq, Int.reduceNe, Int.reduceAdd, Int.reduceNeg, Int.reduceToNat, natss]
      refine ⟨rfl, fun i hi => ?_⟩
      have h1 : ¬ i = 10 := by omega
      have h2 : ¬ i = 1 := by omega
      simp only [if_neg h1, if_neg h2]
    · rintro n f g1 ob ⟨k, hk, f1, f3, f12, f13, o1, o10, hH⟩
      simp only at f1 f3 f12 f13 o1 o10 hH
      have hw := wrap_succ (k := k) (by omega)
      by_cases hlt : k < ys.length
      · have hlt1 : k + 1 ≤ ys.length := hlt
        simp (config := { maxSteps := 1000000 }) only [go_sem, ↓reduceIte, Nat.reduceEqDiff, Nat.reduceAdd, Nat.reduceMul, Nat.reduceSub, Nat.reduceLT, Nat.reduceLeDiff, Int.reduceLT, Int.reduceLE, Int.reduceEq, Int.reduceNe, Int.reduceAdd, Int.reduceNeg, Int.reduceToNat, f1, f3, f12, f13, o1, o10, hlt, hw, ncells_len, List.length_append, List.length_range, List.length_replicate, ncells_set, up_set hlt]
        refine ⟨by omega, round_endB (n - 1) (by omega) ⟨k + 1, by omega, ?_⟩⟩
        simp (config := { maxSteps := 1000000 }) only [go_sem, ↓reduceIte, Nat.reduceEqDiff, Nat.reduceAdd, Nat.reduceMul, Nat.reduceSub, Nat.reduceLT, Nat.reduceLeDiff, Int.reduceLT, Int.reduceLE, Int.reduceEq, Int.reduceNe, Int.reduceAdd, Int.reduceNeg, Int.reduceToNat, f1, f3, f12, o1]
        refine fun i hi => ?_
        have h1 : ¬ i = 10 := by omega
        simp only [if_neg h1]; exact hH i hi
      · have hkn : k = ys.length := by omega
        subst hkn
        rw [Nat.sub_self, List.replicate_zero, List.append_nil] at o10
        simp (config := { maxSteps := 1000000 }) only [go_sem, ↓reduceIte, Nat.reduceEqDiff, Nat.reduceAdd, Nat.reduceMul, Nat.reduceSub, Nat.reduceLT, Nat.reduceLeDiff, Int.reduceLT, Int.reduceLE, Int.reduceEq, Int.reduceNe, Int.reduceAdd, Int.reduceNeg, Int.reduceToNat, f1, f3, f12, f13, o1, o10, Nat.lt_irrefl]
        refine hook_vs _ (vs_give (t := 21) (id := 10) rfl (frzp_nats rfl rfl ?_ (l := List.range ys.length) (by simp))) ?_
        · simp (config := { maxSteps := 1000000 }) only [go_sem, ↓reduceIte, Nat.reduceEqDiff, Nat.reduceAdd, Nat.reduceMul, Nat.reduceSub, Nat.reduceLT, Nat.reduceLeDiff, Int.reduceLT, Int.reduceLE, Int.reduceEq, Int.reduceNe, Int.reduceAdd, Int.reduceNeg, Int.reduceToNat, o10]
        · refine hook_lent rfl (circle_A ys hRt hbn hrows 1 _ 24 _ _ (by omega) (fun i hi => ?_) rfl ?_) ?_
          · have h1 : ¬ i = 10 := by omega
            simp only [upd, if_neg h1]; exact hH i hi
          · simp (config := { maxSteps := 1000000 }) only [go_sem, ↓reduceIte, Nat.reduceEqDiff, Nat.reduceAdd, Nat.reduceMul, Nat.reduceSub, Nat.reduceLT, Nat.reduceLeDiff, Int.reduceLT, Int.reduceLE, Int.reduceEq, Int.reduceNe, Int.reduceAdd, Int.reduceNeg, Int.reduceToNat, o1]
          · rintro r ⟨c, rfl | ⟨rfl, rfl⟩, hc⟩
            · simp (config := { maxSteps := 1000000 }) only [go_sem, ↓reduceIte, Nat.reduceEqDiff, Nat.reduceAdd, Nat.reduceMul, Nat.reduceSub, Nat.reduceLT, Nat.reduceLeDiff, Int.reduceLT, Int.reduceLE, Int.reduceEq, Int.reduceNe, Int.reduceAdd, Int.reduceNeg, Int.reduceToNat, nats]
              exact ⟨c, rfl, .inr ⟨ys, rfl, hRt, hc⟩⟩
            · simp (config := { maxSteps := 1000000 }) only [go_sem, ↓reduceIte, Nat.reduceEqDiff, Nat.reduceAdd, Nat.reduceMul, Nat.reduceSub, Nat.reduceLT, Nat.reduceLeDiff, Int.reduceLT, Int.reduceLE, Int.reduceEq, Int.reduceNe, Int.reduceAdd, Int.reduceNeg, Int.reduceToNat]
              exact ⟨[], rfl, .inr ⟨ys, rfl, hRt, hc⟩⟩
  · simp (config := { maxSteps := 1000000 }) only [go_sem, ↓reduceIte, Nat.reduceEqDiff, Nat.reduceAdd, Nat.reduceMul, Nat.reduceSub, Nat.reduceLT, Nat.reduceLeDiff, Int.reduceLT, Int.reduceLE, Int.reduceEq, Int.reduceNe, Int.reduceAdd, Int.reduceNeg, Int.reduceToNat, hR]
    exact ⟨[], rfl, .inl ⟨hR, rfl⟩⟩

theorem has_N (l : List Nat) (i : Nat) (hl : l.length ≤ 1000000) : PureR Try.prog 26 [.one (.d (.sl (l.map fun m : Nat => [.int .i64 m]))), iv .i64 i] (· = bv (decide (i ∈ l))) := by
  have h := has_A (l.map fun m : Nat => (m : Int)) i (by simpa using hl)
  rw [ints_nats] at h
  have e : ((i : Int) ∈ l.map fun m : Nat => (m : Int)) ↔ i ∈ l := by
    simp only [List.mem_map]
    exact ⟨fun ⟨m, h1, h2⟩ => by have : m = i := by omega
                                 exact this ▸ h1, fun h => ⟨i, h, rfl⟩⟩
  simpa only [e, nats] using h

theorem tmod_nat (a b : Nat) : ((a : Nat) : Int).tmod (b : Int) = ((a % b : Nat) : Int) := rfl

set_option maxHeartbeats 4000000 in
set_option maxRecDepth 100000 in
theorem Is_A (ys : List (List Nat)) (hRt : Rt ys) (hb : Fits (toI ys)) (c : List Nat) (hc : Circ ys c) : PureR Try.prog 18 [.one (.d (natss ys)), .one (.d (nats c))] (· = bv true) := by
  have hbn := hb.n
  have hyl : (toI ys).length = ys.length := by simp [toI]
  have hrows : ∀ r ∈ ys, r.length ≤ 1000000 := fun r hr => by
    have := hb.rows (r.map fun m : Nat => (m : Int)) (by simp only [toI, List.mem_map]; exact ⟨r, hr, rfl⟩)
    simpa using this
  rw [hyl] at hbn
  have hcl : c.length ≤ ys.length := nodup_length hc.nodup hc.lt
  have hpos : 0 < c.length := List.length_pos_iff.2 hc.ne
  have hne : ¬ c.length = 0 := by omega
  have hne' : ¬ (c.length : Int) = 0 := by omega
  have hRtI : Right (toI ys) := by
    intro r hr m hm
    simp only [toI, List.mem_map] at hr
    obtain ⟨r', hr', rfl⟩ := hr
    obtain ⟨m', hm', rfl⟩ := List.mem_map.1 hm
    have := hRt r' hr' m' hm'
    rw [hyl]; omega
  refine pure_of_wp Tt_ok mixed Try.func18 rfl (by rfl) [4] rfl (by kernel_rfl) (by simp [Try.ntmps18]) fun g => ?_
  simp (config := { maxSteps := 1000000 }) only [go_sem, ↓reduceIte, Nat.reduceEqDiff, Nat.reduceAdd, Nat.reduceMul, Nat.reduceSub, Nat.reduceLT, Nat.reduceLeDiff, Int.reduceLT, Int.reduceLE, Int.reduceEq, Int.reduceNe, Int.reduceAdd, Int.reduceNeg, Int.reduceToNat, nats, hne']
  have hRA := Right_A (toI ys) hb
  rw [intss_toI] at hRA
  refine hook_call rfl hRA (by rfl) ?_
  rintro _ rfl
  simp (config := { maxSteps := 1000000 }) only [go_sem, ↓reduceIte, Nat.reduceEqDiff, Nat.reduceAdd, Nat.reduceMul, Nat.reduceSub, Nat.reduceLT, Nat.reduceLeDiff, Int.reduceLT, Int.reduceLE, Int.reduceEq, Int.reduceNe, Int.reduceAdd, Int.reduceNeg, Int.reduceToNat, hRtI]
  refine loop_introB (fun n s => ∃ k : Nat, n + k = c.length ∧ s.f 0 = .one (.d (natss ys)) ∧ s.f 1 = .one (.d (nats c)) ∧ s.f 5 = iv .i64 k) c.length ?_ ?_
  · refine ⟨0, ?_⟩
    simp (config := { maxSteps := 1000000 }) only [go_sem, ↓reduceIte, Nat.reduceEqDiff, Nat.reduceAdd, Nat.reduceMul, Nat.reduceSub, Nat.reduceLT, Nat.reduceLeDiff, Int.reduceLT, Int.reduceLE, Int.reduceEq, Int.reduceNe, Int.reduceAdd, Int.reduceNeg, Int.reduceToNat, nats]
  · rintro n f g ob ⟨k, hk, f0, f1, f5⟩
    simp only at f0 f1 f5
    have hw := wrap_succ (k := k) (by omega)
    by_cases hlt : k < c.length
    · obtain ⟨a, ha⟩ := getq hlt
      have han : a < ys.length := hc.lt a (List.mem_of_getElem? ha)
      obtain ⟨r, hr⟩ := getq han
      obtain ⟨b, hb1, hb2⟩ := hc.next k a ha
      rw [row_of hr] at hb2
      have hna : ¬ ((a : Nat) : Int) < 0 := by omega
      have hnb : ¬ (ys.length : Int) ≤ (a : Int) := by omega
      have hk1 : k ≤ c.length := by omega
      simp (config := { maxSteps := 1000000 }) only [go_sem, ↓reduceIte, Nat.reduceEqDiff, Nat.reduceAdd, Nat.reduceMul, Nat.reduceSub, Nat.reduceLT, Nat.reduceLeDiff, Int.reduceLT, Int.reduceLE, Int.reduceEq, Int.reduceNe, Int.reduceAdd, Int.reduceNeg, Int.reduceToNat, f0, f1, f5, hlt, nats]
      refine draw_calls Tt_ok mixed (by decide +kernel) ?_
      have htk : ∀ l : List Nat, List.take k (List.map (fun m : Nat => [D.int .i64 m]) l) = (l.take k).map (fun m : Nat => [D.int .i64 m]) := fun l => by rw [List.map_take]
      have hnk : a ∉ c.take k := fun h => by
        obtain ⟨j, hj⟩ := List.getElem?_of_mem h
        rw [List.getElem?_take] at hj
        split at hj
        · have := (List.getElem?_inj (i := j) (j := k) (by omega) hc.nodup).1 (by rw [hj, ha])
          omega
        · cases hj
      simp (config := { maxSteps := 1000000 }) only [go_sem, ↓reduceIte, Nat.reduceEqDiff, Nat.reduceAdd, Nat.reduceMul, Nat.reduceSub, Nat.reduceLT, Nat.reduceLeDiff, Int.reduceLT, Int.reduceLE, Int.reduceEq, Int.reduceNe, Int.reduceAdd, Int.reduceNeg, Int.reduceToNat, f0, f1, f5, hlt, nats, natss, ha, hna, hnb, Nat.zero_le, hk1, htk]
      refine ⟨nats_ones c, ?_⟩
      refine quiet_call rfl (has_N (c.take k) a (by simp; omega)) (frzVs_data rfl) rfl ?_
      have hwm : ((k : Int) + 1).tmod (c.length : Int) = (((k + 1) % c.length : Nat) : Int) := by rw [show (k : Int) + 1 = ((k + 1 : Nat) : Int) by omega]; rfl
      refine cut_O (fun f => f 0 = .one (.d (natss ys)) ∧ f 1 = .one (.d (nats c)) ∧ f 5 = iv .i64 k ∧ f 34 = bv false ∧ f 42 = bv false) ?_ ?_
      · simp (config := { maxSteps := 1000000 }) only [go_sem, ↓reduceIte, Nat.reduceEqDiff, Nat.reduceAdd, Nat.reduceMul, Nat.reduceSub, Nat.reduceLT, Nat.reduceLeDiff, Int.reduceLT, Int.reduceLE, Int.reduceEq, Int.reduceNe, Int.reduceAdd, Int.reduceNeg, Int.reduceToNat, f0, f1, f5, hnk, nats]
      clear f0 f1 f5
      rintro f ⟨f0, f1, f5, f34, f42⟩
      simp (config := { maxSteps := 1000000 }) only [go_sem, ↓reduceIte, Nat.reduceEqDiff, Nat.reduceAdd, Nat.reduceMul, Nat.reduceSub, Nat.reduceLT, Nat.reduceLeDiff, Int.reduceLT, Int.reduceLE, Int.reduceEq, Int.reduceNe, Int.reduceAdd, Int.reduceNeg, Int.reduceToNat, f0, f1, f5, f34, f42, hlt, nats, natss, ha, hr, hnk, hw, hne', tmod_nat, hb1]
      refine quiet_call rfl (has_N r b (hrows r (List.mem_of_getElem? hr))) (frzVs_data rfl) rfl ?_
      simp (config := { maxSteps := 1000000 }) only [go_sem, ↓reduceIte, Nat.reduceEqDiff, Nat.reduceAdd, Nat.reduceMul, Nat.reduceSub, Nat.reduceLT, Nat.reduceLeDiff, Int.reduceLT, Int.reduceLE, Int.reduceEq, Int.reduceNe, Int.reduceAdd, Int.reduceNeg, Int.reduceToNat, f0, f1, f5, hlt, nats, natss, hb2, hw]
      refine round_endB (n - 1) (by omega) ⟨k + 1, by omega, ?_⟩
      simp (config := { maxSteps := 1000000 }) only [go_sem, ↓reduceIte, Nat.reduceEqDiff, Nat.reduceAdd, Nat.reduceMul, Nat.reduceSub, Nat.reduceLT, Nat.reduceLeDiff, Int.reduceLT, Int.reduceLE, Int.reduceEq, Int.reduceNe, Int.reduceAdd, Int.reduceNeg, Int.reduceToNat, f0, f1, nats, natss]
    · simp (config := { maxSteps := 1000000 }) only [go_sem, ↓reduceIte, Nat.reduceEqDiff, Nat.reduceAdd, Nat.reduceMul, Nat.reduceSub, Nat.reduceLT, Nat.reduceLeDiff, Int.reduceLT, Int.reduceLE, Int.reduceEq, Int.reduceNe, Int.reduceAdd, Int.reduceNeg, Int.reduceToNat, f0, f1, f5, hlt, nats]

end Go.Proofs.Ytfhmibodjfpdfaa
