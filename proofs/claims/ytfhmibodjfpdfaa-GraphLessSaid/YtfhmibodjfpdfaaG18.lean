/- GraphTurned. -/
import Derived.Test.YtfhmibodjfpdfaaG12
import Derived.Test.YtfhmibodjfpdfaaAm18
set_option linter.unusedSimpArgs false
set_option linter.unusedVariables false
namespace Go.Proofs.Ytfhmibodjfpdfaa
open Go Go.Am

def bytesD (r : List Nat) : D := .sl (r.map fun b : Nat => [.int .u8 b])
def bytess (xs : List (List Nat)) : D := .sl (xs.map fun r => [bytesD r])

theorem Right_toI' {ys : List (List Nat)} (hR : Rt ys) : Right (toI ys) := by
  intro r hr m hm
  simp only [toI, List.mem_map] at hr
  obtain ⟨r0, hr0, rfl⟩ := hr
  obtain ⟨m0, hm0, rfl⟩ := List.mem_map.1 hm
  have := hR r0 hr0 m0 hm0
  simp [toI]; omega

/-- The needs that are made of lesser numbers. -/
def trow (xs : List (List Nat)) (k : Nat) : List Nat := if k = 0 then [] else ((xs.getD k []).take 8).map (· % k)
def turned (xs : List (List Nat)) : List (List Nat) := (List.range xs.length).map (trow xs)

theorem row_map {n : Nat} {bh : Nat → List Nat} {a : Nat} : row ((List.range n).map bh) a = if a < n then bh a else [] := by
  simp only [row, List.getD, List.getElem?_map]
  by_cases h : a < n
  · simp [h]
  · have : (List.range n)[a]? = none := by simp; omega
    simp [h]

theorem trow_lt {xs : List (List Nat)} {k p : Nat} (h : p ∈ trow xs k) : p < k := by
  unfold trow at h
  split at h
  · cases h
  · obtain ⟨m, _, rfl⟩ := List.mem_map.1 h
    exact Nat.mod_lt _ (by omega)
theorem trow_len {xs : List (List Nat)} {k : Nat} : (trow xs k).length ≤ 8 := by
  unfold trow
  split
  · simp
  · simp; omega

theorem turned_Rt (xs : List (List Nat)) : Rt (turned xs) := by
  intro r hr m hm
  obtain ⟨k, hk, rfl⟩ := List.mem_map.1 hr
  have := trow_lt hm
  have := List.mem_range.1 hk
  simp [turned]; omega
theorem turned_lv (xs : List (List Nat)) : ∃ lv, IsLv (turned xs) lv := by
  refine lv_of_rank (turned_Rt xs) (fun a => a) (fun a _ p hp => ?_)
  unfold turned at hp
  rw [row_map] at hp
  split at hp
  · exact trow_lt hp
  · cases hp

theorem fits_toI {ys : List (List Nat)} (h1 : ys.length ≤ 1000000) (h2 : ∀ r ∈ ys, r.length ≤ 1000000) : Fits (toI ys) :=
  ⟨by simpa [toI] using h1, fun r hr => by
    simp only [toI, List.mem_map] at hr
    obtain ⟨r0, hr0, rfl⟩ := hr
    simpa using h2 r0 hr0⟩

theorem LevelsOut.len {xs : List (List Int)} {r : AV} (h : LevelsOut xs r) : lenOk r = true := by
  rcases h with ⟨_, rfl⟩ | ⟨ys, _, _, ⟨lv, _, rfl⟩ | ⟨_, rfl⟩⟩ <;> rfl
theorem CircleOut.len {xs : List (List Int)} {r : AV} (h : CircleOut xs r) : lenOk r = true := by
  obtain ⟨c, rfl, _⟩ := h; rfl

set_option maxHeartbeats 4000000 in
set_option maxRecDepth 100000 in
theorem GraphTurned_A (xs : List (List Nat)) (h1 : xs.length ≤ 140737488355328) (h2 : ∀ r ∈ xs, r.length ≤ 140737488355328) (h3 : ∀ r ∈ xs, ∀ b ∈ r, b < 256) (i : Nat) (hi : i < 256) : PureR Try.prog 3 [.one (.d (bytess xs)), iv .u8 i] (· = bv true) := by
  refine pure_of_wp Tt_ok mixed Try.func3 rfl (by rfl) [4] rfl (by kernel_rfl) (by simp [Try.ntmps3]) fun g => ?_
  by_cases h0 : (xs.length : Int) = 0
  · simp (config := { maxSteps := 1000000 }) only [go_sem, ↓reduceIte, Nat.reduceEqDiff, Nat.reduceAdd, Nat.reduceMul, Nat.reduceSub, Nat.reduceLT, Nat.reduceLeDiff, Int.reduceLT, Int.reduceLE, Int.reduceEq, Int.reduceNe, Int.reduceAdd, Int.reduceNeg, Int.reduceToNat, bytess, h0]
    refine hook_call rfl awake_A (by rfl) ?_
    rintro _ rfl
    simp (config := { maxSteps := 1000000 }) only [go_sem, ↓reduceIte, Nat.reduceEqDiff, Nat.reduceAdd, Nat.reduceMul, Nat.reduceSub, Nat.reduceLT, Nat.reduceLeDiff, Int.reduceLT, Int.reduceLE, Int.reduceEq, Int.reduceNe, Int.reduceAdd, Int.reduceNeg, Int.reduceToNat]
  by_cases h60 : (60 : Int) < xs.length
  · simp (config := { maxSteps := 1000000 }) only [go_sem, ↓reduceIte, Nat.reduceEqDiff, Nat.reduceAdd, Nat.reduceMul, Nat.reduceSub, Nat.reduceLT, Nat.reduceLeDiff, Int.reduceLT, Int.reduceLE, Int.reduceEq, Int.reduceNe, Int.reduceAdd, Int.reduceNeg, Int.reduceToNat, bytess, h0, h60]
    refine hook_call rfl awake_A (by rfl) ?_
    rintro _ rfl
    simp (config := { maxSteps := 1000000 }) only [go_sem, ↓reduceIte, Nat.reduceEqDiff, Nat.reduceAdd, Nat.reduceMul, Nat.reduceSub, Nat.reduceLT, Nat.reduceLeDiff, Int.reduceLT, Int.reduceLE, Int.reduceEq, Int.reduceNe, Int.reduceAdd, Int.reduceNeg, Int.reduceToNat]
  have hn60 : xs.length ≤ 60 := by omega
  have hn0 : 0 < xs.length := by omega
  simp (config := { maxSteps := 1000000 }) only [go_sem, ↓reduceIte, Nat.reduceEqDiff, Nat.reduceAdd, Nat.reduceMul, Nat.reduceSub, Nat.reduceLT, Nat.reduceLeDiff, Int.reduceLT, Int.reduceLE, Int.reduceEq, Int.reduceNe, Int.reduceAdd, Int.reduceNeg, Int.reduceToNat, bytess, h0, h60]
  refine loop_vsB (St.grab _ 5 62 1) (vs_grab rfl) (fun n s => ∃ k : Nat, n + k = xs.length ∧ s.f 0 = .one (.d (bytess xs)) ∧ s.f 1 = iv .u8 i ∧ s.f 5 = .one (.osl 62 (s.gen 62) 1 0 k) ∧ s.f 6 = iv .i64 k ∧
    s.obj 62 = some (ocells 1000 s.gen k (trow xs)) ∧ (∀ j, j < k → s.obj (j + 1000) = some (ncells (trow xs j))) ∧ (∀ j, k ≤ j → s.obj (j + 1000) = none)) xs.length ?_ ?_
  · refine ⟨0, ?_⟩
    simp (config := { maxSteps := 1000000 }) only [go_sem, ↓reduceIte, Nat.reduceEqDiff, Nat.reduceAdd, Nat.reduceMul, Nat.reduceSub, Nat.reduceLT, Nat.reduceLeDiff, Int.reduceLT, Int.reduceLE, Int.reduceEq, Int.reduceNe, Int.reduceAdd, Int.reduceNeg, Int.reduceToNat, St.grab, bytess, initF]
    exact ⟨rfl, fun j h => absurd h (by omega)⟩
  · rintro n f g ob ⟨k, hk, f0, f1, f5, f6, o62, oJ, oN⟩
    simp only at f0 f1 f5 f6 o62 oJ oN
    have hw := wrap_succ (k := k) (by omega)
    by_cases hlt : k < xs.length
    · obtain ⟨r, hr⟩ := getq hlt
      have hrl := h2 r (List.mem_of_getElem? hr)
      have hxr : xs.getD k [] = r := by simp [List.getD, hr]
      simp (config := { maxSteps := 1000000 }) only [go_sem, ↓reduceIte, Nat.reduceEqDiff, Nat.reduceAdd, Nat.reduceMul, Nat.reduceSub, Nat.reduceLT, Nat.reduceLeDiff, Int.reduceLT, Int.reduceLE, Int.reduceEq, Int.reduceNe, Int.reduceAdd, Int.reduceNeg, Int.reduceToNat, f0, f1, f5, f6, bytess, hlt]
      refine loop_vsB (St.grab _ 7 58 1) (vs_grab rfl) (fun n2 s => ∃ j : Nat, n2 + j = min r.length 8 ∧ (k = 0 → j = 0) ∧ s.f 0 = .one (.d (bytess xs)) ∧ s.f 1 = iv .u8 i ∧ s.f 5 = .one (.osl 62 (s.gen 62) 1 0 k) ∧ s.f 6 = iv .i64 k ∧ s.f 7 = .one (.osl 58 (s.gen 58) 1 0 j) ∧ s.f 8 = iv .i64 j ∧
        s.obj 58 = some (ncells ((r.take j).map (· % k))) ∧ s.obj 62 = some (ocells 1000 s.gen k (trow xs)) ∧ (∀ j, j < k → s.obj (j + 1000) = some (ncells (trow xs j))) ∧ (∀ j, k ≤ j → s.obj (j + 1000) = none)) (min r.length 8) ?_ ?_
      · refine ⟨0, by omega, fun _ => rfl, ?_⟩
        simp (config := { maxSteps := 1000000 }) only [go_sem, ↓reduceIte, Nat.reduceEqDiff, Nat.reduceAdd, Nat.reduceMul, Nat.reduceSub, Nat.reduceLT, Nat.reduceLeDiff, Int.reduceLT, Int.reduceLE, Int.reduceEq, Int.reduceNe, Int.reduceAdd, Int.reduceNeg, Int.reduceToNat, St.grab, f0, f1, f5, f6, bytess, o62, List.map_nil]
        refine ⟨rfl, ocells_congr (fun j _ => ?_), fun j hj => ?_, fun j hj => ?_⟩
        · have : ¬ j + 1000 = 58 := by omega
          simp only [upd, if_neg this]
        · exact oJ j hj
        · exact oN j hj
      · clear f0 f1 f5 f6 o62 oJ oN f g ob
        rintro n2 f g ob ⟨j, hj, hk0, f0, f1, f5, f6, f7, f8, o58, o62, oJ, oN⟩
        simp only at f0 f1 f5 f6 f7 f8 o58 o62 oJ oN
        have hwj := wrap_succ (k := j) (by omega)
        by_cases hgo : j < r.length ∧ j < 8 ∧ 0 < k
        · obtain ⟨g1, g2, g3⟩ := hgo
          obtain ⟨b, hb⟩ := getq g1
          have g2' : ((j : Nat) : Int) < 8 := by omega
          have g3' : (0 : Int) < (k : Int) := by omega
          have hkne : ¬ (k : Int) = 0 := by omega
          have htk : (r.take (j + 1)).map (· % k) = (r.take j).map (· % k) ++ [b % k] := by rw [List.take_add_one, hb]; simp
          have hlj : ((r.take j).map (· % k)).length = j := by simp; omega
          have htj : (ncells ((r.take j).map (· % k))).take j = ncells ((r.take j).map (· % k)) := List.take_of_length_le (by rw [ncells_len, hlj]; exact Nat.le_refl _)
          have hwb : IntKind.i64.wrap (b : Int) = (b : Int) := by
            have := h3 r (List.mem_of_getElem? hr) b (List.mem_of_getElem? hb)
            rw [wrap_i64] <;> omega
          simp (config := { maxSteps := 1000000 }) only [go_sem, ↓reduceIte, Nat.reduceEqDiff, Nat.reduceAdd, Nat.reduceMul, Nat.reduceSub, Nat.reduceLT, Nat.reduceLeDiff, Int.reduceLT, Int.reduceLE, Int.reduceEq, Int.reduceNe, Int.reduceAdd, Int.reduceNeg, Int.reduceToNat, f0, f1, f5, f6, f7, f8, o58, bytess, bytesD, hr, hb, g1, g2', g3', hkne, hwj, hwb, tmod_nat, ncells_len, hlj, htj]
          refine ⟨Nat.le_refl _, room8 (by omega), round_endB (n2 - 1) (by omega) ⟨j + 1, by omega, by omega, ?_⟩⟩
          simp (config := { maxSteps := 1000000 }) only [go_sem, ↓reduceIte, Nat.reduceEqDiff, Nat.reduceAdd, Nat.reduceMul, Nat.reduceSub, Nat.reduceLT, Nat.reduceLeDiff, Int.reduceLT, Int.reduceLE, Int.reduceEq, Int.reduceNe, Int.reduceAdd, Int.reduceNeg, Int.reduceToNat, f0, f1, f5, f6, o62, bytess, bytesD, htk, ncells_snoc]
          refine ⟨ocells_congr (fun j _ => ?_), fun j hj => ?_, fun j hj => ?_⟩
          · have e1 : ¬ j + 1000 = 58 := by omega
            have e2 : ¬ j + 1000 = 57 := by omega
            simp only [upd, if_neg e1, if_neg e2]
          · exact oJ j hj
          · exact oN j hj
        · have hmin : ¬ k = 0 → j = min r.length 8 := fun hk => by omega
          have htr : (r.take j).map (· % k) = trow xs k := by
            unfold trow
            by_cases h : k = 0
            · rw [if_pos h, hk0 h]; simp
            · rw [if_neg h, hxr, hmin h]
              congr 1
              by_cases h8 : r.length ≤ 8
              · rw [Nat.min_eq_left h8, List.take_of_length_le (Nat.le_refl _), List.take_of_length_le h8]
              · rw [Nat.min_eq_right (by omega)]
          have hlj : (trow xs k).length = j := by rw [← htr]; simp; omega
          rw [htr] at o58
          have fin : ∀ s : St, s.f 0 = .one (.d (bytess xs)) → s.f 1 = iv .u8 i → s.f 5 = .one (.osl 62 (s.gen 62) 1 0 (k + 1)) → s.f 6 = iv .i64 ((k + 1 : Nat) : Int) → s.obj 58 = some (ncells (trow xs k)) →
              s.obj 62 = some (ocells 1000 s.gen k (trow xs) ++ [.osl 58 (s.gen 58) 1 0 j]) → (∀ j, j < k → s.obj (j + 1000) = some (ncells (trow xs j))) → (∀ j, k ≤ j → s.obj (j + 1000) = none) →
              ∃ n' s₁, n' < n ∧ (spB Try.prog 0).vs s s₁ ∧ ∃ k : Nat, n' + k = xs.length ∧ s₁.f 0 = .one (.d (bytess xs)) ∧ s₁.f 1 = iv .u8 i ∧ s₁.f 5 = .one (.osl 62 (s₁.gen 62) 1 0 k) ∧ s₁.f 6 = iv .i64 k ∧
                s₁.obj 62 = some (ocells 1000 s₁.gen k (trow xs)) ∧ (∀ j, j < k → s₁.obj (j + 1000) = some (ncells (trow xs j))) ∧ (∀ j, k ≤ j → s₁.obj (j + 1000) = none) := by
            intro s e0 e1 e5 e6 e58 e62 eJ eN
            have n1 : ¬ 62 = k + 1000 := by omega
            refine ⟨n - 1, _, by omega, vs_rename (id := 58) (id' := k + 1000) (j := k) e5 e58 (eN k (Nat.le_refl _)) e62 (by decide) n1 (by omega) (by rw [List.getElem?_append_right (by rw [ocells_len]; exact Nat.le_refl _), ocells_len, Nat.sub_self]; rfl), k + 1, by omega, e0, e1, ?_, e6, ?_, fun j' hj' => ?_, fun j' hj' => ?_⟩
            · simp only [St.rename, upd, if_neg n1]; exact e5
            · simp only [St.rename, if_true]
              congr 1
              rw [List.set_append_right _ _ (by rw [ocells_len]; exact Nat.le_refl _), ocells_len, Nat.sub_self, List.set_cons_zero]
              simp only [ocells, List.range_succ, List.map_append, List.map_cons, List.map_nil]
              congr 1
              · apply List.map_congr_left
                intro a ha
                have : ¬ a + 1000 = k + 1000 := by have := List.mem_range.1 ha; omega
                simp only [upd, if_neg this]
              · simp only [upd, if_true, hlj]
            · have n2 : ¬ j' + 1000 = 62 := by omega
              simp only [St.rename, if_neg n2]
              by_cases hjk : j' = k
              · subst hjk; simp only [if_true]
              · have n3 : ¬ j' + 1000 = k + 1000 := by omega
                have n4 : ¬ j' + 1000 = 58 := by omega
                simp only [if_neg n3, if_neg n4]; exact eJ j' (by omega)
            · have n2 : ¬ j' + 1000 = 62 := by omega
              have n3 : ¬ j' + 1000 = k + 1000 := by omega
              have n4 : ¬ j' + 1000 = 58 := by omega
              simp only [St.rename, if_neg n2, if_neg n3, if_neg n4]; exact eN j' (by omega)
          have hkt : (ocells 1000 g k (trow xs)).take k = ocells 1000 g k (trow xs) := List.take_of_length_le (by rw [ocells_len]; exact Nat.le_refl _)
          have hgc : ∀ a b, ocells 1000 (upd (upd g 61 a) 62 b) k (trow xs) = ocells 1000 g k (trow xs) := fun a b => ocells_congr (fun j _ => by
            have e1 : ¬ j + 1000 = 61 := by omega
            have e2 : ¬ j + 1000 = 62 := by omega
            simp only [upd, if_neg e1, if_neg e2])
          by_cases hj1 : j < r.length
          · have hj1' : ((j : Nat) : Int) < r.length := by omega
            by_cases hj2 : ((j : Nat) : Int) < 8
            · have hj3 : ¬ (0 : Int) < (k : Int) := fun h => hgo ⟨hj1, by omega, by omega⟩
              simp (config := { maxSteps := 1000000 }) only [go_sem, ↓reduceIte, Nat.reduceEqDiff, Nat.reduceAdd, Nat.reduceMul, Nat.reduceSub, Nat.reduceLT, Nat.reduceLeDiff, Int.reduceLT, Int.reduceLE, Int.reduceEq, Int.reduceNe, Int.reduceAdd, Int.reduceNeg, Int.reduceToNat, f0, f1, f5, f6, f7, f8, o58, o62, bytess, bytesD, hr, hj1, hj2, hj3, hw, ocells_len, hkt]
              refine ⟨Nat.le_refl _, ⟨by decide, by omega⟩, fin _ ?_ ?_ ?_ ?_ ?_ ?_ ?_ ?_⟩
              all_goals try simp (config := { maxSteps := 1000000 }) only [go_sem, ↓reduceIte, Nat.reduceEqDiff, Nat.reduceAdd, Nat.reduceMul, Nat.reduceSub, Nat.reduceLT, Nat.reduceLeDiff, Int.reduceLT, Int.reduceLE, Int.reduceEq, Int.reduceNe, Int.reduceAdd, Int.reduceNeg, Int.reduceToNat, f0, f1, hw, o58, hgc, bytess, bytesD]
              · exact oJ
              · exact oN
            · simp (config := { maxSteps := 1000000 }) only [go_sem, ↓reduceIte, Nat.reduceEqDiff, Nat.reduceAdd, Nat.reduceMul, Nat.reduceSub, Nat.reduceLT, Nat.reduceLeDiff, Int.reduceLT, Int.reduceLE, Int.reduceEq, Int.reduceNe, Int.reduceAdd, Int.reduceNeg, Int.reduceToNat, f0, f1, f5, f6, f7, f8, o58, o62, bytess, bytesD, hr, hj1, hj2, hw, ocells_len, hkt]
              refine ⟨Nat.le_refl _, ⟨by decide, by omega⟩, fin _ ?_ ?_ ?_ ?_ ?_ ?_ ?_ ?_⟩
              all_goals try simp (config := { maxSteps := 1000000 }) only [go_sem, ↓reduceIte, Nat.reduceEqDiff, Nat.reduceAdd, Nat.reduceMul, Nat.reduceSub, Nat.reduceLT, Nat.reduceLeDiff, Int.reduceLT, Int.reduceLE, Int.reduceEq, Int.reduceNe, Int.reduceAdd, Int.reduceNeg, Int.reduceToNat, f0, f1, hw, o58, hgc, bytess, bytesD]
              · exact oJ
              · exact oN
          · simp (config := { maxSteps := 1000000 }) only [go_sem, ↓reduceIte, Nat.reduceEqDiff, Nat.reduceAdd, Nat.reduceMul, Nat.reduceSub, Nat.reduceLT, Nat.reduceLeDiff, Int.reduceLT, Int.reduceLE, Int.reduceEq, Int.reduceNe, Int.reduceAdd, Int.reduceNeg, Int.reduceToNat, f0, f1, f5, f6, f7, f8, o58, o62, bytess, bytesD, hr, hj1, hw, ocells_len, hkt]
            refine ⟨Nat.le_refl _, ⟨by decide, by omega⟩, fin _ ?_ ?_ ?_ ?_ ?_ ?_ ?_ ?_⟩
            all_goals try simp (config := { maxSteps := 1000000 }) only [go_sem, ↓reduceIte, Nat.reduceEqDiff, Nat.reduceAdd, Nat.reduceMul, Nat.reduceSub, Nat.reduceLT, Nat.reduceLeDiff, Int.reduceLT, Int.reduceLE, Int.reduceEq, Int.reduceNe, Int.reduceAdd, Int.reduceNeg, Int.reduceToNat, f0, f1, hw, o58, hgc, bytess, bytesD]
            · exact oJ
            · exact oN
    · have hke : k = xs.length := by omega
      subst hke
      have hR := turned_Rt xs
      obtain ⟨lv, hlv⟩ := turned_lv xs
      have htl : (turned xs).length = xs.length := by simp [turned]
      have hrl : ∀ r ∈ turned xs, r.length ≤ 8 := fun r hr => by
        obtain ⟨k, _, rfl⟩ := List.mem_map.1 hr; exact trow_len
      have hfit := fits_toI (ys := turned xs) (by omega) (fun r hr => by have := hrl r hr; omega)
      have hll := hlv.len
      have hdl := hlv.depth_le hR
      have hd0 : 0 < depth lv := Nat.lt_of_le_of_lt (Nat.zero_le _) (depth_ge (a := 0) (by omega))
      have hgl : (groups lv).length = depth lv := by simp [groups]
      have hLA := Levels_A (toI (turned xs)) hfit
      have hCA := Circle_A (toI (turned xs)) hfit
      rw [intss_toI] at hLA hCA
      have hfz : ∀ (f' : Nat → AV), FrzVs ⟨f', g, ob⟩ [.one (.osl 62 (g 62) 1 0 xs.length)] [.one (.d (natss (turned xs)))] := fun f' =>
        ⟨_, _, rfl, ⟨_, frz_natss (s := ⟨f', g, ob⟩) (b := 1000) rfl o62 oJ, rfl⟩, rfl⟩
      simp (config := { maxSteps := 1000000 }) only [go_sem, ↓reduceIte, Nat.reduceEqDiff, Nat.reduceAdd, Nat.reduceMul, Nat.reduceSub, Nat.reduceLT, Nat.reduceLeDiff, Int.reduceLT, Int.reduceLE, Int.reduceEq, Int.reduceNe, Int.reduceAdd, Int.reduceNeg, Int.reduceToNat, f0, f1, f5, f6, bytess, Nat.lt_irrefl]
      refine hook_len rfl hLA (hfz _) (fun r h => h.len) ?_
      rintro r (⟨hn, _⟩ | ⟨ys, e, _, h⟩)
      · exact absurd (Right_toI' hR) hn
      obtain rfl := toI_inj e
      rcases h with ⟨lv', h1', rfl⟩ | ⟨hno, _⟩
      rotate_left
      · exact absurd ⟨_, hlv⟩ hno
      obtain rfl := IsLv.unique hR hlv h1'
      have e1 : ¬ (xs.length : Int) < (depth lv : Int) := by omega
      have e2 : ¬ ((depth lv : Nat) : Int) = 0 := by omega
      simp (config := { maxSteps := 1000000 }) only [go_sem, ↓reduceIte, Nat.reduceEqDiff, Nat.reduceAdd, Nat.reduceMul, Nat.reduceSub, Nat.reduceLT, Nat.reduceLeDiff, Int.reduceLT, Int.reduceLE, Int.reduceEq, Int.reduceNe, Int.reduceAdd, Int.reduceNeg, Int.reduceToNat, natss, List.length_map, hgl, f5, o62, e1, e2]
      refine hook_len rfl hCA (hfz _) (fun r h => h.len) ?_
      rintro r ⟨c, rfl, hc⟩
      have hc0 : c = [] := by
        rcases hc with ⟨_, h⟩ | ⟨ys, e, _, ⟨h, _⟩ | h⟩
        · exact h
        · exact h
        · obtain rfl := toI_inj e
          exact absurd ⟨_, hlv⟩ h.noLv
      subst hc0
      have hwi : IntKind.i64.wrap (i : Int) = (i : Int) := by rw [wrap_i64] <;> omega
      have hat : i % xs.length < xs.length := Nat.mod_lt _ hn0
      generalize hatd : i % xs.length = at' at *
      have hog := ocells_get (b := 1000) (gen := g) (bh := trow xs) hat
      have hoat := oJ at' hat
      have hat1 : at' + 1 ≤ xs.length := hat
      have htk : (ncells (trow xs at')).take (trow xs at').length = ncells (trow xs at') := ncells_take
      have htl8 := trow_len (xs := xs) (k := at')
      simp (config := { maxSteps := 1000000 }) only [go_sem, ↓reduceIte, Nat.reduceEqDiff, Nat.reduceAdd, Nat.reduceMul, Nat.reduceSub, Nat.reduceLT, Nat.reduceLeDiff, Int.reduceLT, Int.reduceLE, Int.reduceEq, Int.reduceNe, Int.reduceAdd, Int.reduceNeg, Int.reduceToNat, nats, List.map_nil, f1, f5, o62, hwi, h0, tmod_nat, hatd, hat, hog, hoat, ncells_len, htk, ocells_len, hat1]
      let bh : Nat → List Nat := fun k => if k = at' then trow xs at' ++ [at'] else trow xs k
      have hbh1 : bh at' = trow xs at' ++ [at'] := if_pos rfl
      have hbh2 : ∀ k, k ≠ at' → bh k = trow xs k := fun k h => if_neg h
      have hsel : at' ∈ row ((List.range xs.length).map bh) at' := by rw [row_map, if_pos hat, hbh1]; simp
      have hR2 : Rt ((List.range xs.length).map bh) := by
        intro r hr m hm
        obtain ⟨k, hk, rfl⟩ := List.mem_map.1 hr
        have hk := List.mem_range.1 hk
        simp only [List.length_map, List.length_range]
        by_cases hka : k = at'
        · subst hka
          rw [hbh1] at hm
          rcases List.mem_append.1 hm with h | h
          · have := trow_lt h; omega
          · simp at h; omega
        · rw [hbh2 k hka] at hm
          have := trow_lt hm; omega
      have hno : ¬ ∃ lv, IsLv ((List.range xs.length).map bh) lv := by
        rintro ⟨lv, hl⟩
        have := hl.ge at' at' hsel
        omega
      have hfit2 := fits_toI (ys := (List.range xs.length).map bh) (by simp; omega) (fun r hr => by
        obtain ⟨k, _, rfl⟩ := List.mem_map.1 hr
        by_cases hka : k = at'
        · subst hka; rw [hbh1]; simp; omega
        · rw [hbh2 k hka]; have := trow_len (xs := xs) (k := k); omega)
      have hLA2 := Levels_A _ hfit2
      have hCA2 := Circle_A _ hfit2
      rw [intss_toI] at hLA2 hCA2
      have hset : (ocells 1000 g xs.length (trow xs)).set at' (.osl (at' + 1000) (g (at' + 1000) + 1) 1 0 ((trow xs at').length + 1)) = ocells 1000 (upd (upd g 100 (g 100 + 1)) (at' + 1000) (g (at' + 1000) + 1)) xs.length bh := by
        refine ocells_set (by simp only [upd, if_true]) (by rw [hbh1]; simp) (fun k hk => ⟨?_, hbh2 k hk⟩)
        have e1 : ¬ k + 1000 = at' + 1000 := by omega
        have e2 : ¬ k + 1000 = 100 := by omega
        simp only [upd, if_neg e1, if_neg e2]
      have hn62 : ¬ 62 = at' + 1000 := by omega
      have hn62' : ¬ at' + 1000 = 62 := by omega
      have hfz2 : ∀ (f' : Nat → AV) (o : Obs), o 62 = some (ocells 1000 (upd (upd g 100 (g 100 + 1)) (at' + 1000) (g (at' + 1000) + 1)) xs.length bh) → (∀ k, k < xs.length → o (k + 1000) = some (ncells (bh k))) →
          FrzVs ⟨f', upd (upd g 100 (g 100 + 1)) (at' + 1000) (g (at' + 1000) + 1), o⟩ [.one (.osl 62 (g 62) 1 0 xs.length)] [.one (.d (natss ((List.range xs.length).map bh)))] := fun f' o q1 q2 =>
        ⟨_, _, rfl, ⟨_, frz_natss (b := 1000) (by simp only [upd, if_neg hn62]; rfl) q1 q2, rfl⟩, rfl⟩
      rw [hset]
      refine ⟨Nat.le_refl _, room8 (by omega), hook_len rfl hLA2 (hfz2 _ _ ?_ ?_) (fun r h => h.len) ?_⟩
      · simp only [upd, if_true]
      · intro k hk
        have e1 : ¬ k + 1000 = 62 := by omega
        have e2 : ¬ k + 1000 = 100 := by omega
        simp only [upd, if_neg e1, if_neg e2]
        by_cases hka : k = at'
        · subst hka; simp only [if_true, hbh1, ncells_snoc]
        · have e3 : ¬ k + 1000 = at' + 1000 := by omega
          rw [if_neg e3, oJ k hk, hbh2 k hka]
      rintro r (⟨hn, _⟩ | ⟨ys, e, _, ⟨lv', h1', _⟩ | ⟨_, rfl⟩⟩)
      · exact absurd (Right_toI' hR2) hn
      · obtain rfl := toI_inj e
        exact absurd ⟨_, h1'⟩ hno
      simp (config := { maxSteps := 1000000 }) only [go_sem, ↓reduceIte, Nat.reduceEqDiff, Nat.reduceAdd, Nat.reduceMul, Nat.reduceSub, Nat.reduceLT, Nat.reduceLeDiff, Int.reduceLT, Int.reduceLE, Int.reduceEq, Int.reduceNe, Int.reduceAdd, Int.reduceNeg, Int.reduceToNat]
      refine hook_call rfl awake_A (by rfl) ?_
      rintro _ rfl
      simp (config := { maxSteps := 1000000 }) only [go_sem, ↓reduceIte, Nat.reduceEqDiff, Nat.reduceAdd, Nat.reduceMul, Nat.reduceSub, Nat.reduceLT, Nat.reduceLeDiff, Int.reduceLT, Int.reduceLE, Int.reduceEq, Int.reduceNe, Int.reduceAdd, Int.reduceNeg, Int.reduceToNat, f5]
      refine hook_len rfl hCA2 (hfz2 _ _ ?_ ?_) (fun r h => h.len) ?_
      · simp only [upd, if_true]
      · intro k hk
        have e1 : ¬ k + 1000 = 62 := by omega
        have e2 : ¬ k + 1000 = 100 := by omega
        simp only [upd, if_neg e1, if_neg e2]
        by_cases hka : k = at'
        · subst hka; simp only [if_true, hbh1, ncells_snoc]
        · have e3 : ¬ k + 1000 = at' + 1000 := by omega
          rw [if_neg e3, oJ k hk, hbh2 k hka]
      rintro r ⟨c, rfl, hc⟩
      have hcp : 0 < c.length := by
        rcases hc with ⟨hn, _⟩ | ⟨ys, e, _, ⟨_, h⟩ | h⟩
        · exact absurd (Right_toI' hR2) hn
        · obtain rfl := toI_inj e
          exact absurd h hno
        · exact List.length_pos_iff.2 h.ne
      simp (config := { maxSteps := 1000000 }) only [go_sem, ↓reduceIte, Nat.reduceEqDiff, Nat.reduceAdd, Nat.reduceMul, Nat.reduceSub, Nat.reduceLT, Nat.reduceLeDiff, Int.reduceLT, Int.reduceLE, Int.reduceEq, Int.reduceNe, Int.reduceAdd, Int.reduceNeg, Int.reduceToNat, nats, List.length_map, hcp, Int.natCast_pos]

end Go.Proofs.Ytfhmibodjfpdfaa
