/- The contract of circle. -/
import Derived.Test.YtfhmibodjfpdfaaG8
set_option linter.unusedSimpArgs false
set_option linter.unusedVariables false
namespace Go.Proofs.Ytfhmibodjfpdfaa
open Go Go.Am

theorem next_A (ys : List (List Nat)) (i p gp B : Nat) (g : Nat → Nat) (ob : Obs) (hpB : p < B) (hB : ∀ i, B ≤ i → ob i = none) (hgp : g p = gp) (hob : ob p = some [.d (natss ys)]) (hi : i < ys.length) :
    FunR Try.prog 24 [iv .i64 i, .one (.ptr p gp 0)] g ob (fun r g' ob' => r = .one (.d (nats (row ys i))) ∧ g' = g ∧ ob' = ob) := by
  refine lent_of_wp B Tt_ok mixed Try.func24 rfl (by rfl) [3] rfl (by kernel_rfl) (by simp [Try.ntmps24]) hB ?_
  have n1 := ne_lo hpB
  obtain ⟨r, hr⟩ := getq hi
  simp (config := { maxSteps := 1000000 }) only [go_sem, ↓reduceIte, Nat.reduceEqDiff, Nat.reduceAdd, Nat.reduceMul, Nat.reduceSub, Nat.reduceLT, Nat.reduceLeDiff, Int.reduceLT, Int.reduceLE, Int.reduceEq, Int.reduceNe, Int.reduceAdd, Int.reduceNeg, Int.reduceToNat, hgp, hob, natss, hr, row_of hr, nats]

/-- What is told of a thing. -/
def stOf (done : List Nat) (path : List (Nat × Nat)) (a : Nat) : Option C := if a ∈ done then some (.d (.int .i64 2)) else if a ∈ path.map Prod.fst then some (.d (.int .i64 1)) else none

theorem pc0 {P : List (Nat × Nat)} {a b : C} {rest : List C} : (pcells P ++ a :: b :: rest)[P.length * 2]? = some a := by
  rw [List.getElem?_append_right (by rw [pcells_len]; exact Nat.le_refl _), pcells_len, Nat.sub_self]; rfl
theorem pc1 {P : List (Nat × Nat)} {a b : C} {rest : List C} : (pcells P ++ a :: b :: rest)[P.length * 2 + 1]? = some b := by
  rw [List.getElem?_append_right (by rw [pcells_len]; omega), pcells_len, show P.length * 2 + 1 - P.length * 2 = 1 by omega]; rfl
theorem pcset {P : List (Nat × Nat)} {a b c : C} {rest : List C} : (pcells P ++ a :: b :: rest).set (P.length * 2 + 1) c = pcells P ++ a :: c :: rest := by
  rw [List.set_append_right _ _ (by rw [pcells_len]; omega), pcells_len, show P.length * 2 + 1 - P.length * 2 = 1 by omega]; rfl
theorem pctake {P : List (Nat × Nat)} {a b : C} {rest : List C} : (pcells P ++ a :: b :: rest).take ((P.length + 1) * 2) = pcells P ++ [a, b] := by
  rw [List.take_append, pcells_len, List.take_of_length_le (by rw [pcells_len]; omega), show (P.length + 1) * 2 - P.length * 2 = 2 by omega]; rfl
theorem pcells_snoc {P : List (Nat × Nat)} {t l : Nat} {rest : List C} : pcells (P ++ [(t, l)]) ++ rest = pcells P ++ .d (.int .i64 t) :: .d (.int .i64 l) :: rest := by simp [pcells]

def circOut (ys : List (List Nat)) (r : AV) : Prop := ∃ c, (r = .one (.d (nats c)) ∨ c = [] ∧ r = .one (.d .nsl)) ∧ ((c = [] ∧ ∃ lv, IsLv ys lv) ∨ Circ ys c)

/-- What stays, while circles are looked for. -/
structure CSt (ys : List (List Nat)) (B p gp : Nat) (g0 : Nat → Nat) (ob0 : Obs) (done : List Nat) (path : List (Nat × Nat)) (i : Nat) (s : St) : Prop where
  f1 : s.f 1 = .one (.clo 24 [.ptr p gp 0])
  f5 : s.f 5 = .one (.mp (B + 12) (s.gen (B + 12)) 3)
  f13 : s.f 13 = .one (.d (nats (List.range ys.length)))
  f14 : s.f 14 = iv .i64 ys.length
  f15 : s.f 15 = iv .i64 i
  map : ∃ M, s.obj (B + 12) = some M ∧ ∀ a : Nat, mget M (.int .i64 a) = stOf done path a
  dfs : Dfs ys done path
  gen : ∀ j, j < B → s.gen j = g0 j
  obj : ∀ j, j < B → s.obj j = ob0 j
  high : ∀ j, B + 91 ≤ j → s.obj j = none

set_option maxHeartbeats 4000000 in
set_option maxRecDepth 100000 in
theorem circle_A (ys : List (List Nat)) (hR : Rt ys) (hn : ys.length ≤ 1000000) (hrows : ∀ r ∈ ys, r.length ≤ 1000000) (p gp B : Nat) (g0 : Nat → Nat) (ob0 : Obs) (hpB : p < B) (hB : ∀ i, B ≤ i → ob0 i = none) (hgp : g0 p = gp) (hob : ob0 p = some [.d (natss ys)]) :
    FunR Try.prog 23 [.one (.d (nats (List.range ys.length))), .one (.clo 24 [.ptr p gp 0])] g0 ob0 (fun r g' ob' => circOut ys r ∧ g' = g0 ∧ ob' = ob0) := by
  refine lent_of_wp B Tt_ok mixed Try.func23 rfl (by rfl) [4] rfl (by kernel_rfl) (by simp [Try.ntmps23]) hB ?_
  have n1 := ne_lo hpB
  have n2 := ne_hi hpB
  simp (config := { maxSteps := 1000000 }) only [go_sem, ↓reduceIte, Nat.reduceEqDiff, Nat.reduceAdd, Nat.reduceMul, Nat.reduceSub, Nat.reduceLT, Nat.reduceLeDiff, Int.reduceLT, Int.reduceLE, Int.reduceEq, Int.reduceNe, Int.reduceAdd, Int.reduceNeg, Int.reduceToNat, nats, List.length_range]
  refine loop_introB (fun n s => ∃ (i : Nat) (done : List Nat), n + i = ys.length ∧ (∀ a, a < i → a ∈ done) ∧ CSt ys B p gp g0 ob0 done [] i s) ys.length ?_ ?_
  · refine ⟨0, [], by omega, fun a h => absurd h (by omega), ?_⟩
    refine ⟨?_, ?_, ?_, ?_, ?_, ⟨[], ?_, fun a => rfl⟩, Dfs.init ys, fun j hj => ?_, fun j hj => ?_, fun j hj => ?_⟩
    all_goals try simp (config := { maxSteps := 1000000 }) only [go_sem, ↓reduceIte, Nat.reduceEqDiff, Nat.reduceAdd, Nat.reduceMul, Nat.reduceSub, Nat.reduceLT, Nat.reduceLeDiff, Int.reduceLT, Int.reduceLE, Int.reduceEq, Int.reduceNe, Int.reduceAdd, Int.reduceNeg, Int.reduceToNat, nats, List.length_range]
    · have := ne_lo hj; simp (config := { maxSteps := 1000000 }) only [go_sem, ↓reduceIte, Nat.reduceEqDiff, Nat.reduceAdd, Nat.reduceMul, Nat.reduceSub, Nat.reduceLT, Nat.reduceLeDiff, Int.reduceLT, Int.reduceLE, Int.reduceEq, Int.reduceNe, Int.reduceAdd, Int.reduceNeg, Int.reduceToNat, this]
    · have := ne_lo hj; simp (config := { maxSteps := 1000000 }) only [go_sem, ↓reduceIte, Nat.reduceEqDiff, Nat.reduceAdd, Nat.reduceMul, Nat.reduceSub, Nat.reduceLT, Nat.reduceLeDiff, Int.reduceLT, Int.reduceLE, Int.reduceEq, Int.reduceNe, Int.reduceAdd, Int.reduceNeg, Int.reduceToNat, this]
    · have : ¬ j = B + 12 := by omega
      rw [if_neg this]
      exact hB j (by omega)
  · rintro n f g ob ⟨i, done, hni, hall, hS⟩
    obtain ⟨f1, f5, f13, f14, f15, ⟨M, oM, hM⟩, hD, hG, hO, hH⟩ := hS
    simp only at f1 f5 f13 f14 f15 oM hG hO hH
    have hgp1 := (hG p hpB).trans hgp
    have hop1 := (hO p hpB).trans hob
    have hw := wrap_succ (k := i) (by omega)
    by_cases hlt : i < ys.length
    · by_cases hd : i ∈ done
      · have hm : mget M (.int .i64 i) = some (.d (.int .i64 2)) := by rw [hM]; simp [stOf, hd]
        simp (config := { maxSteps := 1000000 }) only [go_sem, ↓reduceIte, Nat.reduceEqDiff, Nat.reduceAdd, Nat.reduceMul, Nat.reduceSub, Nat.reduceLT, Nat.reduceLeDiff, Int.reduceLT, Int.reduceLE, Int.reduceEq, Int.reduceNe, Int.reduceAdd, Int.reduceNeg, Int.reduceToNat, f1, f5, f13, f14, f15, oM, hlt, nats, List.getElem?_range hlt, hm, hw]
        refine round_endB (n - 1) (by omega) ⟨i + 1, done, by omega, fun a ha => ?_, ?_⟩
        · by_cases h : a = i
          · exact h ▸ hd
          · exact hall a (by omega)
        · refine ⟨?_, ?_, ?_, ?_, ?_, ⟨M, ?_, hM⟩, hD, fun j hj => ?_, fun j hj => ?_, fun j hj => ?_⟩
          all_goals try simp (config := { maxSteps := 1000000 }) only [go_sem, ↓reduceIte, Nat.reduceEqDiff, Nat.reduceAdd, Nat.reduceMul, Nat.reduceSub, Nat.reduceLT, Nat.reduceLeDiff, Int.reduceLT, Int.reduceLE, Int.reduceEq, Int.reduceNe, Int.reduceAdd, Int.reduceNeg, Int.reduceToNat, f1, f5, f13, f14, hw, oM, nats]
          · exact hG j hj
          · exact hO j hj
          · exact hH j hj
      · have hm : mget M (.int .i64 i) = none := by rw [hM]; simp [stOf, hd]
        simp (config := { maxSteps := 1000000 }) only [go_sem, ↓reduceIte, Nat.reduceEqDiff, Nat.reduceAdd, Nat.reduceMul, Nat.reduceSub, Nat.reduceLT, Nat.reduceLeDiff, Int.reduceLT, Int.reduceLE, Int.reduceEq, Int.reduceNe, Int.reduceAdd, Int.reduceNeg, Int.reduceToNat, f1, f5, f13, f14, f15, oM, hlt, nats, List.getElem?_range hlt, hm]
        refine loop_introB (fun n2 s => ∃ (done : List Nat) (path : List (Nat × Nat)) (rest : List C), n2 = potSum ys done path ∧ (∀ a, a < i → a ∈ done) ∧ (i ∈ done ∨ i ∈ path.map Prod.fst) ∧ path.length ≤ ys.length ∧ CSt ys B p gp g0 ob0 done path i s ∧
          s.f 8 = .one (.osl (B + 25) (s.gen (B + 25)) 2 0 path.length) ∧ s.obj (B + 25) = some (pcells path ++ rest)) (potSum ys done [(i, 0)]) ?_ ?_
        · refine ⟨done, [(i, 0)], [], rfl, hall, .inr (by simp), by simp; omega, ⟨?_, ?_, ?_, ?_, ?_, ⟨mset M (.int .i64 i) (.d (.int .i64 1)), ?_, fun a => ?_⟩, hD.start hlt hd, fun j hj => ?_, fun j hj => ?_, fun j hj => ?_⟩, ?_, ?_⟩
          all_goals try simp (config := { maxSteps := 1000000 }) only [go_sem, ↓reduceIte, Nat.reduceEqDiff, Nat.reduceAdd, Nat.reduceMul, Nat.reduceSub, Nat.reduceLT, Nat.reduceLeDiff, Int.reduceLT, Int.reduceLE, Int.reduceEq, Int.reduceNe, Int.reduceAdd, Int.reduceNeg, Int.reduceToNat, f1, f5, f13, f14, f15, oM, nats, pcells, List.flatMap_cons, List.flatMap_nil]
          · rw [mget_mset, hM]
            by_cases h : a = i
            · subst h; simp [stOf, hd, keyEq]
            · have h' : ¬ i = a := fun e => h e.symm
              have h2 : ¬ (i : Int) = (a : Int) := by omega
              simp [stOf, h, h', h2, keyEq]
          · have := ne_lo hj; simp only [this, if_false, hG j hj]
          · have := ne_lo hj; simp only [this, if_false, hO j hj]
          · have h1 : ¬ j = B + 12 := by omega
            have h2 : ¬ j = B + 25 := by omega
            rw [if_neg h1, if_neg h2]
            exact hH j hj
        · clear f1 f5 f13 f14 f15 oM hM hG hO hH hgp1 hop1 hD hm hd M hall done f g ob
          rintro n2 f g ob ⟨done, path, rest, hn2, hall, hin, hpl, ⟨f1, f5, f13, f14, f15, ⟨M, oM, hM⟩, hD, hG, hO, hH⟩, f8, o25⟩
          simp only at f1 f5 f13 f14 f15 oM hG hO hH f8 o25
          have hgp1 := (hG p hpB).trans hgp
          have hop1 := (hO p hpB).trans hob
          rcases List.eq_nil_or_concat path with rfl | ⟨P, ⟨t, l⟩, rfl⟩
          · have hid : i ∈ done := by simpa using hin
            simp (config := { maxSteps := 1000000 }) only [go_sem, ↓reduceIte, Nat.reduceEqDiff, Nat.reduceAdd, Nat.reduceMul, Nat.reduceSub, Nat.reduceLT, Nat.reduceLeDiff, Int.reduceLT, Int.reduceLE, Int.reduceEq, Int.reduceNe, Int.reduceAdd, Int.reduceNeg, Int.reduceToNat, f1, f5, f13, f14, f15, f8, o25, hw]
            refine round_endB (n - 1) (by omega) ⟨i + 1, done, by omega, fun a ha => ?_, ?_⟩
            · by_cases h : a = i
              · exact h ▸ hid
              · exact hall a (by omega)
            · refine ⟨?_, ?_, ?_, ?_, ?_, ⟨M, ?_, hM⟩, hD, fun j hj => ?_, fun j hj => ?_, fun j hj => ?_⟩
              all_goals try simp (config := { maxSteps := 1000000 }) only [go_sem, ↓reduceIte, Nat.reduceEqDiff, Nat.reduceAdd, Nat.reduceMul, Nat.reduceSub, Nat.reduceLT, Nat.reduceLeDiff, Int.reduceLT, Int.reduceLE, Int.reduceEq, Int.reduceNe, Int.reduceAdd, Int.reduceNeg, Int.reduceToNat, f1, f5, f13, f14, hw, oM, nats]
              · exact hG j hj
              · exact hO j hj
              · exact hH j hj
          · rw [List.concat_eq_append] at *
            have hl0 := hD.le P.length t l snoc_last
            have htn : t < ys.length := hD.lt t (by simp)
            obtain ⟨r, hr⟩ := getq htn
            have hrow := row_of hr
            have hrl := hrows r (List.mem_of_getElem? hr)
            have hPl : P.length + 1 ≤ ys.length := by simpa using hpl
            have hwp : IntKind.i64.wrap (((P.length + 1 : Nat) : Int) - 1) = ((P.length : Nat) : Int) := by rw [wrap_i64] <;> omega
            rw [pcells_snoc] at o25
            have hpos : 0 < P.length + 1 := by omega
            have hpll : ((P.length : Nat) : Int) < ((P.length + 1 : Nat) : Int) := by omega
            simp (config := { maxSteps := 1000000 }) only [go_sem, ↓reduceIte, Nat.reduceEqDiff, Nat.reduceAdd, Nat.reduceMul, Nat.reduceSub, Nat.reduceLT, Nat.reduceLeDiff, Int.reduceLT, Int.reduceLE, Int.reduceEq, Int.reduceNe, Int.reduceAdd, Int.reduceNeg, Int.reduceToNat, f1, f5, f13, f14, f15, f8, o25, List.length_append, hwp, hpos, hpll, Int.natCast_pos, pc0, Nat.add_zero]
            refine hook_cloLent rfl rfl (next_A ys t p gp (B + 91) g ob (by omega) hH hgp1 hop1 htn) ?_
            rintro _ rfl
            rw [hrow] at hl0 ⊢
            have fin : ∀ (done' : List Nat) (path' : List (Nat × Nat)) (rest' : List C) (s : St), potSum ys done' path' < n2 → (∀ a, a < i → a ∈ done') → (i ∈ done' ∨ i ∈ path'.map Prod.fst) → path'.length ≤ ys.length → CSt ys B p gp g0 ob0 done' path' i s →
                s.f 8 = .one (.osl (B + 25) (s.gen (B + 25)) 2 0 path'.length) → s.obj (B + 25) = some (pcells path' ++ rest') → ∃ n' s₁, n' < n2 ∧ (spB Try.prog B).vs s s₁ ∧ ∃ done path rest, n' = potSum ys done path ∧ (∀ a, a < i → a ∈ done) ∧ (i ∈ done ∨ i ∈ path.map Prod.fst) ∧ path.length ≤ ys.length ∧ CSt ys B p gp g0 ob0 done path i s₁ ∧
                s₁.f 8 = .one (.osl (B + 25) (s₁.gen (B + 25)) 2 0 path.length) ∧ s₁.obj (B + 25) = some (pcells path ++ rest) := fun done' path' rest' s h1 h2 h3 h4 h5 h6 h7 =>
              round_endB (potSum ys done' path') h1 ⟨done', path', rest', rfl, h2, h3, h4, h5, h6, h7⟩
            have hmt : stOf done (P ++ [(t, l)]) t = some (.d (.int .i64 1)) := by simp [stOf, hD.notDone]
            have hMset : ∀ (v : C) (k a : Nat), mget (mset M (.int .i64 k) v) (.int .i64 a) = if a = k then some v else stOf done (P ++ [(t, l)]) a := fun v k a => by
              rw [mget_mset, hM]
              by_cases h : a = k
              · subst h; simp [keyEq]
              · have h2 : ¬ (k : Int) = (a : Int) := by omega
                simp [keyEq, h, h2]
            by_cases hle : l = r.length
            · subst hle
              simp (config := { maxSteps := 1000000 }) only [go_sem, ↓reduceIte, Nat.reduceEqDiff, Nat.reduceAdd, Nat.reduceMul, Nat.reduceSub, Nat.reduceLT, Nat.reduceLeDiff, Int.reduceLT, Int.reduceLE, Int.reduceEq, Int.reduceNe, Int.reduceAdd, Int.reduceNeg, Int.reduceToNat, f1, f5, f13, f14, f15, f8, o25, oM, List.length_append, hwp, hpos, hpll, Int.natCast_pos, Int.natCast_inj, pc0, pc1, nats, Nat.zero_le]
              refine ⟨by omega, fin (done ++ [t]) P (.d (.int .i64 t) :: .d (.int .i64 r.length) :: rest) _ ?_ (fun a ha => by simp [hall a ha]) ?_ (by omega) ⟨?_, ?_, ?_, ?_, ?_, ⟨mset M (.int .i64 t) (.d (.int .i64 2)), ?_, fun a => ?_⟩, ?_, fun j hj => ?_, fun j hj => ?_, fun j hj => ?_⟩ ?_ ?_⟩
              · rw [hn2, ← hrow]; exact Dfs.pot_pop (by rw [hrow]; exact hD)
              · rcases hin with h | h
                · simp [h]
                · simp only [List.map_append, List.map_cons, List.map_nil, List.mem_append, List.mem_singleton] at h ⊢
                  rcases h with h | h
                  · exact .inr h
                  · exact .inl (.inr h)
              · simp (config := { maxSteps := 1000000 }) only [go_sem, ↓reduceIte, Nat.reduceEqDiff, Nat.reduceAdd, Nat.reduceMul, Nat.reduceSub, Nat.reduceLT, Nat.reduceLeDiff, Int.reduceLT, Int.reduceLE, Int.reduceEq, Int.reduceNe, Int.reduceAdd, Int.reduceNeg, Int.reduceToNat, f1]
              · simp (config := { maxSteps := 1000000 }) only [go_sem, ↓reduceIte, Nat.reduceEqDiff, Nat.reduceAdd, Nat.reduceMul, Nat.reduceSub, Nat.reduceLT, Nat.reduceLeDiff, Int.reduceLT, Int.reduceLE, Int.reduceEq, Int.reduceNe, Int.reduceAdd, Int.reduceNeg, Int.reduceToNat, f5]
              · simp (config := { maxSteps := 1000000 }) only [go_sem, ↓reduceIte, Nat.reduceEqDiff, Nat.reduceAdd, Nat.reduceMul, Nat.reduceSub, Nat.reduceLT, Nat.reduceLeDiff, Int.reduceLT, Int.reduceLE, Int.reduceEq, Int.reduceNe, Int.reduceAdd, Int.reduceNeg, Int.reduceToNat, f13, nats]
              · simp (config := { maxSteps := 1000000 }) only [go_sem, ↓reduceIte, Nat.reduceEqDiff, Nat.reduceAdd, Nat.reduceMul, Nat.reduceSub, Nat.reduceLT, Nat.reduceLeDiff, Int.reduceLT, Int.reduceLE, Int.reduceEq, Int.reduceNe, Int.reduceAdd, Int.reduceNeg, Int.reduceToNat, f14]
              · simp (config := { maxSteps := 1000000 }) only [go_sem, ↓reduceIte, Nat.reduceEqDiff, Nat.reduceAdd, Nat.reduceMul, Nat.reduceSub, Nat.reduceLT, Nat.reduceLeDiff, Int.reduceLT, Int.reduceLE, Int.reduceEq, Int.reduceNe, Int.reduceAdd, Int.reduceNeg, Int.reduceToNat, f15]
              · simp (config := { maxSteps := 1000000 }) only [go_sem, ↓reduceIte, Nat.reduceEqDiff, Nat.reduceAdd, Nat.reduceMul, Nat.reduceSub, Nat.reduceLT, Nat.reduceLeDiff, Int.reduceLT, Int.reduceLE, Int.reduceEq, Int.reduceNe, Int.reduceAdd, Int.reduceNeg, Int.reduceToNat, oM]
              · rw [hMset]
                by_cases h : a = t
                · simp [stOf, h]
                · simp only [stOf, if_false, List.mem_append, List.mem_singleton, h, or_false, List.map_append, List.map_cons, List.map_nil]
              · exact Dfs.pop (by rw [hrow]; exact hD)
              · exact hG j hj
              · have := ne_lo hj; simp only [upd, this, if_false, hO j hj]
              · have h1 : ¬ j = B + 12 := by omega
                simp only [upd, if_neg h1]; exact hH j hj
              · simp (config := { maxSteps := 1000000 }) only [go_sem, ↓reduceIte, Nat.reduceEqDiff, Nat.reduceAdd, Nat.reduceMul, Nat.reduceSub, Nat.reduceLT, Nat.reduceLeDiff, Int.reduceLT, Int.reduceLE, Int.reduceEq, Int.reduceNe, Int.reduceAdd, Int.reduceNeg, Int.reduceToNat]
              · simp (config := { maxSteps := 1000000 }) only [go_sem, ↓reduceIte, Nat.reduceEqDiff, Nat.reduceAdd, Nat.reduceMul, Nat.reduceSub, Nat.reduceLT, Nat.reduceLeDiff, Int.reduceLT, Int.reduceLE, Int.reduceEq, Int.reduceNe, Int.reduceAdd, Int.reduceNeg, Int.reduceToNat, o25]
            · have hll : l < r.length := by omega
              obtain ⟨k, hk⟩ := getq hll
              have hkr : (row ys t)[l]? = some k := by rw [hrow]; exact hk
              have hwl : IntKind.i64.wrap ((l : Int) + 1) = ((l + 1 : Nat) : Int) := wrap_succ (by omega)
              have hcl : P.length * 2 + 1 + 1 ≤ P.length * 2 + (rest.length + 1 + 1) := by omega
              have hcl2 : (P.length + 1) * 2 ≤ P.length * 2 + (rest.length + 1 + 1) := by omega
              by_cases hkd : k ∈ done
              · have hm : mget M (.int .i64 k) = some (.d (.int .i64 2)) := by rw [hM, stOf, if_pos hkd]
                simp (config := { maxSteps := 1000000 }) only [go_sem, ↓reduceIte, Nat.reduceEqDiff, Nat.reduceAdd, Nat.reduceMul, Nat.reduceSub, Nat.reduceLT, Nat.reduceLeDiff, Int.reduceLT, Int.reduceLE, Int.reduceEq, Int.reduceNe, Int.reduceAdd, Int.reduceNeg, Int.reduceToNat, f1, f5, f13, f14, f15, f8, o25, oM, List.length_append, hwp, hpos, hpll, Int.natCast_pos, Int.natCast_inj, pc0, pc1, pcset, pctake, pcells_len, hcl, nats, Nat.zero_le, hle, hk, hwl, hm]
                refine fin done (P ++ [(t, l + 1)]) rest _ ?_ hall ?_ (by simpa using hPl) ⟨?_, ?_, ?_, ?_, ?_, ⟨M, ?_, fun a => ?_⟩, hD.skip hkr hkd, fun j hj => ?_, fun j hj => ?_, fun j hj => ?_⟩ ?_ ?_
                · rw [hn2]; exact hD.pot_skip hkr
                · simpa using hin
                · simp (config := { maxSteps := 1000000 }) only [go_sem, ↓reduceIte, Nat.reduceEqDiff, Nat.reduceAdd, Nat.reduceMul, Nat.reduceSub, Nat.reduceLT, Nat.reduceLeDiff, Int.reduceLT, Int.reduceLE, Int.reduceEq, Int.reduceNe, Int.reduceAdd, Int.reduceNeg, Int.reduceToNat, f1]
                · simp (config := { maxSteps := 1000000 }) only [go_sem, ↓reduceIte, Nat.reduceEqDiff, Nat.reduceAdd, Nat.reduceMul, Nat.reduceSub, Nat.reduceLT, Nat.reduceLeDiff, Int.reduceLT, Int.reduceLE, Int.reduceEq, Int.reduceNe, Int.reduceAdd, Int.reduceNeg, Int.reduceToNat, f5]
                · simp (config := { maxSteps := 1000000 }) only [go_sem, ↓reduceIte, Nat.reduceEqDiff, Nat.reduceAdd, Nat.reduceMul, Nat.reduceSub, Nat.reduceLT, Nat.reduceLeDiff, Int.reduceLT, Int.reduceLE, Int.reduceEq, Int.reduceNe, Int.reduceAdd, Int.reduceNeg, Int.reduceToNat, f13, nats]
                · simp (config := { maxSteps := 1000000 }) only [go_sem, ↓reduceIte, Nat.reduceEqDiff, Nat.reduceAdd, Nat.reduceMul, Nat.reduceSub, Nat.reduceLT, Nat.reduceLeDiff, Int.reduceLT, Int.reduceLE, Int.reduceEq, Int.reduceNe, Int.reduceAdd, Int.reduceNeg, Int.reduceToNat, f14]
                · simp (config := { maxSteps := 1000000 }) only [go_sem, ↓reduceIte, Nat.reduceEqDiff, Nat.reduceAdd, Nat.reduceMul, Nat.reduceSub, Nat.reduceLT, Nat.reduceLeDiff, Int.reduceLT, Int.reduceLE, Int.reduceEq, Int.reduceNe, Int.reduceAdd, Int.reduceNeg, Int.reduceToNat, f15]
                · simp (config := { maxSteps := 1000000 }) only [go_sem, ↓reduceIte, Nat.reduceEqDiff, Nat.reduceAdd, Nat.reduceMul, Nat.reduceSub, Nat.reduceLT, Nat.reduceLeDiff, Int.reduceLT, Int.reduceLE, Int.reduceEq, Int.reduceNe, Int.reduceAdd, Int.reduceNeg, Int.reduceToNat, oM]
                · rw [hM]; simp only [stOf, List.map_append, List.map_cons, List.map_nil]
                · exact hG j hj
                · have := ne_lo hj; simp only [upd, this, if_false, hO j hj]
                · have h1 : ¬ j = B + 25 := by omega
                  simp only [upd, if_neg h1]; exact hH j hj
                · simp (config := { maxSteps := 1000000 }) only [go_sem, ↓reduceIte, Nat.reduceEqDiff, Nat.reduceAdd, Nat.reduceMul, Nat.reduceSub, Nat.reduceLT, Nat.reduceLeDiff, Int.reduceLT, Int.reduceLE, Int.reduceEq, Int.reduceNe, Int.reduceAdd, Int.reduceNeg, Int.reduceToNat, f8, List.length_append]
                · simp (config := { maxSteps := 1000000 }) only [go_sem, ↓reduceIte, Nat.reduceEqDiff, Nat.reduceAdd, Nat.reduceMul, Nat.reduceSub, Nat.reduceLT, Nat.reduceLeDiff, Int.reduceLT, Int.reduceLE, Int.reduceEq, Int.reduceNe, Int.reduceAdd, Int.reduceNeg, Int.reduceToNat, pcells_snoc]
              · by_cases hkp : k ∈ (P ++ [(t, l)]).map Prod.fst
                · have hm : mget M (.int .i64 k) = some (.d (.int .i64 1)) := by rw [hM, stOf, if_neg hkd, if_pos hkp]
                  simp (config := { maxSteps := 1000000 }) only [go_sem, ↓reduceIte, Nat.reduceEqDiff, Nat.reduceAdd, Nat.reduceMul, Nat.reduceSub, Nat.reduceLT, Nat.reduceLeDiff, Int.reduceLT, Int.reduceLE, Int.reduceEq, Int.reduceNe, Int.reduceAdd, Int.reduceNeg, Int.reduceToNat, f1, f5, f13, f14, f15, f8, o25, oM, List.length_append, hwp, hpos, hpll, Int.natCast_pos, Int.natCast_inj, pc0, pc1, pcset, pctake, pcells_len, hcl, nats, Nat.zero_le, hle, hk, hwl, hm]
                  have hfr := fun g' ob' h1 h2 h3 => from_A (P ++ [(t, l + 1)]) rest k (B + 25) (g (B + 25)) (B + 91) g' ob' (by omega) h1 h2 h3 (by simp; omega)
                  refine hook_lent rfl (R := fun r => r = .one (.d (nats (fromP (P ++ [(t, l + 1)]) k)))) ?_ ?_
                  · have e : (P ++ [(t, l + 1)]).length = P.length + 1 := by simp
                    rw [e] at hfr
                    refine hfr _ _ (fun j hj => ?_) rfl ?_
                    · have h1 : ¬ j = B + 25 := by omega
                      simp only [upd, if_neg h1]; exact hH j hj
                    · simp (config := { maxSteps := 1000000 }) only [go_sem, ↓reduceIte, Nat.reduceEqDiff, Nat.reduceAdd, Nat.reduceMul, Nat.reduceSub, Nat.reduceLT, Nat.reduceLeDiff, Int.reduceLT, Int.reduceLE, Int.reduceEq, Int.reduceNe, Int.reduceAdd, Int.reduceNeg, Int.reduceToNat, pcells_snoc]
                  · rintro _ rfl
                    simp (config := { maxSteps := 1000000 }) only [go_sem, ↓reduceIte, Nat.reduceEqDiff, Nat.reduceAdd, Nat.reduceMul, Nat.reduceSub, Nat.reduceLT, Nat.reduceLeDiff, Int.reduceLT, Int.reduceLE, Int.reduceEq, Int.reduceNe, Int.reduceAdd, Int.reduceNeg, Int.reduceToNat, nats]
                    refine ⟨hG, fun j hj => ?_, _, .inl rfl, .inr (hD.circ hkr hkp)⟩
                    have := ne_lo hj; simp only [this, if_false, hO j hj]
                · have hm : mget M (.int .i64 k) = none := by rw [hM, stOf, if_neg hkd, if_neg hkp]
                  simp (config := { maxSteps := 1000000 }) only [go_sem, ↓reduceIte, Nat.reduceEqDiff, Nat.reduceAdd, Nat.reduceMul, Nat.reduceSub, Nat.reduceLT, Nat.reduceLeDiff, Int.reduceLT, Int.reduceLE, Int.reduceEq, Int.reduceNe, Int.reduceAdd, Int.reduceNeg, Int.reduceToNat, f1, f5, f13, f14, f15, f8, o25, oM, List.length_append, hwp, hpos, hpll, Int.natCast_pos, Int.natCast_inj, pc0, pc1, pcset, pctake, pcells_len, hcl, hcl2, nats, Nat.zero_le, hle, hk, hwl, hm]
                  refine ⟨⟨by decide, by omega⟩, fin done (P ++ [(t, l + 1)] ++ [(k, 0)]) [] _ ?_ hall ?_ ?_ ⟨?_, ?_, ?_, ?_, ?_, ⟨mset M (.int .i64 k) (.d (.int .i64 1)), ?_, fun a => ?_⟩, hD.push hR hkr hkd hkp, fun j hj => ?_, fun j hj => ?_, fun j hj => ?_⟩ ?_ ?_⟩
                  · rw [hn2]; exact hD.pot_push hR hkr hkd hkp
                  · simp only [List.map_append, List.map_cons, List.map_nil, List.mem_append] at hin ⊢
                    rcases hin with h | h
                    · exact .inl h
                    · exact .inr (.inl h)
                  · have hnd := (hD.push hR hkr hkd hkp)
                    have h1 := nodup_length (List.nodup_append.1 hnd.nodup).2.1 (fun a ha => hnd.lt a (by simp only [List.mem_append]; exact .inr ha))
                    simpa using h1
                  · simp (config := { maxSteps := 1000000 }) only [go_sem, ↓reduceIte, Nat.reduceEqDiff, Nat.reduceAdd, Nat.reduceMul, Nat.reduceSub, Nat.reduceLT, Nat.reduceLeDiff, Int.reduceLT, Int.reduceLE, Int.reduceEq, Int.reduceNe, Int.reduceAdd, Int.reduceNeg, Int.reduceToNat, f1]
                  · simp (config := { maxSteps := 1000000 }) only [go_sem, ↓reduceIte, Nat.reduceEqDiff, Nat.reduceAdd, Nat.reduceMul, Nat.reduceSub, Nat.reduceLT, Nat.reduceLeDiff, Int.reduceLT, Int.reduceLE, Int.reduceEq, Int.reduceNe, Int.reduceAdd, Int.reduceNeg, Int.reduceToNat, f5]
                  · simp (config := { maxSteps := 1000000 }) only [go_sem, ↓reduceIte, Nat.reduceEqDiff, Nat.reduceAdd, Nat.reduceMul, Nat.reduceSub, Nat.reduceLT, Nat.reduceLeDiff, Int.reduceLT, Int.reduceLE, Int.reduceEq, Int.reduceNe, Int.reduceAdd, Int.reduceNeg, Int.reduceToNat, f13, nats]
                  · simp (config := { maxSteps := 1000000 }) only [go_sem, ↓reduceIte, Nat.reduceEqDiff, Nat.reduceAdd, Nat.reduceMul, Nat.reduceSub, Nat.reduceLT, Nat.reduceLeDiff, Int.reduceLT, Int.reduceLE, Int.reduceEq, Int.reduceNe, Int.reduceAdd, Int.reduceNeg, Int.reduceToNat, f14]
                  · simp (config := { maxSteps := 1000000 }) only [go_sem, ↓reduceIte, Nat.reduceEqDiff, Nat.reduceAdd, Nat.reduceMul, Nat.reduceSub, Nat.reduceLT, Nat.reduceLeDiff, Int.reduceLT, Int.reduceLE, Int.reduceEq, Int.reduceNe, Int.reduceAdd, Int.reduceNeg, Int.reduceToNat, f15]
                  · simp (config := { maxSteps := 1000000 }) only [go_sem, ↓reduceIte, Nat.reduceEqDiff, Nat.reduceAdd, Nat.reduceMul, Nat.reduceSub, Nat.reduceLT, Nat.reduceLeDiff, Int.reduceLT, Int.reduceLE, Int.reduceEq, Int.reduceNe, Int.reduceAdd, Int.reduceNeg, Int.reduceToNat, oM]
                  · rw [hMset]
                    by_cases h : a = k
                    · subst h; simp only [if_true, stOf, if_neg hkd, List.map_append, List.map_cons, List.map_nil, List.mem_append, List.mem_singleton, or_true]
                    · simp only [if_false, stOf, List.map_append, List.map_cons, List.map_nil, List.mem_append, List.mem_singleton, h, or_false]
                  · have := ne_lo hj; simp only [upd, this, if_false, hG j hj]
                  · have := ne_lo hj; simp only [upd, this, if_false, hO j hj]
                  · have h1 : ¬ j = B + 12 := by omega
                    have h2 : ¬ j = B + 25 := by omega
                    have h3 : ¬ j = B + 81 := by omega
                    simp only [upd, if_neg h1, if_neg h2, if_neg h3]; exact hH j hj
                  · simp (config := { maxSteps := 1000000 }) only [go_sem, ↓reduceIte, Nat.reduceEqDiff, Nat.reduceAdd, Nat.reduceMul, Nat.reduceSub, Nat.reduceLT, Nat.reduceLeDiff, Int.reduceLT, Int.reduceLE, Int.reduceEq, Int.reduceNe, Int.reduceAdd, Int.reduceNeg, Int.reduceToNat, List.length_append]
                  · simp (config := { maxSteps := 1000000 }) only [go_sem, ↓reduceIte, Nat.reduceEqDiff, Nat.reduceAdd, Nat.reduceMul, Nat.reduceSub, Nat.reduceLT, Nat.reduceLeDiff, Int.reduceLT, Int.reduceLE, Int.reduceEq, Int.reduceNe, Int.reduceAdd, Int.reduceNeg, Int.reduceToNat, List.append_nil]
                    simp [pcells]
    · simp (config := { maxSteps := 1000000 }) only [go_sem, ↓reduceIte, Nat.reduceEqDiff, Nat.reduceAdd, Nat.reduceMul, Nat.reduceSub, Nat.reduceLT, Nat.reduceLeDiff, Int.reduceLT, Int.reduceLE, Int.reduceEq, Int.reduceNe, Int.reduceAdd, Int.reduceNeg, Int.reduceToNat, f1, f5, f13, f14, f15, oM, hlt]
      exact ⟨hG, hO, frzA_nsl ⟨[], .inl rfl, .inl ⟨rfl, hD.lv hR (fun a ha => hall a (by omega))⟩⟩⟩

end Go.Proofs.Ytfhmibodjfpdfaa
