/- Contracts of from and circle. -/
import Derived.Test.YtfhmibodjfpdfaaGD
import Derived.Test.YtfhmibodjfpdfaaG7
import Derived.Test.YtfhmibodjfpdfaaAm16
set_option linter.unusedSimpArgs false
set_option linter.unusedVariables false
namespace Go.Proofs.Ytfhmibodjfpdfaa
open Go Go.Am

def pcells (path : List (Nat × Nat)) : List C := path.flatMap fun q => [.d (.int .i64 q.1), .d (.int .i64 q.2)]
theorem pcells_len {path : List (Nat × Nat)} : (pcells path).length = path.length * 2 := by
  induction path with
  | nil => rfl
  | cons q path ih => simp only [pcells, List.flatMap_cons, List.length_append, List.length_cons, List.length_nil] at ih ⊢; omega
theorem pcells_app {a b : List (Nat × Nat)} : pcells (a ++ b) = pcells a ++ pcells b := by simp [pcells]
theorem pcells_at : ∀ {path : List (Nat × Nat)} {k : Nat} {q : Nat × Nat}, path[k]? = some q → ((pcells path).drop (k * 2)).take 2 = [.d (.int .i64 q.1), .d (.int .i64 q.2)]
  | [], k, q, h => by simp at h
  | p :: path, 0, q, h => by simp at h; subst h; rfl
  | p :: path, k + 1, q, h => by
    have h := pcells_at (path := path) (k := k) (by simpa using h)
    have e : (k + 1) * 2 = k * 2 + 2 := by omega
    rw [e]
    simpa [pcells, List.drop_append] using h

theorem fromP_snoc {path : List (Nat × Nat)} {k : Nat} {q : Nat × Nat} (hq : path[k]? = some q) (x : Nat) :
    fromP (path.take (k + 1)) x = if 0 < (fromP (path.take k) x).length ∨ q.1 = x then fromP (path.take k) x ++ [q.1] else fromP (path.take k) x := by
  have key : ∀ L : List Nat, (if L.isEmpty = true then (if (q.1 != x) = true then [] else [q.1]) else L ++ [q.1]) = if 0 < L.length ∨ q.1 = x then L ++ [q.1] else L := by
    intro L
    by_cases h : L = []
    · subst h
      by_cases hx : q.1 = x <;> simp [hx]
    · have : 0 < L.length := List.length_pos_iff.2 h
      simp [h, this]
  simp only [fromP, List.take_add_one, hq, Option.toList_some, List.map_append, List.map_cons, List.map_nil, List.dropWhile_append, List.dropWhile_cons, List.dropWhile_nil] at key ⊢
  exact key _

theorem fromP_len {path : List (Nat × Nat)} {x : Nat} : (fromP path x).length ≤ path.length := by
  have := (List.dropWhile_sublist (fun t => t != x) (l := path.map Prod.fst)).length_le
  simpa [fromP] using this

theorem pcells_at' {path : List (Nat × Nat)} {rest : List C} {k : Nat} {q : Nat × Nat} (h : path[k]? = some q) : ((pcells path ++ rest).drop (k * 2)).take 2 = [.d (.int .i64 q.1), .d (.int .i64 q.2)] := by
  have hk := (List.getElem?_eq_some_iff.1 h).1
  rw [List.drop_append_of_le_length (by rw [pcells_len]; omega), List.take_append_of_le_length (by simp [pcells_len]; omega)]
  exact pcells_at h

theorem from_A (path : List (Nat × Nat)) (rest : List C) (x p gp B : Nat) (g : Nat → Nat) (ob : Obs) (hpB : p < B) (hB : ∀ i, B ≤ i → ob i = none) (hgp : g p = gp) (hob : ob p = some (pcells path ++ rest)) (hl : path.length ≤ 1000000) :
    FunR Try.prog 27 [.one (.osl p gp 2 0 path.length), iv .i64 x] g ob (fun r g' ob' => r = .one (.d (nats (fromP path x))) ∧ g' = g ∧ ob' = ob) := by
  refine lent_of_wp B Tt_ok mixed Try.func27 rfl (by rfl) [4] rfl (by kernel_rfl) (by simp [Try.ntmps27]) hB ?_
  have n1 := ne_lo hpB
  have n2 := ne_hi hpB
  simp (config := { maxSteps := 1000000 }) only [go_sem, ↓reduceIte, Nat.reduceEqDiff, Nat.reduceAdd, Nat.reduceMul, Nat.reduceSub, Nat.reduceLT, Nat.reduceLeDiff, Int.reduceLT, Int.reduceLE, Int.reduceEq, Int.reduceNe, Int.reduceAdd, Int.reduceNeg, Int.reduceToNat, hgp, hob]
  refine loop_vsB (St.grab _ 5 (B + 27) 1) (vs_grab rfl) (fun n s => ∃ k : Nat, n + k = path.length ∧ s.f 1 = iv .i64 x ∧ s.f 5 = .one (.osl (B + 27) (s.gen (B + 27)) 1 0 (fromP (path.take k) x).length) ∧
    s.f 8 = .one (.osl p gp 2 0 path.length) ∧ s.f 9 = iv .i64 path.length ∧ s.f 10 = iv .i64 k ∧ s.obj (B + 27) = some (ncells (fromP (path.take k) x)) ∧ (∀ i, i < B → s.gen i = g i) ∧ (∀ i, i < B → s.obj i = ob i)) path.length ?_ ?_
  · refine ⟨0, ?_⟩
    simp (config := { maxSteps := 1000000 }) only [go_sem, ↓reduceIte, Nat.reduceEqDiff, Nat.reduceAdd, Nat.reduceMul, Nat.reduceSub, Nat.reduceLT, Nat.reduceLeDiff, Int.reduceLT, Int.reduceLE, Int.reduceEq, Int.reduceNe, Int.reduceAdd, Int.reduceNeg, Int.reduceToNat, St.grab]
    refine ⟨rfl, rfl, fun i hi => ?_, fun i hi => ?_⟩
    · simp (config := { maxSteps := 1000000 }) only [go_sem, ↓reduceIte, Nat.reduceEqDiff, Nat.reduceAdd, Nat.reduceMul, Nat.reduceSub, Nat.reduceLT, Nat.reduceLeDiff, Int.reduceLT, Int.reduceLE, Int.reduceEq, Int.reduceNe, Int.reduceAdd, Int.reduceNeg, Int.reduceToNat, ne_lo hi]
    · simp (config := { maxSteps := 1000000 }) only [go_sem, ↓reduceIte, Nat.reduceEqDiff, Nat.reduceAdd, Nat.reduceMul, Nat.reduceSub, Nat.reduceLT, Nat.reduceLeDiff, Int.reduceLT, Int.reduceLE, Int.reduceEq, Int.reduceNe, Int.reduceAdd, Int.reduceNeg, Int.reduceToNat, ne_lo hi]
  · rintro n f g1 ob1 ⟨k, hk, h1, h5, h8, h9, h10, o27, hG, hO⟩
    simp only at h1 h5 h8 h9 h10 o27 hG hO
    have hw := wrap_succ (k := k) (by omega)
    have hgp1 := (hG p hpB).trans hgp
    have hop1 := (hO p hpB).trans hob
    by_cases hlt : k < path.length
    · obtain ⟨q, hq⟩ := getq hlt
      have hfit : k * 2 + 2 ≤ (pcells path ++ rest).length := by rw [List.length_append, pcells_len]; omega
      have hsn := fromP_snoc hq x
      have hfl := fromP_len (path := path.take k) (x := x)
      have hlk : (path.take k).length = k := by simp; omega
      simp (config := { maxSteps := 1000000 }) only [go_sem, ↓reduceIte, Nat.reduceEqDiff, Nat.reduceAdd, Nat.reduceMul, Nat.reduceSub, Nat.reduceLT, Nat.reduceLeDiff, Int.reduceLT, Int.reduceLE, Int.reduceEq, Int.reduceNe, Int.reduceAdd, Int.reduceNeg, Int.reduceToNat, h1, h5, h8, h9, h10, hgp1, hop1, hlt, hfit, pcells_at' hq, o27, ncells_len, ncells_take, Int.natCast_pos, Int.natCast_inj]
      have go : ∀ (L' : List Nat), fromP (path.take (k + 1)) x = L' → ∀ s : St, s.f 1 = iv .i64 x → s.f 5 = .one (.osl (B + 27) (s.gen (B + 27)) 1 0 L'.length) → s.f 8 = .one (.osl p gp 2 0 path.length) → s.f 9 = iv .i64 path.length → s.f 10 = iv .i64 ((k + 1 : Nat) : Int) →
          s.obj (B + 27) = some (ncells L') → (∀ i, i < B → s.gen i = g i) → (∀ i, i < B → s.obj i = ob i) → ∃ n' s₁, n' < n ∧ (spB Try.prog B).vs s s₁ ∧ ∃ k : Nat, n' + k = path.length ∧ s₁.f 1 = iv .i64 x ∧ s₁.f 5 = .one (.osl (B + 27) (s₁.gen (B + 27)) 1 0 (fromP (path.take k) x).length) ∧
    s₁.f 8 = .one (.osl p gp 2 0 path.length) ∧ s₁.f 9 = iv .i64 path.length ∧ s₁.f 10 = iv .i64 k ∧ s₁.obj (B + 27) = some (ncells (fromP (path.take k) x)) ∧ (∀ i, i < B → s₁.gen i = g i) ∧ (∀ i, i < B → s₁.obj i = ob i) := by
        rintro L' rfl s e1 e2 e3 e4 e5 e6 e7 e8
        exact round_endB (n - 1) (by omega) ⟨k + 1, by omega, e1, e2, e3, e4, e5, e6, e7, e8⟩
      refine ⟨fun hpos => ⟨Nat.le_refl _, room8 (by omega), ?_⟩, fun hpos => ⟨fun hqx => ⟨Nat.le_refl _, room8 (by omega), ?_⟩, fun hqx => ?_⟩⟩
      · rw [if_pos (.inl hpos)] at hsn
        refine go _ hsn _ ?_ ?_ ?_ ?_ ?_ ?_ (fun i hi => ?_) (fun i hi => ?_)
        all_goals simp (config := { maxSteps := 1000000 }) only [go_sem, ↓reduceIte, Nat.reduceEqDiff, Nat.reduceAdd, Nat.reduceMul, Nat.reduceSub, Nat.reduceLT, Nat.reduceLeDiff, Int.reduceLT, Int.reduceLE, Int.reduceEq, Int.reduceNe, Int.reduceAdd, Int.reduceNeg, Int.reduceToNat, h1, h8, h9, hw, List.length_append, ncells_snoc]
        · simp (config := { maxSteps := 1000000 }) only [go_sem, ↓reduceIte, Nat.reduceEqDiff, Nat.reduceAdd, Nat.reduceMul, Nat.reduceSub, Nat.reduceLT, Nat.reduceLeDiff, Int.reduceLT, Int.reduceLE, Int.reduceEq, Int.reduceNe, Int.reduceAdd, Int.reduceNeg, Int.reduceToNat, ne_lo (‹i < B›), hG i ‹_›]
        · simp (config := { maxSteps := 1000000 }) only [go_sem, ↓reduceIte, Nat.reduceEqDiff, Nat.reduceAdd, Nat.reduceMul, Nat.reduceSub, Nat.reduceLT, Nat.reduceLeDiff, Int.reduceLT, Int.reduceLE, Int.reduceEq, Int.reduceNe, Int.reduceAdd, Int.reduceNeg, Int.reduceToNat, ne_lo (‹i < B›), hO i ‹_›]
      · rw [if_pos (.inr hqx)] at hsn
        refine go _ hsn _ ?_ ?_ ?_ ?_ ?_ ?_ (fun i hi => ?_) (fun i hi => ?_)
        all_goals simp (config := { maxSteps := 1000000 }) only [go_sem, ↓reduceIte, Nat.reduceEqDiff, Nat.reduceAdd, Nat.reduceMul, Nat.reduceSub, Nat.reduceLT, Nat.reduceLeDiff, Int.reduceLT, Int.reduceLE, Int.reduceEq, Int.reduceNe, Int.reduceAdd, Int.reduceNeg, Int.reduceToNat, h1, h8, h9, hw, List.length_append, ncells_snoc]
        · simp (config := { maxSteps := 1000000 }) only [go_sem, ↓reduceIte, Nat.reduceEqDiff, Nat.reduceAdd, Nat.reduceMul, Nat.reduceSub, Nat.reduceLT, Nat.reduceLeDiff, Int.reduceLT, Int.reduceLE, Int.reduceEq, Int.reduceNe, Int.reduceAdd, Int.reduceNeg, Int.reduceToNat, ne_lo (‹i < B›), hG i ‹_›]
        · simp (config := { maxSteps := 1000000 }) only [go_sem, ↓reduceIte, Nat.reduceEqDiff, Nat.reduceAdd, Nat.reduceMul, Nat.reduceSub, Nat.reduceLT, Nat.reduceLeDiff, Int.reduceLT, Int.reduceLE, Int.reduceEq, Int.reduceNe, Int.reduceAdd, Int.reduceNeg, Int.reduceToNat, ne_lo (‹i < B›), hO i ‹_›]
      · rw [if_neg (by omega)] at hsn
        refine go _ hsn _ ?_ ?_ ?_ ?_ ?_ ?_ (fun i hi => ?_) (fun i hi => ?_)
        all_goals simp (config := { maxSteps := 1000000 }) only [go_sem, ↓reduceIte, Nat.reduceEqDiff, Nat.reduceAdd, Nat.reduceMul, Nat.reduceSub, Nat.reduceLT, Nat.reduceLeDiff, Int.reduceLT, Int.reduceLE, Int.reduceEq, Int.reduceNe, Int.reduceAdd, Int.reduceNeg, Int.reduceToNat, h1, h5, h8, h9, hw, o27]
        · simp (config := { maxSteps := 1000000 }) only [go_sem, ↓reduceIte, Nat.reduceEqDiff, Nat.reduceAdd, Nat.reduceMul, Nat.reduceSub, Nat.reduceLT, Nat.reduceLeDiff, Int.reduceLT, Int.reduceLE, Int.reduceEq, Int.reduceNe, Int.reduceAdd, Int.reduceNeg, Int.reduceToNat, ne_lo (‹i < B›), hG i ‹_›]
        · simp (config := { maxSteps := 1000000 }) only [go_sem, ↓reduceIte, Nat.reduceEqDiff, Nat.reduceAdd, Nat.reduceMul, Nat.reduceSub, Nat.reduceLT, Nat.reduceLeDiff, Int.reduceLT, Int.reduceLE, Int.reduceEq, Int.reduceNe, Int.reduceAdd, Int.reduceNeg, Int.reduceToNat, ne_lo (‹i < B›), hO i ‹_›]
    · simp (config := { maxSteps := 1000000 }) only [go_sem, ↓reduceIte, Nat.reduceEqDiff, Nat.reduceAdd, Nat.reduceMul, Nat.reduceSub, Nat.reduceLT, Nat.reduceLeDiff, Int.reduceLT, Int.reduceLE, Int.reduceEq, Int.reduceNe, Int.reduceAdd, Int.reduceNeg, Int.reduceToNat, h1, h5, h8, h9, h10, hgp1, hop1, hlt, o27]
      rw [List.take_of_length_le (by omega)] at o27 ⊢
      exact ⟨hG, hO, frzA_osl (frzp_nats (Nat.le_add_right _ _) rfl o27 rfl) rfl⟩

end Go.Proofs.Ytfhmibodjfpdfaa
