/- A part of the proof; no conditions. -/
import Derived.Test.YtfhmibodjfpdfaaGP2
set_option linter.unusedSimpArgs false
set_option linter.unusedVariables false
namespace Go.Proofs.Ytfhmibodjfpdfaa

/-! ### Levels, one after the other -/
structure J (ys : List (List Nat)) (t : Nat) (lv : List Nat) : Prop where
  len : lv.length = ys.length
  le : ∀ a, lv.getD a 0 ≤ t
  lt : ∀ a p, lv.getD a 0 < t → p ∈ row ys a → lv.getD p 0 + 1 ≤ lv.getD a 0
  back : ∀ a, lv.getD a 0 = 0 ∨ ∃ p ∈ row ys a, lv.getD a 0 ≤ lv.getD p 0 + 1
  hit : t = 0 ∨ ∃ a, a < ys.length ∧ lv.getD a 0 + 1 = t

theorem rep0 (n a : Nat) : (List.replicate n 0).getD a 0 = 0 := by
  simp only [List.getD, List.getElem?_replicate]; split <;> rfl

theorem J.init (ys : List (List Nat)) : J ys 0 (List.replicate ys.length 0) :=
  ⟨by simp, fun a => by rw [rep0]; exact Nat.le_refl _, fun a p h => absurd h (by omega), fun a => .inl (rep0 _ _), .inl rfl⟩

/-- Is it to be done now? -/
def isNow (ys : List (List Nat)) (t : Nat) (lv : List Nat) (a : Nat) : Bool := decide (¬ lv.getD a 0 < t) && decide (∀ p ∈ row ys a, lv.getD p 0 < t)
def nowOf (ys : List (List Nat)) (t : Nat) (lv : List Nat) (i : Nat) : List Nat := (List.range i).filter (isNow ys t lv)
def nextLv (ys : List (List Nat)) (t : Nat) (lv : List Nat) : List Nat :=
  (List.range ys.length).map fun a => if lv.getD a 0 < t then lv.getD a 0 else if ∀ p ∈ row ys a, lv.getD p 0 < t then t else t + 1

theorem nextLv_get {ys : List (List Nat)} {t : Nat} {lv : List Nat} {a : Nat} (ha : a < ys.length) :
    (nextLv ys t lv).getD a 0 = if lv.getD a 0 < t then lv.getD a 0 else if ∀ p ∈ row ys a, lv.getD p 0 < t then t else t + 1 := by
  simp only [nextLv, List.getD, List.getElem?_map, List.getElem?_range ha, Option.map_some, Option.getD_some]
theorem nextLv_out {ys : List (List Nat)} {t : Nat} {lv : List Nat} {a : Nat} (ha : ¬ a < ys.length) : (nextLv ys t lv).getD a 0 = 0 := by
  simp only [nextLv, List.getD]
  rw [List.getElem?_eq_none (by simp; omega)]; rfl

theorem J.next {ys : List (List Nat)} (hR : Rt ys) {t : Nat} {lv : List Nat} (h : J ys t lv) (hn : nowOf ys t lv ys.length ≠ []) : J ys (t + 1) (nextLv ys t lv) := by
  have hmono : ∀ a, a < ys.length → lv.getD a 0 ≤ (nextLv ys t lv).getD a 0 := fun a ha => by
    rw [nextLv_get ha]
    have := h.le a
    split
    · omega
    · split <;> omega
  refine ⟨by simp [nextLv], fun a => ?_, fun a p hlt hp => ?_, fun a => ?_, ?_⟩
  · by_cases ha : a < ys.length
    · rw [nextLv_get ha]
      split
      · omega
      · split <;> omega
    · rw [nextLv_out ha]; omega
  · obtain ⟨hpn, ha⟩ := hR.lt hp
    rw [nextLv_get ha] at hlt ⊢
    rw [nextLv_get hpn]
    by_cases h1 : lv.getD a 0 < t
    · have := h.lt a p h1 hp
      simp only [h1, if_true]
      rw [if_pos (by omega)]
      omega
    · simp only [h1, if_false] at hlt ⊢
      by_cases h2 : ∀ p ∈ row ys a, lv.getD p 0 < t
      · rw [if_pos h2, if_pos (h2 p hp)]; exact h2 p hp
      · rw [if_neg h2] at hlt; omega
  · by_cases ha : a < ys.length
    · rw [nextLv_get ha]
      by_cases h1 : lv.getD a 0 < t
      · simp only [h1, if_true]
        rcases h.back a with h0 | ⟨p, hp, h2⟩
        · exact .inl h0
        · have := hmono p (hR.lt hp).1
          exact .inr ⟨p, hp, by omega⟩
      · simp only [h1, if_false]
        by_cases h2 : ∀ p ∈ row ys a, lv.getD p 0 < t
        · rw [if_pos h2]
          have h4 := h.le a
          rcases h.back a with h0 | ⟨p, hp, h3⟩
          · exact .inl (by omega)
          · have := hmono p (hR.lt hp).1
            exact .inr ⟨p, hp, by omega⟩
        · rw [if_neg h2]
          obtain ⟨p, hp⟩ := Classical.not_forall.1 h2
          obtain ⟨hp, h3⟩ := Classical.not_imp.1 hp
          have := hmono p (hR.lt hp).1
          exact .inr ⟨p, hp, by omega⟩
    · rw [nextLv_out ha]; exact .inl rfl
  · right
    obtain ⟨a, l, hl⟩ := List.exists_cons_of_ne_nil hn
    have hm : a ∈ nowOf ys t lv ys.length := by rw [hl]; simp
    simp only [nowOf, isNow, List.mem_filter, List.mem_range, Bool.and_eq_true, decide_eq_true_eq] at hm
    obtain ⟨ha, h1, h2⟩ := hm
    exact ⟨a, ha, by rw [nextLv_get ha, if_neg h1, if_pos h2]⟩

/-- All is done. -/
theorem J.isLv {ys : List (List Nat)} {t : Nat} {lv : List Nat} (h : J ys t lv) (hall : ∀ a, a < ys.length → lv.getD a 0 < t) : IsLv ys lv ∧ depth lv = t := by
  refine ⟨⟨h.len, fun a p hp => ?_, fun a => ?_⟩, ?_⟩
  · by_cases ha : a < ys.length
    · exact h.lt a p (hall a ha) hp
    · rw [row_out (by omega)] at hp; cases hp
  · by_cases ha : a < ys.length
    · rcases h.back a with h0 | ⟨p, hp, h1⟩
      · exact .inl h0
      · have := h.lt a p (hall a ha) hp
        exact .inr ⟨p, hp, by omega⟩
    · left
      rw [List.getD, List.getElem?_eq_none (by rw [h.len]; omega)]; rfl
  · have h1 : t ≤ depth lv := by
      rcases h.hit with h0 | ⟨a, ha, h1⟩
      · omega
      · have := depth_ge (lv := lv) (a := a) (by rw [h.len]; exact ha); omega
    rcases depth_at (lv := lv) with ⟨h2, _⟩ | ⟨a, ha, h2⟩
    · omega
    · have := hall a (by rw [← h.len]; exact ha); omega

/-- Nothing can be done. -/
theorem J.noLv {ys : List (List Nat)} (hR : Rt ys) {t : Nat} {lv : List Nat} (hnow : nowOf ys t lv ys.length = []) (hsome : ∃ a, a < ys.length ∧ ¬ lv.getD a 0 < t) : ¬ ∃ l, IsLv ys l := by
  rintro ⟨l, hl⟩
  have key : ∀ n a, a < ys.length → l.getD a 0 ≤ n → lv.getD a 0 < t := by
    intro n
    induction n using Nat.strongRecOn with
    | ind n ih =>
      intro a ha hn
      refine Classical.byContradiction fun hna => ?_
      have hm : a ∈ nowOf ys t lv ys.length := by
        simp only [nowOf, isNow, List.mem_filter, List.mem_range, Bool.and_eq_true, decide_eq_true_eq]
        refine ⟨ha, hna, fun p hp => ?_⟩
        have := hl.ge a p hp
        exact ih (l.getD p 0) (by omega) p (hR.lt hp).1 (Nat.le_refl _)
      rw [hnow] at hm; cases hm
  obtain ⟨a, ha, h1⟩ := hsome
  exact h1 (key _ a ha (Nat.le_refl _))

theorem nextLv_group {ys : List (List Nat)} {t : Nat} {lv : List Nat} (h : J ys t lv) {k : Nat} (hk : k < t) : group (nextLv ys t lv) ys.length k = group lv ys.length k := by
  simp only [group]
  apply List.filter_congr
  intro a ha
  have ha := List.mem_range.1 ha
  rw [nextLv_get ha]
  have h1 := h.le a
  by_cases h2 : lv.getD a 0 < t
  · rw [if_pos h2]
  · rw [if_neg h2]
    have e1 : ¬ lv.getD a 0 = k := by omega
    have e2 : ¬ (if ∀ p ∈ row ys a, lv.getD p 0 < t then t else t + 1) = k := by split <;> omega
    rw [beq_eq_false_iff_ne.2 e1, beq_eq_false_iff_ne.2 e2]
theorem nextLv_now {ys : List (List Nat)} {t : Nat} {lv : List Nat} (h : J ys t lv) : group (nextLv ys t lv) ys.length t = nowOf ys t lv ys.length := by
  simp only [group, nowOf]
  apply List.filter_congr
  intro a ha
  have ha := List.mem_range.1 ha
  rw [nextLv_get ha, isNow]
  have h1 := h.le a
  by_cases h2 : lv.getD a 0 < t
  · have e : ¬ lv.getD a 0 = t := by omega
    rw [if_pos h2, beq_eq_false_iff_ne.2 e]; simp only [h2, not_true_eq_false, decide_false, Bool.false_and]
  · rw [if_neg h2]
    by_cases h3 : ∀ p ∈ row ys a, lv.getD p 0 < t
    · rw [if_pos h3]; simp only [h2, not_false_eq_true, decide_true, Bool.true_and, decide_eq_true h3, beq_self_eq_true]
    · rw [if_neg h3]
      have e : ¬ t + 1 = t := by omega
      rw [beq_eq_false_iff_ne.2 e]; simp only [h3, decide_false, Bool.and_false]

def doneOf (t : Nat) (lv : List Nat) : List Bool := lv.map fun v => decide (v < t)
theorem doneOf_get {t : Nat} {lv : List Nat} {a : Nat} (h : a < lv.length) : (doneOf t lv)[a]? = some (decide (lv.getD a 0 < t)) := by
  simp [doneOf, List.getD, List.getElem?_eq_getElem h]

/-- How many are left. -/
def undone (ys : List (List Nat)) (t : Nat) (lv : List Nat) : Nat := (List.range ys.length).countP fun a => decide (¬ lv.getD a 0 < t)

theorem undone_zero {ys : List (List Nat)} : undone ys 0 (List.replicate ys.length 0) = ys.length := by
  rw [undone, List.countP_eq_length.2 (fun a _ => by simp)]; simp
theorem undone_le {ys : List (List Nat)} {t : Nat} {lv : List Nat} : undone ys t lv ≤ ys.length := by
  have := List.countP_le_length (p := fun a => decide (¬ lv.getD a 0 < t)) (l := List.range ys.length)
  simpa [undone] using this
theorem undone_pos {ys : List (List Nat)} {t : Nat} {lv : List Nat} : 0 < undone ys t lv ↔ ∃ a, a < ys.length ∧ ¬ lv.getD a 0 < t := by
  rw [undone, List.countP_pos_iff]
  constructor
  · rintro ⟨a, ha, h⟩; exact ⟨a, List.mem_range.1 ha, of_decide_eq_true h⟩
  · rintro ⟨a, ha, h⟩; exact ⟨a, List.mem_range.2 ha, decide_eq_true h⟩
theorem undone_next {ys : List (List Nat)} {t : Nat} {lv : List Nat} (h : J ys t lv) : undone ys (t + 1) (nextLv ys t lv) + (nowOf ys t lv ys.length).length = undone ys t lv := by
  rw [nowOf, ← List.countP_eq_length_filter, undone, undone]
  have key : ∀ l : List Nat, (∀ a ∈ l, a < ys.length) → l.countP (fun a => decide (¬ (nextLv ys t lv).getD a 0 < t + 1)) + l.countP (isNow ys t lv) = l.countP (fun a => decide (¬ lv.getD a 0 < t)) := by
    intro l
    induction l with
    | nil => intro _; rfl
    | cons a l ih =>
      intro hl
      have h1 := ih (fun b hb => hl b (by simp [hb]))
      have ha := hl a (by simp)
      simp only [List.countP_cons, nextLv_get ha, isNow] at h1 ⊢
      by_cases h2 : lv.getD a 0 < t
      · have e : lv.getD a 0 < t + 1 := by omega
        simp only [h2, if_true, e, not_true_eq_false, decide_false, Bool.false_and, Bool.false_eq_true, if_false]
        exact h1
      · by_cases h3 : ∀ p ∈ row ys a, lv.getD p 0 < t
        · have e : t < t + 1 := by omega
          simp only [h2, if_false, if_pos h3, e, not_true_eq_false, not_false_eq_true, decide_false, decide_true, Bool.true_and, decide_eq_true h3, Bool.false_eq_true, if_true]
          omega
        · have e : ¬ t + 1 < t + 1 := by omega
          simp only [h2, if_false, if_neg h3, e, not_false_eq_true, decide_true, decide_eq_false h3, Bool.and_false, Bool.false_eq_true, if_true]
          omega
  exact key _ (fun a ha => List.mem_range.1 ha)

end Go.Proofs.Ytfhmibodjfpdfaa
