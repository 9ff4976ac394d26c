/- A need less, in plain Lean. -/
import Derived.Test.YtfhmibodjfpdfaaG18
import Derived.Test.YtfhmibodjfpdfaaAm19
set_option linter.unusedSimpArgs false
set_option linter.unusedVariables false
namespace Go.Proofs.Ytfhmibodjfpdfaa
open Go Go.Am

def lrow (r : List Nat) (out : Nat) : List Nat := r.take out ++ r.drop (out + 1)
def less (ys : List (List Nat)) (at' out : Nat) : List (List Nat) := ys.set at' (lrow (row ys at') out)
def dcells (ys : List (List Nat)) : List C := ys.map fun r => .d (nats r)
theorem dcells_len {ys : List (List Nat)} : (dcells ys).length = ys.length := by simp [dcells]
theorem dcells_flat : ∀ ys : List (List Nat), ((ys.map fun r => [nats r]).flatten.map C.d) = dcells ys
  | [] => rfl
  | a :: ys => by simp only [List.map_cons, List.flatten_cons, List.map_append, dcells_flat ys]; rfl
theorem ncells_nil : ncells [] = [] := rfl

theorem row_less {ys : List (List Nat)} {at' out a : Nat} : row (less ys at' out) a = if a = at' ∧ at' < ys.length then lrow (row ys at') out else row ys a := by
  simp only [row, less, List.getD, List.getElem?_set]
  by_cases h : at' = a
  · subst h
    by_cases h2 : at' < ys.length
    · simp [h2]
    · simp [h2, List.getElem?_eq_none (Nat.not_lt.1 h2)]
  · have : ¬ a = at' := fun e => h e.symm
    simp [h, this]

theorem mem_lrow {r : List Nat} {out m : Nat} (h : m ∈ lrow r out) : m ∈ r := by
  rcases List.mem_append.1 h with h | h
  · exact List.mem_of_mem_take h
  · exact List.mem_of_mem_drop h

theorem less_sub {ys : List (List Nat)} {at' out a m : Nat} (h : m ∈ row (less ys at' out) a) : m ∈ row ys a := by
  rw [row_less] at h
  split at h
  · rename_i e; rw [e.1]; exact mem_lrow h
  · exact h

theorem less_len {ys : List (List Nat)} {at' out : Nat} : (less ys at' out).length = ys.length := by simp [less]

theorem less_Rt {ys : List (List Nat)} (hR : Rt ys) {at' out : Nat} : Rt (less ys at' out) := by
  intro r hr m hm
  obtain ⟨i, hi⟩ := List.getElem?_of_mem hr
  rw [less_len]
  exact (hR.lt (a := i) (less_sub (by rw [row_of hi]; exact hm))).1

theorem less_lv {ys : List (List Nat)} (hR : Rt ys) {lv : List Nat} (h : IsLv ys lv) (at' out : Nat) : ∃ lw, IsLv (less ys at' out) lw ∧ (∀ a, lw.getD a 0 ≤ lv.getD a 0) ∧ depth lw ≤ depth lv := by
  obtain ⟨lw, hw⟩ := lv_of_rank (less_Rt hR (at' := at') (out := out)) (fun a => lv.getD a 0) (fun a _ p hp => by have := h.ge a p (less_sub hp); show lv.getD p 0 < lv.getD a 0; omega)
  have hle : ∀ m a, lw.getD a 0 = m → m ≤ lv.getD a 0 := by
    intro m
    induction m using Nat.strongRecOn with
    | ind m ih =>
      intro a ha
      rcases hw.at' a with h0 | ⟨p, hp, he⟩
      · omega
      · have h1 := ih (lw.getD p 0) (by omega) p rfl
        have h2 := h.ge a p (less_sub hp)
        omega
  refine ⟨lw, hw, fun a => hle _ a rfl, ?_⟩
  rcases depth_at (lv := lw) with ⟨h0, _⟩ | ⟨a, ha, he⟩
  · omega
  · have h1 := hle _ a rfl
    have h2 := hw.len
    have h3 := h.len
    have := depth_ge (lv := lv) (a := a) (by rw [h3, ← less_len (at' := at') (out := out), ← h2]; exact ha)
    omega

/-- The levels, laid into a list one by one. -/
def Laid (lv : List Nat) (n k : Nat) (S O : List Nat) : Prop := O.length = n ∧ ∀ a, a < n → O.getD a 0 = if lv.getD a 0 < k ∨ a ∈ S then lv.getD a 0 else 0

theorem Laid.init (lv : List Nat) (n : Nat) : Laid lv n 0 [] (List.replicate n 0) := ⟨by simp, fun a ha => by rw [rep0]; simp⟩

theorem Laid.step {lv : List Nat} {n k j x : Nat} {O : List Nat} (hn : lv.length = n) (h : Laid lv n k ((group lv n k).take j) O) (hx : (group lv n k)[j]? = some x) : Laid lv n k ((group lv n k).take (j + 1)) (O.set x k) := by
  obtain ⟨h1, h2⟩ := h
  obtain ⟨hxn, hxk⟩ := mem_group.1 (List.mem_of_getElem? hx)
  refine ⟨by simp [h1], fun a ha => ?_⟩
  have htk : (group lv n k).take (j + 1) = (group lv n k).take j ++ [x] := by rw [List.take_add_one, hx]; rfl
  rw [getD_set _ _ _ _ (by omega), htk]
  by_cases hax : a = x
  · subst hax
    rw [if_pos rfl, if_pos (.inr (by simp)), hxk]
  · rw [if_neg hax, h2 a ha]
    simp [hax]

theorem Laid.next {lv : List Nat} {n k : Nat} {O : List Nat} (h : Laid lv n k (group lv n k) O) : Laid lv n (k + 1) [] O := by
  refine ⟨h.1, fun a ha => ?_⟩
  rw [h.2 a ha]
  by_cases h1 : lv.getD a 0 < k
  · simp only [h1, true_or, if_true]
    rw [if_pos (.inl (by omega))]
  · by_cases h2 : lv.getD a 0 = k
    · rw [if_pos (.inr (mem_group.2 ⟨ha, h2⟩)), if_pos (.inl (by omega))]
    · rw [if_neg (by rintro (h | h); exact h1 h; exact h2 (mem_group.1 h).2), if_neg (by rintro (h | h); omega; cases h)]

theorem Laid.done {lv : List Nat} {n : Nat} (hn : lv.length = n) {O : List Nat} (h : Laid lv n (depth lv) [] O) : O = lv := by
  apply List.ext_getElem?
  intro a
  by_cases ha : a < n
  · have := h.2 a ha
    rw [if_pos (.inl (depth_ge (by omega)))] at this
    simp only [List.getD] at this
    rw [List.getElem?_eq_getElem (by rw [h.1]; exact ha), List.getElem?_eq_getElem (by omega)] at this ⊢
    simpa using this
  · rw [List.getElem?_eq_none (by rw [h.1]; omega), List.getElem?_eq_none (by omega)]

theorem groups_get {lv : List Nat} {k : Nat} (h : k < depth lv) : (groups lv)[k]? = some (group lv lv.length k) := by
  simp [groups, h]
theorem groups_len {lv : List Nat} : (groups lv).length = depth lv := by simp [groups]

end Go.Proofs.Ytfhmibodjfpdfaa
