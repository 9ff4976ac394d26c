/- Everything stands once, behind all that it needs: in plain Lean. -/
import Derived.Test.YtfhmibodjfpdfaaG17
set_option linter.unusedSimpArgs false
set_option linter.unusedVariables false
namespace Go.Proofs.Ytfhmibodjfpdfaa
open Go Go.Am

theorem nodup_le : ∀ {n : Nat} {l : List Nat}, l.Nodup → (∀ a, a < n → a ∈ l) → n ≤ l.length
  | 0, _, _, _ => Nat.zero_le _
  | n + 1, l, hd, h => by
    have hm := h n (Nat.lt_succ_self n)
    have h1 := nodup_le (n := n) (l := l.erase n) (hd.erase n) (fun a ha => (List.mem_erase_of_ne (by omega)).2 (h a (by omega)))
    have h2 := List.length_erase_of_mem hm
    have h3 : 0 < l.length := List.length_pos_of_mem hm
    omega

theorem groups_all {lv : List Nat} : (groups lv).flatten.length = lv.length :=
  Nat.le_antisymm groups_flat (nodup_le (groups_nodup lv) (fun _ ha => groups_mem.2 ha))

theorem groups_order (lv : List Nat) : (groups lv).flatten.Pairwise (fun a b => lv.getD a 0 ≤ lv.getD b 0) := by
  rw [List.pairwise_flatten]
  constructor
  · intro l hl
    obtain ⟨k, _, rfl⟩ := List.mem_map.1 hl
    refine List.Pairwise.imp_of_mem (R := fun _ _ => True) (fun {a b} ha hb _ => ?_) (List.pairwise_of_forall (fun _ _ => trivial))
    rw [(mem_group.1 ha).2, (mem_group.1 hb).2]
    exact Nat.le_refl _
  · unfold groups
    rw [List.pairwise_map]
    refine List.Pairwise.imp (fun {k k'} hk a ha b hb => ?_) List.pairwise_lt_range
    rw [(mem_group.1 ha).2, (mem_group.1 hb).2]
    exact Nat.le_of_lt hk

theorem order_behind {ys : List (List Nat)} (hR : Rt ys) {lv : List Nat} (h : IsLv ys lv) {i x p : Nat} (hx : (groups lv).flatten[i]? = some x) (hp : p ∈ row ys x) : p ∈ (groups lv).flatten.take i := by
  have hpn := (hR.lt hp).1
  have hlt := h.ge x p hp
  obtain ⟨j, hj⟩ := List.getElem?_of_mem (groups_mem.2 (by rw [h.len]; exact hpn) : p ∈ (groups lv).flatten)
  have hji : j < i := by
    refine Nat.lt_of_not_le fun hij => ?_
    rcases Nat.lt_or_eq_of_le hij with hij | hij
    · obtain ⟨h1, e1⟩ := List.getElem?_eq_some_iff.1 hx
      obtain ⟨h2, e2⟩ := List.getElem?_eq_some_iff.1 hj
      have := List.pairwise_iff_getElem.1 (groups_order lv) i j h1 h2 hij
      rw [e1, e2] at this
      omega
    · subst hij
      rw [hx] at hj
      cases hj
      omega
  exact List.mem_of_getElem? (i := j) (by rw [List.getElem?_take_of_lt hji]; exact hj)

theorem order_once {lv : List Nat} {i x : Nat} (hx : (groups lv).flatten[i]? = some x) : x ∉ (groups lv).flatten.take i := by
  intro hm
  obtain ⟨j, hj⟩ := List.getElem?_of_mem hm
  have hjl := (List.getElem?_eq_some_iff.1 hj).1
  have hji : j < i := by rw [List.length_take] at hjl; omega
  rw [List.getElem?_take_of_lt hji] at hj
  obtain ⟨h1, e1⟩ := List.getElem?_eq_some_iff.1 hx
  obtain ⟨h2, e2⟩ := List.getElem?_eq_some_iff.1 hj
  have := List.pairwise_iff_getElem.1 (groups_nodup lv) j i h2 h1 hji
  exact this (by rw [e1, e2])

end Go.Proofs.Ytfhmibodjfpdfaa
