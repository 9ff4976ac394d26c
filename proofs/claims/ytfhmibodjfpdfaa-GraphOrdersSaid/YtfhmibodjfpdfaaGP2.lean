/- A part of the proof; no conditions. -/
import Derived.Test.YtfhmibodjfpdfaaGP
set_option linter.unusedSimpArgs false
set_option linter.unusedVariables false
namespace Go.Proofs.Ytfhmibodjfpdfaa

theorem IsLv.hit {ys : List (List Nat)} (hR : Rt ys) {lv : List Nat} (h : IsLv ys lv) : ∀ m a, a < ys.length → lv.getD a 0 = m → ∀ k, k ≤ m → ∃ p, p < ys.length ∧ lv.getD p 0 = k
  | 0, a, ha, hm, k, hk => ⟨a, ha, by omega⟩
  | m + 1, a, ha, hm, k, hk => by
    by_cases he : k = m + 1
    · exact ⟨a, ha, by omega⟩
    · rcases h.at' a with h0 | ⟨p, hp, h1⟩
      · omega
      · exact IsLv.hit hR h m p (hR.lt hp).1 (by omega) k (by omega)

theorem mem_group {lv : List Nat} {i k a : Nat} : a ∈ group lv i k ↔ a < i ∧ lv.getD a 0 = k := by
  simp only [group, List.mem_filter, List.mem_range, beq_iff_eq]

theorem nodup_flat : ∀ {L : List (List Nat)}, (∀ l ∈ L, l.Nodup) → L.Pairwise (fun a b => ∀ x ∈ a, ∀ y ∈ b, x ≠ y) → L.flatten.Nodup
  | [], _, _ => by simp
  | l :: L, h, hp => by
    rw [List.pairwise_cons] at hp
    rw [List.flatten_cons, List.nodup_append]
    refine ⟨h l (by simp), nodup_flat (fun l hl => h l (by simp [hl])) hp.2, fun x hx y hy => ?_⟩
    obtain ⟨m, hm, hym⟩ := List.mem_flatten.1 hy
    exact hp.1 m hm x hx y hym

theorem groups_nodup (lv : List Nat) : (groups lv).flatten.Nodup := by
  refine nodup_flat (fun l hl => ?_) ?_
  · obtain ⟨k, _, rfl⟩ := List.mem_map.1 hl
    exact List.nodup_range.filter _
  · rw [groups, List.pairwise_map]
    refine List.Pairwise.imp ?_ List.nodup_range
    intro a b hab x hx y hy hxy
    subst hxy
    exact hab ((mem_group.1 hx).2.symm.trans (mem_group.1 hy).2)

theorem groups_mem {lv : List Nat} {a : Nat} : a ∈ (groups lv).flatten ↔ a < lv.length := by
  simp only [groups, List.mem_flatten, List.mem_map, List.mem_range]
  constructor
  · rintro ⟨_, ⟨k, _, rfl⟩, ha⟩; exact (mem_group.1 ha).1
  · intro ha; exact ⟨_, ⟨lv.getD a 0, depth_ge ha, rfl⟩, mem_group.2 ⟨ha, rfl⟩⟩

theorem groups_flat {lv : List Nat} : (groups lv).flatten.length ≤ lv.length := nodup_length (groups_nodup lv) (fun _ ha => groups_mem.1 ha)

theorem length_flat : ∀ {L : List (List Nat)}, (∀ l ∈ L, l ≠ []) → L.length ≤ L.flatten.length
  | [], _ => by simp
  | l :: L, h => by
    have h1 := length_flat (L := L) (fun l hl => h l (by simp [hl]))
    have h2 : 0 < l.length := List.length_pos_iff.2 (h l (by simp))
    simp only [List.flatten_cons, List.length_append, List.length_cons]; omega

theorem IsLv.nonempty {ys : List (List Nat)} (hR : Rt ys) {lv : List Nat} (h : IsLv ys lv) {k : Nat} (hk : k < depth lv) : group lv lv.length k ≠ [] := by
  rcases depth_at (lv := lv) with ⟨h0, _⟩ | ⟨a, ha, h1⟩
  · omega
  · obtain ⟨p, hp, h2⟩ := h.hit hR _ a (by rw [← h.len]; exact ha) rfl k (by omega)
    intro he
    have : p ∈ group lv lv.length k := mem_group.2 ⟨by rw [h.len]; exact hp, h2⟩
    rw [he] at this; cases this

theorem IsLv.depth_le {ys : List (List Nat)} (hR : Rt ys) {lv : List Nat} (h : IsLv ys lv) : depth lv ≤ ys.length := by
  have h1 := length_flat (L := groups lv) (fun l hl => by
    obtain ⟨k, hk, rfl⟩ := List.mem_map.1 hl
    exact h.nonempty hR (List.mem_range.1 hk))
  have h2 := groups_flat (lv := lv)
  have h3 : (groups lv).length = depth lv := by simp [groups]
  have := h.len
  omega

end Go.Proofs.Ytfhmibodjfpdfaa
