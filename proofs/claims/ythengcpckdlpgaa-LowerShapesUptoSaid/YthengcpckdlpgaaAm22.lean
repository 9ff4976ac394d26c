/- A nil slice in an object's cell is told as an empty object of its own; objects are given up. -/
import Derived.Test.YthengcpckdlpgaaAm21
set_option linter.unusedSimpArgs false
set_option linter.unusedVariables false
namespace Go.Am

section
variable {P : Program} {T : Nat → TI} {b₀ : Bs} {β : Loc} {w : World}

def St.claimAt (s : St) (o b j sz : Nat) (cells : List C) : St := ⟨s.f, upd s.gen b (s.gen b + 1), upd (upd s.obj o (some (cells.set j (.osl b (s.gen b + 1) sz 0 0)))) b (some [])⟩

theorem vs_claimAt' {s : St} {t o b j sz : Nat} {cells : List C} (ht : (∃ off, s.f t = .one (.ptr o (s.gen o) off)) ∨ ∃ sz off len, s.f t = .one (.osl o (s.gen o) sz off len)) (ho : s.obj o = some cells) (hj : cells[j]? = some (.d .nsl)) (n1 : o ≠ b) : SemVs s (s.claimAt o b j sz cells) := by
  intro b₀ N β a w hr
  let β' : Loc := fun i => if i = b then none else β i
  have hlive : ∀ i, i ≠ b → ((s.claimAt o b j sz cells).obj i).isSome = true → (s.obj i).isSome = true := fun i hib hi => by
    simp only [St.claimAt, upd, if_neg hib] at hi
    by_cases e2 : i = o
    · subst e2; rw [ho]; rfl
    · rwa [if_neg e2] at hi
  have hkeep : Keep b₀ β s.gen s.obj w β' (s.claimAt o b j sz cells).gen (s.claimAt o b j sz cells).obj w := by
    refine ⟨fun x hx => ⟨⟨hx.1, hx.2.1, fun i a' hi hβ => ?_⟩, rfl⟩, fun i => ?_, fun i hg hi => ?_⟩
    · by_cases hib : i = b
      · simp [β', hib] at hβ
      · simp only [β', if_neg hib] at hβ
        exact hx.2.2 i a' (hlive i hib hi) hβ
    · simp only [St.claimAt, upd]; split
      · rename_i e; subst e; omega
      · omega
    · by_cases hib : i = b
      · subst hib; simp [St.claimAt, upd] at hg
      · exact ⟨hlive i hib hi, by simp [β', hib], fun a' _ arr el fr h => ⟨arr, el, fr, h, Nat.le_refl _⟩⟩
  have hspot : ∀ ad, β o = some ad → ad.spot = none := fun ad hβ => by
    have hv := hr.f t
    rcases ht with ⟨off, ht⟩ | ⟨sz, off, len, ht⟩
    · rw [ht] at hv
      simp only [RepV, RepC] at hv
      obtain ⟨a', h1, h2, _⟩ := hv.2.2 trivial (by rw [ho]; rfl)
      rw [hβ] at h1; cases h1; exact h2
    · rw [ht] at hv
      simp only [RepV] at hv
      exact (osl_live hv rfl (by rw [ho]; rfl)).spot ad hβ
  refine ⟨β', ⟨hr.defers, hr.size, fun i => RepV.keep hkeep _ (hr.f i), fun i cells' hc' => ?_, fun i1 i2 a1 a2 l1 l2 b1 b2 hb => ?_, hr.base⟩, Nat.le_refl _, fun _ _ => rfl, hkeep, rfl, rfl⟩
  · by_cases hib : i = b
    · subst hib
      simp only [St.claimAt, upd, if_true, Option.some.injEq] at hc'
      subst hc'
      simp only [β', if_true]
      rfl
    · by_cases e2 : i = o
      · subst e2
        simp only [St.claimAt, upd, if_neg hib, if_true, Option.some.injEq] at hc'
        subst hc'
        have hob := hr.obj i cells ho
        have hβ' : β' i = β i := by simp [β', n1]
        rw [hβ']
        cases hβ : β i with
        | none => rw [hβ] at hob; have : cells = [] := hob; subst this; simp at hj
        | some ad =>
          rw [hβ] at hob
          obtain ⟨g1, arr, el, lo, hi, g2, g3, g4, g5⟩ := hob.cells (hspot ad hβ)
          refine .ofCells (hspot ad hβ) ⟨g1, arr, el, lo, hi, g2, g3, by simpa using g4, fun k c hk => ?_⟩
          by_cases hkj : k = j
          · subst hkj
            have hlt := (List.getElem?_eq_some_iff.1 hj).1
            rw [List.getElem?_set_self hlt] at hk
            cases hk
            obtain ⟨v, hv, hrv⟩ := g5 k _ hj
            simp only [RepC] at hrv
            obtain rfl := hrv.inv_nsl
            refine ⟨_, hv, rfl, by simp [St.claimAt, upd], fun _ _ => ?_⟩
            simp only [β', if_true]
            exact ⟨rfl, rfl⟩
          · rw [List.getElem?_set_ne (Ne.symm hkj)] at hk
            obtain ⟨v, hv, hrv⟩ := g5 k c hk
            exact ⟨v, hv, hrv.keep hkeep⟩
      · simp only [St.claimAt, upd, if_neg hib, if_neg e2] at hc'
        have := (hr.obj i cells' hc').keep hkeep (fun _ _ => rfl)
        simpa [β', hib] using this
  · have h1 : i1 ≠ b := fun e => by simp [β', e] at b1
    have h2 : i2 ≠ b := fun e => by simp [β', e] at b2
    simp only [β', if_neg h1] at b1
    simp only [β', if_neg h2] at b2
    exact hr.inj i1 i2 a1 a2 (hlive i1 h1 l1) (hlive i2 h2 l2) b1 b2 hb

theorem vs_claimAt {s : St} {t o b j sz off : Nat} {cells : List C} (ht : s.f t = .one (.ptr o (s.gen o) off)) (ho : s.obj o = some cells) (hj : cells[j]? = some (.d .nsl)) (n1 : o ≠ b) : SemVs s (s.claimAt o b j sz cells) :=
  vs_claimAt' (.inl ⟨off, ht⟩) ho hj n1

end
end Go.Am
