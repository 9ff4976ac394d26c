/- More view shifts, and loops that begin with one. -/
import Derived.Test.YthengcpckdlpgaaAm12
set_option linter.unusedSimpArgs false
set_option linter.unusedVariables false
namespace Go.Am

theorem SemVs.trans {s s₁ s₂ : St} (h : SemVs s s₁) (h' : SemVs s₁ s₂) : SemVs s s₂ := fun b₀ N β a w hr => by
  obtain ⟨β1, r1, t1⟩ := h b₀ N β a w hr
  obtain ⟨β2, r2, t2⟩ := h' b₀ N β1 a w r1
  exact ⟨β2, r2, t1.trans t2⟩

/-- The state in which a variable's nil slice is an empty object of its own. -/
def St.grab (s : St) (t id sz : Nat) : St :=
  { f := upd s.f t (.one (.osl id (s.gen id + 1) sz 0 0)), gen := upd s.gen id (s.gen id + 1), obj := upd s.obj id (some []) }

theorem vs_grab {s : St} {t id sz : Nat} (ht : s.f t = .one (.d .nsl)) : SemVs s (s.grab t id sz) := by
  intro b₀ N β a w hr
  let β' : Loc := fun i => if i = id then none else β i
  have hkeep : Keep b₀ β s.gen s.obj w β' (s.grab t id sz).gen (s.grab t id sz).obj w := by
    refine ⟨fun x hx => ⟨⟨hx.1, hx.2.1, fun i a' hi hβ' => ?_⟩, rfl⟩, fun i => ?_, fun i hg hi => ?_⟩
    · simp only [St.grab, upd, β'] at hi hβ'
      split at hβ'
      · cases hβ'
      · rename_i hne
        simp only [hne, if_false] at hi
        exact hx.2.2 i a' hi hβ'
    · simp only [St.grab, upd]; split
      · rename_i h; subst h; omega
      · omega
    · simp only [St.grab, upd, β'] at hg hi ⊢
      by_cases hne : i = id
      · subst hne; simp at hg
      · simp only [hne, if_false] at hi ⊢
        exact ⟨hi, trivial, fun a' ha' arr1 el1 fr1 h1 => ⟨arr1, el1, fr1, h1, Nat.le_refl _⟩⟩
  refine ⟨β', ⟨hr.defers, hr.size, fun i => ?_, fun i cells' hc' => ?_, fun i1 i2 a1 a2 h1 h2 hb1 hb2 hb => ?_, hr.base⟩, Nat.le_refl _, fun _ _ => rfl, hkeep, rfl, rfl⟩
  · by_cases he : i = t
    · subst he
      have hf := hr.f i
      rw [ht] at hf
      simp only [RepV, RepC] at hf
      rw [hf.inv_nsl]
      simp only [St.grab, upd, if_true, RepV, RepC]
      refine ⟨rfl, Nat.le_refl _, fun _ _ => ?_⟩
      simp only [β', if_true]
      exact ⟨rfl, rfl⟩
    · have := RepV.keep hkeep _ (hr.f i)
      simpa only [St.grab, upd, he, if_false] using this
  · simp only [St.grab, upd, β'] at hc' ⊢
    by_cases hne : i = id
    · simp only [hne, if_true, Option.some.injEq] at hc' ⊢
      subst hc'
      rfl
    · simp only [hne, if_false] at hc' ⊢
      exact (hr.obj i cells' hc').keep hkeep (fun _ _ => rfl)
  · simp only [St.grab, upd, β'] at h1 h2 hb1 hb2
    split at hb1
    · cases hb1
    · split at hb2
      · cases hb2
      · rename_i n1 n2
        simp only [n1, n2, if_false] at h1 h2
        exact hr.inj i1 i2 a1 a2 h1 h2 hb1 hb2 hb

/-- A loop that is entered in a state told anew. -/
theorem loop_vs {P : Program} {B : (Exit → St → Prop) → St → Prop} {b : Box B} {Q : Exit → St → Prop} {q : Box Q} {s : St} (s₁ : St) (hv : SemVs s s₁) (I : Nat → St → Prop) (n : Nat) (h0 : I n s₁)
    (hr : ∀ n f g ob, I n ⟨f, g, ob⟩ → B (thenA (bx fun s' => ∃ n' s₁, n' < n ∧ (sp P).vs s' s₁ ∧ I n' s₁) q) ⟨f, g, ob⟩) : LoopA (sp P) b q s :=
  ⟨I, ⟨n, s₁, hv, h0⟩, fun n s hs => hr n s.f s.gen s.obj hs⟩

end Go.Am
