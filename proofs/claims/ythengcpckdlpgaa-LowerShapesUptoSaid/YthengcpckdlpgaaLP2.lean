/- The code of expressions may be. -/
import Derived.Test.YthengcpckdlpgaaLP1
set_option linter.unusedSimpArgs false
set_option linter.unusedVariables false
namespace Go.Lower
variable {w : Int} {ps : Sig} {f : Nat} {word : Bool} {T : Nat → Option Int}

theorem okI_of {at' : Nat} {x : Ins} {d : Int} (t p : Int) (h1 : takes ps word x = some (t, p)) (h2 : 0 ≤ t) (h3 : t ≤ d) (h4 : x.op ≠ 8 ∧ x.op ≠ 9 ∧ x.op ≠ 11) (h5 : T (at' + 1) = some (d - t + p)) : OkI ps word T at' x d := by
  refine ⟨t, p, h1, h2, h3, fun h => absurd h h4.2.2, fun k hk => ?_⟩
  simp only [next, h4.1, h4.2.1, h4.2.2, if_false, List.mem_singleton] at hk
  exact ⟨at' + 1, hk, h5⟩

theorem okI_jump {at' : Nat} {a b n d : Int} (k : Nat) (ha : a = (k : Int)) (hd : 0 ≤ d) (h : T k = some d) : OkI ps word T at' ⟨8, a, b, n⟩ d := by
  refine ⟨0, 0, rfl, Int.le_refl _, hd, fun h => absurd h (by simp), fun k' hk => ?_⟩
  simp only [next, if_true, List.mem_singleton] at hk
  exact ⟨k, by rw [hk, ha], by rw [h]; simp⟩

theorem okI_zero {at' : Nat} {a b n d : Int} (k : Nat) (ha : a = (k : Int)) (hd : 0 ≤ d) (h : T k = some d) (h1 : T (at' + 1) = some d) : OkI ps word T at' ⟨9, a, b, n⟩ (d + 1) := by
  refine ⟨1, 0, rfl, by decide, by omega, fun h => absurd h (by simp), fun k' hk => ?_⟩
  simp only [next, show ¬ ((9 : Int) = 8) by decide, if_false, if_true, List.mem_cons, List.not_mem_nil, or_false] at hk
  rcases hk with rfl | rfl
  · exact ⟨at' + 1, rfl, by rw [h1]; simp⟩
  · exact ⟨k, ha, by rw [h]; simp⟩

theorem one_len {lv kind op num slot size d : Int} {n : Nat} (h : okE w ps f lv kind op num slot size n) (hk : ¬ (kind = 8 ∨ kind = 9)) : (one kind op num slot size d).length = 1 := by
  obtain ⟨_, _, _, _, _, h⟩ := h
  rcases h with ⟨h | h, _⟩ | ⟨h, _⟩ | ⟨h, _⟩ | ⟨h, _⟩ | ⟨h, _⟩ | ⟨h, _⟩ | ⟨h, _⟩
  any_goals (subst h; rfl)
  exact absurd h hk

theorem one_good {lv kind op num slot size d : Int} {n at' : Nat} (h : okE w ps f lv kind op num slot size n) (hk : ¬ (kind = 8 ∨ kind = 9)) (hd : 0 ≤ d) (hT : T (at' + 1) = some (d + 1)) :
    (one kind op num slot size (d + n)).length = 1 ∧ Good ps word T at' (one kind op num slot size (d + n)) ∧ (Seg T at' (one kind op num slot size (d + n)) → T at' = some (d + n)) := by
  obtain ⟨_, _, _, _, _, h⟩ := h
  rcases h with ⟨h | h, hn⟩ | ⟨h, _, hn⟩ | ⟨h, _, _, _, hn⟩ | ⟨h, k, hs, hkf, hps⟩ | ⟨h, _, _, hn⟩ | ⟨h, hn⟩ | ⟨h, _⟩
  · subst h hn
    exact ⟨rfl, ⟨okI_of 0 1 rfl (by decide) (by omega) (by simp) (by rw [hT]; congr 1; omega), trivial⟩, fun h => h.1⟩
  · subst h hn
    exact ⟨rfl, ⟨okI_of 0 1 rfl (by decide) (by omega) (by simp) (by rw [hT]; congr 1; omega), trivial⟩, fun h => h.1⟩
  · subst h hn
    exact ⟨rfl, ⟨okI_of 0 1 rfl (by decide) (by omega) (by simp) (by rw [hT]; congr 1; omega), trivial⟩, fun h => h.1⟩
  · subst h hn
    exact ⟨rfl, ⟨okI_of 1 1 rfl (by decide) (by omega) (by simp) (by rw [hT]; congr 1; omega), trivial⟩, fun h => h.1⟩
  · subst h hs
    refine ⟨rfl, ⟨okI_of n 1 ?_ (by omega) (by omega) (by simp) (by rw [hT]; congr 1; omega), trivial⟩, fun h => h.1⟩
    have : ¬ ((k : Nat) : Int) < 0 := by omega
    simp [takes, hps, this]
  · subst h hn
    exact ⟨rfl, ⟨okI_of 2 1 rfl (by decide) (by omega) (by simp) (by rw [hT]; congr 1; omega), trivial⟩, fun h => h.1⟩
  · subst h hn
    exact ⟨rfl, ⟨okI_of 1 1 rfl (by decide) (by omega) (by simp) (by rw [hT]; congr 1; omega), trivial⟩, fun h => h.1⟩
  · exact absurd h hk

theorem joinE_good {kind d : Int} {at' : Nat} {c0 : Code} {c1 : Nat → Code} (hd : 0 ≤ d)
    (h0 : Seg T at' c0 → T (at' + c0.length) = some (d + 1) → T at' = some d ∧ Good ps word T at' c0)
    (h1 : ∀ r, Seg T r (c1 r) → T (r + (c1 r).length) = some (d + 1) → T r = some d ∧ Good ps word T r (c1 r))
    (hs : Seg T at' (joinE at' d kind c0 c1)) (hT : T (at' + (joinE at' d kind c0 c1).length) = some (d + 1)) : T at' = some d ∧ Good ps word T at' (joinE at' d kind c0 c1) := by
  unfold joinE at hs hT ⊢
  simp only at hs hT ⊢
  rw [seg_app, seg_app] at hs
  obtain ⟨s0, sn, hs⟩ := hs
  simp only [Seg] at hs
  obtain ⟨tz, tp, tj, hs⟩ := hs
  rw [seg_app] at hs
  obtain ⟨s1, t1, t2, _⟩ := hs
  have hnl : (notIf kind d).length = 0 ∧ notIf kind d = [] ∨ (notIf kind d).length = 1 ∧ notIf kind d = [(⟨7, 0, 0, 0⟩, d + 1)] := by
    unfold notIf; split
    · exact .inr ⟨rfl, rfl⟩
    · exact .inl ⟨rfl, rfl⟩
  generalize hr : at' + c0.length + (notIf kind d).length = r at *
  have e3 : r + 1 + 1 + 1 = r + 3 := by omega
  rw [e3] at s1 t1 t2
  obtain ⟨hr3, g1⟩ := h1 (r + 3) s1 t1
  have hTe : T (r + 3 + (c1 (r + 3)).length + 2) = some (d + 1) := by
    rw [← hT]; congr 1
    simp only [List.length_append, List.length_cons, List.length_nil]; omega
  have ht0 : T (at' + c0.length) = some (d + 1) := by
    rcases hnl with ⟨hl, _⟩ | ⟨hl, he⟩
    · rw [← tz]; congr 1; omega
    · rw [he] at sn; exact sn.1
  obtain ⟨ha, g0⟩ := h0 s0 ht0
  refine ⟨ha, ?_⟩
  rw [good_app, good_app]
  refine ⟨g0, ?_, ?_⟩
  · rcases hnl with ⟨_, he⟩ | ⟨hl, he⟩
    · rw [he]; trivial
    · rw [he]
      exact ⟨okI_of 1 1 rfl (by decide) (by omega) (by simp) (by rw [show at' + c0.length + 1 = r by omega, tz]; congr 1; omega), trivial⟩
  · rw [hr]
    refine ⟨okI_zero (r + 3) rfl hd hr3 tp, okI_of 0 1 rfl (by decide) hd (by simp) (by rw [tj]; congr 1; omega), okI_jump (r + 3 + (c1 (r + 3)).length + 2) rfl (by omega) hTe, ?_⟩
    rw [e3, good_app]
    exact ⟨g1, okI_of 1 1 rfl (by decide) (by omega) (by simp) (by rw [t2]; congr 1; omega), okI_of 1 1 rfl (by decide) (by omega) (by simp) (by rw [show r + 3 + (c1 (r + 3)).length + 1 + 1 = r + 3 + (c1 (r + 3)).length + 2 by omega, hTe]; congr 1; omega), trivial⟩

mutual
theorem cE_good : ∀ (e : Ex) {lv d : Int} {at' : Nat}, rE w ps f lv e → 0 ≤ d → Seg T at' (cE at' d e) → T (at' + (cE at' d e).length) = some (d + 1) → T at' = some d ∧ Good ps word T at' (cE at' d e)
  | .mk kind op num slot size kids, lv, d, at', h, hd, hs, hT => by
    rw [rE] at h
    rw [cE] at hs hT ⊢
    by_cases hk : kind = 8 ∨ kind = 9
    · rw [if_pos hk] at hs hT ⊢
      have hn : kids.length = 2 := by
        obtain ⟨⟨_, _, _, _, _, h⟩, _⟩ := h
        omega
      exact cAO_good kids hn h.2 hd hs hT
    · rw [if_neg hk] at hs hT ⊢
      rw [seg_app] at hs
      obtain ⟨hl, hg, hse⟩ := one_good (T := T) (word := word) (at' := at' + (cEs at' d kids).length) h.1 hk hd (by rw [← hT, List.length_append, one_len h.1 hk, Nat.add_assoc])
      have := cEs_good kids h.2 hd hs.1 (hse hs.2)
      exact ⟨this.1, good_app.2 ⟨this.2, hg⟩⟩
theorem cEs_good : ∀ (l : List Ex) {lv d : Int} {at' : Nat}, rEs w ps f lv l → 0 ≤ d → Seg T at' (cEs at' d l) → T (at' + (cEs at' d l).length) = some (d + l.length) → T at' = some d ∧ Good ps word T at' (cEs at' d l)
  | [], lv, d, at', h, hd, hs, hT => by
    rw [cEs] at hT ⊢
    exact ⟨by simpa using hT, trivial⟩
  | e :: l, lv, d, at', h, hd, hs, hT => by
    rw [rEs] at h
    rw [cEs] at hs hT ⊢
    rw [seg_app] at hs
    obtain ⟨t1, g1⟩ := cEs_good l h.2 (by omega) hs.2 (by rw [List.length_append, ← Nat.add_assoc] at hT; rw [hT]; congr 1; simp only [List.length_cons]; omega)
    obtain ⟨t0, g0⟩ := cE_good e h.1 hd hs.1 t1
    exact ⟨t0, good_app.2 ⟨g0, g1⟩⟩
theorem cAO_good : ∀ (l : List Ex) {lv d kind : Int} {at' : Nat}, l.length = 2 → rEs w ps f lv l → 0 ≤ d → Seg T at' (cAO at' d kind l) → T (at' + (cAO at' d kind l).length) = some (d + 1) → T at' = some d ∧ Good ps word T at' (cAO at' d kind l)
  | [], lv, d, kind, at', hn, h, hd, hs, hT => by cases hn
  | e :: l, lv, d, kind, at', hn, h, hd, hs, hT => by
    rw [rEs] at h
    rw [cAO] at hs hT ⊢
    exact joinE_good hd (fun s t => cE_good e h.1 hd s t) (fun r s t => c1st_good l (by simpa using hn) h.2 hd s t) hs hT
theorem c1st_good : ∀ (l : List Ex) {lv d : Int} {at' : Nat}, l.length = 1 → rEs w ps f lv l → 0 ≤ d → Seg T at' (c1st at' d l) → T (at' + (c1st at' d l).length) = some (d + 1) → T at' = some d ∧ Good ps word T at' (c1st at' d l)
  | [], lv, d, at', hn, h, hd, hs, hT => by cases hn
  | e :: l, lv, d, at', hn, h, hd, hs, hT => by
    rw [rEs] at h
    rw [c1st] at hs hT ⊢
    exact cE_good e h.1 hd hs hT
end

end Go.Lower
