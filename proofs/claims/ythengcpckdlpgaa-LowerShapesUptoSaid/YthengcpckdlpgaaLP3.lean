/- The code of statements, and of a function, may be. -/
import Derived.Test.YthengcpckdlpgaaLP2
set_option linter.unusedSimpArgs false
set_option linter.unusedVariables false
namespace Go.Lower
variable {w : Int} {ps : Sig} {f : Nat} {word : Bool} {T : Nat → Option Int}

def leave (word : Bool) : Code := if word then [(⟨1, 0, 0, 0⟩, 0), (⟨11, 0, 0, 0⟩, 1)] else [(⟨11, 0, 0, 0⟩, 0)]

def whileC (at' : Nat) (c0 : Code) (c1 : Nat → Code) : Code :=
  c0 ++ (⟨9, (at' + c0.length + 1 + (c1 (at' + c0.length + 1)).length + 1 : Nat), 0, 0⟩, 1) :: (c1 (at' + c0.length + 1) ++ [(⟨8, (at' : Int), 0, 0⟩, 0)])
/-- Behind the condition's code. -/
def ifC (at' : Nat) (c1 : Nat → Code) (has : Bool) (c2 : Nat → Code) : Code :=
  if has then
    let r := at' + 1 + (c1 (at' + 1)).length + 1
    (⟨9, (r : Int), 0, 0⟩, 1) :: (c1 (at' + 1) ++ (⟨8, (r + (c2 r).length : Nat), 0, 0⟩, 0) :: c2 r)
  else (⟨9, (at' + 1 + (c1 (at' + 1)).length : Nat), 0, 0⟩, 1) :: c1 (at' + 1)
def endC (word : Bool) (kind slot size : Int) (n : Nat) : Code :=
  if kind = 1 then [(⟨3, slot, 0, 0⟩, n)] else if kind = 2 then [(⟨5, slot, size, 0⟩, n)] else if kind = 3 then [(⟨13, 0, 0, 0⟩, n)]
  else if kind = 6 then [(⟨10, slot, 0, 0⟩, n)] else if kind = 7 then (if n = 0 then leave word else [(⟨11, 0, 0, 0⟩, n)]) else []

mutual
def cS (word : Bool) (at' : Nat) : Stm → Code
  | .mk kind slot size e th el =>
    if kind = 5 then whileC at' (c1st at' 0 e) (fun r => cSs word r th)
    else cEs at' 0 e ++ (if kind = 4 then ifC (at' + (cEs at' 0 e).length) (fun r => cSs word r th) (!el.isEmpty) (fun r => cSs word r el) else endC word kind slot size e.length)
def cSs (word : Bool) (at' : Nat) : List Stm → Code
  | [] => []
  | e :: l => cS word at' e ++ cSs word (at' + (cS word at' e).length) l
end

theorem leave_good {at' : Nat} (hs : Seg T at' (leave word)) : T at' = some 0 ∧ Good ps word T at' (leave word) := by
  cases word with
  | true =>
    obtain ⟨h1, h2, _⟩ := hs
    exact ⟨h1, okI_of 0 1 rfl (by decide) (by decide) (by simp) h2, ⟨1, 0, rfl, by decide, by decide, fun _ => rfl, fun k hk => by simp [next] at hk⟩, trivial⟩
  | false =>
    obtain ⟨h1, _⟩ := hs
    exact ⟨h1, ⟨0, 0, rfl, by decide, by decide, fun _ => rfl, fun k hk => by simp [next] at hk⟩, trivial⟩

theorem endC_good {lv kind slot size : Int} {n nt ne at' : Nat} (h : okS w ps f word lv kind slot size n nt ne) (h4 : kind ≠ 4) (h5 : kind ≠ 5) (hs : Seg T at' (endC word kind slot size n)) (hT : T (at' + (endC word kind slot size n).length) = some 0) :
    T at' = some (n : Int) ∧ Good ps word T at' (endC word kind slot size n) := by
  obtain ⟨_, _, _, _, _, h⟩ := h
  rcases h with ⟨h, _, hn⟩ | ⟨h, _, _, _, hn⟩ | ⟨h, hn⟩ | ⟨h, k, hsl, hkf, hps⟩ | ⟨h, hn⟩
  · subst h hn
    exact ⟨hs.1, okI_of 1 0 rfl (by decide) (by decide) (by simp) hT, trivial⟩
  · subst h hn
    exact ⟨hs.1, okI_of 2 0 rfl (by decide) (by decide) (by simp) hT, trivial⟩
  · subst hn
    rcases h with h | h | h
    · subst h
      exact ⟨hs.1, okI_of 1 0 rfl (by decide) (by decide) (by simp) hT, trivial⟩
    · exact absurd h h4
    · exact absurd h h5
  · subst h hsl
    refine ⟨hs.1, okI_of n 0 ?_ (by omega) (by omega) (by simp) (by rw [show at' + 1 = at' + (endC word 6 (k : Int) size n).length from rfl, hT]; congr 1; omega), trivial⟩
    have : ¬ ((k : Nat) : Int) < 0 := by omega
    simp [takes, hps, this]
  · subst h
    rcases hn with hn | ⟨hw, hn⟩
    · subst hn
      exact leave_good hs
    · subst hw hn
      exact ⟨hs.1, ⟨1, 0, rfl, by decide, by decide, fun _ => rfl, fun k hk => by simp [next] at hk⟩, trivial⟩

theorem whileC_good {at' : Nat} {c0 : Code} {c1 : Nat → Code}
    (h0 : Seg T at' c0 → T (at' + c0.length) = some 1 → T at' = some 0 ∧ Good ps word T at' c0)
    (h1 : ∀ r, Seg T r (c1 r) → T (r + (c1 r).length) = some 0 → T r = some 0 ∧ Good ps word T r (c1 r))
    (hs : Seg T at' (whileC at' c0 c1)) (hT : T (at' + (whileC at' c0 c1).length) = some 0) : T at' = some 0 ∧ Good ps word T at' (whileC at' c0 c1) := by
  unfold whileC at hs hT ⊢
  rw [seg_app] at hs
  obtain ⟨s0, tz, hs⟩ := hs
  rw [seg_app] at hs
  obtain ⟨s1, tj, _⟩ := hs
  obtain ⟨ha, g0⟩ := h0 s0 tz
  obtain ⟨hr, g1⟩ := h1 _ s1 tj
  refine ⟨ha, good_app.2 ⟨g0, okI_zero _ rfl (by decide) ?_ hr, good_app.2 ⟨g1, okI_jump at' rfl (by decide) ha, trivial⟩⟩⟩
  rw [← hT]; congr 1
  simp only [List.length_append, List.length_cons, List.length_nil]; omega

theorem ifC_good {at' : Nat} {has : Bool} {c1 c2 : Nat → Code}
    (h1 : ∀ r, Seg T r (c1 r) → T (r + (c1 r).length) = some 0 → T r = some 0 ∧ Good ps word T r (c1 r))
    (h2 : ∀ r, Seg T r (c2 r) → T (r + (c2 r).length) = some 0 → T r = some 0 ∧ Good ps word T r (c2 r))
    (hs : Seg T at' (ifC at' c1 has c2)) (hT : T (at' + (ifC at' c1 has c2).length) = some 0) : T at' = some 1 ∧ Good ps word T at' (ifC at' c1 has c2) := by
  unfold ifC at hs hT ⊢
  cases has with
  | false =>
    simp only [Bool.false_eq_true, if_false] at hs hT ⊢
    obtain ⟨tz, s1⟩ := hs
    have hT' : T (at' + 1 + (c1 (at' + 1)).length) = some 0 := by rw [← hT]; congr 1; simp only [List.length_cons]; omega
    obtain ⟨hr, g1⟩ := h1 _ s1 hT'
    exact ⟨tz, okI_zero _ rfl (by decide) hT' hr, g1⟩
  | true =>
    simp only [if_true] at hs hT ⊢
    obtain ⟨tz, hs⟩ := hs
    rw [seg_app] at hs
    obtain ⟨s1, tj, s2⟩ := hs
    generalize hr : at' + 1 + (c1 (at' + 1)).length + 1 = r at *
    have hT' : T (r + (c2 r).length) = some 0 := by rw [← hT]; congr 1; simp only [List.length_cons, List.length_append]; omega
    obtain ⟨hr1, g1⟩ := h1 _ s1 tj
    obtain ⟨hr2, g2⟩ := h2 _ s2 hT'
    refine ⟨tz, okI_zero _ rfl (by decide) hr2 hr1, good_app.2 ⟨g1, okI_jump _ rfl (by decide) hT', ?_⟩⟩
    rw [hr]; exact g2

mutual
theorem cS_good : ∀ (s : Stm) {lv : Int} {at' : Nat}, rS w ps f word lv s → Seg T at' (cS word at' s) → T (at' + (cS word at' s).length) = some 0 → T at' = some 0 ∧ Good ps word T at' (cS word at' s)
  | .mk kind slot size e th el, lv, at', h, hs, hT => by
    rw [rS] at h
    obtain ⟨hok, he, hth, hel⟩ := h
    rw [cS] at hs hT ⊢
    by_cases h5 : kind = 5
    · rw [if_pos h5] at hs hT ⊢
      have hn : e.length = 1 := by
        obtain ⟨_, _, _, _, _, h⟩ := hok
        omega
      exact whileC_good (fun s t => c1st_good e hn he (by decide) s t) (fun r s t => cSs_good th hth s t) hs hT
    · rw [if_neg h5] at hs hT ⊢
      rw [seg_app] at hs
      obtain ⟨s0, s1⟩ := hs
      rw [List.length_append, ← Nat.add_assoc] at hT
      have key : T (at' + (cEs at' 0 e).length) = some (e.length : Int) ∧ Good ps word T (at' + (cEs at' 0 e).length) (if kind = 4 then ifC (at' + (cEs at' 0 e).length) (fun r => cSs word r th) (!el.isEmpty) (fun r => cSs word r el) else endC word kind slot size e.length) := by
        by_cases h4 : kind = 4
        · rw [if_pos h4] at s1 hT ⊢
          have hn : e.length = 1 := by
            obtain ⟨_, _, _, _, _, h⟩ := hok
            omega
          rw [hn]
          exact ifC_good (fun r s t => cSs_good th hth s t) (fun r s t => cSs_good el hel s t) s1 hT
        · rw [if_neg h4] at s1 hT ⊢
          exact endC_good hok h4 h5 s1 hT
      obtain ⟨t0, g0⟩ := cEs_good e he (Int.le_refl 0) s0 (by rw [key.1]; congr 1; omega)
      exact ⟨t0, good_app.2 ⟨g0, key.2⟩⟩
theorem cSs_good : ∀ (l : List Stm) {lv : Int} {at' : Nat}, rSs w ps f word lv l → Seg T at' (cSs word at' l) → T (at' + (cSs word at' l).length) = some 0 → T at' = some 0 ∧ Good ps word T at' (cSs word at' l)
  | [], lv, at', h, hs, hT => by
    rw [cSs] at hT ⊢
    exact ⟨by simpa using hT, trivial⟩
  | e :: l, lv, at', h, hs, hT => by
    rw [rSs] at h
    rw [cSs] at hs hT ⊢
    rw [seg_app] at hs
    rw [List.length_append, ← Nat.add_assoc] at hT
    obtain ⟨t1, g1⟩ := cSs_good l h.2 hs.2 hT
    obtain ⟨t0, g0⟩ := cS_good e h.1 hs.1 t1
    exact ⟨t0, good_app.2 ⟨g0, g1⟩⟩
end

def codeOf (word : Bool) (body : List Stm) : Code := cSs word 0 body ++ leave word

theorem seg_self : ∀ (c pre : Code), Seg (fun k => ((pre ++ c)[k]?).map Prod.snd) pre.length c
  | [], _ => trivial
  | (x, d) :: c, pre => by
    refine ⟨by simp, ?_⟩
    have := seg_self c (pre ++ [(x, d)])
    simpa using this

/-- A function's code: the depths that it carries are right. -/
theorem codeOf_good {body : List Stm} (h : rSs w ps f word 1 body) :
    let T := fun k => ((codeOf word body)[k]?).map Prod.snd
    T 0 = some 0 ∧ Good ps word T 0 (codeOf word body) := by
  intro T
  have hs : Seg T 0 (codeOf word body) := seg_self (codeOf word body) []
  unfold codeOf at hs ⊢
  rw [seg_app] at hs
  obtain ⟨hl, gl⟩ := leave_good (ps := ps) hs.2
  obtain ⟨h0, g0⟩ := cSs_good body h hs.1 hl
  exact ⟨h0, good_app.2 ⟨g0, gl⟩⟩

end Go.Lower
