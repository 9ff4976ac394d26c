/- Objects that are given up: what they hold is data from then on. -/
import Derived.Test.YthengcpckdlpgaaAm13
set_option linter.unusedSimpArgs false
set_option linter.unusedVariables false
namespace Go.Am

/-- Frz, over the objects P alone. -/
inductive FrzP (P : Nat → Prop) (s : St) : C → D → Prop where
  | d (x : D) : FrzP P s (.d x) x
  | nil : FrzP P s (.d .nsl) (.sl [])
  | osl {id g sz off len : Nat} {cells : List C} {es : List (List D)} (hp : P id) (hg : s.gen id = g) (ho : s.obj id = some cells) (hfit : off + len * sz ≤ cells.length) (hlen : es.length = len) (hsz : ∀ e ∈ es, e.length = sz)
      (cf : Nat → C) (hc : ∀ (j : Nat) (x : D), es.flatten[j]? = some x → cells[off + j]? = some (cf j)) (hf : ∀ (j : Nat) (x : D), es.flatten[j]? = some x → FrzP P s (cf j) x) : FrzP P s (.osl id g sz off len) (.sl es)

section
variable {b₀ : Bs} {β : Loc} {w : World}

theorem FrzP.rep {P : Nat → Prop} {N : Nat} {s : St} {a : Act} {ob' : Obs} (hob' : ∀ id, (ob' id).isSome = true → (s.obj id).isSome = true ∧ ¬ P id) (hr : Rel b₀ N s β a w) {c : C} {x : D} (h : FrzP P s c x) :
    ∀ {v : Value}, RepC b₀ β s.gen s.obj w c v → RepD (Imm b₀ β ob' w) w x v := by
  induction h with
  | d x =>
    intro v hv
    have hv : RepD (Imm b₀ β s.obj w) w x v := hv
    exact hv.mono fun b hb => ⟨⟨hb.1, hb.2.1, fun id a' ho hβ => hb.2.2 id a' (hob' id ho).1 hβ⟩, rfl⟩
  | nil =>
    intro v hv
    have hv : RepD (Imm b₀ β s.obj w) w .nsl v := hv
    rw [hv.inv_nsl]
    exact .sl0
  | osl hp hg ho hfit hlen hsz cf hc hf ih =>
    rename_i id g sz off len cells es
    intro v hv
    have hat := osl_live hv hg (by rw [ho]; rfl)
    have hob := hr.obj id cells ho
    cases hβ : β id with
    | none =>
      rw [hβ] at hat
      obtain ⟨rfl, rfl⟩ := hat
      have : es = [] := List.eq_nil_of_length_eq_zero hlen
      subst this
      exact .sl0
    | some ad =>
      rw [hβ] at hat hob
      obtain ⟨hsp, hat⟩ := hat
      obtain ⟨hB, arr, el, lo, hi, hblk, hfr, hal, hcells⟩ := hob.cells hsp
      rcases hat with ⟨cap, rfl, hcap, _⟩ | ⟨hl0, o, rfl⟩
      · rw [← hlen]
        have hval : ∀ i e, es[i]? = some e → ∀ j x, e[j]? = some x → es.flatten[i * sz + j]? = some x := fun i e he j x hx => by
          have : ∀ (es : List (List D)) (_ : ∀ e ∈ es, e.length = sz) i, es[i]? = some e → es.flatten[i * sz + j]? = some x := by
            intro es
            induction es with
            | nil => intro _ i h; simp at h
            | cons e' es ihe =>
              intro hs i h
              have hl := hs e' (by simp)
              cases i with
              | zero =>
                simp at h
                subst h
                rw [List.flatten_cons, List.getElem?_append_left (by simpa using (List.getElem?_eq_some_iff.1 hx).1)]
                simpa using hx
              | succ i =>
                rw [List.flatten_cons, List.getElem?_append_right (by rw [hl, Nat.add_mul]; omega), hl, show (i + 1) * sz + j - sz = i * sz + j by rw [Nat.add_mul]; omega]
                exact ihe (fun e h => hs e (by simp [h])) i (by simpa using h)
          exact this es hsz i he
        have hcell : ∀ m x, es.flatten[m]? = some x → ∃ u, w.cell? ⟨ad.block, ad.off + off + m, none⟩ = some u ∧ RepD (Imm b₀ β ob' w) w x u := fun m x hx => by
          obtain ⟨u, hu, hru⟩ := hcells _ _ (hc m x hx)
          exact ⟨u, by rw [cell?_of_arr hblk, Nat.add_assoc]; exact hu, ih m x hx hru⟩
        have hJ : Imm b₀ β ob' w ad.block := ⟨(Array.getElem?_eq_some_iff.1 hblk).1, fun h => absurd hB (by omega), fun id2 a2 ho2 hβ2 he => by
          obtain ⟨h1, h2⟩ := hob' id2 ho2
          exact h2 (hr.inj id2 id a2 ad h1 (by rw [ho]; rfl) hβ2 hβ he ▸ hp)⟩
        refine .sl (b := ad.block) (off := ad.off + off) (sz := sz) (fun i j => (w.cell? ⟨ad.block, ad.off + off + (i * sz + j), none⟩).getD undef) (by omega) (fun _ => hJ) hsz (fun i e he j x hx => ?_) (fun i e he j x hx => ?_)
        · obtain ⟨u, hu, _⟩ := hcell _ x (hval i e he j x hx)
          rw [Nat.add_assoc, hu]; rfl
        · obtain ⟨u, hu, hru⟩ := hcell _ x (hval i e he j x hx)
          rw [hu]; exact hru
      · subst hl0
        have : es = [] := List.eq_nil_of_length_eq_zero hlen
        subst this
        exact .sl0

theorem mapRep_frz {P : Nat → Prop} {s s' : St} {β' : Loc} (hkeep : Keep b₀ β s.gen s.obj w β' s'.gen s'.obj w) (hrep : ∀ {c : C} {x : D} {v : Value}, RepC b₀ β s.gen s.obj w c v → FrzP P s c x → RepD (Imm b₀ β' s'.obj w) w x v) {kd : TypeDesc} :
    ∀ {cells : List C} {es : List MapEntry} {cells' : List C}, MapRep (RepC b₀ β s.gen s.obj w) kd cells es → cells'.length = cells.length → (∀ (j : Nat) (c c' : C), cells[j]? = some c → cells'[j]? = some c' → c' = c ∨ ∃ x, FrzP P s c x ∧ c' = .d x) → MapRep (RepC b₀ β' s'.gen s'.obj w) kd cells' es := by
  intro cells es cells' h
  induction h generalizing cells' with
  | nil => intro hl _; rw [List.eq_nil_of_length_eq_zero hl]; exact .nil
  | cons hk h1 h2 _ ih =>
    rename_i k c e cs es _
    intro hl hc
    match cells', hl with
    | k' :: c' :: cs', hl =>
      have e0 := hc 0 _ _ rfl rfl
      have hk' : k' = .d k := by
        rcases e0 with rfl | ⟨x, hx, rfl⟩
        · rfl
        · cases hx with
          | d => rfl
          | nil => exfalso; cases kd <;> simp [okKey] at hk
      subst hk'
      refine .cons hk h1 ?_ (ih (by simpa using hl) (fun j c1 c2 q1 q2 => hc (j + 2) c1 c2 (by simpa using q1) (by simpa using q2)))
      rcases hc 1 _ _ rfl rfl with rfl | ⟨x, hx, rfl⟩
      · exact RepC.keep hkeep h2
      · exact hrep h2 hx

/-- Some objects are given up, and what points to them is told as data. -/
theorem vs_freeze (P : Nat → Prop) {s s' : St} (hg : s'.gen = s.gen)
    (hf : ∀ i, s'.f i = s.f i ∨ ∃ c x, s.f i = .one c ∧ s'.f i = .one (.d x) ∧ FrzP P s c x)
    (ho : ∀ i cells', s'.obj i = some cells' → ¬ P i ∧ ∃ cells, s.obj i = some cells ∧ cells'.length = cells.length ∧ ∀ (j : Nat) (c c' : C), cells[j]? = some c → cells'[j]? = some c' → c' = c ∨ ∃ x, FrzP P s c x ∧ c' = .d x) : SemVs s s' := by
  intro b₀ N β a w hr
  have hob' : ∀ id, (s'.obj id).isSome = true → (s.obj id).isSome = true ∧ ¬ P id := fun id h => by
    cases hq : s'.obj id with
    | none => rw [hq] at h; cases h
    | some cells' =>
      obtain ⟨h1, cells, h2, _⟩ := ho id cells' hq
      exact ⟨by rw [h2]; rfl, h1⟩
  have hkeep : Keep b₀ β s.gen s.obj w β s'.gen s'.obj w :=
    ⟨fun b hb => ⟨⟨hb.1, hb.2.1, fun id a' h1 h2 => hb.2.2 id a' (hob' id h1).1 h2⟩, rfl⟩, fun _ => by rw [hg]; exact Nat.le_refl _,
      fun id _ h => ⟨(hob' id h).1, rfl, fun a' _ arr el fr h1 => ⟨arr, el, fr, h1, Nat.le_refl _⟩⟩⟩
  refine ⟨β, ⟨hr.defers, hr.size, fun i => ?_, fun id cells' hc' => ?_, fun i1 i2 a1 a2 h1 h2 => hr.inj i1 i2 a1 a2 (hob' i1 h1).1 (hob' i2 h2).1, hr.base⟩, Nat.le_refl _, fun _ _ => rfl, hkeep, rfl, rfl⟩
  · rcases hf i with h1 | ⟨c, x, h1, h2, h3⟩
    · rw [h1]; exact RepV.keep hkeep _ (hr.f i)
    · have := hr.f i
      rw [h1] at this
      rw [h2]
      exact FrzP.rep hob' hr h3 this
  · obtain ⟨_, cells, h2, h3, h4⟩ := ho id cells' hc'
    have hob := hr.obj id cells h2
    cases hβ : β id with
    | none =>
      rw [hβ] at hob
      have hz : cells = [] := hob
      subst hz
      exact List.eq_nil_of_length_eq_zero h3
    | some ad =>
      rw [hβ] at hob
      cases hs : ad.spot with
      | some kd =>
        obtain ⟨m1, es, clock, m2, m3⟩ := hob.map hs
        refine .ofMap hs ⟨m1, es, clock, m2, ?_⟩
        exact mapRep_frz hkeep (fun h hx => FrzP.rep hob' hr hx h) m3 h3 h4
      | none =>
      obtain ⟨g2, arr, el, lo, hi, g3, g4, g5, g6⟩ := hob.cells hs
      refine .ofCells hs ⟨g2, arr, el, lo, hi, g3, g4, by omega, fun j c' hc2 => ?_⟩
      have hj : j < cells.length := by rw [← h3]; exact (List.getElem?_eq_some_iff.1 hc2).1
      obtain ⟨v, hv, hrv⟩ := g6 j cells[j] (List.getElem?_eq_getElem hj)
      refine ⟨v, hv, ?_⟩
      rcases h4 j cells[j] c' (List.getElem?_eq_getElem hj) hc2 with rfl | ⟨x, hx, rfl⟩
      · exact RepC.keep hkeep hrv
      · exact FrzP.rep hob' hr hx hrv

/-- A slice of one-cell elements. -/
theorem frzp_map {α : Type} {P : Nat → Prop} {s : St} {id g off len : Nat} {cells : List C} (hp : P id) (hg : s.gen id = g) (ho : s.obj id = some cells) (l : List α) (enc : α → D) (hlen : l.length = len)
    (hc : ∀ (j : Nat) (a : α), l[j]? = some a → cells[off + j]? = some (.d (enc a))) (hfit : off + len ≤ cells.length) : FrzP P s (.osl id g 1 off len) (.sl (l.map fun a => [enc a])) := by
  have hfl : (l.map fun a => [enc a]).flatten = l.map enc := by
    clear hlen hc
    induction l with
    | nil => rfl
    | cons a l ih => simp [ih]
  refine .osl hp hg ho (by omega) (by simpa using hlen) (fun e he => by obtain ⟨a, _, rfl⟩ := List.mem_map.1 he; rfl) (fun j => (cells[off + j]?).getD (.d .nsl)) (fun j x hx => ?_) (fun j x hx => ?_)
  · rw [hfl, List.getElem?_map] at hx
    cases hq : l[j]? with
    | none => rw [hq] at hx; cases hx
    | some a => rw [hc j a hq]; rfl
  · rw [hfl, List.getElem?_map] at hx
    cases hq : l[j]? with
    | none => rw [hq] at hx; cases hx
    | some a =>
      rw [hq] at hx
      simp only [Option.map_some, Option.some.injEq] at hx
      subst hx
      rw [hc j a hq]
      exact .d (enc a)

/-- One object is given up; another one that pointed to it holds it as data. -/
def St.drop1 (s : St) (id o : Nat) (cs : List C) : St := { s with obj := fun i => if i = id then none else if i = o then some cs else s.obj i }
theorem vs_drop1 {s : St} {id o : Nat} {cells cs : List C} (ho : s.obj o = some cells) (hl : cs.length = cells.length)
    (h : ∀ (j : Nat) (c c' : C), cells[j]? = some c → cs[j]? = some c' → c' = c ∨ ∃ x, FrzP (· = id) s c x ∧ c' = .d x) : SemVs s (s.drop1 id o cs) := by
  refine vs_freeze (· = id) rfl (fun i => .inl rfl) (fun i cells' hc => ?_)
  simp only [St.drop1] at hc
  by_cases h1 : i = id
  · rw [if_pos h1] at hc; cases hc
  · rw [if_neg h1] at hc
    refine ⟨h1, ?_⟩
    by_cases h2 : i = o
    · rw [if_pos h2] at hc
      cases hc
      subst h2
      exact ⟨cells, ho, hl, h⟩
    · rw [if_neg h2] at hc
      exact ⟨cells', hc, rfl, fun j c c' e1 e2 => .inl (by rw [e1] at e2; exact (Option.some.inj e2).symm)⟩

end
end Go.Am
