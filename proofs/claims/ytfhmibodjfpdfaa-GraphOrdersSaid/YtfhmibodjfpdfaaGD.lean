/- The search for a circle, in plain Lean. -/
import Derived.Test.YtfhmibodjfpdfaaGP3
set_option linter.unusedSimpArgs false
set_option linter.unusedVariables false
namespace Go.Proofs.Ytfhmibodjfpdfaa

theorem min_rank (rank : Nat → Nat) (p : Nat → Prop) : ∀ m a, rank a = m → p a → ∃ b, p b ∧ ∀ c, p c → rank b ≤ rank c := by
  intro m
  induction m using Nat.strongRecOn with
  | ind m ih =>
    intro a ha hp
    by_cases h : ∃ c, p c ∧ rank c < m
    · obtain ⟨c, hc, hlt⟩ := h
      exact ih _ hlt c rfl hc
    · exact ⟨a, hp, fun c hc => ha ▸ Nat.not_lt.1 fun hlt => h ⟨c, hc, hlt⟩⟩

/-- Where needs have lesser ranks, there is an order. -/
theorem lv_of_rank {ys : List (List Nat)} (hR : Rt ys) (rank : Nat → Nat) (hr : ∀ a, a < ys.length → ∀ p ∈ row ys a, rank p < rank a) : ∃ lv, IsLv ys lv := by
  have key : ∀ m t lv, J ys t lv → undone ys t lv = m → ∃ lv, IsLv ys lv := by
    intro m
    induction m using Nat.strongRecOn with
    | ind m ih =>
      intro t lv hJ hm
      by_cases hall : ∀ a, a < ys.length → lv.getD a 0 < t
      · exact ⟨lv, (hJ.isLv hall).1⟩
      · have : ∃ a, a < ys.length ∧ ¬ lv.getD a 0 < t := by
          refine Classical.byContradiction fun h => hall fun a ha => Classical.byContradiction fun h' => h ⟨a, ha, h'⟩
        obtain ⟨a0, ha0, ha0'⟩ := this
        obtain ⟨b, ⟨hb1, hb2⟩, hmin⟩ := min_rank rank (fun a => a < ys.length ∧ ¬ lv.getD a 0 < t) _ a0 rfl ⟨ha0, ha0'⟩
        have hnow : b ∈ nowOf ys t lv ys.length := by
          simp only [nowOf, List.mem_filter, List.mem_range, isNow, Bool.and_eq_true, decide_eq_true_eq]
          refine ⟨hb1, hb2, fun p hp => Classical.byContradiction fun h => ?_⟩
          have h1 := hr b hb1 p hp
          have h2 := hmin p ⟨(hR.lt hp).1, h⟩
          omega
        have hne : nowOf ys t lv ys.length ≠ [] := List.ne_nil_of_mem hnow
        have hun := undone_next hJ
        have hpos : 0 < (nowOf ys t lv ys.length).length := List.length_pos_iff.2 hne
        exact ih (undone ys (t + 1) (nextLv ys t lv)) (by omega) (t + 1) (nextLv ys t lv) (hJ.next hR hne) rfl
  exact key _ 0 _ (J.init ys) rfl

/-- A circle: each needs the next one, the last one the first. -/
structure Circ (ys : List (List Nat)) (c : List Nat) : Prop where
  ne : c ≠ []
  nodup : c.Nodup
  lt : ∀ a ∈ c, a < ys.length
  next : ∀ i a, c[i]? = some a → ∃ b, c[(i + 1) % c.length]? = some b ∧ b ∈ row ys a

theorem Circ.noLv {ys : List (List Nat)} {c : List Nat} (h : Circ ys c) : ¬ ∃ lv, IsLv ys lv := by
  rintro ⟨lv, hl⟩
  have hpos : 0 < c.length := List.length_pos_iff.2 h.ne
  obtain ⟨b, ⟨hb, _⟩, hmin⟩ := min_rank (fun a => lv.getD a 0) (fun a => a ∈ c ∧ True) _ c[0] rfl ⟨List.getElem_mem hpos, trivial⟩
  obtain ⟨i, hi⟩ := List.getElem?_of_mem hb
  obtain ⟨b', h1, h2⟩ := h.next i b hi
  have h3 := hl.ge b b' h2
  have h4 := hmin b' ⟨List.mem_of_getElem? h1, trivial⟩
  omega

/-- The search: what was left, and the path. -/
structure Dfs (ys : List (List Nat)) (done : List Nat) (path : List (Nat × Nat)) : Prop where
  top : ∀ i a, done[i]? = some a → ∀ p ∈ row ys a, p ∈ done.take i
  nodup : (done ++ path.map Prod.fst).Nodup
  lt : ∀ a ∈ done ++ path.map Prod.fst, a < ys.length
  le : ∀ (i : Nat) (t l : Nat), path[i]? = some (t, l) → l ≤ (row ys t).length
  seen : ∀ (i : Nat) (t l : Nat), path[i]? = some (t, l) → ∀ (j x : Nat), j < l → (row ys t)[j]? = some x → x ∈ done ∨ (∃ l', path[i + 1]? = some (x, l'))
  edge : ∀ (i : Nat) (t l : Nat), path[i]? = some (t, l) → ∀ (x l' : Nat), path[i + 1]? = some (x, l') → x ∈ row ys t

theorem Dfs.init (ys : List (List Nat)) : Dfs ys [] [] := ⟨fun i a h => by simp at h, by simp, by simp, fun i t l h => by simp at h, fun i t l h => by simp at h, fun i t l h => by simp at h⟩

theorem Dfs.start {ys : List (List Nat)} {done : List Nat} (h : Dfs ys done []) {s : Nat} (hs : s < ys.length) (hn : s ∉ done) : Dfs ys done [(s, 0)] := by
  have e : ∀ {i t l}, [(s, 0)][i]? = some (t, l) → i = 0 ∧ t = s ∧ l = 0 := fun {i t l} h => by
    cases i with
    | zero => simp at h; exact ⟨rfl, h.1.symm, h.2.symm⟩
    | succ i => simp at h
  refine ⟨h.top, ?_, ?_, ?_, ?_, ?_⟩
  · have := h.nodup
    simp only [List.map_nil, List.append_nil] at this
    show (done ++ [s]).Nodup
    refine List.nodup_append.2 ⟨this, by simp, ?_⟩
    intro a ha b hb e'
    simp at hb; subst hb; subst e'; exact hn ha
  · intro a ha
    have := h.lt a
    simp at this ha
    rcases ha with ha | rfl
    · exact this ha
    · exact hs
  · intro i t l hi; obtain ⟨_, _, rfl⟩ := e hi; omega
  · intro i t l hi j x hj; obtain ⟨_, _, rfl⟩ := e hi; omega
  · intro i t l hi x l' hx; obtain ⟨rfl, _, _⟩ := e hi; simp at hx

theorem snoc_get {α : Type} {P : List α} {x y : α} {i : Nat} (h : (P ++ [x])[i]? = some y) : (i < P.length ∧ P[i]? = some y) ∨ (i = P.length ∧ y = x) := by
  rw [List.getElem?_append] at h
  split at h
  · exact .inl ⟨by omega, h⟩
  · have : i - P.length = 0 := by have := (List.getElem?_eq_some_iff.1 h).1; simpa using this
    rw [this] at h
    simp at h
    exact .inr ⟨by omega, h.symm⟩

theorem snoc_last {α : Type} {P : List α} {x : α} : (P ++ [x])[P.length]? = some x := by simp
theorem snoc_old {α : Type} {P : List α} {x y : α} {i : Nat} (h : P[i]? = some y) : (P ++ [x])[i]? = some y := by
  rw [List.getElem?_append_left (List.getElem?_eq_some_iff.1 h).1]; exact h

/-- The last one of the path is left. -/
theorem Dfs.pop {ys : List (List Nat)} {done : List Nat} {P : List (Nat × Nat)} {t : Nat} (h : Dfs ys done (P ++ [(t, (row ys t).length)])) : Dfs ys (done ++ [t]) P := by
  have hnd := h.nodup
  simp only [List.map_append, List.map_cons, List.map_nil] at hnd
  refine ⟨fun i a ha p hp => ?_, ?_, ?_, fun i t' l hi => h.le i t' l (snoc_old hi), fun i t' l hi j x hj hx => ?_, fun i t' l hi x l' hx => h.edge i t' l (snoc_old hi) x l' (snoc_old hx)⟩
  · rcases snoc_get ha with ⟨h1, h2⟩ | ⟨rfl, rfl⟩
    · rw [List.take_append_of_le_length (by omega)]
      exact h.top i a h2 p hp
    · rw [List.take_left']
      · obtain ⟨j, hj⟩ := List.getElem?_of_mem hp
        rcases h.seen P.length a _ snoc_last j p (List.getElem?_eq_some_iff.1 hj).1 hj with h1 | ⟨l', h1⟩
        · exact h1
        · have := (List.getElem?_eq_some_iff.1 h1).1; simp at this
      · rfl
  · simp only [List.append_assoc, List.cons_append, List.nil_append]
    refine (List.Perm.nodup_iff ?_).2 hnd
    refine List.Perm.append_left _ ?_
    exact (List.perm_append_singleton t _).symm
  · intro a ha
    refine h.lt a ?_
    simp only [List.mem_append, List.map_append, List.map_cons, List.map_nil] at ha ⊢
    rcases ha with (ha | ha) | ha
    · exact .inl ha
    · exact .inr (.inr ha)
    · exact .inr (.inl ha)
  · rcases h.seen i t' l (snoc_old hi) j x hj hx with h1 | ⟨l', h1⟩
    · exact .inl (by simp [h1])
    · rcases snoc_get h1 with ⟨_, h2⟩ | ⟨_, h2⟩
      · exact .inr ⟨l', h2⟩
      · cases h2; exact .inl (by simp)

theorem snoc_cases {α : Type} {P : List α} {x x' : α} {i : Nat} {y : α} (h : (P ++ [x'])[i]? = some y) : (∃ _ : i < P.length, (P ++ [x])[i]? = some y) ∨ (i = P.length ∧ y = x') := by
  rcases snoc_get h with ⟨h1, h2⟩ | h2
  · exact .inl ⟨h1, snoc_old h2⟩
  · exact .inr h2

/-- One more of the last one's needs was looked at: it has been left. -/
theorem Dfs.skip {ys : List (List Nat)} {done : List Nat} {P : List (Nat × Nat)} {t l k : Nat} (h : Dfs ys done (P ++ [(t, l)])) (hk : (row ys t)[l]? = some k) (hd : k ∈ done) : Dfs ys done (P ++ [(t, l + 1)]) := by
  refine ⟨h.top, by simpa using h.nodup, by simpa using h.lt, fun i t' l' hi => ?_, fun i t' l' hi j x hj hx => ?_, fun i t' l' hi x l2 hx => ?_⟩
  · rcases snoc_cases (x := (t, l)) hi with ⟨_, h1⟩ | ⟨rfl, h1⟩
    · exact h.le i t' l' h1
    · cases h1; exact (List.getElem?_eq_some_iff.1 hk).1
  · rcases snoc_cases (x := (t, l)) hi with ⟨hlt, h1⟩ | ⟨rfl, h1⟩
    · rcases h.seen i t' l' h1 j x hj hx with h2 | ⟨l2, h2⟩
      · exact .inl h2
      · rcases snoc_get h2 with ⟨_, h3⟩ | ⟨e, h3⟩
        · exact .inr ⟨l2, snoc_old h3⟩
        · cases h3; exact .inr ⟨l + 1, by rw [e]; exact snoc_last⟩
    · cases h1
      by_cases hjl : j = l
      · subst hjl; rw [hk] at hx; cases hx; exact .inl hd
      · rcases h.seen P.length t l snoc_last j x (by omega) hx with h2 | ⟨l2, h2⟩
        · exact .inl h2
        · have := (List.getElem?_eq_some_iff.1 h2).1; simp at this
  · rcases snoc_get hx with ⟨hx1, h1⟩ | ⟨e, h1⟩
    · rcases snoc_cases (x := (t, l)) hi with ⟨_, h2⟩ | ⟨rfl, h2⟩
      · exact h.edge i t' l' h2 x l2 (snoc_old h1)
      · omega
    · cases h1
      rcases snoc_cases (x := (t, l)) hi with ⟨_, h2⟩ | ⟨e2, h2⟩
      · exact h.edge i t' l' h2 t l (by rw [e]; exact snoc_last)
      · omega

/-- .. and it is gone into. -/
theorem Dfs.push {ys : List (List Nat)} (hR : Rt ys) {done : List Nat} {P : List (Nat × Nat)} {t l k : Nat} (h : Dfs ys done (P ++ [(t, l)])) (hk : (row ys t)[l]? = some k) (hd : k ∉ done) (hp : k ∉ (P ++ [(t, l)]).map Prod.fst) :
    Dfs ys done (P ++ [(t, l + 1)] ++ [(k, 0)]) := by
  have hkr : k ∈ row ys t := List.mem_of_getElem? hk
  have hkl := (hR.lt hkr).1
  have hlen : (P ++ [(t, l + 1)]).length = P.length + 1 := by simp
  refine ⟨h.top, ?_, ?_, fun i t' l' hi => ?_, fun i t' l' hi j x hj hx => ?_, fun i t' l' hi x l2 hx => ?_⟩
  · have := h.nodup
    simp only [List.map_append, List.map_cons, List.map_nil, ← List.append_assoc] at this hp ⊢
    refine List.nodup_append.2 ⟨this, by simp, ?_⟩
    intro a ha b hb e
    simp only [List.mem_singleton] at hb
    subst hb; subst e
    simp only [List.mem_append, List.append_assoc] at ha hp
    rcases ha with ha | ha
    · exact hd ha
    · exact hp ha
  · intro a ha
    have := h.lt a
    simp only [List.map_append, List.map_cons, List.map_nil, List.mem_append, List.mem_singleton] at this ha
    rcases ha with ha | (ha | ha) | ha
    · exact this (.inl ha)
    · exact this (.inr (.inl ha))
    · exact this (.inr (.inr ha))
    · exact ha ▸ hkl
  · rcases snoc_get hi with ⟨_, h0⟩ | ⟨_, h1⟩
    · rcases snoc_cases (x := (t, l)) h0 with ⟨_, h1⟩ | ⟨rfl, h1⟩
      · exact h.le i t' l' h1
      · cases h1; exact (List.getElem?_eq_some_iff.1 hk).1
    · cases h1; omega
  · rcases snoc_get hi with ⟨_, h0⟩ | ⟨_, h1⟩
    · rcases snoc_cases (x := (t, l)) h0 with ⟨hlt, h1⟩ | ⟨rfl, h1⟩
      · rcases h.seen i t' l' h1 j x hj hx with h2 | ⟨l2, h2⟩
        · exact .inl h2
        · rcases snoc_get h2 with ⟨_, h3⟩ | ⟨e, h3⟩
          · exact .inr ⟨l2, snoc_old (snoc_old h3)⟩
          · cases h3; exact .inr ⟨l + 1, by rw [e]; exact snoc_old snoc_last⟩
      · cases h1
        by_cases hjl : j = l
        · subst hjl; rw [hk] at hx; cases hx
          exact .inr ⟨0, by have := snoc_last (P := P ++ [(t, j + 1)]) (x := (k, 0)); rwa [hlen] at this⟩
        · rcases h.seen P.length t l snoc_last j x (by omega) hx with h2 | ⟨l2, h2⟩
          · exact .inl h2
          · have := (List.getElem?_eq_some_iff.1 h2).1; simp at this
    · cases h1; omega
  · rcases snoc_get hx with ⟨hx1, hx2⟩ | ⟨e, h1⟩
    · rcases snoc_get hi with ⟨_, hi2⟩ | ⟨e2, _⟩
      · rcases snoc_get hx2 with ⟨hx1, h1⟩ | ⟨e, h1⟩
        · rcases snoc_cases (x := (t, l)) hi2 with ⟨_, h2⟩ | ⟨rfl, h2⟩
          · exact h.edge i t' l' h2 x l2 (snoc_old h1)
          · omega
        · cases h1
          rcases snoc_cases (x := (t, l)) hi2 with ⟨_, h2⟩ | ⟨e2, h2⟩
          · exact h.edge i t' l' h2 t l (by rw [e]; exact snoc_last)
          · omega
      · omega
    · cases h1
      rw [hlen] at e
      have e3 : i = P.length := by omega
      subst e3
      rcases snoc_get hi with ⟨_, h0⟩ | ⟨e2, _⟩
      · rw [snoc_last] at h0; cases h0; exact hkr
      · omega

/-- The things of a path from one on. -/
def fromP (path : List (Nat × Nat)) (k : Nat) : List Nat := (path.map Prod.fst).dropWhile (fun t => t != k)

theorem dropWhile_at {k : Nat} : ∀ {l : List Nat} {i : Nat}, l[i]? = some k → l.Nodup → l.dropWhile (fun t => t != k) = l.drop i
  | [], i, h, _ => by simp at h
  | a :: l, 0, h, _ => by simp at h; subst h; simp
  | a :: l, i + 1, h, hn => by
    have hne : a ≠ k := fun e => by
      subst e
      simp only [List.getElem?_cons_succ] at h
      exact (List.nodup_cons.1 hn).1 (List.mem_of_getElem? h)
    simp only [List.getElem?_cons_succ] at h
    rw [List.dropWhile_cons, if_pos (by simpa using hne), dropWhile_at h (List.nodup_cons.1 hn).2]; rfl

/-- A need that is on the path: a circle. -/
theorem Dfs.circ {ys : List (List Nat)} {done : List Nat} {P : List (Nat × Nat)} {t l l0 k : Nat} (h : Dfs ys done (P ++ [(t, l)])) (hk : (row ys t)[l]? = some k) (hp : k ∈ (P ++ [(t, l)]).map Prod.fst) : Circ ys (fromP (P ++ [(t, l0)]) k) := by
  have hmap : (P ++ [(t, l0)]).map Prod.fst = (P ++ [(t, l)]).map Prod.fst := by simp
  have hnd : ((P ++ [(t, l)]).map Prod.fst).Nodup := (List.nodup_append.1 h.nodup).2.1
  obtain ⟨i, hi⟩ := List.getElem?_of_mem hp
  have hil : i < P.length + 1 := by have := (List.getElem?_eq_some_iff.1 hi).1; simpa using this
  have e : fromP (P ++ [(t, l0)]) k = ((P ++ [(t, l)]).map Prod.fst).drop i := by rw [fromP, hmap]; exact dropWhile_at hi hnd
  have hlen : (fromP (P ++ [(t, l0)]) k).length = P.length + 1 - i := by rw [e]; simp
  refine ⟨fun e0 => ?_, ?_, fun a ha => ?_, fun j a hj => ?_⟩
  · rw [e0] at hlen; simp at hlen; omega
  · rw [e]; exact hnd.sublist (List.drop_sublist _ _)
  · rw [e] at ha
    exact h.lt a (by simp only [List.mem_append]; exact .inr (List.mem_of_mem_drop ha))
  · have hj' := hj
    rw [e, List.getElem?_drop, List.getElem?_map] at hj'
    cases hq : (P ++ [(t, l)])[i + j]? with
    | none => rw [hq] at hj'; cases hj'
    | some q =>
      obtain ⟨t', l'⟩ := q
      rw [hq] at hj'
      simp only [Option.map_some, Option.some.injEq] at hj'
      subst hj'
      have hjl : j < P.length + 1 - i := by rw [← hlen]; exact (List.getElem?_eq_some_iff.1 hj).1
      by_cases hlast : j + 1 = P.length + 1 - i
      · rw [hlen, hlast, Nat.mod_self]
        refine ⟨k, ?_, ?_⟩
        · rw [e, List.getElem?_drop]; simpa using hi
        · have : i + j = P.length := by omega
          rw [this, snoc_last] at hq
          cases hq
          exact List.mem_of_getElem? hk
      · rw [hlen, Nat.mod_eq_of_lt (by omega)]
        have : i + j + 1 < (P ++ [(t, l)]).length := by simp; omega
        obtain ⟨⟨x, l2⟩, hx⟩ : ∃ x, (P ++ [(t, l)])[i + j + 1]? = some x := ⟨_, List.getElem?_eq_getElem this⟩
        refine ⟨x, ?_, h.edge _ t' l' hq x l2 hx⟩
        rw [e, List.getElem?_drop, List.getElem?_map, ← Nat.add_assoc, hx]; rfl

/-- All are left: there is an order. -/
theorem Dfs.lv {ys : List (List Nat)} (hR : Rt ys) {done : List Nat} (h : Dfs ys done []) (hall : ∀ a, a < ys.length → a ∈ done) : ∃ lv, IsLv ys lv := by
  refine lv_of_rank hR (fun a => done.idxOf a) (fun a ha p hp => ?_)
  have hi := hall a ha
  have hg : done[done.idxOf a]? = some a := by
    rw [List.getElem?_eq_getElem (List.idxOf_lt_length_iff.2 hi)]; simp
  have := h.top _ a hg p hp
  obtain ⟨j, hj⟩ := List.getElem?_of_mem this
  have hjl : j < done.idxOf a := by
    have := (List.getElem?_eq_some_iff.1 hj).1
    simp at this; omega
  have hlt : List.idxOf p done ≤ j := by
    rw [List.getElem?_take, if_pos hjl] at hj
    have hjd := (List.getElem?_eq_some_iff.1 hj).1
    have : done[j] = p := (List.getElem?_eq_some_iff.1 hj).2
    exact Classical.byContradiction fun hc => by
      have hn := List.not_of_lt_findIdx (xs := done) (p := fun x => x == p) (i := j) (by unfold List.idxOf at hc; omega)
      simp [this] at hn
  omega

/-- What is still to be done. -/
def pot (ys : List (List Nat)) (done : List Nat) (path : List (Nat × Nat)) (a : Nat) : Nat :=
  if a ∈ done then 0 else match path.find? (fun q => q.1 == a) with
    | some q => (row ys a).length + 1 - q.2
    | none => (row ys a).length + 2
def potSum (ys : List (List Nat)) (done : List Nat) (path : List (Nat × Nat)) : Nat := ((List.range ys.length).map (pot ys done path)).sum

theorem sum_le {f g : Nat → Nat} : ∀ {l : List Nat}, (∀ a ∈ l, f a ≤ g a) → (l.map f).sum ≤ (l.map g).sum
  | [], _ => by simp
  | a :: l, h => by
    have h1 := h a (by simp)
    have h2 := sum_le (l := l) (fun b hb => h b (by simp [hb]))
    simp only [List.map_cons, List.sum_cons]; omega
theorem sum_lt {f g : Nat → Nat} : ∀ {l : List Nat}, (∀ a ∈ l, f a ≤ g a) → (∃ a ∈ l, f a < g a) → (l.map f).sum < (l.map g).sum
  | [], _, h => by obtain ⟨a, ha, _⟩ := h; cases ha
  | a :: l, h, hx => by
    have h1 := h a (by simp)
    have h2 := sum_le (l := l) (fun b hb => h b (by simp [hb]))
    simp only [List.map_cons, List.sum_cons]
    obtain ⟨b, hb, hlt⟩ := hx
    rcases List.mem_cons.1 hb with rfl | hb
    · omega
    · have := sum_lt (l := l) (fun b hb => h b (by simp [hb])) ⟨b, hb, hlt⟩
      omega

theorem Dfs.find_last {ys : List (List Nat)} {done : List Nat} {P : List (Nat × Nat)} {t l : Nat} (h : Dfs ys done (P ++ [(t, l)])) : P.find? (fun q => q.1 == t) = none := by
  rw [List.find?_eq_none]
  intro q hq he
  have hnd : ((P ++ [(t, l)]).map Prod.fst).Nodup := (List.nodup_append.1 h.nodup).2.1
  simp only [List.map_append, List.map_cons, List.map_nil] at hnd
  exact (List.nodup_append.1 hnd).2.2 q.1 (List.mem_map.2 ⟨q, hq, rfl⟩) t (by simp) (by simpa using he)

theorem Dfs.notDone {ys : List (List Nat)} {done : List Nat} {P : List (Nat × Nat)} {t l : Nat} (h : Dfs ys done (P ++ [(t, l)])) : t ∉ done := fun hd =>
  (List.nodup_append.1 h.nodup).2.2 t hd t (by simp) rfl

theorem Dfs.pot_pop {ys : List (List Nat)} {done : List Nat} {P : List (Nat × Nat)} {t : Nat} (h : Dfs ys done (P ++ [(t, (row ys t).length)])) : potSum ys (done ++ [t]) P < potSum ys done (P ++ [(t, (row ys t).length)]) := by
  have htn := h.notDone
  have hf := h.find_last
  refine sum_lt (fun a _ => ?_) ⟨t, by simpa using h.lt t (by simp), ?_⟩
  · simp only [pot, List.mem_append, List.mem_singleton]
    by_cases ha : a ∈ done
    · simp [ha]
    · by_cases hat : a = t
      · simp [hat]
      · have : ¬ t = a := fun e => hat e.symm
        simp [ha, hat, List.find?_append, this]
  · simp [pot, htn, List.find?_append, hf]

theorem Dfs.pot_skip {ys : List (List Nat)} {done : List Nat} {P : List (Nat × Nat)} {t l k : Nat} (h : Dfs ys done (P ++ [(t, l)])) (hk : (row ys t)[l]? = some k) : potSum ys done (P ++ [(t, l + 1)]) < potSum ys done (P ++ [(t, l)]) := by
  have htn := h.notDone
  have hf := h.find_last
  have hl : l < (row ys t).length := (List.getElem?_eq_some_iff.1 hk).1
  have e1 : ∀ a, pot ys done (P ++ [(t, l + 1)]) a ≤ pot ys done (P ++ [(t, l)]) a := fun a => by
    simp only [pot]
    by_cases ha : a ∈ done
    · simp [ha]
    · simp only [ha, if_false, List.find?_append]
      by_cases hat : t = a
      · subst hat; simp [hf]; omega
      · simp [hat]
  refine sum_lt (fun a _ => e1 a) ⟨t, by simpa using h.lt t (by simp), ?_⟩
  simp [pot, htn, List.find?_append, hf]; omega

theorem Dfs.pot_push {ys : List (List Nat)} (hR : Rt ys) {done : List Nat} {P : List (Nat × Nat)} {t l k : Nat} (h : Dfs ys done (P ++ [(t, l)])) (hk : (row ys t)[l]? = some k) (hd : k ∉ done) (hp : k ∉ (P ++ [(t, l)]).map Prod.fst) :
    potSum ys done (P ++ [(t, l + 1)] ++ [(k, 0)]) < potSum ys done (P ++ [(t, l)]) := by
  have htn := h.notDone
  have hf := h.find_last
  have hl : l < (row ys t).length := (List.getElem?_eq_some_iff.1 hk).1
  have hne : ¬ t = k := fun e => hp (by simp [e])
  have hfk : P.find? (fun q => q.1 == k) = none := by
    rw [List.find?_eq_none]
    intro q hq he
    exact hp (by simp only [List.map_append, List.mem_append, List.mem_map]; exact .inl ⟨q, hq, by simpa using he⟩)
  refine sum_lt (fun a _ => ?_) ⟨t, by simpa using h.lt t (by simp), ?_⟩
  · simp only [pot]
    by_cases ha : a ∈ done
    · simp [ha]
    · simp only [ha, if_false, List.find?_append]
      by_cases hat : t = a
      · subst hat; simp [hf]; omega
      · by_cases hka : k = a
        · subst hka; simp [hfk, hne]
        · simp [hat, hka]
  · simp [pot, htn, List.find?_append, hf]; omega

end Go.Proofs.Ytfhmibodjfpdfaa
