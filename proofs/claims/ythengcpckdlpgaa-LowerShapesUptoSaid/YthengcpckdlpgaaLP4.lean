/- Every instruction that is written fits; and the depths' search. -/
import Derived.Test.YthengcpckdlpgaaLP3
set_option linter.unusedSimpArgs false
set_option linter.unusedVariables false
namespace Go.Lower
variable {w : Int} {ps : Sig} {f : Nat} {word : Bool} {T : Nat → Option Int}

/-- Fits, but for a jump's place. -/
def fit0 (w : Int) (f : Nat) (x : Ins) : Prop :=
  (x.op = 1 ∨ x.n = 0) ∧ (x.op = 4 ∨ x.op = 5 ∨ x.b = 0) ∧
  (((x.op = 1 ∨ x.op = 7 ∨ x.op = 11 ∨ x.op = 12 ∨ x.op = 13) ∧ x.a = 0) ∨ ((x.op = 2 ∨ x.op = 3) ∧ 0 ≤ x.a ∧ x.a < w) ∨ ((x.op = 4 ∨ x.op = 5) ∧ 0 ≤ x.a ∧ 1 ≤ x.b ∧ x.b ≤ 4096 ∧ x.a ≤ w - x.b) ∨
   (x.op = 6 ∧ 4 ≤ x.a ∧ x.a ≤ 15) ∨ x.op = 8 ∨ x.op = 9 ∨ (x.op = 10 ∧ 0 ≤ x.a ∧ x.a < (f : Int)))
def Fit (w : Int) (f : Nat) (c : Code) : Prop := ∀ p ∈ c, fit0 w f p.1

theorem fit_nil : Fit w f [] := fun _ h => by cases h
theorem fit_cons {p : Ins × Int} {c : Code} (h : fit0 w f p.1) (hc : Fit w f c) : Fit w f (p :: c) := fun q hq => by
  rcases List.mem_cons.1 hq with rfl | hq
  · exact h
  · exact hc q hq
theorem fit_app {a b : Code} (ha : Fit w f a) (hb : Fit w f b) : Fit w f (a ++ b) := fun q hq => by
  rcases List.mem_append.1 hq with hq | hq
  · exact ha q hq
  · exact hb q hq
theorem fit_jump {a : Int} : fit0 w f ⟨8, a, 0, 0⟩ := ⟨.inr rfl, .inr (.inr rfl), .inr (.inr (.inr (.inr (.inl rfl))))⟩
theorem fit_zero {a : Int} : fit0 w f ⟨9, a, 0, 0⟩ := ⟨.inr rfl, .inr (.inr rfl), .inr (.inr (.inr (.inr (.inr (.inl rfl)))))⟩
theorem fit_plain {op n : Int} (h : op = 1 ∨ op = 7 ∨ op = 11 ∨ op = 12 ∨ op = 13) (hn : op = 1 ∨ n = 0) : fit0 w f ⟨op, 0, 0, n⟩ := ⟨hn, .inr (.inr rfl), .inl ⟨h, rfl⟩⟩

theorem one_fit {lv kind op num slot size d : Int} {n : Nat} (h : okE w ps f lv kind op num slot size n) : Fit w f (one kind op num slot size d) := by
  obtain ⟨_, _, _, _, _, h⟩ := h
  rcases h with ⟨h | h, hn⟩ | ⟨h, hw, hn⟩ | ⟨h, h1, h2, hw, hn⟩ | ⟨h, k, hs, hkf, hps⟩ | ⟨h, h1, h2, hn⟩ | ⟨h, hn⟩ | ⟨h | h, _⟩
  · subst h; exact fit_cons (fit_plain (.inl rfl) (.inl rfl)) fit_nil
  · subst h; exact fit_cons (fit_plain (by omega) (.inr rfl)) fit_nil
  · subst h; exact fit_cons ⟨.inr rfl, .inr (.inr rfl), .inr (.inl ⟨.inl rfl, by unfold within at hw; show 0 ≤ slot ∧ slot < w; omega⟩)⟩ fit_nil
  · subst h; exact fit_cons ⟨.inr rfl, .inl rfl, .inr (.inr (.inl ⟨.inl rfl, by unfold within at hw; show 0 ≤ slot ∧ 1 ≤ size ∧ size ≤ 4096 ∧ slot ≤ w - size; omega⟩))⟩ fit_nil
  · subst h; exact fit_cons ⟨.inr rfl, .inr (.inr rfl), .inr (.inr (.inr (.inr (.inr (.inr ⟨rfl, by show 0 ≤ slot ∧ slot < (f : Int); omega⟩)))))⟩ fit_nil
  · subst h; exact fit_cons ⟨.inr rfl, .inr (.inr rfl), .inr (.inr (.inr (.inl ⟨rfl, h1, h2⟩)))⟩ fit_nil
  · subst h; exact fit_cons (fit_plain (by omega) (.inr rfl)) fit_nil
  · subst h; exact fit_nil
  · subst h; exact fit_nil

theorem notIf_fit {kind d : Int} : Fit w f (notIf kind d) := by
  unfold notIf; split
  · exact fit_cons (fit_plain (by omega) (.inr rfl)) fit_nil
  · exact fit_nil

theorem joinE_fit {kind d : Int} {at' : Nat} {c0 : Code} {c1 : Nat → Code} (h0 : Fit w f c0) (h1 : ∀ r, Fit w f (c1 r)) : Fit w f (joinE at' d kind c0 c1) := by
  unfold joinE
  exact fit_app h0 (fit_app notIf_fit (fit_cons fit_zero (fit_cons (fit_plain (.inl rfl) (.inl rfl)) (fit_cons fit_jump (fit_app (h1 _) (fit_cons (fit_plain (by omega) (.inr rfl)) (fit_cons (fit_plain (by omega) (.inr rfl)) fit_nil)))))))

mutual
theorem cE_fit : ∀ (e : Ex) {lv d : Int} {at' : Nat}, rE w ps f lv e → Fit w f (cE at' d e)
  | .mk kind op num slot size kids, lv, d, at', h => by
    rw [rE] at h
    rw [cE]
    by_cases hk : kind = 8 ∨ kind = 9
    · rw [if_pos hk]; exact cAO_fit kids h.2
    · rw [if_neg hk]; exact fit_app (cEs_fit kids h.2) (one_fit h.1)
theorem cEs_fit : ∀ (l : List Ex) {lv d : Int} {at' : Nat}, rEs w ps f lv l → Fit w f (cEs at' d l)
  | [], lv, d, at', h => by rw [cEs]; exact fit_nil
  | e :: l, lv, d, at', h => by
    rw [rEs] at h
    rw [cEs]; exact fit_app (cE_fit e h.1) (cEs_fit l h.2)
theorem cAO_fit : ∀ (l : List Ex) {lv d kind : Int} {at' : Nat}, rEs w ps f lv l → Fit w f (cAO at' d kind l)
  | [], lv, d, kind, at', h => by rw [cAO]; exact fit_nil
  | e :: l, lv, d, kind, at', h => by
    rw [rEs] at h
    rw [cAO]; exact joinE_fit (cE_fit e h.1) (fun r => c1st_fit l h.2)
theorem c1st_fit : ∀ (l : List Ex) {lv d : Int} {at' : Nat}, rEs w ps f lv l → Fit w f (c1st at' d l)
  | [], lv, d, at', h => by rw [c1st]; exact fit_nil
  | e :: l, lv, d, at', h => by
    rw [rEs] at h
    rw [c1st]; exact cE_fit e h.1
end

theorem leave_fit : Fit w f (leave word) := by
  unfold leave; split
  · exact fit_cons (fit_plain (.inl rfl) (.inl rfl)) (fit_cons (fit_plain (by omega) (.inr rfl)) fit_nil)
  · exact fit_cons (fit_plain (by omega) (.inr rfl)) fit_nil

theorem endC_fit {lv kind slot size : Int} {n nt ne : Nat} (h : okS w ps f word lv kind slot size n nt ne) : Fit w f (endC word kind slot size n) := by
  obtain ⟨_, _, _, _, _, h⟩ := h
  rcases h with ⟨h, hw, hn⟩ | ⟨h, h1, h2, hw, hn⟩ | ⟨h | h | h, hn⟩ | ⟨h, k, hs, hkf, hps⟩ | ⟨h, hn⟩
  · subst h; exact fit_cons ⟨.inr rfl, .inr (.inr rfl), .inr (.inl ⟨.inr rfl, by unfold within at hw; show 0 ≤ slot ∧ slot < w; omega⟩)⟩ fit_nil
  · subst h; exact fit_cons ⟨.inr rfl, .inr (.inl rfl), .inr (.inr (.inl ⟨.inr rfl, by unfold within at hw; show 0 ≤ slot ∧ 1 ≤ size ∧ size ≤ 4096 ∧ slot ≤ w - size; omega⟩))⟩ fit_nil
  · subst h; exact fit_cons (fit_plain (by omega) (.inr rfl)) fit_nil
  · subst h; exact fit_nil
  · subst h; exact fit_nil
  · subst h; exact fit_cons ⟨.inr rfl, .inr (.inr rfl), .inr (.inr (.inr (.inr (.inr (.inr ⟨rfl, by show 0 ≤ slot ∧ slot < (f : Int); omega⟩)))))⟩ fit_nil
  · subst h
    unfold endC
    simp only [show ¬ ((7 : Int) = 1) by decide, show ¬ ((7 : Int) = 2) by decide, show ¬ ((7 : Int) = 3) by decide, show ¬ ((7 : Int) = 6) by decide, if_false, if_true]
    split
    · exact leave_fit
    · exact fit_cons (fit_plain (by omega) (.inr rfl)) fit_nil

mutual
theorem cS_fit : ∀ (s : Stm) {lv : Int} {at' : Nat}, rS w ps f word lv s → Fit w f (cS word at' s)
  | .mk kind slot size e th el, lv, at', h => by
    rw [rS] at h
    obtain ⟨hok, he, hth, hel⟩ := h
    rw [cS]
    split
    · exact fit_app (c1st_fit e he) (fit_cons fit_zero (fit_app (cSs_fit th hth) (fit_cons fit_jump fit_nil)))
    · refine fit_app (cEs_fit e he) ?_
      split
      · unfold ifC
        split
        · exact fit_cons fit_zero (fit_app (cSs_fit th hth) (fit_cons fit_jump (cSs_fit el hel)))
        · exact fit_cons fit_zero (cSs_fit th hth)
      · exact endC_fit hok
theorem cSs_fit : ∀ (l : List Stm) {lv : Int} {at' : Nat}, rSs w ps f word lv l → Fit w f (cSs word at' l)
  | [], lv, at', h => by rw [cSs]; exact fit_nil
  | e :: l, lv, at', h => by
    rw [rSs] at h
    rw [cSs]; exact fit_app (cS_fit e h.1) (cSs_fit l h.2)
end

theorem codeOf_fit {body : List Stm} (h : rSs w ps f word 1 body) : Fit w f (codeOf word body) := fit_app (cSs_fit body h) leave_fit

theorem good_get : ∀ {c : Code} {at' i : Nat} {x : Ins} {d : Int}, Good ps word T at' c → c[i]? = some (x, d) → OkI ps word T (at' + i) x d
  | (y, e) :: c, at', 0, x, d, h, hi => by cases hi; exact h.1
  | (y, e) :: c, at', i + 1, x, d, h, hi => by
    have := good_get (i := i) h.2 (by simpa using hi)
    rwa [show at' + (i + 1) = at' + 1 + i by omega]

/-- Fits, a jump's place as well. -/
theorem codeOf_place {body : List Stm} (h : rSs w ps f word 1 body) {i : Nat} {x : Ins} {d : Int} (hi : (codeOf word body)[i]? = some (x, d)) (hj : x.op = 8 ∨ x.op = 9) : 0 ≤ x.a ∧ x.a < ((codeOf word body).length : Int) := by
  obtain ⟨t, p, _, _, _, _, hn⟩ := good_get (codeOf_good h).2 hi
  obtain ⟨k, hk, hT⟩ := hn x.a (by unfold next; rcases hj with hj | hj <;> simp [hj])
  have hkl : k < (codeOf word body).length := by
    rcases Nat.lt_or_ge k (codeOf word body).length with h | h
    · exact h
    · simp only [List.getElem?_eq_none h, Option.map_none] at hT; cases hT
  omega

/-! The search. -/
def Inv (T : Nat → Option Int) (n : Nat) (out : List Int) (todo : List Nat) : Prop :=
  out.length = n ∧ (∀ k v, out[k]? = some v → v = -1 ∨ (T k = some v ∧ 0 ≤ v)) ∧ ∀ a ∈ todo, ∃ v, out[a]? = some v ∧ T a = some v ∧ 0 ≤ v
def left (out : List Int) : Nat := out.countP (· < 0)

theorem count_set_neg : ∀ {out : List Int} {k : Nat} {v x : Int}, out[k]? = some v → v < 0 → 0 ≤ x → left (out.set k x) + 1 = left out
  | a :: out, 0, v, x, h, hv, hx => by
    cases h
    have : ¬ x < 0 := by omega
    simp [left, hv, this]
  | a :: out, k + 1, v, x, h, hv, hx => by
    have := count_set_neg (out := out) (k := k) (by simpa using h) hv hx
    simp only [left, List.set_cons_succ, List.countP_cons] at *
    omega

/-- A place behind: it is as deep as it was found, or it is found now. -/
theorem Inv.seen {n k : Nat} {out : List Int} {todo : List Nat} {deep v : Int} (h : Inv T n out todo) (hT : T k = some deep) (hv : out[k]? = some v) : v < 0 ∨ v = deep := by
  rcases h.2.1 k v hv with h | ⟨h, _⟩
  · exact .inl (by omega)
  · rw [h] at hT; cases hT; exact .inr rfl
theorem Inv.find {n k : Nat} {out : List Int} {todo : List Nat} {deep v : Int} (h : Inv T n out todo) (hT : T k = some deep) (h0 : 0 ≤ deep) (hv : out[k]? = some v) (hn : v < 0) :
    Inv T n (out.set k deep) (todo ++ [k]) ∧ left (out.set k deep) + (todo ++ [k]).length = left out + todo.length := by
  have hk := (List.getElem?_eq_some_iff.1 hv).1
  refine ⟨⟨by simp [h.1], fun j u hj => ?_, fun a ha => ?_⟩, ?_⟩
  · rw [List.getElem?_set] at hj
    by_cases hjk : k = j
    · subst hjk; rw [if_pos rfl, if_pos hk] at hj; cases hj; exact .inr ⟨hT, h0⟩
    · rw [if_neg hjk] at hj; exact h.2.1 j u hj
  · rcases List.mem_append.1 ha with ha | ha
    · obtain ⟨u, hu, h2, h3⟩ := h.2.2 a ha
      by_cases hak : k = a
      · subst hak; rw [hu] at hv; cases hv; omega
      · exact ⟨u, by rw [List.getElem?_set, if_neg hak]; exact hu, h2, h3⟩
    · obtain rfl : a = k := by simpa using ha
      exact ⟨deep, by rw [List.getElem?_set, if_pos rfl, if_pos hk], hT, h0⟩
  · have := count_set_neg hv hn h0
    simp only [List.length_append, List.length_cons, List.length_nil]; omega

end Go.Lower
