/- Graphs, in plain Lean: Kahn's queue, levels. -/
set_option linter.unusedSimpArgs false
set_option linter.unusedVariables false
namespace Go.Proofs.Ytfhmibodjfpdfaa

def row (ys : List (List Nat)) (a : Nat) : List Nat := ys.getD a []
def Rt (ys : List (List Nat)) : Prop := ∀ r ∈ ys, ∀ m ∈ r, m < ys.length

theorem row_of {ys : List (List Nat)} {i : Nat} {r : List Nat} (h : ys[i]? = some r) : row ys i = r := by simp [row, List.getD, h]
theorem row_out {ys : List (List Nat)} {i : Nat} (h : ys.length ≤ i) : row ys i = [] := by simp [row, List.getD, List.getElem?_eq_none h]
theorem Rt.lt {ys : List (List Nat)} (h : Rt ys) {a m : Nat} (hm : m ∈ row ys a) : m < ys.length ∧ a < ys.length := by
  by_cases ha : a < ys.length
  · refine ⟨h _ ?_ m hm, ha⟩
    simp only [row, List.getD, List.getElem?_eq_getElem ha, Option.getD_some]
    exact List.getElem_mem ha
  · rw [row_out (by omega)] at hm; cases hm

/-! ### What is behind what -/
def Bh (ys : List (List Nat)) (i j : Nat) (bh : Nat → List Nat) : Prop :=
  ∀ k a, (bh k).count a = if a < i then (row ys a).count k else if a = i then ((row ys i).take j).count k else 0

theorem Bh.init (ys : List (List Nat)) : Bh ys 0 0 (fun _ => []) := by intro k a; simp
theorem Bh.step {ys : List (List Nat)} {i j x : Nat} {bh : Nat → List Nat} (h : Bh ys i j bh) (hx : (row ys i)[j]? = some x) :
    Bh ys i (j + 1) (fun k => if k = x then bh k ++ [i] else bh k) := by
  intro k a
  have hk := h k a
  rw [List.take_add_one, hx, List.count_append]
  simp only [Option.toList_some, List.count_singleton, beq_iff_eq]
  by_cases hkx : k = x
  · subst hkx
    simp only [if_true, List.count_append, List.count_singleton, beq_iff_eq, hk]
    by_cases h1 : a < i
    · have : ¬ i = a := by omega
      simp [h1, this]
    · by_cases h2 : a = i
      · subst h2; simp
      · have : ¬ i = a := fun e => h2 e.symm
        simp [h1, h2, this]
  · have : ¬ x = k := fun e => hkx e.symm
    simp only [hkx, this, if_false, Nat.add_zero, hk]
theorem Bh.next {ys : List (List Nat)} {i j : Nat} {bh : Nat → List Nat} (h : Bh ys i j bh) (hj : ¬ j < (row ys i).length) : Bh ys (i + 1) 0 bh := by
  intro k a
  rw [h k a, List.take_of_length_le (l := row ys i) (by omega)]
  by_cases h1 : a < i
  · have : a < i + 1 := by omega
    simp [h1, this]
  · by_cases h2 : a = i
    · subst h2; simp
    · have : ¬ a < i + 1 := by omega
      simp [h1, h2, this]
theorem Bh.done {ys : List (List Nat)} {bh : Nat → List Nat} (h : Bh ys ys.length 0 bh) (k a : Nat) : (bh k).count a = (row ys a).count k := by
  rw [h k a]
  by_cases h1 : a < ys.length
  · simp [h1]
  · rw [row_out (by omega)]; simp [h1]

/-! ### Counting -/
theorem count_sum (r : List Nat) : ∀ {l : List Nat}, l.Nodup → (l.map fun p => r.count p).sum = r.countP (fun m => decide (m ∈ l))
  | [], _ => by simp
  | p :: l, h => by
    rw [List.nodup_cons] at h
    simp only [List.map_cons, List.sum_cons]
    rw [count_sum r h.2]
    have : ∀ r : List Nat, r.count p + r.countP (fun m => decide (m ∈ l)) = r.countP (fun m => decide (m ∈ p :: l)) := by
      intro r
      induction r with
      | nil => simp
      | cons m r ih =>
        simp only [List.count_cons, List.countP_cons, List.mem_cons, beq_iff_eq, decide_eq_true_eq, Bool.decide_or] at ih ⊢
        by_cases hm : m = p
        · subst hm; simp [h.1]; omega
        · by_cases hl : m ∈ l
          · simp [hm, hl]; omega
          · simp [hm, hl]; omega
    exact this r

def edges (bh : Nat → List Nat) (pr : List Nat) : List (Nat × Nat) := pr.flatMap fun p => (bh p).map fun a => (p, a)

theorem edges_snd (bh : Nat → List Nat) : ∀ pr, (edges bh pr).map Prod.snd = pr.flatMap bh
  | [] => rfl
  | p :: pr => by
    have := edges_snd bh pr
    simp only [edges] at this ⊢
    simp only [List.flatMap_cons, List.map_append, List.map_map, this]
    congr 1
    exact List.map_id' _ 
theorem edges_count {ys : List (List Nat)} {bh : Nat → List Nat} (h : ∀ k a, (bh k).count a = (row ys a).count k) {pr : List Nat} (hn : pr.Nodup) (a : Nat) :
    ((edges bh pr).map Prod.snd).count a = (row ys a).countP fun m => decide (m ∈ pr) := by
  rw [edges_snd, ← count_sum _ hn, List.count_flatMap]
  congr 1
  apply List.map_congr_left
  intro p _
  exact h p a

theorem edges_mem {bh : Nat → List Nat} {pr : List Nat} {p a : Nat} : (p, a) ∈ edges bh pr ↔ p ∈ pr ∧ a ∈ bh p := by
  simp only [edges, List.mem_flatMap, List.mem_map, Prod.mk.injEq]
  constructor
  · rintro ⟨q, hq, b, hb, rfl, rfl⟩; exact ⟨hq, hb⟩
  · rintro ⟨hp, ha⟩; exact ⟨p, hp, a, ha, rfl, rfl⟩

/-! ### The queue -/
structure W (ys : List (List Nat)) (rd : List Nat) (E : List (Nat × Nat)) (op lv : List Nat) : Prop where
  nodup : rd.Nodup
  lt : ∀ a ∈ rd, a < ys.length
  opl : op.length = ys.length
  lvl : lv.length = ys.length
  cnt : ∀ a, a < ys.length → op.getD a 0 + (E.map Prod.snd).count a = (row ys a).length
  zero : ∀ a, a < ys.length → (op.getD a 0 = 0 ↔ a ∈ rd)
  src : ∀ p a, (p, a) ∈ E → p ∈ rd
  ge : ∀ p a, (p, a) ∈ E → lv.getD p 0 + 1 ≤ lv.getD a 0
  at' : ∀ a, lv.getD a 0 = 0 ∨ ∃ p, (p, a) ∈ E ∧ lv.getD a 0 = lv.getD p 0 + 1

theorem getD_set (l : List Nat) (i v a : Nat) (h : i < l.length) : (l.set i v).getD a 0 = if a = i then v else l.getD a 0 := by
  simp only [List.getD, List.getElem?_set]
  by_cases he : a = i
  · subst he; simp [h]
  · have : ¬ i = a := fun e => he e.symm
    simp [he, this]

theorem W.step {ys : List (List Nat)} {rd : List Nat} {E : List (Nat × Nat)} {op lv : List Nat} (h : W ys rd E op lv) {k x : Nat} (hx : x < ys.length) (hk : k ∈ rd) (hp : 0 < op.getD x 0) :
    W ys (if op.getD x 0 - 1 = 0 then rd ++ [x] else rd) (E ++ [(k, x)]) (op.set x (op.getD x 0 - 1)) (lv.set x (max (lv.getD x 0) (lv.getD k 0 + 1))) := by
  have hxr : x ∉ rd := fun hm => by have := (h.zero x hx).2 hm; omega
  have hkx : k ≠ x := fun e => hxr (e ▸ hk)
  have hsub : ∀ a, a ∈ rd → a ∈ (if op.getD x 0 - 1 = 0 then rd ++ [x] else rd) := fun a ha => by split <;> simp [ha]
  generalize hmx : max (lv.getD x 0) (lv.getD k 0 + 1) = mx
  have ho := fun a => getD_set op x (op.getD x 0 - 1) a (by rw [h.opl]; exact hx)
  have hl := fun a => getD_set lv x mx a (by rw [h.lvl]; exact hx)
  refine ⟨?_, ?_, by simp [h.opl], by simp [h.lvl], fun a ha => ?_, fun a ha => ?_, fun p a hpa => ?_, fun p a hpa => ?_, fun a => ?_⟩
  · split
    · rw [List.nodup_append]
      exact ⟨h.nodup, by simp, fun a ha b hb => by simp only [List.mem_singleton] at hb; rintro rfl; exact hxr (hb ▸ ha)⟩
    · exact h.nodup
  · intro a ha
    split at ha
    · simp only [List.mem_append, List.mem_singleton] at ha
      rcases ha with ha | rfl
      · exact h.lt a ha
      · exact hx
    · exact h.lt a ha
  · have h1 := h.cnt a ha
    simp only [List.map_append, List.map_cons, List.map_nil, List.count_append, List.count_singleton, beq_iff_eq, ho]
    by_cases he : a = x
    · subst he; simp only [if_true]; omega
    · have : ¬ x = a := fun e => he e.symm
      simp only [he, this, if_false]; omega
  · rw [ho]
    have h1 := h.zero a ha
    by_cases he : a = x
    · subst he
      simp only [if_true]
      by_cases hz : op.getD a 0 - 1 = 0
      · rw [if_pos hz]; exact ⟨fun _ => by simp, fun _ => hz⟩
      · rw [if_neg hz]; exact ⟨fun e => absurd e hz, fun m => absurd m hxr⟩
    · simp only [he, if_false]
      rw [h1]
      split <;> simp [he]
  · simp only [List.mem_append, List.mem_singleton, Prod.mk.injEq] at hpa
    rcases hpa with hpa | ⟨rfl, rfl⟩
    · exact hsub p (h.src p a hpa)
    · exact hsub p hk
  · simp only [List.mem_append, List.mem_singleton, Prod.mk.injEq] at hpa
    rw [hl, hl]
    rcases hpa with hpa | ⟨rfl, rfl⟩
    · have hpx : p ≠ x := fun e => hxr (e ▸ h.src p a hpa)
      have := h.ge p a hpa
      simp only [hpx, if_false]
      split
      · rename_i e; subst e; omega
      · exact this
    · simp only [hkx, if_false, if_true]; omega
  · have hpx : ∀ p a, (p, a) ∈ E → p ≠ x := fun p a hpa e => hxr (e ▸ h.src p a hpa)
    rw [hl]
    by_cases he : a = x
    · subst he
      simp only [if_true]
      by_cases hm : lv.getD k 0 + 1 ≤ lv.getD a 0
      · rcases h.at' a with h0 | ⟨p, hp1, hp2⟩
        · omega
        · exact .inr ⟨p, by simp [hp1], by rw [hl]; simp only [hpx p a hp1, if_false]; omega⟩
      · exact .inr ⟨k, by simp, by rw [hl]; simp only [hkx, if_false]; omega⟩
    · simp only [he, if_false]
      rcases h.at' a with h0 | ⟨p, hp1, hp2⟩
      · exact .inl h0
      · exact .inr ⟨p, by simp [hp1], by rw [hl]; simp only [hpx p a hp1, if_false]; exact hp2⟩

/-- The first pass's lists. -/
structure Fst (ys : List (List Nat)) (i : Nat) (op rd : List Nat) : Prop where
  len : op.length = ys.length
  op : ∀ a, a < i → op.getD a 0 = (row ys a).length
  rd : rd = (List.range i).filter fun a => (row ys a).isEmpty

theorem Fst.init (ys : List (List Nat)) : Fst ys 0 (List.replicate ys.length 0) [] := ⟨by simp, fun _ h => absurd h (by omega), rfl⟩
theorem Fst.rdlen {ys : List (List Nat)} {i : Nat} {op rd : List Nat} (h : Fst ys i op rd) : rd.length ≤ i := by
  rw [h.rd]; simpa using List.length_filter_le (fun a => (row ys a).isEmpty) (List.range i)
theorem Fst.step {ys : List (List Nat)} {i : Nat} {op rd : List Nat} (h : Fst ys i op rd) (hi : i < ys.length) :
    Fst ys (i + 1) (op.set i (row ys i).length) (if (row ys i).length = 0 then rd ++ [i] else rd) := by
  refine ⟨by simp [h.len], fun a ha => ?_, ?_⟩
  · rw [getD_set _ _ _ _ (by rw [h.len]; exact hi)]
    by_cases he : a = i
    · subst he; simp
    · rw [if_neg he]; exact h.op a (by omega)
  · rw [List.range_succ, List.filter_append, ← h.rd]
    cases hr : row ys i with
    | nil => simp [hr]
    | cons m l => simp [hr]
theorem Fst.done {ys : List (List Nat)} {op rd : List Nat} (h : Fst ys ys.length op rd) : W ys rd [] op (List.replicate ys.length 0) := by
  have hz : ∀ a, (List.replicate ys.length 0).getD a 0 = 0 := fun a => by
    simp only [List.getD, List.getElem?_replicate]; split <;> rfl
  refine ⟨?_, fun a ha => ?_, h.len, by simp, fun a ha => ?_, fun a ha => ?_, fun p a hp => (nomatch hp), fun p a hp => (nomatch hp), fun a => .inl (hz a)⟩
  · rw [h.rd]; exact List.nodup_range.filter _
  · rw [h.rd] at ha; exact List.mem_range.1 (List.mem_filter.1 ha).1
  · simpa using h.op a ha
  · rw [h.op a ha, h.rd, List.mem_filter, List.mem_range, List.isEmpty_iff, List.length_eq_zero_iff]
    exact ⟨fun e => ⟨ha, e⟩, fun e => e.2⟩

/-- There is room for one more taking. -/
theorem W.pos {ys : List (List Nat)} {bh : Nat → List Nat} (hb : ∀ k a, (bh k).count a = (row ys a).count k) {rd : List Nat} {d j k x : Nat} {op lv : List Nat} (hk : rd[d]? = some k) (hx : (bh k)[j]? = some x)
    (h : W ys rd (edges bh (rd.take d) ++ ((bh k).take j).map fun a => (k, a)) op lv) (hxl : x < ys.length) : 0 < op.getD x 0 := by
  have h1 := h.cnt x hxl
  have hn : (rd.take (d + 1)).Nodup := List.Nodup.sublist (List.take_sublist _ _) h.nodup
  have h2 := edges_count hb hn x
  have h3 : (row ys x).countP (fun m => decide (m ∈ rd.take (d + 1))) ≤ (row ys x).length := List.countP_le_length
  rw [List.take_add_one, hk] at h2 h3
  simp only [Option.toList_some] at h2 h3
  have h4 : (edges bh (rd.take d ++ [k])).map Prod.snd = (edges bh (rd.take d)).map Prod.snd ++ bh k := by simp [edges_snd]
  rw [h4, List.count_append] at h2
  have h5 : ((bh k).take j).count x + 1 ≤ (bh k).count x := by
    have h6 := (List.take_sublist (j + 1) (bh k)).count_le x
    rw [List.take_add_one, hx, List.count_append] at h6
    simpa using h6
  have h7 : ((((bh k).take j).map fun a => (k, a)).map Prod.snd) = (bh k).take j := by simp [List.map_map, Function.comp_def]
  rw [List.map_append, List.count_append, h7] at h1
  omega

theorem nodup_length : ∀ {n : Nat} {l : List Nat}, l.Nodup → (∀ a ∈ l, a < n) → l.length ≤ n
  | 0, l, _, hl => by
    cases l with
    | nil => simp
    | cons a l => have := hl a (by simp); omega
  | n + 1, l, h, hl => by
    have h1 := nodup_length (n := n) (l := l.filter (fun a => a != n)) (h.filter _) (fun a ha => by
      simp only [List.mem_filter, bne_iff_ne] at ha
      have := hl a ha.1; omega)
    have h2 : l.length = (l.filter (fun a => a != n)).length + l.count n := by
      rw [← List.countP_eq_length_filter, List.count, List.length_eq_countP_add_countP (fun a => a != n)]
      congr 1
      apply List.countP_congr
      intro a _
      simp
    have h3 : l.count n ≤ 1 := List.nodup_iff_count.1 h n
    omega

/-! ### Levels -/
/-- Each thing's level is the first one behind those of its needs. -/
structure IsLv (ys : List (List Nat)) (lv : List Nat) : Prop where
  len : lv.length = ys.length
  ge : ∀ a p, p ∈ row ys a → lv.getD p 0 + 1 ≤ lv.getD a 0
  at' : ∀ a, lv.getD a 0 = 0 ∨ ∃ p ∈ row ys a, lv.getD a 0 = lv.getD p 0 + 1

def depth (lv : List Nat) : Nat := lv.foldr (fun a h => max (a + 1) h) 0
def group (lv : List Nat) (i k : Nat) : List Nat := (List.range i).filter fun a => lv.getD a 0 == k
def groups (lv : List Nat) : List (List Nat) := (List.range (depth lv)).map (group lv lv.length)

theorem depth_ge : ∀ {lv : List Nat} {a : Nat}, a < lv.length → lv.getD a 0 < depth lv
  | v :: lv, 0, _ => by simp [depth]; omega
  | v :: lv, a + 1, h => by
    have := depth_ge (lv := lv) (a := a) (by simpa using h)
    simp only [depth, List.foldr_cons, List.getD_cons_succ] at this ⊢
    omega
theorem depth_at : ∀ {lv : List Nat}, depth lv = 0 ∧ lv = [] ∨ ∃ a, a < lv.length ∧ depth lv = lv.getD a 0 + 1
  | [] => .inl ⟨rfl, rfl⟩
  | v :: lv => by
    right
    by_cases hv : depth lv ≤ v + 1
    · exact ⟨0, by simp, by simp only [depth, List.foldr_cons, List.getD_cons_zero] at hv ⊢; omega⟩
    · rcases depth_at (lv := lv) with ⟨h1, _⟩ | ⟨a, h1, h2⟩
      · omega
      · exact ⟨a + 1, by simpa using h1, by simp only [depth, List.foldr_cons, List.getD_cons_succ] at hv h2 ⊢; omega⟩

theorem IsLv.unique {ys : List (List Nat)} (hR : Rt ys) {l m : List Nat} (hl : IsLv ys l) (hm : IsLv ys m) : l = m := by
  have key : ∀ n a, a < ys.length → l.getD a 0 ≤ n → l.getD a 0 = m.getD a 0 := by
    intro n
    induction n using Nat.strongRecOn with
    | ind n ih =>
      intro a ha hn
      have h1 : ∀ p ∈ row ys a, l.getD p 0 = m.getD p 0 := fun p hp => by
        have := hl.ge a p hp
        exact ih (l.getD p 0) (by omega) p (hR.lt hp).1 (Nat.le_refl _)
      rcases hl.at' a with h0 | ⟨p, hp, h2⟩
      · rcases hm.at' a with h3 | ⟨q, hq, h3⟩
        · rw [h0, h3]
        · have := hl.ge a q hq; omega
      · rcases hm.at' a with h3 | ⟨q, hq, h3⟩
        · have := hm.ge a p hp; omega
        · have e1 := h1 p hp
          have e2 := h1 q hq
          have := hl.ge a q hq
          have := hm.ge a p hp
          omega
  apply List.ext_getElem (by rw [hl.len, hm.len])
  intro a h1 h2
  have := key _ a (by rw [← hl.len]; exact h1) (Nat.le_refl _)
  simpa [List.getD, List.getElem?_eq_getElem, h1, h2] using this

/-- The queue's end. -/
theorem W.mem_iff {ys : List (List Nat)} {bh : Nat → List Nat} (hb : ∀ k a, (bh k).count a = (row ys a).count k) {rd op lv : List Nat} (h : W ys rd (edges bh rd) op lv) {a : Nat} (ha : a < ys.length) : a ∈ rd ↔ ∀ m ∈ row ys a, m ∈ rd := by
  have h1 := h.cnt a ha
  rw [edges_count hb h.nodup] at h1
  rw [← h.zero a ha]
  have h2 : (row ys a).countP (fun m => decide (m ∈ rd)) = (row ys a).length ↔ ∀ m ∈ row ys a, m ∈ rd := by
    rw [List.countP_eq_length]; simp
  rw [← h2]; omega

theorem edge_iff {ys : List (List Nat)} {bh : Nat → List Nat} (hb : ∀ k a, (bh k).count a = (row ys a).count k) {p a : Nat} : a ∈ bh p ↔ p ∈ row ys a := by
  rw [← List.count_pos_iff, ← List.count_pos_iff, hb]

theorem W.isLv {ys : List (List Nat)} (hR : Rt ys) {bh : Nat → List Nat} (hb : ∀ k a, (bh k).count a = (row ys a).count k) {rd op lv : List Nat} (h : W ys rd (edges bh rd) op lv) (hn : ys.length ≤ rd.length) : IsLv ys lv ∧ ∀ a, a < ys.length → a ∈ rd := by
  have hall : ∀ a, a < ys.length → a ∈ rd := by
    intro a ha
    refine Classical.byContradiction fun hna => ?_
    have h1 : (a :: rd).length ≤ ys.length := nodup_length (List.nodup_cons.2 ⟨hna, h.nodup⟩) (fun b hb => by
      rcases List.mem_cons.1 hb with rfl | hb
      · exact ha
      · exact h.lt b hb)
    simp only [List.length_cons] at h1
    omega
  refine ⟨⟨h.lvl, fun a p hp => ?_, fun a => ?_⟩, hall⟩
  · exact h.ge p a (edges_mem.2 ⟨hall p (hR.lt hp).1, (edge_iff hb).2 hp⟩)
  · rcases h.at' a with h0 | ⟨p, hp, h1⟩
    · exact .inl h0
    · exact .inr ⟨p, (edge_iff hb).1 (edges_mem.1 hp).2, h1⟩

theorem W.noLv {ys : List (List Nat)} (hR : Rt ys) {bh : Nat → List Nat} (hb : ∀ k a, (bh k).count a = (row ys a).count k) {rd op lv : List Nat} (h : W ys rd (edges bh rd) op lv) (hn : rd.length < ys.length) : ¬ ∃ l, IsLv ys l := by
  rintro ⟨l, hl⟩
  have key : ∀ n a, a < ys.length → l.getD a 0 ≤ n → a ∈ rd := by
    intro n
    induction n using Nat.strongRecOn with
    | ind n ih =>
      intro a ha hn
      rw [h.mem_iff hb ha]
      intro p hp
      have := hl.ge a p hp
      exact ih (l.getD p 0) (by omega) p (hR.lt hp).1 (Nat.le_refl _)
  have h1 : (List.range ys.length).length ≤ rd.length := by
    have hsub : ∀ a ∈ List.range ys.length, a ∈ rd := fun a ha => key _ a (List.mem_range.1 ha) (Nat.le_refl _)
    have := List.Nodup.length_le_of_subset (List.nodup_range (n := ys.length)) hsub
    exact this
  simp at h1
  omega

/-- The highest level so far, and one. -/
def Hi (lv pr : List Nat) (h : Nat) : Prop := (∀ p ∈ pr, lv.getD p 0 + 1 ≤ h) ∧ (h = 0 ∧ pr = [] ∨ ∃ p ∈ pr, h = lv.getD p 0 + 1)

theorem Hi.add {lv pr : List Nat} {h : Nat} (hh : Hi lv pr h) (k : Nat) : Hi lv (pr ++ [k]) (max h (lv.getD k 0 + 1)) := by
  refine ⟨fun p hp => ?_, .inr ?_⟩
  · rcases List.mem_append.1 hp with hp | hp
    · have := hh.1 p hp; omega
    · rw [List.mem_singleton.1 hp]; omega
  · rcases hh.2 with ⟨rfl, rfl⟩ | ⟨p, hp, e⟩
    · exact ⟨k, by simp, by omega⟩
    · by_cases hk : h ≤ lv.getD k 0 + 1
      · exact ⟨k, by simp, by omega⟩
      · exact ⟨p, by simp [hp], by omega⟩
theorem Hi.set {lv pr : List Nat} {h : Nat} (hh : Hi lv pr h) {x v : Nat} (hx : x ∉ pr) (hl : x < lv.length) : Hi (lv.set x v) pr h := by
  have e : ∀ p ∈ pr, (lv.set x v).getD p 0 = lv.getD p 0 := fun p hp => by
    rw [getD_set _ _ _ _ hl, if_neg (fun e : p = x => hx (e ▸ hp))]
  refine ⟨fun p hp => by rw [e p hp]; exact hh.1 p hp, ?_⟩
  rcases hh.2 with h1 | ⟨p, hp, h2⟩
  · exact .inl h1
  · exact .inr ⟨p, hp, by rw [e p hp]; exact h2⟩
theorem Hi.depth {ys : List (List Nat)} {lv rd : List Nat} {h : Nat} (hh : Hi lv rd h) (hl : lv.length = ys.length) (hall : ∀ a, a < ys.length → a ∈ rd) (hlt : ∀ a ∈ rd, a < ys.length) : h = Go.Proofs.Ytfhmibodjfpdfaa.depth lv := by
  have h1 : h ≤ Go.Proofs.Ytfhmibodjfpdfaa.depth lv := by
    rcases hh.2 with ⟨rfl, _⟩ | ⟨p, hp, rfl⟩
    · omega
    · exact depth_ge (by rw [hl]; exact hlt p hp)
  rcases depth_at (lv := lv) with ⟨h2, _⟩ | ⟨a, ha, h2⟩
  · omega
  · have := hh.1 a (hall a (by rw [← hl]; exact ha)); omega

theorem group_succ (lv : List Nat) (i k : Nat) : group lv (i + 1) k = if k = lv.getD i 0 then group lv i k ++ [i] else group lv i k := by
  simp only [group, List.range_succ, List.filter_append]
  by_cases h : k = lv.getD i 0
  · subst h; simp
  · have : ¬ lv.getD i 0 = k := fun e => h e.symm
    rw [if_neg h]
    simp only [List.filter_cons, List.filter_nil, beq_iff_eq, this, if_false, List.append_nil]

end Go.Proofs.Ytfhmibodjfpdfaa
