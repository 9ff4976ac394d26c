/- What is behind a thing, in plain Lean. -/
import Derived.Test.YtfhmibodjfpdfaaGD
set_option linter.unusedSimpArgs false
set_option linter.unusedVariables false
namespace Go.Proofs.Ytfhmibodjfpdfaa

/-- What a thing needs, by whatever way. -/
inductive Reach (ys : List (List Nat)) (i : Nat) : Nat → Prop
  | base {k : Nat} (h : k ∈ row ys i) : Reach ys i k
  | step {j k : Nat} (hj : Reach ys i j) (h : k ∈ row ys j) : Reach ys i k

theorem Reach.lt {ys : List (List Nat)} (hR : Rt ys) {i k : Nat} (h : Reach ys i k) : k < ys.length := by
  cases h with
  | base h => exact (hR.lt h).1
  | step _ h => exact (hR.lt h).1

def sn (S : List Bool) (k : Nat) : Bool := S.getD k false
theorem sn_set {S : List Bool} {x k : Nat} (hx : x < S.length) : sn (S.set x true) k = (decide (k = x) || sn S k) := by
  simp only [sn, List.getD, List.getElem?_set]
  by_cases h : x = k
  · subst h; simp [hx]
  · have h' : ¬ k = x := fun e => h e.symm
    simp [h, h']
theorem sn_get {S : List Bool} {k : Nat} (h : k < S.length) : S[k]? = some (sn S k) := by
  simp [sn, List.getD, List.getElem?_eq_getElem h]
theorem sn_rep (n k : Nat) : sn (List.replicate n false) k = false := by
  simp only [sn, List.getD, List.getElem?_replicate]; split <;> rfl

def behindOf (S : List Bool) (i n : Nat) : List Nat := (List.range n).filter fun k => sn S k && decide (k ≠ i)
theorem behindOf_succ (S : List Bool) (i n : Nat) : behindOf S i (n + 1) = if (sn S n && decide (n ≠ i)) = true then behindOf S i n ++ [n] else behindOf S i n := by
  simp only [behindOf, List.range_succ, List.filter_append, List.filter_cons, List.filter_nil]
  split <;> simp
theorem behindOf_len (S : List Bool) (i n : Nat) : (behindOf S i n).length ≤ n := by
  have := List.length_filter_le (fun k => sn S k && decide (k ≠ i)) (List.range n)
  simpa [behindOf] using this

theorem sum_one {f g : Nat → Nat} {x d : Nat} : ∀ {l : List Nat}, l.Nodup → x ∈ l → (∀ y ∈ l, y ≠ x → f y = g y) → f x = g x + d → (l.map f).sum = (l.map g).sum + d
  | [], _, h, _, _ => by cases h
  | a :: l, hn, hx, h, he => by
    obtain ⟨h1, h2⟩ := List.nodup_cons.1 hn
    simp only [List.map_cons, List.sum_cons]
    by_cases hax : a = x
    · subst hax
      have : l.map f = l.map g := List.map_congr_left fun y hy => h y (by simp [hy]) (fun e => h1 (e ▸ hy))
      rw [this, he]; omega
    · have hxl : x ∈ l := by rcases List.mem_cons.1 hx with rfl | h'; exact absurd rfl hax; exact h'
      have := sum_one h2 hxl (fun y hy => h y (by simp [hy])) he
      rw [this, h a (by simp) hax]; omega

/-- How many things weren't seen yet, each with a weight. -/
def unseen (wt : Nat → Nat) (n : Nat) (S : List Bool) : Nat := ((List.range n).map fun x => if sn S x = true then 0 else wt x).sum
theorem unseen_set {wt : Nat → Nat} {n : Nat} {S : List Bool} (hS : S.length = n) {x : Nat} (hx : x < n) (h : sn S x = false) : unseen wt n S = unseen wt n (S.set x true) + wt x := by
  refine sum_one List.nodup_range (by simpa using hx) (fun y _ hy => ?_) ?_
  · rw [sn_set (by omega)]; simp [hy]
  · rw [sn_set (by omega), h]; simp

/-- The program's search: the stack T. -/
structure Srch (ys : List (List Nat)) (i : Nat) (S : List Bool) (T : List Nat) (cur : Option (Nat × Nat)) : Prop where
  len : S.length = ys.length
  lt : ∀ a ∈ T, a < ys.length
  reach : ∀ k, sn S k = true → Reach ys i k
  stk : ∀ k ∈ T, k = i ∨ sn S k = true
  clo : ∀ j, (j = i ∨ sn S j = true) → j ∈ T ∨ (∃ idx, cur = some (j, idx)) ∨ ∀ m ∈ row ys j, sn S m = true
  part : ∀ k idx, cur = some (k, idx) → (k = i ∨ sn S k = true) ∧ k < ys.length ∧ ∀ m ∈ (row ys k).take idx, sn S m = true

theorem Srch.init {ys : List (List Nat)} {i : Nat} (hi : i < ys.length) : Srch ys i (List.replicate ys.length false) [i] none := by
  refine ⟨by simp, fun a ha => ?_, fun k h => ?_, fun k h => .inl (by simpa using h), fun j h => ?_, fun k idx h => ?_⟩
  · simp at ha; omega
  · rw [sn_rep] at h; cases h
  · rcases h with rfl | h
    · exact .inl (by simp)
    · rw [sn_rep] at h; cases h
  · cases h

theorem Srch.pop {ys : List (List Nat)} {i : Nat} {S : List Bool} {T : List Nat} {k : Nat} (h : Srch ys i S (T ++ [k]) none) : Srch ys i S T (some (k, 0)) := by
  refine ⟨h.len, fun a ha => h.lt a (by simp [ha]), h.reach, fun a ha => h.stk a (by simp [ha]), fun j hj => ?_, fun k' idx' e => ?_⟩
  · rcases h.clo j hj with h1 | ⟨idx, h1⟩ | h1
    · rcases List.mem_append.1 h1 with h2 | h2
      · exact .inl h2
      · simp at h2; subst h2; exact .inr (.inl ⟨0, rfl⟩)
    · cases h1
    · exact .inr (.inr h1)
  · cases e
    exact ⟨h.stk k (by simp), h.lt k (by simp), fun m hm => by simp at hm⟩

theorem take_succ_mem {l : List Nat} {j x m : Nat} (hx : l[j]? = some x) (h : m ∈ l.take (j + 1)) : m ∈ l.take j ∨ m = x := by
  rw [List.take_add_one, hx] at h
  simpa using h

theorem Srch.skip {ys : List (List Nat)} {i : Nat} {S : List Bool} {T : List Nat} {k idx x : Nat} (h : Srch ys i S T (some (k, idx))) (hx : (row ys k)[idx]? = some x) (hs : sn S x = true) : Srch ys i S T (some (k, idx + 1)) := by
  obtain ⟨p1, p2, p3⟩ := h.part k idx rfl
  refine ⟨h.len, h.lt, h.reach, h.stk, fun j hj => ?_, fun k' idx' e => ?_⟩
  · rcases h.clo j hj with h1 | ⟨_, h1⟩ | h1
    · exact .inl h1
    · cases h1; exact .inr (.inl ⟨_, rfl⟩)
    · exact .inr (.inr h1)
  · cases e
    refine ⟨p1, p2, fun m hm => ?_⟩
    rcases take_succ_mem hx hm with h1 | rfl
    · exact p3 m h1
    · exact hs

theorem Srch.push {ys : List (List Nat)} (hR : Rt ys) {i : Nat} {S : List Bool} {T : List Nat} {k idx x : Nat} (h : Srch ys i S T (some (k, idx))) (hx : (row ys k)[idx]? = some x) : Srch ys i (S.set x true) (T ++ [x]) (some (k, idx + 1)) := by
  obtain ⟨p1, p2, p3⟩ := h.part k idx rfl
  have hxr : x ∈ row ys k := List.mem_of_getElem? hx
  have hxl := (hR.lt hxr).1
  have hset : ∀ {m}, sn S m = true → sn (S.set x true) m = true := fun {m} hm => by rw [sn_set (by rw [h.len]; exact hxl), hm]; simp
  have hxx : sn (S.set x true) x = true := by rw [sn_set (by rw [h.len]; exact hxl)]; simp
  have hback : ∀ {m}, sn (S.set x true) m = true → m = x ∨ sn S m = true := fun {m} hm => by
    rw [sn_set (by rw [h.len]; exact hxl)] at hm; simpa using hm
  have hrx : Reach ys i x := by
    rcases p1 with rfl | p1
    · exact .base hxr
    · exact .step (h.reach k p1) hxr
  refine ⟨by simp [h.len], fun a ha => ?_, fun m hm => ?_, fun a ha => ?_, fun j hj => ?_, fun k' idx' e => ?_⟩
  · rcases List.mem_append.1 ha with h1 | h1
    · exact h.lt a h1
    · simp at h1; omega
  · rcases hback hm with rfl | h1
    · exact hrx
    · exact h.reach m h1
  · rcases List.mem_append.1 ha with h1 | h1
    · rcases h.stk a h1 with h2 | h2
      · exact .inl h2
      · exact .inr (hset h2)
    · simp at h1; subst h1; exact .inr hxx
  · by_cases hjx : j = x
    · exact .inl (by simp [hjx])
    · have hj' : j = i ∨ sn S j = true := by
        rcases hj with h1 | h1
        · exact .inl h1
        · rcases hback h1 with h2 | h2
          · exact absurd h2 hjx
          · exact .inr h2
      rcases h.clo j hj' with h1 | ⟨_, h1⟩ | h1
      · exact .inl (by simp [h1])
      · cases h1; exact .inr (.inl ⟨_, rfl⟩)
      · exact .inr (.inr fun m hm => hset (h1 m hm))
  · cases e
    refine ⟨?_, p2, fun m hm => ?_⟩
    · rcases p1 with h1 | h1
      · exact .inl h1
      · exact .inr (hset h1)
    · rcases take_succ_mem hx hm with h1 | rfl
      · exact hset (p3 m h1)
      · exact hxx

theorem Srch.next {ys : List (List Nat)} {i : Nat} {S : List Bool} {T : List Nat} {k idx : Nat} (h : Srch ys i S T (some (k, idx))) (hi : (row ys k).length ≤ idx) : Srch ys i S T none := by
  obtain ⟨p1, p2, p3⟩ := h.part k idx rfl
  refine ⟨h.len, h.lt, h.reach, h.stk, fun j hj => ?_, fun k' idx' e => by cases e⟩
  rcases h.clo j hj with h1 | ⟨_, h1⟩ | h1
  · exact .inl h1
  · cases h1
    rw [List.take_of_length_le hi] at p3
    exact .inr (.inr p3)
  · exact .inr (.inr h1)

theorem Srch.done {ys : List (List Nat)} {i : Nat} {S : List Bool} (h : Srch ys i S [] none) (k : Nat) : sn S k = true ↔ Reach ys i k := by
  refine ⟨h.reach k, fun hr => ?_⟩
  have clo : ∀ j, (j = i ∨ sn S j = true) → ∀ m ∈ row ys j, sn S m = true := fun j hj => by
    rcases h.clo j hj with h1 | ⟨_, h1⟩ | h1
    · cases h1
    · cases h1
    · exact h1
  induction hr with
  | base h1 => exact clo i (.inl rfl) _ h1
  | step _ h1 ih => exact clo _ (.inr ih) _ h1

/-- The document's search: the list L, of which k were looked at. -/
structure Srch2 (ys : List (List Nat)) (i : Nat) (S : List Bool) (L : List Nat) (k : Nat) : Prop where
  len : S.length = ys.length
  le : k ≤ L.length
  reach : ∀ m ∈ L, Reach ys i m
  seen : ∀ m, sn S m = true ↔ m ∈ L.take k
  first : ∀ m ∈ row ys i, m ∈ L
  clo : ∀ j, sn S j = true → ∀ m ∈ row ys j, m ∈ L

theorem Srch2.init (ys : List (List Nat)) (i : Nat) : Srch2 ys i (List.replicate ys.length false) (row ys i) 0 :=
  ⟨by simp, by simp, fun m hm => .base hm, fun m => by rw [sn_rep]; simp, fun m hm => hm, fun j h => by rw [sn_rep] at h; cases h⟩

theorem Srch2.skip {ys : List (List Nat)} {i : Nat} {S : List Bool} {L : List Nat} {k x : Nat} (h : Srch2 ys i S L k) (hx : L[k]? = some x) (hs : sn S x = true) : Srch2 ys i S L (k + 1) := by
  have hk := (List.getElem?_eq_some_iff.1 hx).1
  refine ⟨h.len, hk, h.reach, fun m => ⟨fun hm => ?_, fun hm => ?_⟩, h.first, h.clo⟩
  · have := (h.seen m).1 hm
    rw [List.take_add_one]; simp [this]
  · rcases take_succ_mem hx hm with h1 | rfl
    · exact (h.seen m).2 h1
    · exact hs

theorem Srch2.add {ys : List (List Nat)} (hR : Rt ys) {i : Nat} {S : List Bool} {L : List Nat} {k x : Nat} (h : Srch2 ys i S L k) (hx : L[k]? = some x) : Srch2 ys i (S.set x true) (L ++ row ys x) (k + 1) := by
  have hk := (List.getElem?_eq_some_iff.1 hx).1
  have hxL := List.mem_of_getElem? hx
  have hxr := h.reach x hxL
  have hxl : x < S.length := by rw [h.len]; exact hxr.lt hR
  have htk : (L ++ row ys x).take (k + 1) = L.take (k + 1) := List.take_append_of_le_length hk
  refine ⟨by simp [h.len], by simp; omega, fun m hm => ?_, fun m => ?_, fun m hm => by simp [h.first m hm], fun j hj m hm => ?_⟩
  · rcases List.mem_append.1 hm with h1 | h1
    · exact h.reach m h1
    · exact .step hxr h1
  · rw [sn_set hxl, htk]
    simp only [Bool.or_eq_true, decide_eq_true_eq]
    constructor
    · rintro (rfl | h1)
      · rw [List.take_add_one, hx]; simp
      · have := (h.seen m).1 h1
        rw [List.take_add_one]; simp [this]
    · intro hm
      rcases take_succ_mem hx hm with h1 | h1
      · exact .inr ((h.seen m).2 h1)
      · exact .inl h1
  · rw [sn_set hxl] at hj
    simp only [Bool.or_eq_true, decide_eq_true_eq] at hj
    rcases hj with rfl | hj
    · simp [hm]
    · simp [h.clo j hj m hm]

theorem Srch2.done {ys : List (List Nat)} {i : Nat} {S : List Bool} {L : List Nat} (h : Srch2 ys i S L L.length) (k : Nat) : sn S k = true ↔ Reach ys i k := by
  have hs : ∀ m, sn S m = true ↔ m ∈ L := fun m => by rw [h.seen m, List.take_length]
  refine ⟨fun hk => h.reach k ((hs k).1 hk), fun hr => ?_⟩
  induction hr with
  | base h1 => exact (hs _).2 (h.first _ h1)
  | step _ h1 ih => exact (hs _).2 (h.clo _ ih _ h1)

theorem behindOf_eq {S S' : List Bool} {i n : Nat} (h : ∀ k, sn S k = true ↔ sn S' k = true) : behindOf S i n = behindOf S' i n := by
  simp only [behindOf]
  congr 1
  funext k
  have : sn S k = sn S' k := by rw [Bool.eq_iff_iff]; exact h k
  rw [this]

end Go.Proofs.Ytfhmibodjfpdfaa
