/- Regions that draw their order and write, by their text's order: each operation is walked in a state that shows it only what stands before it. -/
import Derived.Test.YthengcpckdlpgaaAm20
import Derived.Test.YthengcpckdlpgaaAm19
set_option linter.unusedSimpArgs false
set_option linter.unusedVariables false
namespace Go.Am

structure Ent where
  o : Oper
  rd : List Nat
  hd : List Nat
  ef : List Nat
  full : Bool

def zipE : List Oper → List (List Nat × List Nat × List Nat × Bool) → List Ent
  | o :: os, t :: ts => ⟨o, t.1, t.2.1, t.2.2.1, t.2.2.2⟩ :: zipE os ts
  | _, _ => []

def maskf {α : Type} : List Nat → (Nat → α) → (Nat → α) → Nat → α
  | [], _, fa => fa
  | r :: rs, f, fa => upd (maskf rs f fa) r (f r)
def maskm {α : Type} (ids : List Nat) : List Nat → (Nat → α) → (Nat → α) → Nat → α
  | [], g, _ => g
  | a :: as, g, ga => upd (maskm ids as g ga) (ids.getD a 0) (ga (ids.getD a 0))
def setm {α : Type} (ids : List Nat) : List Nat → List α → (Nat → α) → Nat → α
  | a :: as, x :: xs, g => upd (setm ids as xs g) (ids.getD a 0) x
  | _, _, g => g

def putF (f : Nat → AV) : Option Nat → AV → Nat → AV
  | some d, v => upd f d v
  | none, _ => f

def effS (ids : List Nat) (e : Ent) (v : AV) (m : List (Nat × Option (List C))) (s : St) : St :=
  ⟨putF s.f e.o.dst v, setm ids e.ef (m.map (·.1)) s.gen, setm ids e.ef (m.map (·.2)) s.obj⟩

def StepE (S : Sp) (T : Nat → TI) (ids : List Nat) (e : Ent) (s : St) (v : AV) (m : List (Nat × Option (List C))) : Prop :=
  ∀ (fa : Nat → AV) (ga : Nat → Nat) (oa : Nat → Option (List C)) (K' : St → Prop), K' (effS ids e v m ⟨maskf e.rd s.f fa, maskm ids e.hd s.gen ga, maskm ids e.hd s.obj oa⟩) → opA S T e.o ⟨maskf e.rd s.f fa, maskm ids e.hd s.gen ga, maskm ids e.hd s.obj oa⟩ (bx K')

/-- The last operation, which waits for all others. -/
def LastE (S : Sp) (T : Nat → TI) (o : Oper) (s : St) (K : St → Prop) : Prop := ∀ K' : St → Prop, (∀ s'', K s'' → K' s'') → opA S T o s (bx K')

def wpDet (S : Sp) (T : Nat → TI) (ids : List Nat) : List Ent → St → {K : St → Prop} → Box K → Prop
  | [], s, K, _ => K s
  | e :: r, s, K, k => match e.full with
    | true => LastE S T e.o s K
    | false => ∃ v m, (m.length = e.ef.length ∧ StepE S T ids e s v m) ∧ wpDet S T ids r (effS ids e v m s) k

theorem det_trace {S : Sp} {T : Nat → TI} {ids : List Nat} {K : St → Prop} {k : Box K} : ∀ (l : List Ent) (s : St), wpDet S T ids l s k → (∀ i e, l[i]? = some e → e.full = true → i + 1 = l.length) →
    ∃ t : Nat → St, t 0 = s ∧ (∀ i e, l[i]? = some e → e.full = false → ∃ v m, (m.length = e.ef.length ∧ StepE S T ids e (t i) v m) ∧ t (i + 1) = effS ids e v m (t i)) ∧ (∀ i e, l[i]? = some e → e.full = true → LastE S T e.o (t i) K) ∧
      ((∀ (i : Nat) (e : Ent), l[i]? = some e → e.full = false) → K (t l.length))
  | [], s, h, _ => ⟨fun _ => s, rfl, fun i e hi => (by simp at hi), fun i e hi => (by simp at hi), fun _ => h⟩
  | e :: r, s, h, hl => by
    unfold wpDet at h
    cases hf : e.full with
    | true =>
      rw [hf] at h
      have h0 := hl 0 e rfl hf
      have : r = [] := List.eq_nil_of_length_eq_zero (by simpa using h0)
      subst this
      refine ⟨fun _ => s, rfl, fun i e' hi hf' => ?_, fun i e' hi _ => ?_, fun ha => ?_⟩
      · cases i with
        | zero => simp at hi; subst hi; rw [hf] at hf'; cases hf'
        | succ i => simp at hi
      · cases i with
        | zero => simp at hi; subst hi; exact h
        | succ i => simp at hi
      · have := ha 0 e rfl; rw [hf] at this; cases this
    | false =>
      rw [hf] at h
      obtain ⟨v, m, hs, hr⟩ := h
      obtain ⟨t, t0, t1, t2, t3⟩ := det_trace r _ hr (fun i e' hi hf' => by have := hl (i + 1) e' (by simpa using hi) hf'; simpa using this)
      refine ⟨fun i => match i with | 0 => s | i + 1 => t i, rfl, fun i e' hi hf' => ?_, fun i e' hi hf' => ?_, fun ha => ?_⟩
      · cases i with
        | zero => simp at hi; subst hi; exact ⟨v, m, hs, t0⟩
        | succ i => exact t1 i e' (by simpa using hi) hf'
      · cases i with
        | zero => simp at hi; subst hi; rw [hf] at hf'; cases hf'
        | succ i => exact t2 i e' (by simpa using hi) hf'
      · exact t3 (fun i e' hi => ha (i + 1) e' (by rw [List.getElem?_cons_succ]; exact hi))

/-- What each operation waits for, directly or not. -/
def clStep (tab : List (List Nat)) (o : Oper) : List Nat := (o.after.toList.filter (Region.binds .any ·)).foldl (fun acc e => (e.on :: (tab[e.on]?).getD []).foldl (fun a j => if a.contains j then a else j :: a) acc) []
def clTab (ops : Array Oper) : List (List Nat) := ops.toList.foldl (fun tab o => tab ++ [clStep tab o]) []

def inCl (tab : List (List Nat)) (i j : Nat) : Bool := ((tab[i]?).getD []).contains j

def clOk (ops : Array Oper) (tab : List (List Nat)) : Bool := (List.range ops.size).all fun i => ((tab[i]?).getD []).all fun j => decide (j < i) && ((ops[i]?).map fun o => o.after.toList.any fun e => Region.binds .any e && (e.on == j || inCl tab e.on j) && decide (e.on < i)).getD false

def okDetT (ops : Array Oper) (tb : List (List Nat × List Nat × List Nat × Bool)) (nid : Nat) (tab : List (List Nat)) : Bool :=
  ops.toList.all (fun o => o.guard.isNone) && backB ops && clOk ops tab && (tb.length == ops.size) &&
  (List.range ops.size).all fun i => (((ops[i]?).bind fun o => (tb[i]?).map fun t =>
    (t.1.all fun r => (List.range ops.size).all fun j => inCl tab i j || ((ops[j]?).map fun o' => decide (o'.dst ≠ some r)).getD false) &&
    ((List.range ops.size).all fun j => i == j || ((ops[j]?).map fun o' => o'.dst.isNone || decide (o'.dst ≠ o.dst)).getD false) &&
    ((List.range nid).all fun a => t.2.1.contains a || (List.range ops.size).all fun j => inCl tab i j || inCl tab j i || i == j || ((tb[j]?).map fun t' => !t'.2.2.1.contains a).getD false) &&
    (t.2.1.all fun a => decide (a < nid)) && (t.2.2.1.all fun a => decide (a < nid)) && (t.2.2.1.all fun a => (List.range ops.size).all fun j => inCl tab i j || inCl tab j i || i == j || ((tb[j]?).map fun t' => !t'.2.2.1.contains a).getD false) &&
    (!t.2.2.2 || (i + 1 == ops.size && (List.range i).all fun j => inCl tab i j))).getD false)

def okDet (ops : Array Oper) (tb : List (List Nat × List Nat × List Nat × Bool)) (nid : Nat) : Bool := okDetT ops tb nid (clTab ops)

theorem cl_listed {ops : Array Oper} {tab : List (List Nat)} (hok : clOk ops tab = true) {L : Nat → Bool} (hid : ∀ j o', L j = true → ops[j]? = some o' → ∀ e ∈ o'.after.toList, Region.binds .any e = true → L e.on = true) :
    ∀ (i : Nat) (o : Oper), ops[i]? = some o → (∀ e ∈ o.after.toList, Region.binds .any e = true → L e.on = true) → ∀ j, inCl tab i j = true → L j = true ∧ j < i := by
  intro i
  induction i using Nat.strongRecOn with
  | ind i ih =>
    intro o ho hdep j hj
    have hi := (Array.getElem?_eq_some_iff.1 ho).1
    have h1 := List.all_eq_true.1 hok i (List.mem_range.2 hi)
    have h2 := List.all_eq_true.1 h1 j (by simpa [inCl] using hj)
    rw [ho] at h2
    simp only [Option.map_some, Option.getD_some, Bool.and_eq_true, decide_eq_true_eq, List.any_eq_true, Bool.or_eq_true, beq_iff_eq] at h2
    obtain ⟨hlt, e, he, ⟨hb, h3⟩, hlt2⟩ := h2
    refine ⟨?_, hlt⟩
    rcases h3 with h3 | h3
    · rw [← h3]; exact hdep e he hb
    · have hLe := hdep e he hb
      have hes : e.on < ops.size := by omega
      exact (ih e.on hlt2 _ (Array.getElem?_eq_getElem hes) (fun e' he' hb' => hid e.on _ hLe (Array.getElem?_eq_getElem hes) e' he' hb') j h3).1

theorem maskf_same {α : Type} {rd : List Nat} {f fa : Nat → α} (h : ∀ r ∈ rd, fa r = f r) : maskf rd f fa = fa := by
  induction rd with
  | nil => rfl
  | cons r rs ih =>
    unfold maskf
    rw [ih (fun r' hr => h r' (by simp [hr]))]
    funext j
    simp only [upd]
    split
    · rename_i e; subst e; rw [h _ (by simp)]
    · rfl

theorem maskm_same {α : Type} {ids hd : List Nat} {g ga : Nat → α} (h : ∀ id, (∀ a ∈ hd, ids.getD a 0 ≠ id) → ga id = g id) : maskm ids hd g ga = ga := by
  funext id
  have : ∀ hd : List Nat, maskm ids hd g ga id = if ∃ a ∈ hd, ids.getD a 0 = id then ga id else g id := by
    intro hd
    induction hd with
    | nil => simp [maskm]
    | cons a as ih =>
      simp only [maskm, upd]
      by_cases h1 : id = ids.getD a 0
      · rw [if_pos h1, if_pos ⟨a, by simp, h1.symm⟩, ← h1]
      · rw [if_neg h1, ih]
        by_cases h2 : ∃ a ∈ as, ids.getD a 0 = id
        · rw [if_pos h2, if_pos (by obtain ⟨b, hb, e⟩ := h2; exact ⟨b, by simp [hb], e⟩)]
        · rw [if_neg h2, if_neg (by
            rintro ⟨b, hb, e⟩
            rcases List.mem_cons.1 hb with rfl | hb
            · exact h1 e.symm
            · exact h2 ⟨b, hb, e⟩)]
  rw [this]
  by_cases h1 : ∃ a ∈ hd, ids.getD a 0 = id
  · rw [if_pos h1]
  · rw [if_neg h1]
    exact (h id (fun a ha e => h1 ⟨a, ha, e⟩)).symm

theorem setm_other {α : Type} {ids ef : List Nat} {xs : List α} {g : Nat → α} {id : Nat} (h : ∀ a ∈ ef, ids.getD a 0 ≠ id) : setm ids ef xs g id = g id := by
  induction ef generalizing xs with
  | nil => rfl
  | cons a as ih =>
    cases xs with
    | nil => rfl
    | cons x xs =>
      simp only [setm, upd]
      rw [if_neg (fun e => h a (by simp) e.symm)]
      exact ih (fun b hb => h b (by simp [hb]))

theorem setm_mine {α : Type} {ids ef : List Nat} {xs : List α} {g g' : Nat → α} (hl : xs.length = ef.length) {id : Nat} (h : ∃ a ∈ ef, ids.getD a 0 = id) : setm ids ef xs g id = setm ids ef xs g' id := by
  induction ef generalizing xs with
  | nil => obtain ⟨a, ha, _⟩ := h; simp at ha
  | cons a as ih =>
    cases xs with
    | nil => simp at hl
    | cons x xs =>
      simp only [setm, upd]
      split
      · rfl
      · rename_i hne
        refine ih (by simpa using hl) ?_
        obtain ⟨b, hb, e⟩ := h
        rcases List.mem_cons.1 hb with rfl | hb
        · exact absurd e.symm hne
        · exact ⟨b, hb, e⟩

theorem zipE_get : ∀ {os : List Oper} {ts : List (List Nat × List Nat × List Nat × Bool)} {i : Nat} {e : Ent}, (zipE os ts)[i]? = some e → os[i]? = some e.o ∧ ts[i]? = some (e.rd, e.hd, e.ef, e.full)
  | [], _, i, e, h => by simp [zipE] at h
  | _ :: _, [], i, e, h => by simp [zipE] at h
  | o :: os, t :: ts, 0, e, h => by simp [zipE] at h; subst h; exact ⟨rfl, rfl⟩
  | o :: os, t :: ts, i + 1, e, h => by
    have := zipE_get (os := os) (ts := ts) (i := i) (e := e) (by simpa [zipE] using h)
    simpa using this
theorem zipE_has : ∀ {os : List Oper} {ts : List (List Nat × List Nat × List Nat × Bool)} {i : Nat} {o : Oper} {t : List Nat × List Nat × List Nat × Bool}, os[i]? = some o → ts[i]? = some t → (zipE os ts)[i]? = some ⟨o, t.1, t.2.1, t.2.2.1, t.2.2.2⟩
  | [], _, i, o, t, h, _ => by simp at h
  | _ :: _, [], i, o, t, _, h => by simp at h
  | o :: os, t :: ts, 0, o', t', h, h' => by simp at h h'; subst h h'; simp [zipE]
  | o :: os, t :: ts, i + 1, o', t', h, h' => by
    have := zipE_has (os := os) (ts := ts) (i := i) (o := o') (t := t') (by simpa using h) (by simpa using h')
    simpa [zipE] using this
theorem zipE_len : ∀ {os : List Oper} {ts : List (List Nat × List Nat × List Nat × Bool)}, ts.length = os.length → (zipE os ts).length = os.length
  | [], [], _ => rfl
  | o :: os, t :: ts, h => by simp only [zipE, List.length_cons]; rw [zipE_len (by simpa using h)]
  | [], _ :: _, h => by simp at h
  | _ :: _, [], h => by simp at h

section
variable {P : Program} {T : Nat → TI} {b₀ : Bs} {β : Loc} {w : World}

/-- What holds, whatever has come up: t tells the states of the text's order. -/
structure DetI (n : Nat) (dst : Nat → Option Nat) (ef : Nat → List Nat) (ids : List Nat) (t : Nat → St) (L : Nat → Bool) (s : St) : Prop where
  f : ∀ i d, i < n → dst i = some d → L i = true → s.f d = (t (i + 1)).f d
  f0 : ∀ d, (∀ i, i < n → dst i ≠ some d) → s.f d = (t 0).f d
  m : ∀ id k, k ≤ n → (∀ j a, j < n → a ∈ ef j → ids.getD a 0 = id → (L j = true ↔ j < k)) → s.gen id = (t k).gen id ∧ s.obj id = (t k).obj id

theorem draw_det (hT : TabOk P T) (hm : P.follows .mixedOrders = true) {B id : Nat} {ops : Array Oper} {s : St} {Q : Exit → St → Prop} {q : Box Q} (ids : List Nat) (tb : List (List Nat × List Nat × List Nat × Bool)) (nid : Nat) (hok : okDet ops tb nid = true) (hnid : ids.length = nid) (hnd : ids.Nodup)
    (h : wpDet (spB P B) T ids (zipE ops.toList tb) s (bx fun s' => Q .normal s')) : DrawA (spB P B) T id ops s q := by
  subst hnid
  unfold okDet okDetT at hok
  generalize clTab ops = tab at hok
  simp only [Bool.and_eq_true, beq_iff_eq] at hok
  obtain ⟨⟨⟨⟨hg, hbk⟩, hcl⟩, htl⟩, hall⟩ := hok
  have hzl : (zipE ops.toList tb).length = ops.size := by rw [zipE_len (by simpa using htl)]; simp
  have hent : ∀ i, i < ops.size → ∃ e, (zipE ops.toList tb)[i]? = some e ∧ ops[i]? = some e.o ∧ tb[i]? = some (e.rd, e.hd, e.ef, e.full) := fun i hi => by
    have h1 : i < (zipE ops.toList tb).length := by omega
    refine ⟨_, List.getElem?_eq_getElem h1, ?_⟩
    have := zipE_get (List.getElem?_eq_getElem h1)
    simpa using this
  have hinj : ∀ a b, a < ids.length → b < ids.length → ids.getD a 0 = ids.getD b 0 → a = b := fun a b ha hb e => by
    rw [List.getD_eq_getElem?_getD, List.getD_eq_getElem?_getD, List.getElem?_eq_getElem ha, List.getElem?_eq_getElem hb] at e
    simp only [Option.getD_some] at e
    exact (List.getElem_inj hnd).1 e
  -- the checks, by operation
  have hchk : ∀ (i : Nat) (e : Ent), i < ops.size → ops[i]? = some e.o → tb[i]? = some (e.rd, e.hd, e.ef, e.full) →
      (∀ r ∈ e.rd, ∀ (j : Nat) (e' : Oper), j < ops.size → ops[j]? = some e' → e'.dst = some r → inCl tab i j = true) ∧
      (∀ (j : Nat) (o' : Oper), j < ops.size → j ≠ i → ops[j]? = some o' → o'.dst = none ∨ o'.dst ≠ e.o.dst) ∧
      (∀ a, a < ids.length → a ∉ e.hd → ∀ j t', j < ops.size → tb[j]? = some t' → a ∈ t'.2.2.1 → inCl tab i j = true ∨ inCl tab j i = true ∨ i = j) ∧
      (∀ a ∈ e.hd, a < ids.length) ∧ (∀ a ∈ e.ef, a < ids.length) ∧
      (∀ a ∈ e.ef, ∀ j t', j < ops.size → tb[j]? = some t' → a ∈ t'.2.2.1 → inCl tab i j = true ∨ inCl tab j i = true ∨ i = j) ∧
      (e.full = true → i + 1 = ops.size ∧ ∀ j, j < i → inCl tab i j = true) := by
    intro i e hi ho ht
    have h1 := List.all_eq_true.1 hall i (List.mem_range.2 hi)
    rw [ho, ht] at h1
    simp only [Option.bind_some, Option.map_some, Option.getD_some, Bool.and_eq_true] at h1
    obtain ⟨⟨⟨⟨⟨⟨c1, c2⟩, c3⟩, c4⟩, c5⟩, c6⟩, c7⟩ := h1
    refine ⟨fun r hr j o' hj hoj hd => ?_, fun j o' hj hne hoj => ?_, fun a ha hna j t' hj htj hat => ?_, fun a ha => ?_, fun a ha => ?_, fun a ha j t' hj htj hat => ?_, fun hf => ?_⟩
    · have := List.all_eq_true.1 (List.all_eq_true.1 c1 r hr) j (List.mem_range.2 hj)
      rw [hoj] at this
      simp only [Option.map_some, Option.getD_some, Bool.or_eq_true, decide_eq_true_eq] at this
      rcases this with h | h
      · exact h
      · exact absurd hd h
    · have := List.all_eq_true.1 c2 j (List.mem_range.2 hj)
      rw [hoj] at this
      simp only [Option.map_some, Option.getD_some, Bool.or_eq_true, decide_eq_true_eq, beq_iff_eq, Option.isNone_iff_eq_none] at this
      rcases this with h | h | h
      · exact absurd h.symm hne
      · exact .inl h
      · exact .inr h
    · have := List.all_eq_true.1 c3 a (List.mem_range.2 ha)
      simp only [Bool.or_eq_true, List.contains_iff_mem, List.all_eq_true, List.mem_range] at this
      rcases this with h | h
      · exact absurd h hna
      · have := h j hj
        rw [htj] at this
        simp only [Option.map_some, Option.getD_some, beq_iff_eq, Bool.not_eq_true'] at this
        rcases this with ((h | h) | h) | h
        · exact .inl h
        · exact .inr (.inl h)
        · exact .inr (.inr h)
        · rw [List.contains_iff_mem.2 hat] at h; cases h
    · exact of_decide_eq_true (List.all_eq_true.1 c4 a ha)
    · exact of_decide_eq_true (List.all_eq_true.1 c5 a ha)
    · have := List.all_eq_true.1 (List.all_eq_true.1 c6 a ha) j (List.mem_range.2 hj)
      rw [htj] at this
      simp only [Option.map_some, Option.getD_some, Bool.or_eq_true, beq_iff_eq, Bool.not_eq_true'] at this
      rcases this with ((h | h) | h) | h
      · exact .inl h
      · exact .inr (.inl h)
      · exact .inr (.inr h)
      · rw [List.contains_iff_mem.2 hat] at h; cases h
    · rw [hf] at c7
      simp only [Bool.not_true, Bool.false_or, Bool.and_eq_true, beq_iff_eq, List.all_eq_true, List.mem_range] at c7
      exact c7
  have hfull : ∀ (i : Nat) (e : Ent), (zipE ops.toList tb)[i]? = some e → e.full = true → i + 1 = (zipE ops.toList tb).length := fun i e hi hf => by
    have hlt : i < ops.size := by rw [← hzl]; exact (List.getElem?_eq_some_iff.1 hi).1
    have h2 := zipE_get hi
    rw [hzl]
    exact ((hchk i e hlt (by simpa using h2.1) h2.2).2.2.2.2.2.2 hf).1
  obtain ⟨t, t0, t1, t2, t3⟩ := det_trace _ _ h hfull
  let dst : Nat → Option Nat := fun i => (ops[i]?).bind (·.dst)
  let ef : Nat → List Nat := fun i => ((tb[i]?).map (·.2.2.1)).getD []
  -- how the trace goes
  have tf : ∀ (i : Nat) (e : Ent), i < ops.size → (zipE ops.toList tb)[i]? = some e → e.full = false → ∀ d, dst i ≠ some d → (t (i + 1)).f d = (t i).f d := fun i e hi he hf d hd => by
    obtain ⟨v, m, _, h2⟩ := t1 i e he hf
    rw [h2]
    have h3 : ops[i]? = some e.o := by simpa using (zipE_get he).1
    simp only [dst, h3, Option.bind_some] at hd
    simp only [effS]
    cases hq : e.o.dst with
    | none => rfl
    | some d' => simp only [putF, upd]; rw [if_neg (fun e' => hd (by rw [hq, e']))]
  have tm : ∀ (i : Nat) (e : Ent), i < ops.size → (zipE ops.toList tb)[i]? = some e → e.full = false → ∀ id, (∀ a ∈ ef i, ids.getD a 0 ≠ id) → (t (i + 1)).gen id = (t i).gen id ∧ (t (i + 1)).obj id = (t i).obj id := fun i e hi he hf id hd => by
    obtain ⟨v, m, _, h2⟩ := t1 i e he hf
    rw [h2]
    have h3 := (zipE_get he).2
    simp only [ef, h3, Option.map_some, Option.getD_some] at hd
    simp only [effS]
    exact ⟨setm_other hd, setm_other hd⟩
  -- how many are walked by themselves
  obtain ⟨N, hN, hNf, hNl⟩ : ∃ N, N ≤ ops.size ∧ (∀ (i : Nat) (e : Ent), i < N → (zipE ops.toList tb)[i]? = some e → e.full = false) ∧ (N = ops.size ∨ (N + 1 = ops.size ∧ ∃ e, (zipE ops.toList tb)[N]? = some e ∧ e.full = true)) := by
    by_cases hlast : ∃ (i : Nat) (e : Ent), (zipE ops.toList tb)[i]? = some e ∧ e.full = true
    · obtain ⟨i, e, he, hf⟩ := hlast
      have h1 := hfull i e he hf
      rw [hzl] at h1
      refine ⟨i, by omega, fun j e' hj hj' => ?_, .inr ⟨h1, e, he, hf⟩⟩
      cases hq : e'.full with
      | false => rfl
      | true => have := hfull j e' hj' hq; rw [hzl] at this; omega
    · refine ⟨ops.size, Nat.le_refl _, fun j e' hj hj' => ?_, .inl rfl⟩
      cases hq : e'.full with
      | false => rfl
      | true => exact absurd ⟨j, e', hj', hq⟩ hlast
  have tfs : ∀ (d k i : Nat), i ≤ k → k ≤ N → (∀ j, i ≤ j → j < k → dst j ≠ some d) → (t k).f d = (t i).f d := by
    intro d k
    induction k with
    | zero => intro i hi _ _; rw [show i = 0 by omega]
    | succ k ih =>
      intro i hi hk hd
      by_cases hik : i = k + 1
      · subst hik; rfl
      · obtain ⟨e, he, _, _⟩ := hent k (by omega)
        rw [tf k e (by omega) he (hNf k e (by omega) he) d (hd k (by omega) (by omega))]
        exact ih i (by omega) (by omega) (fun j h1 h2 => hd j h1 (by omega))
  have tms : ∀ (id k i : Nat), i ≤ k → k ≤ N → (∀ j, i ≤ j → j < k → ∀ a ∈ ef j, ids.getD a 0 ≠ id) → (t k).gen id = (t i).gen id ∧ (t k).obj id = (t i).obj id := by
    intro id k
    induction k with
    | zero => intro i hi _ _; rw [show i = 0 by omega]; exact ⟨rfl, rfl⟩
    | succ k ih =>
      intro i hi hk hd
      by_cases hik : i = k + 1
      · subst hik; exact ⟨rfl, rfl⟩
      · obtain ⟨e, he, _, _⟩ := hent k (by omega)
        obtain ⟨m1, m2⟩ := tm k e (by omega) he (hNf k e (by omega) he) id (hd k (by omega) (by omega))
        rw [m1, m2]
        exact ih i (by omega) (by omega) (fun j h1 h2 => hd j h1 (by omega))
  have hdist : ∀ (i j d : Nat), i < ops.size → j < ops.size → dst i = some d → dst j = some d → i = j := fun i j d hi hj h1 h2 => by
    rcases Nat.lt_or_ge i j with hij | hij
    · exfalso
      obtain ⟨e, he, ho, htb⟩ := hent i hi
      obtain ⟨e', he', ho', htb'⟩ := hent j hj
      simp only [dst, ho, ho', Option.bind_some] at h1 h2
      rcases (hchk i e hi ho htb).2.1 j e'.o hj (by omega) ho' with h | h
      · rw [h] at h2; cases h2
      · exact h (by rw [h1, h2])
    · rcases Nat.lt_or_ge j i with hji | hji
      · exfalso
        obtain ⟨e, he, ho, htb⟩ := hent i hi
        obtain ⟨e', he', ho', htb'⟩ := hent j hj
        simp only [dst, ho, ho', Option.bind_some] at h1 h2
        rcases (hchk i e hi ho htb).2.1 j e'.o hj (by omega) ho' with h | h
        · rw [h] at h2; cases h2
        · exact h (by rw [h1, h2])
      · omega
  -- where all have come up, it is the text's state
  have hsame : ∀ (k : Nat) (L : Nat → Bool) (s' : St), k = N → (∀ i, i < k → L i = true) → DetI N dst ef ids t L s' → s' = t k := by
    rintro k L ⟨f', g', o'⟩ rfl hL hI
    have h1 : f' = (t k).f := by
      funext d
      by_cases hd : ∃ i, i < k ∧ dst i = some d
      · obtain ⟨i, hi, hd⟩ := hd
        rw [show f' d = _ from hI.f i d hi hd (hL i hi)]
        exact (tfs d k (i + 1) (by omega) (Nat.le_refl _) (fun j h1 h2 h3 => by have := hdist i j d (by omega) (by omega) hd h3; omega)).symm
      · have h0 : ∀ i, i < k → dst i ≠ some d := fun i hi h => hd ⟨i, hi, h⟩
        rw [show f' d = _ from hI.f0 d h0]
        exact (tfs d k 0 (by omega) (Nat.le_refl _) (fun j _ h2 => h0 j h2)).symm
    have h2 : g' = (t k).gen := funext fun id => (hI.m id k (Nat.le_refl _) (fun j a hj _ _ => ⟨fun _ => hj, fun _ => hL j hj⟩)).1
    have h3 : o' = (t k).obj := funext fun id => (hI.m id k (Nat.le_refl _) (fun j a hj _ _ => ⟨fun _ => hj, fun _ => hL j hj⟩)).2
    rw [h1, h2, h3]
  refine draw_any hT hm (by rw [hg, hbk]; rfl) (fun L s' => (N < ops.size → L N = true → Q .normal s') ∧ ((N < ops.size → L N = false) → DetI N dst ef ids t L s')) ?_ ?_ ?_
  · refine ⟨fun _ h => (by cases h), fun _ => ⟨fun i d _ _ h => (by cases h), fun d _ => by rw [t0], fun id k hk hc => ?_⟩⟩
    have := tms id k 0 (by omega) hk (fun j _ hj a ha e => by have := (hc j a (by omega) ha e).2 hj; cases this)
    rw [this.1, this.2, t0]
    exact ⟨rfl, rfl⟩
  · intro L s' i o hI ho hL hdep hid
    have hi := (Array.getElem?_eq_some_iff.1 ho).1
    obtain ⟨e, he, ho', htb⟩ := hent i hi
    obtain rfl : o = e.o := by rw [ho] at ho'; cases ho'; rfl
    have hcls := cl_listed hcl hid i e.o ho hdep
    have hck := hchk i e hi ho htb
    by_cases hiN : i < N
    · have hLN : N < ops.size → L N = false := fun hlt => by
        cases hq : L N with
        | false => rfl
        | true =>
          exfalso
          rcases hNl with h | ⟨h, e2, he2, hf2⟩
          · omega
          · have hz := zipE_get he2
            have ho2 : ops[N]? = some e2.o := by simpa using hz.1
            have := (hchk N e2 hlt ho2 hz.2).2.2.2.2.2.2 hf2
            have h3 := cl_listed hcl hid N e2.o ho2 (fun e' he' hb' => hid N _ hq ho2 e' he' hb') i (this.2 i hiN)
            rw [hL] at h3
            exact absurd h3.1 (by simp)
      have hD := hI.2 hLN
      obtain ⟨v, m, ⟨hml, hst⟩, hn⟩ := t1 i e he (hNf i e hiN he)
      have r1 : maskf e.rd (t i).f s'.f = s'.f := maskf_same fun r hr => by
        by_cases hd : ∃ j, j < N ∧ dst j = some r
        · obtain ⟨j, hj, hd⟩ := hd
          obtain ⟨e2, he2, ho2, _⟩ := hent j (by omega)
          have hd2 : e2.o.dst = some r := by simpa [dst, ho2] using hd
          obtain ⟨hLj, hji⟩ := hcls j (hck.1 r hr j e2.o (by omega) ho2 hd2)
          rw [hD.f j r hj hd hLj]
          exact (tfs r i (j + 1) (by omega) (by omega) (fun k h1 h2 h3 => by have := hdist j k r (by omega) (by omega) hd h3; omega)).symm
        · have h0 : ∀ j, j < N → dst j ≠ some r := fun j hj h => hd ⟨j, hj, h⟩
          rw [hD.f0 r h0]
          exact (tfs r i 0 (by omega) (by omega) (fun j _ h2 => h0 j (by omega))).symm
      have hvis : ∀ id, (∀ a ∈ e.hd, ids.getD a 0 ≠ id) → s'.gen id = (t i).gen id ∧ s'.obj id = (t i).obj id := fun id hv => by
        refine hD.m id i (by omega) (fun j a hj ha hai => ?_)
        obtain ⟨e2, he2, ho2, htb2⟩ := hent j (by omega)
        have ha2 : a ∈ e2.ef := by simpa [ef, htb2] using ha
        have halt : a < ids.length := (hchk j e2 (by omega) ho2 htb2).2.2.2.2.1 a ha2
        rcases hck.2.2.1 a halt (fun h => hv a h hai) j _ (by omega) htb2 ha2 with h | h | h
        · have := hcls j h
          exact ⟨fun _ => this.2, fun _ => this.1⟩
        · constructor
          · intro hLj
            have := cl_listed hcl hid j e2.o ho2 (fun e' he' hb' => hid j _ hLj ho2 e' he' hb') i h
            rw [hL] at this
            exact absurd this.1 (by simp)
          · intro hji
            exfalso
            have h1 := List.all_eq_true.1 hcl j (List.mem_range.2 (by omega))
            have h2 := List.all_eq_true.1 h1 i (by simpa [inCl] using h)
            simp only [Bool.and_eq_true, decide_eq_true_eq] at h2
            omega
        · subst h
          rw [hL]
          exact ⟨fun h => (by cases h), fun h => (by omega)⟩
      have r2 : maskm ids e.hd (t i).gen s'.gen = s'.gen := maskm_same fun id hv => (hvis id hv).1
      have r3 : maskm ids e.hd (t i).obj s'.obj = s'.obj := maskm_same fun id hv => (hvis id hv).2
      have h1 := hst s'.f s'.gen s'.obj
      rw [r1, r2, r3] at h1
      refine h1 _ ?_
      refine ⟨fun hlt h => ?_, fun _ => ⟨fun j d hj hd hLj => ?_, fun d hd => ?_, fun id k hk hc => ?_⟩⟩
      · simp only [upd] at h
        rw [if_neg (by omega), hLN hlt] at h
        cases h
      · simp only [upd] at hLj
        by_cases hji : j = i
        · subst hji
          have hd2 : e.o.dst = some d := by simpa [dst, ho] using hd
          rw [hn]
          simp only [effS, hd2, putF, upd, if_true]
        · rw [if_neg hji] at hLj
          have hne : e.o.dst ≠ some d := fun h => hji (hdist j i d (by omega) hi hd (by simpa [dst, ho] using h))
          rw [← hD.f j d hj hd hLj]
          simp only [effS]
          cases hq : e.o.dst with
          | none => rfl
          | some d' => simp only [putF, upd]; rw [if_neg (fun e' => hne (by rw [hq, e']))]
      · rw [← hD.f0 d hd]
        have hne : e.o.dst ≠ some d := fun h => hd i hiN (by simpa [dst, ho] using h)
        simp only [effS]
        cases hq : e.o.dst with
        | none => rfl
        | some d' => simp only [putF, upd]; rw [if_neg (fun e' => hne (by rw [hq, e']))]
      · have hef : ef i = e.ef := by simp [ef, htb]
        by_cases hmine : ∃ a ∈ e.ef, ids.getD a 0 = id
        · obtain ⟨a, ha, hai⟩ := hmine
          have hik : i < k := (hc i a hiN (by rw [hef]; exact ha) hai).1 (by simp [upd])
          have halt := hck.2.2.2.2.1 a ha
          have := tms id k (i + 1) (by omega) hk (fun j h1 h2 b hb hbi => by
            obtain ⟨e2, he2, ho2, htb2⟩ := hent j (by omega)
            have hb2 : b ∈ e2.ef := by simpa [ef, htb2] using hb
            have hblt := (hchk j e2 (by omega) ho2 htb2).2.2.2.2.1 b hb2
            obtain rfl : a = b := hinj a b halt hblt (by rw [hai, hbi])
            have hLj : L j = true := by
              have := (hc j a (by omega) hb hbi).2 h2
              simp only [upd] at this
              rwa [if_neg (by omega)] at this
            rcases hck.2.2.2.2.2.1 a ha j _ (by omega) htb2 hb2 with h | h | h
            · have := (hcls j h).2; omega
            · have := cl_listed hcl hid j e2.o ho2 (fun e' he' hb' => hid j _ hLj ho2 e' he' hb') i h
              rw [hL] at this
              exact absurd this.1 (by simp)
            · omega)
          rw [this.1, this.2, hn]
          simp only [effS]
          exact ⟨setm_mine (by simpa using hml) ⟨a, ha, hai⟩, setm_mine (by simpa using hml) ⟨a, ha, hai⟩⟩
        · have hno : ∀ a ∈ e.ef, ids.getD a 0 ≠ id := fun a ha h => hmine ⟨a, ha, h⟩
          simp only [effS]
          rw [setm_other hno, setm_other hno]
          refine hD.m id k hk (fun j a hj ha hai => ?_)
          have hji : j ≠ i := fun h => by subst h; rw [hef] at ha; exact hno a ha hai
          have := hc j a hj ha hai
          simp only [upd] at this
          rwa [if_neg hji] at this
    · have hiN' : i = N := by
        rcases hNl with h | ⟨h, _⟩ <;> omega
      subst hiN'
      rcases hNl with h | ⟨h, e2, he2, hf2⟩
      · omega
      · obtain rfl : e = e2 := by rw [he] at he2; cases he2; rfl
        have hD := hI.2 (fun _ => hL)
        have hall2 : ∀ j, j < i → L j = true := fun j hj => (hcls j ((hck.2.2.2.2.2.2 hf2).2 j hj)).1
        rw [hsame i L s' rfl hall2 hD]
        refine t2 i e he hf2 _ (fun s'' hs => ?_)
        exact ⟨fun _ _ => hs, fun hh => by have := hh hi; simp [upd] at this⟩
  · intro L s' hI hL
    rcases hNl with h | ⟨h, _⟩
    · subst h
      have hD := hI.2 (fun h => absurd h (by omega))
      have h1 := t3 (fun i e he => hNf i e (by rw [← hzl]; exact (List.getElem?_eq_some_iff.1 he).1) he)
      rw [hzl] at h1
      rw [hsame _ L s' rfl hL hD]
      exact h1
    · exact hI.1 (by omega) (hL N (by omega))

end

section steps
variable {S : Sp} {T : Nat → TI} {ids : List Nat} {f : Nat → AV} {g : Nat → Nat} {ob : Nat → Option (List C)} {K : St → Prop} {k : Box K} {op : Op} {ty : TypeId} {ps : String} {af : Array Edge} {rd hd : List Nat} {r : List Ent} {d : Nat}

/-- An operation without effect on objects. -/
theorem det_pure {v : AV} (h1 : ∀ (fa : Nat → AV) (ga : Nat → Nat) (oa : Nat → Option (List C)) (K' : St → Prop), K' ⟨upd (maskf rd f fa) d v, maskm ids hd g ga, maskm ids hd ob oa⟩ → opA S T ⟨some d, op, ty, ps, af, none⟩ ⟨maskf rd f fa, maskm ids hd g ga, maskm ids hd ob oa⟩ (bx K'))
    (h2 : wpDet S T ids r ⟨upd f d v, g, ob⟩ k) : wpDet S T ids (⟨⟨some d, op, ty, ps, af, none⟩, rd, hd, [], false⟩ :: r) ⟨f, g, ob⟩ k := by
  unfold wpDet
  exact ⟨v, [], ⟨rfl, fun fa ga oa K' hK => h1 fa ga oa K' hK⟩, h2⟩

/-- A new object. -/
theorem det_new {v : AV} {a x : Nat} {y : Option (List C)} (h1 : ∀ (fa : Nat → AV) (ga : Nat → Nat) (oa : Nat → Option (List C)) (K' : St → Prop), K' ⟨upd (maskf rd f fa) d v, upd (maskm ids hd g ga) (ids.getD a 0) x, upd (maskm ids hd ob oa) (ids.getD a 0) y⟩ → opA S T ⟨some d, op, ty, ps, af, none⟩ ⟨maskf rd f fa, maskm ids hd g ga, maskm ids hd ob oa⟩ (bx K'))
    (h2 : wpDet S T ids r ⟨upd f d v, upd g (ids.getD a 0) x, upd ob (ids.getD a 0) y⟩ k) : wpDet S T ids (⟨⟨some d, op, ty, ps, af, none⟩, rd, hd, [a], false⟩ :: r) ⟨f, g, ob⟩ k := by
  unfold wpDet
  exact ⟨v, [(x, y)], ⟨rfl, fun fa ga oa K' hK => h1 fa ga oa K' hK⟩, h2⟩

/-- An object is written, in sight of the operation. -/
theorem det_store {a : Nat} {y : Option (List C)} (hv : ids.getD a 0 ∉ hd.map (fun b => ids.getD b 0)) (h1 : ∀ (fa : Nat → AV) (ga : Nat → Nat) (oa : Nat → Option (List C)) (K' : St → Prop), K' ⟨maskf rd f fa, maskm ids hd g ga, upd (maskm ids hd ob oa) (ids.getD a 0) y⟩ → opA S T ⟨none, op, ty, ps, af, none⟩ ⟨maskf rd f fa, maskm ids hd g ga, maskm ids hd ob oa⟩ (bx K'))
    (h2 : wpDet S T ids r ⟨f, g, upd ob (ids.getD a 0) y⟩ k) : wpDet S T ids (⟨⟨none, op, ty, ps, af, none⟩, rd, hd, [a], false⟩ :: r) ⟨f, g, ob⟩ k := by
  have hself : ∀ (α : Type) (h : Nat → α) (i : Nat), upd h i (h i) = h := fun α h i => by funext j; simp only [upd]; split <;> simp_all
  have hmask : ∀ ga : Nat → Nat, maskm ids hd g ga (ids.getD a 0) = g (ids.getD a 0) := fun ga => by
    clear h1 h2
    induction hd with
    | nil => rfl
    | cons b bs ih =>
      simp only [List.map_cons, List.mem_cons, not_or] at hv
      simp only [maskm, upd]
      rw [if_neg hv.1]
      exact ih hv.2
  unfold wpDet
  refine ⟨uv, [(g (ids.getD a 0), y)], ⟨rfl, fun fa ga oa K' hK => h1 fa ga oa K' ?_⟩, ?_⟩
  · have e : effS ids ⟨⟨none, op, ty, ps, af, none⟩, rd, hd, [a], false⟩ uv [(g (ids.getD a 0), y)] ⟨maskf rd f fa, maskm ids hd g ga, maskm ids hd ob oa⟩ = ⟨maskf rd f fa, maskm ids hd g ga, upd (maskm ids hd ob oa) (ids.getD a 0) y⟩ := by
      simp only [effS, putF, setm, List.map_cons, List.map_nil]
      rw [← hmask ga, hself]
    rw [← e]; exact hK
  · have e : effS ids ⟨⟨none, op, ty, ps, af, none⟩, rd, hd, [a], false⟩ uv [(g (ids.getD a 0), y)] ⟨f, g, ob⟩ = ⟨f, g, upd ob (ids.getD a 0) y⟩ := by
      simp only [effS, putF, setm, List.map_cons, List.map_nil]
      rw [hself]
    rw [e]; exact h2

theorem det_last {o : Oper} {ef : List Nat} (h : ∀ K' : St → Prop, (∀ s'', K s'' → K' s'') → opA S T o ⟨f, g, ob⟩ (bx K')) : wpDet S T ids [⟨o, rd, hd, ef, true⟩] ⟨f, g, ob⟩ k := by
  unfold wpDet; exact h
theorem det_nil (h : K ⟨f, g, ob⟩) : wpDet S T ids [] ⟨f, g, ob⟩ k := by unfold wpDet; exact h
end steps

@[go_sem] theorem maskf_nil {α : Type} {f fa : Nat → α} : maskf [] f fa = fa := Eq.trans rfl rfl
@[go_sem] theorem maskf_cons {α : Type} {r : Nat} {rs : List Nat} {f fa : Nat → α} : maskf (r :: rs) f fa = upd (maskf rs f fa) r (f r) := Eq.trans rfl rfl
@[go_sem] theorem maskm_nil {α : Type} {ids : List Nat} {f fa : Nat → α} : maskm ids [] f fa = f := Eq.trans rfl rfl
@[go_sem] theorem maskm_cons {α : Type} {ids : List Nat} {a : Nat} {as : List Nat} {g ga : Nat → α} : maskm ids (a :: as) g ga = upd (maskm ids as g ga) (ids.getD a 0) (ga (ids.getD a 0)) := Eq.trans rfl rfl
attribute [go_sem] List.getD_cons_zero List.getD_cons_succ
@[go_sem] theorem zipE_nil {ts : List (List Nat × List Nat × List Nat × Bool)} : zipE [] ts = [] := by cases ts <;> rfl
@[go_sem] theorem zipE_cons {o : Oper} {os : List Oper} {rd hd ef : List Nat} {fl : Bool} {ts : List (List Nat × List Nat × List Nat × Bool)} : zipE (o :: os) ((rd, hd, ef, fl) :: ts) = ⟨o, rd, hd, ef, fl⟩ :: zipE os ts := Eq.trans rfl rfl

end Go.Am
