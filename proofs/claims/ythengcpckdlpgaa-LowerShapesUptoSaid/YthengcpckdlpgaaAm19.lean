/- Regions that draw their order, in which something is written: what holds, whatever has come up. -/
import Derived.Test.YthengcpckdlpgaaAm18
import Derived.Orders
set_option linter.unusedSimpArgs false
set_option linter.unusedVariables false
namespace Go.Am
section
variable {P : Program} {T : Nat → TI} {b₀ : Bs} {β : Loc} {w : World}

theorem count_set {l : Array Bool} {i : Nat} (h : l[i]? = some false) : (l.setIfInBounds i true).toList.count false + 1 = l.toList.count false := by
  obtain ⟨hi, he⟩ := Array.getElem?_eq_some_iff.1 h
  rw [Array.toList_setIfInBounds]
  have hl : l.toList[i]? = some false := by simpa using h
  generalize l.toList = m at hl
  clear h hi he
  induction m generalizing i with
  | nil => simp at hl
  | cons a m ih =>
    cases i with
    | zero => simp at hl; subst hl; simp
    | succ i =>
      simp only [List.set_cons_succ, List.count_cons]
      have := ih (i := i) (by simpa using hl)
      omega

theorem wpAny_of {hT : TabOk P T} {B N : Nat} {ops : Array Oper} {Q : Exit → Act → World → Prop} (hg : ops.toList.all (fun o => o.guard.isNone) = true) (hds : dstsOk N ops.toList = true) (I : (Nat → Bool) → St → Prop)
    (hstep : ∀ (L : Nat → Bool) (s : St) (i : Nat) (o : Oper), I L s → ops[i]? = some o → L i = false → (∀ e ∈ o.after.toList, Region.binds .any e = true → L e.on = true) →
      (∀ j o', L j = true → ops[j]? = some o' → ∀ e ∈ o'.after.toList, Region.binds .any e = true → L e.on = true) → opA (spB P B) T o s (bx fun s' => I (upd L i true) s'))
    (hend : ∀ L s β' a' w', (∀ i, i < ops.size → L i = true) → I L s → Rel b₀ N s β' a' w' → ∀ s0 β0 w0, True → (Tr b₀ β0 s0 w0 β' s w' → Tr b₀ β0 s0 w0 β' s w')) :
    ∀ (fuel : Nat) (listed : Array Bool) {s : St} {β : Loc} {a : Act} {w : World}, listed.size = ops.size → listed.toList.count false ≤ fuel → Rel b₀ N s β a w → I (fun i => listed.getD i false) s →
      (∀ j o', listed.getD j false = true → ops[j]? = some o' → ∀ e ∈ o'.after.toList, Region.binds .any e = true → listed.getD e.on false = true) →
      (∀ L s' β' a' w', (∀ i, i < ops.size → L i = true ∨ ∃ o, ops[i]? = some o) → I L s' → (Region.ready .any ops listed = [] → True) → Rel b₀ N s' β' a' w' → Tr b₀ β s w β' s' w' → (∃ listed', L = (fun i => listed'.getD i false) ∧ listed'.size = ops.size ∧ Region.ready .any ops listed' = []) → Q .normal a' w') →
      wpAny P .any ops Q fuel listed a w
  | 0, listed, s, β, a, w, hsz, hc, hr, hI, hid, hQ => by
    have hall : ∀ i, i < ops.size → listed.getD i true = true := fun i hi => by
      have hnf : false ∉ listed.toList := fun h => by
        have := List.count_pos_iff.2 h; omega
      rw [Array.getD_eq_getD_getElem?, Array.getElem?_eq_getElem (by omega)]
      simp only [Option.getD_some]
      cases hq : listed[i]'(by omega) with
      | true => rfl
      | false => exact absurd (hq ▸ Array.mem_toList_iff.2 (Array.getElem_mem (by omega))) hnf
    have hrd : Region.ready .any ops listed = [] := by
      unfold Region.ready
      rw [List.filter_eq_nil_iff]
      intro i hi
      simp [hall i (List.mem_range.1 hi)]
    exact ⟨hrd, hQ _ s β a w (fun i hi => .inr ⟨_, Array.getElem?_eq_getElem hi⟩) hI (fun _ => trivial) hr Tr.refl ⟨listed, rfl, hsz, hrd⟩⟩
  | fuel + 1, listed, s, β, a, w, hsz, hc, hr, hI, hid, hQ => by
    refine ⟨fun hrd => hQ _ s β a w (fun i hi => .inr ⟨_, Array.getElem?_eq_getElem hi⟩) hI (fun _ => trivial) hr Tr.refl ⟨listed, rfl, hsz, hrd⟩, fun i hi => ?_⟩
    unfold Region.ready at hi
    simp only [List.mem_filter, List.mem_range, Bool.and_eq_true, Bool.not_eq_true'] at hi
    obtain ⟨hi1, hi2, hi3⟩ := hi
    have ho : ops[i]? = some ops[i] := Array.getElem?_eq_getElem hi1
    rw [ho] at hi3
    simp only [Option.map_some, Option.getD_some, Array.all_eq_true', Bool.or_eq_true, Bool.not_eq_true'] at hi3
    have hli : listed[i]? = some false := by
      rw [Array.getD_eq_getD_getElem?, Array.getElem?_eq_getElem (by omega)] at hi2
      rw [Array.getElem?_eq_getElem (by omega)]
      simpa using hi2
    have hL : listed.getD i false = false := by rw [Array.getD_eq_getD_getElem?, hli]; rfl
    have hedge : ∀ e ∈ ops[i].after.toList, Region.binds .any e = true → listed.getD e.on false = true := fun e he hb => by
      rcases hi3 e (by simpa using he) with h | h
      · rw [hb] at h; cases h
      · exact h
    have hgi : (ops[i]).guard = none := by
      have := List.all_eq_true.1 hg ops[i] (Array.getElem_mem_toList hi1)
      simpa using this
    have hdi : ∀ d, (ops[i]).dst = some d → d < N := fun d hd => by
      have := List.all_eq_true.1 hds ops[i] (Array.getElem_mem_toList hi1)
      rw [hd] at this
      simpa using this
    unfold wpOp
    rw [ho]
    simp only
    rw [if_pos (by simp [Region.wanted, hgi])]
    have hset : (fun j => (listed.setIfInBounds i true).getD j false) = upd (fun j => listed.getD j false) i true := by
      funext j
      simp only [upd, Array.getD_eq_getD_getElem?, Array.getElem?_setIfInBounds]
      by_cases hj : i = j
      · subst hj; simp [hsz, hi1]
      · have : ¬ j = i := fun e => hj e.symm
        simp [hj, this]
    refine .inl (opA_sound hT hr hdi (hstep _ s i ops[i] hI ho hL hedge hid) (fun s' β' a' w' hI' hr' ht' => ?_))
    refine wpAny_of (hT := hT) hg hds I hstep hend fuel (listed.setIfInBounds i true) (by simpa using hsz) (by have := count_set hli; omega) hr' (by rw [hset]; exact hI') (fun j o' hj hoj e he hb => ?_) (fun L s2 β2 a2 w2 h1 h2 _ h4 h5 h6 => hQ L s2 β2 a2 w2 h1 h2 (fun _ => trivial) h4 (ht'.trans h5) h6)
    have e1 := congrFun hset
    simp only [upd] at e1
    rw [e1] at hj ⊢
    by_cases hej : e.on = i
    · rw [if_pos hej]
    · rw [if_neg hej]
      by_cases hji : j = i
      · subst hji
        rw [ho] at hoj
        cases hoj
        exact hedge e he hb
      · rw [if_neg hji] at hj
        exact hid j o' hj hoj e he hb

/-- Every edge leads back in the text. -/
def backB (ops : Array Oper) : Bool := (List.range ops.size).all fun i => ((ops[i]?).map fun o => o.after.toList.all fun e => !Region.binds .any e || decide (e.on < i)).getD true

theorem ready_all {ops : Array Oper} (hb : backB ops = true) {listed : Array Bool} (hsz : listed.size = ops.size) (h : Region.ready .any ops listed = []) : ∀ i, i < ops.size → listed.getD i false = true := by
  intro i
  induction i using Nat.strongRecOn with
  | ind i ih =>
    intro hi
    cases hq : listed.getD i false with
    | true => rfl
    | false =>
      exfalso
      unfold Region.ready at h
      rw [List.filter_eq_nil_iff] at h
      refine h i (List.mem_range.2 hi) ?_
      have hli : listed[i]? = some false := by
        rw [Array.getD_eq_getD_getElem?, Array.getElem?_eq_getElem (by omega)] at hq
        rw [Array.getElem?_eq_getElem (by omega)]
        simpa using hq
      rw [Array.getD_eq_getD_getElem?, hli, Array.getElem?_eq_getElem hi]
      simp only [Option.getD_some, Bool.not_false, Option.map_some, Bool.true_and, Array.all_eq_true', Bool.or_eq_true, Bool.not_eq_true']
      intro e he
      cases hbd : Region.binds .any e with
      | false => exact .inl rfl
      | true =>
        right
        have h1 := List.all_eq_true.1 hb i (List.mem_range.2 hi)
        rw [Array.getElem?_eq_getElem hi] at h1
        simp only [Option.map_some, Option.getD_some] at h1
        have h2 := List.all_eq_true.1 h1 e (by simpa using he)
        rw [hbd] at h2
        simp only [Bool.not_true, Bool.false_or, decide_eq_true_eq] at h2
        exact ih e.on h2 (by omega)

/-- A region that draws its order, by what holds whatever has come up: L tells what has. -/
theorem draw_any (hT : TabOk P T) (hm : P.follows .mixedOrders = true) {B id : Nat} {ops : Array Oper} {s : St} {Q : Exit → St → Prop} {q : Box Q} (hok : (ops.toList.all (fun o => o.guard.isNone) && backB ops) = true) (I : (Nat → Bool) → St → Prop) (h0 : I (fun _ => false) s)
    (hstep : ∀ (L : Nat → Bool) (s : St) (i : Nat) (o : Oper), I L s → ops[i]? = some o → L i = false → (∀ e ∈ o.after.toList, Region.binds .any e = true → L e.on = true) →
      (∀ j o', L j = true → ops[j]? = some o' → ∀ e ∈ o'.after.toList, Region.binds .any e = true → L e.on = true) → opA (spB P B) T o s (bx fun s' => I (upd L i true) s'))
    (hend : ∀ L s', I L s' → (∀ i, i < ops.size → L i = true) → Q .normal s') : DrawA (spB P B) T id ops s q := by
  rw [Bool.and_eq_true] at hok
  obtain ⟨hg, hbk⟩ := hok
  refine .inr ⟨fun e s' => e = .normal ∧ Q .normal s', fun b₀ N β a w hc hr => ?_, fun e s' ⟨h1, h2⟩ => h1 ▸ h2⟩
  have hr1 : Rel b₀ N s β a { w with drawn := w.drawn + 1 } := hr.of_heap rfl
  have ht1 : Tr b₀ β s w β s { w with drawn := w.drawn + 1 } := Tr.same rfl rfl rfl
  refine wp_region_any hm (wpAny_of (hT := hT) hg hc I hstep (fun _ _ _ _ _ _ _ _ _ _ _ _ h => h) ops.size (Array.replicate ops.size false) (by simp) (by simp) hr1 ?_ (fun j o' hj => ?_) (fun L s' β' a' w' _ h2 _ h4 h5 h6 => ⟨s', β', ⟨rfl, hend L s' h2 (by obtain ⟨listed, rfl, e1, e2⟩ := h6; exact ready_all hbk e1 e2)⟩, h4, ht1.trans h5⟩))
  · have : (fun i => (Array.replicate ops.size false).getD i false) = fun _ => false := by
      funext i
      rw [Array.getD_eq_getD_getElem?, Array.getElem?_replicate]
      split <;> rfl
    rw [this]; exact h0
  · rw [Array.getD_eq_getD_getElem?, Array.getElem?_replicate] at hj
    split at hj <;> simp at hj

theorem cut_D {S : Sp} {id : Nat} {ops : Array Oper} {f : Nat → AV} {g : Nat → Nat} {ob : Obs} {Q : Exit → St → Prop} {q : Box Q} (I : (Nat → AV) → (Nat → Nat) → Obs → Prop) (h : I f g ob) (hk : ∀ f g ob, I f g ob → DrawA S T id ops ⟨f, g, ob⟩ q) : DrawA S T id ops ⟨f, g, ob⟩ q := hk f g ob h

end
end Go.Am
