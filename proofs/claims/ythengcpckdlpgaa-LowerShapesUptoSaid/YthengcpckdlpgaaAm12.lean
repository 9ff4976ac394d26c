/- Calls with slices of the caller's own; nil slices claimed as objects. -/
import Derived.Test.YthengcpckdlpgaaAm10
set_option linter.unusedSimpArgs false
set_option linter.unusedVariables false
namespace Go.Am

/-- Data without memory. -/
def scalarD : D → Bool
  | .sl _ | .iptr _ => false
  | _ => true

def scalarC : C → Bool
  | .d x => scalarD x
  | _ => false

def scalarAV : AV → Bool
  | .one c => scalarC c
  | .agg cs => cs.all scalarC
  | .tup ts => ts.all fun t => match t with | .one c => scalarC c | _ => false
  | .junk => false

section
variable {P : Program} {T : Nat → TI} {b₀ : Bs} {β : Loc} {w : World}

theorem RepD.of_scalar {J J' : Nat → Prop} {w w' : World} {x : D} {v : Value} (hs : scalarD x = true) (h : RepD J w x v) : RepD J' w' x v := by
  cases h <;> first | (exfalso; simp [scalarD] at hs; done) | constructor

theorem RVc.of_scalar {J J' : Nat → Prop} {w w' : World} {c : C} {v : Value} (hs : scalarC c = true) (h : RVc J w c v) : RVc J' w' c v := by
  obtain ⟨x, rfl, hx⟩ := h
  exact ⟨x, rfl, hx.of_scalar hs⟩

theorem RVs.of_scalar {J J' : Nat → Prop} {w w' : World} : ∀ {ts : List AV} {vs : List Value}, (ts.all fun t => match t with | .one c => scalarC c | _ => false) = true → RVs J w ts vs → RVs J' w' ts vs
  | [], _, _, h => by simp only [RVs] at h ⊢; exact h
  | t :: ts, vs, hs, h => by
    simp only [List.all_cons, Bool.and_eq_true] at hs
    simp only [RVs] at h ⊢
    obtain ⟨u, us, rfl, h1, h2⟩ := h
    refine ⟨u, us, rfl, ?_, RVs.of_scalar hs.2 h2⟩
    cases t with
    | one c => simp only [RV] at h1 ⊢; exact RVc.of_scalar hs.1 h1
    | _ => simp at hs

theorem RV.of_scalar {J J' : Nat → Prop} {w w' : World} {x : AV} {v : Value} (hs : scalarAV x = true) (h : RV J w x v) : RV J' w' x v := by
  cases x with
  | one c => simp only [RV] at h ⊢; exact RVc.of_scalar hs h
  | agg cs =>
    simp only [RV] at h ⊢
    obtain ⟨vs, h1, h2, h3⟩ := h
    simp only [scalarAV, List.all_eq_true] at hs
    exact ⟨vs, h1, h2, fun i c hc => let ⟨u, hu, hr⟩ := h3 i c hc; ⟨u, hu, hr.of_scalar (hs c (List.mem_of_getElem? hc))⟩⟩
  | tup ts =>
    simp only [RV] at h ⊢
    obtain ⟨vs, h1, h2⟩ := h
    exact ⟨vs, h1, RVs.of_scalar hs h2⟩
  | junk => simp [scalarAV] at hs

/-- A call that is lent what the caller owns, and hands back no memory. -/
theorem call_view {o : Oper} {s : St} {f : FuncId} {args : Array Operand} {tys : Array TypeId} (ho : o.op = .call ⟨.value (.func f), args, tys⟩) {R : AV → Prop} {xs : List AV}
    (hx : FrzVs s (args.toList.map s.ev) xs) (hp : PureR P f xs R) (hd : ∀ r, R r → scalarAV r = true) : SemOp P o s (fun s' => ∃ r, R r ∧ s' = s.put o.dst r) := by
  intro b₀ N β a w hr hdst next Q hn
  unfold Oper.wp
  rw [run_call ho hp.1 w]
  simp only [Oper.upon]
  have hargs : ∀ (l : List Operand) (xs : List AV), FrzVs s (l.map s.ev) xs → RVs (Own b₀ w) w xs (l.map a.eval) := by
    intro l
    induction l with
    | nil => intro xs h; simp only [List.map_nil, FrzVs] at h; subst h; simp only [List.map_nil, RVs]
    | cons x l ih =>
      intro xs h
      simp only [List.map_cons, FrzVs] at h
      obtain ⟨r, rs, rfl, h1, h2⟩ := h
      simp only [List.map_cons, RVs]
      exact ⟨_, _, rfl, h1.rep hr (hr.ev x), ih rs h2⟩
  have := hp.2 (Own b₀ w) w (args.toList.map a.eval) (fun _ h => h.1) (hargs _ _ hx)
  rw [show (args.toList.map a.eval).toArray = args.map a.eval from Array.ext' (by simp)] at this
  refine this.mono fun e w' ⟨v, r, he, hR, hs, hh, hos, hv⟩ => ?_
  subst he
  obtain ⟨g1, g2⟩ := hr.grow hs hh hos
  exact hn _ β _ w' ⟨r, hR, rfl⟩ (g1.put hdst (RV.rep r (RV.of_scalar (hd r hR) hv))) (g2.trans (Tr.same (St.put_gen _ _ _) (St.put_obj _ _ _) rfl))

theorem hook_view {o : Oper} {s : St} {K : St → Prop} {k : Box K} {f : FuncId} {args : Array Operand} {tys : Array TypeId} (ho : o.op = .call ⟨.value (.func f), args, tys⟩) {R : AV → Prop} {xs : List AV}
    (hx : FrzVs s (args.toList.map s.ev) xs) (hp : PureR P f xs R) (hd : ∀ r, R r → scalarAV r = true) (hk : ∀ r, R r → K (s.put o.dst r)) : hookA (sp P) o s k :=
  ⟨_, call_view ho hx hp hd, fun _ ⟨r, hr, e⟩ => e ▸ hk r hr⟩

/-- A slice of the call's own, as the data that it is. -/
theorem frz_map {α : Type} {s : St} {id g off len : Nat} {cells : List C} (hg : s.gen id = g) (ho : s.obj id = some cells) (l : List α) (enc : α → D) (hn : ∀ a, normD (enc a) = enc a) (hlen : l.length = len)
    (hc : ∀ (j : Nat) (a : α), l[j]? = some a → cells[off + j]? = some (.d (enc a))) (hfit : off + len ≤ cells.length) : Frz s (.osl id g 1 off len) (.sl (l.map fun a => [enc a])) := by
  have hfl : (l.map fun a => [enc a]).flatten = l.map enc := by
    clear hlen hc
    induction l with
    | nil => rfl
    | cons a l ih => simp [ih]
  refine .osl hg ho (by omega) (by simpa using hlen) (fun e he => by obtain ⟨a, _, rfl⟩ := List.mem_map.1 he; rfl) (fun j => (cells[off + j]?).getD (.d .nsl)) (fun j x hx => ?_) (fun j x hx => ?_)
  · rw [hfl, List.getElem?_map] at hx
    cases hq : l[j]? with
    | none => rw [hq] at hx; cases hx
    | some a => rw [hc j a hq]; rfl
  · rw [hfl, List.getElem?_map] at hx
    cases hq : l[j]? with
    | none => rw [hq] at hx; cases hx
    | some a =>
      rw [hq] at hx
      simp only [Option.map_some, Option.some.injEq] at hx
      subst hx
      rw [hc j a hq]
      have := Frz.d (s := s) (enc a)
      rw [hn] at this
      exact this

/-- The state in which each cell of an object, a nil slice, is an empty object of its own: the numbers from 'b' on. -/
def St.claim (s : St) (id b n sz : Nat) : St :=
  { s with gen := fun i => if b ≤ i ∧ i < b + n then s.gen i + 1 else s.gen i,
           obj := fun i => if b ≤ i ∧ i < b + n then some [] else if i = id then some ((List.range n).map fun j => .osl (j + b) (s.gen (j + b) + 1) sz 0 0) else s.obj i }

theorem vs_claim {s : St} {id b n sz : Nat} (ho : s.obj id = some (List.replicate n (.d .nsl))) (hid : id < b ∨ b + n ≤ id) : SemVs s (s.claim id b n sz) := by
  intro b₀ N β a w hr
  have hid' : ¬ (b ≤ id ∧ id < b + n) := by omega
  let β' : Loc := fun i => if b ≤ i ∧ i < b + n then none else β i
  have hkeep : Keep b₀ β s.gen s.obj w β' (s.claim id b n sz).gen (s.claim id b n sz).obj w := by
    refine ⟨fun x hx => ⟨⟨hx.1, hx.2.1, fun i a' hi hβ' => ?_⟩, rfl⟩, fun i => ?_, fun i hg hi => ?_⟩
    · simp only [St.claim, β'] at hi hβ'
      split at hβ'
      · cases hβ'
      · rename_i hne
        simp only [hne, if_false] at hi
        by_cases he : i = id
        · subst he; exact hx.2.2 i a' (by rw [ho]; rfl) hβ'
        · simp only [he, if_false] at hi; exact hx.2.2 i a' hi hβ'
    · simp only [St.claim]; split <;> omega
    · simp only [St.claim, β'] at hg hi ⊢
      by_cases hne : b ≤ i ∧ i < b + n
      · simp [hne] at hg
      · simp only [hne, if_false] at hi ⊢
        refine ⟨?_, trivial, fun a' ha' arr1 el1 fr1 h1 => ⟨arr1, el1, fr1, h1, Nat.le_refl _⟩⟩
        by_cases he : i = id
        · subst he; rw [ho]; rfl
        · simpa only [he, if_false] using hi
  refine ⟨β', ⟨hr.defers, hr.size, fun i => RepV.keep hkeep _ (hr.f i), fun i cells' hc' => ?_, fun i1 i2 a1 a2 h1 h2 hb1 hb2 hb => ?_, hr.base⟩, Nat.le_refl _, fun _ _ => rfl, hkeep, rfl, rfl⟩
  · simp only [St.claim, β'] at hc' ⊢
    by_cases hne : b ≤ i ∧ i < b + n
    · simp only [hne, and_self, if_true, Option.some.injEq] at hc' ⊢
      subst hc'
      rfl
    · simp only [hne, if_false] at hc' ⊢
      by_cases he : i = id
      · subst he
        simp only [if_true, Option.some.injEq] at hc'
        subst hc'
        have hob := hr.obj i _ ho
        cases hβ : β i with
        | none =>
          rw [hβ] at hob
          have : n = 0 := by have := congrArg List.length hob; simpa using this
          subst this
          rfl
        | some ad =>
          rw [hβ] at hob
          cases hs : ad.spot with
          | some kd =>
            obtain ⟨m1, es, clock, m2, m3⟩ := hob.map hs
            have hn : n = 0 := by
              cases n with
              | zero => rfl
              | succ n =>
                rw [List.replicate_succ] at m3
                generalize hw : List.replicate n (C.d D.nsl) = l at m3
                generalize es.toList = el at m3
                cases m3 with
                | cons hk => cases hq : keyDesc kd <;> rw [hq] at hk <;> simp [okKey] at hk
            subst hn
            have hes : es.toList = [] := by
              generalize es.toList = l at m3
              cases m3; rfl
            exact .ofMap hs ⟨m1, es, clock, m2, by rw [hes]; exact .nil⟩
          | none =>
          obtain ⟨h2, arr, el, lo, hi, h3, h4, h5, h6⟩ := hob.cells hs
          refine .ofCells hs ⟨h2, arr, el, lo, hi, h3, h4, by simpa using h5, fun j c hc => ?_⟩
          rw [List.getElem?_map] at hc
          have hj : j < n := by
            cases hq : (List.range n)[j]? with
            | none => rw [hq] at hc; cases hc
            | some y => have := (List.getElem?_eq_some_iff.1 hq).1; simpa using this
          rw [List.getElem?_range hj] at hc
          simp only [Option.map_some, Option.some.injEq] at hc
          subst hc
          obtain ⟨v, hv, hrv⟩ := h6 j (.d .nsl) (by rw [List.getElem?_replicate]; simp [hj])
          simp only [RepC] at hrv
          obtain rfl := hrv.inv_nsl
          have hin : b ≤ j + b ∧ j + b < b + n := by omega
          refine ⟨_, hv, rfl, by simp [St.claim, hin], fun _ _ => ?_⟩
          simp only [hin, and_self, if_true]
          exact ⟨rfl, rfl⟩
      · simp only [he, if_false] at hc'
        exact (hr.obj i cells' hc').keep hkeep (fun _ _ => rfl)
  · simp only [St.claim, β'] at h1 h2 hb1 hb2
    split at hb1
    · cases hb1
    · split at hb2
      · cases hb2
      · rename_i n1 n2
        simp only [n1, n2, if_false] at h1 h2
        have e1 : (s.obj i1).isSome = true := by
          by_cases he : i1 = id
          · subst he; rw [ho]; rfl
          · simpa only [he, if_false] using h1
        have e2 : (s.obj i2).isSome = true := by
          by_cases he : i2 = id
          · subst he; rw [ho]; rfl
          · simpa only [he, if_false] using h2
        exact hr.inj i1 i2 a1 a2 e1 e2 hb1 hb2 hb

end
end Go.Am
