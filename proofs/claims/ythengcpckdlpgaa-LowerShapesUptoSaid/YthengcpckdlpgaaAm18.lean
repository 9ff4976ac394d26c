/- Calls of which only lengths and plain results are used; an object gets another number. -/
import Derived.Test.YthengcpckdlpgaaAm17
set_option linter.unusedSimpArgs false
set_option linter.unusedVariables false
namespace Go.Am

/-- Of a result: plain data as it is, of a slice its length. -/
def lenC : C → C
  | .d (.sl es) => .lsl es.length
  | .d .nsl => .lsl 0
  | c => c

def lenOkC : C → Bool
  | .d (.sl _) | .d .nsl => true
  | c => scalarC c

def lenAV : AV → AV
  | .one c => .one (lenC c)
  | .tup ts => .tup (ts.map fun t => match t with | .one c => .one (lenC c) | x => x)
  | x => x

def lenOk : AV → Bool
  | .one c => lenOkC c
  | .tup ts => ts.all fun t => match t with | .one c => lenOkC c | _ => false
  | _ => false

@[go_sem] theorem lenAV_one (c : C) : lenAV (.one c) = .one (lenC c) := Eq.trans rfl rfl
@[go_sem] theorem lenAV_two (c d : C) : lenAV (.tup [.one c, .one d]) = .tup [.one (lenC c), .one (lenC d)] := Eq.trans rfl rfl
@[go_sem] theorem lenC_sl (es : List (List D)) : lenC (.d (.sl es)) = .lsl es.length := Eq.trans rfl rfl
@[go_sem] theorem lenC_int (k : IntKind) (n : Int) : lenC (.d (.int k n)) = .d (.int k n) := Eq.trans rfl rfl
@[go_sem] theorem lenC_bool (b : Bool) : lenC (.d (.bool b)) = .d (.bool b) := Eq.trans rfl rfl
@[go_sem] theorem lenC_str (b : List UInt8) : lenC (.d (.str b)) = .d (.str b) := Eq.trans rfl rfl

section
variable {P : Program} {T : Nat → TI} {b₀ : Bs} {β : Loc} {w : World}

theorem lenC_rep {J : Nat → Prop} {g : Nat → Nat} {ob : Obs} {c : C} {v : Value} (hs : lenOkC c = true) (h : RVc J w c v) : RepC b₀ β g ob w (lenC c) v := by
  obtain ⟨x, rfl, hx⟩ := h
  cases x with
  | sl es =>
    simp only [lenC, RepC]
    cases hx with
    | sl0 => exact ⟨_, _, rfl⟩
    | sl => exact ⟨_, _, rfl⟩
  | nsl =>
    simp only [lenC, RepC]
    cases hx; exact ⟨_, _, rfl⟩
  | iptr cs => simp [lenOkC, scalarC, scalarD] at hs
  | _ => simp only [lenC, RepC]; exact hx.of_scalar rfl

theorem lenVs_rep {J : Nat → Prop} {g : Nat → Nat} {ob : Obs} : ∀ {ts : List AV} {vs : List Value}, (ts.all fun t => match t with | .one c => lenOkC c | _ => false) = true → RVs J w ts vs → RepVs b₀ β g ob w (ts.map fun t => match t with | .one c => .one (lenC c) | x => x) vs
  | [], _, _, h => by simp only [RVs] at h; simp only [List.map_nil, RepVs]; exact h
  | t :: ts, vs, hs, h => by
    simp only [List.all_cons, Bool.and_eq_true] at hs
    simp only [RVs] at h
    obtain ⟨u, us, rfl, h1, h2⟩ := h
    simp only [List.map_cons, RepVs]
    refine ⟨_, _, rfl, ?_, lenVs_rep hs.2 h2⟩
    cases t with
    | one c => simp only [RV] at h1; simp only [RepV]; exact lenC_rep hs.1 h1
    | _ => simp at hs

theorem lenAV_rep {J : Nat → Prop} {g : Nat → Nat} {ob : Obs} {r : AV} {v : Value} (hs : lenOk r = true) (h : RV J w r v) : RepV b₀ β g ob w (lenAV r) v := by
  cases r with
  | one c => simp only [RV] at h; simp only [lenAV, RepV]; exact lenC_rep hs h
  | tup ts =>
    simp only [RV] at h
    obtain ⟨vs, h1, h2⟩ := h
    simp only [lenAV, RepV]
    exact ⟨vs, h1, lenVs_rep hs h2⟩
  | _ => simp [lenOk] at hs

/-- A call that is lent what the caller owns; of what it gives, lengths and plain data are kept. -/
theorem call_len {o : Oper} {s : St} {f : FuncId} {args : Array Operand} {tys : Array TypeId} (ho : o.op = .call ⟨.value (.func f), args, tys⟩) {R : AV → Prop} {xs : List AV}
    (hx : FrzVs s (args.toList.map s.ev) xs) (hp : PureR P f xs R) (hd : ∀ r, R r → lenOk r = true) : SemOp P o s (fun s' => ∃ r, R r ∧ s' = s.put o.dst (lenAV r)) := by
  intro b₀ N β a w hr hdst next Q hn
  unfold Oper.wp
  rw [run_call ho hp.1 w]
  simp only [Oper.upon]
  have := hp.2 (Own b₀ w) w (args.toList.map a.eval) (fun _ h => h.1) (quiet_args hr .refl _ hx)
  rw [show (args.toList.map a.eval).toArray = args.map a.eval from Array.ext' (by simp)] at this
  refine this.mono fun e w' ⟨v, r, he, hR, hs, hh, hos, hv⟩ => ?_
  subst he
  obtain ⟨g1, g2⟩ := hr.grow hs hh hos
  exact hn _ β _ w' ⟨r, hR, rfl⟩ (g1.put hdst (lenAV_rep (hd r hR) hv)) (g2.trans (Tr.same (St.put_gen _ _ _) (St.put_obj _ _ _) rfl))

theorem hook_len {o : Oper} {s : St} {K : St → Prop} {k : Box K} {B : Nat} {f : FuncId} {args : Array Operand} {tys : Array TypeId} (ho : o.op = .call ⟨.value (.func f), args, tys⟩) {R : AV → Prop} {xs : List AV}
    (hp : PureR P f xs R) (hx : FrzVs s (args.toList.map s.ev) xs) (hd : ∀ r, R r → lenOk r = true) (hk : ∀ r, R r → K (s.put o.dst (lenAV r))) : hookA (spB P B) o s k :=
  ⟨_, call_len ho hx hp hd, fun _ ⟨r, hr, e⟩ => e ▸ hk r hr⟩

/-- The state in which a slice, a cell of another object, has another number. -/
def St.rename (s : St) (id id' o j : Nat) (c : C) (cs cells : List C) : St :=
  { s with gen := upd s.gen id' (s.gen id' + 1), obj := fun i => if i = o then some (cells.set j c) else if i = id' then some cs else if i = id then none else s.obj i }

theorem vs_rename {s : St} {id id' o j t sz off len sz' off' len' : Nat} {cs cells : List C} (ht : s.f t = .one (.osl o (s.gen o) sz' off' len')) (h1 : s.obj id = some cs) (h2 : s.obj id' = none) (ho : s.obj o = some cells) (n1 : o ≠ id) (n2 : o ≠ id') (n3 : id ≠ id')
    (hc : cells[j]? = some (.osl id (s.gen id) sz off len)) : SemVs s (s.rename id id' o j (.osl id' (s.gen id' + 1) sz off len) cs cells) := by
  intro b₀ N β a w hr
  let β' : Loc := fun i => if i = id' then β id else β i
  have hlive : ∀ i, ((s.rename id id' o j (.osl id' (s.gen id' + 1) sz off len) cs cells).obj i).isSome = true → (i = id' ∧ β' i = β id) ∨ (i ≠ id' ∧ i ≠ id ∧ (s.obj i).isSome = true ∧ β' i = β i) := fun i hi => by
    simp only [St.rename] at hi
    by_cases e1 : i = id'
    · exact .inl ⟨e1, by simp [β', e1]⟩
    · refine .inr ⟨e1, ?_⟩
      by_cases e2 : i = o
      · subst e2; exact ⟨n1, by rw [ho]; rfl, by simp [β', e1]⟩
      · by_cases e3 : i = id
        · simp [e1, e2, e3] at hi
          subst e3
          simp [e1, e2] at hi
        · simp only [e1, e2, e3, if_false] at hi
          exact ⟨e3, hi, by simp [β', e1]⟩
  have hkeep : Keep b₀ β s.gen s.obj w β' (s.rename id id' o j (.osl id' (s.gen id' + 1) sz off len) cs cells).gen (s.rename id id' o j (.osl id' (s.gen id' + 1) sz off len) cs cells).obj w := by
    refine ⟨fun b hb => ⟨⟨hb.1, hb.2.1, fun i a' hi hβ => ?_⟩, rfl⟩, fun i => ?_, fun i hg hi => ?_⟩
    · rcases hlive i hi with ⟨_, e⟩ | ⟨_, _, e1, e2⟩
      · exact hb.2.2 id a' (by rw [h1]; rfl) (by rw [← e]; exact hβ)
      · exact hb.2.2 i a' e1 (by rw [← e2]; exact hβ)
    · simp only [St.rename, upd]; split
      · rename_i e; subst e; omega
      · omega
    · rcases hlive i hi with ⟨e, _⟩ | ⟨_, _, e1, e2⟩
      · subst e; simp [St.rename, upd] at hg
      · exact ⟨e1, e2, fun a' _ arr el fr h => ⟨arr, el, fr, h, Nat.le_refl _⟩⟩
  have hspot : ∀ ad, β o = some ad → ad.spot = none := by
    have hv := hr.f t
    rw [ht] at hv
    simp only [RepV] at hv
    exact (osl_live hv rfl (by rw [ho]; rfl)).spot
  refine ⟨β', ⟨hr.defers, hr.size, fun i => RepV.keep hkeep _ (hr.f i), fun i cells' hc' => ?_, fun i1 i2 a1 a2 l1 l2 b1 b2 hb => ?_, hr.base⟩, Nat.le_refl _, fun _ _ => rfl, hkeep, rfl, rfl⟩
  · simp only [St.rename] at hc'
    by_cases e1 : i = o
    · subst e1
      simp only [if_true, Option.some.injEq] at hc'
      subst hc'
      have hob := hr.obj i cells ho
      have hβ' : β' i = β i := by simp [β', n2]
      rw [hβ']
      cases hβ : β i with
      | none => rw [hβ] at hob; have : cells = [] := hob; subst this; simp at hc
      | some ad =>
        rw [hβ] at hob
        obtain ⟨g1, arr, el, lo, hi, g2, g3, g4, g5⟩ := hob.cells (hspot ad hβ)
        refine .ofCells (hspot ad hβ) ⟨g1, arr, el, lo, hi, g2, g3, by simpa using g4, fun k c hk => ?_⟩
        by_cases hkj : k = j
        · subst hkj
          have hlt := (List.getElem?_eq_some_iff.1 hc).1
          rw [List.getElem?_set_self hlt] at hk
          cases hk
          obtain ⟨v, hv, hrv⟩ := g5 k _ hc
          refine ⟨v, hv, hrv.1, by simp [St.rename, upd], fun _ _ => ?_⟩
          have := osl_live hrv rfl (by rw [h1]; rfl)
          simpa [β'] using this
        · rw [List.getElem?_set_ne (Ne.symm hkj)] at hk
          obtain ⟨v, hv, hrv⟩ := g5 k c hk
          exact ⟨v, hv, hrv.keep hkeep⟩
    · by_cases e2 : i = id'
      · subst e2
        simp only [if_neg e1, if_true, Option.some.injEq] at hc'
        subst hc'
        have := (hr.obj id cs h1).keep hkeep (fun _ _ => rfl)
        simpa [β'] using this
      · by_cases e3 : i = id
        · simp [e1, e2, e3] at hc'
          subst e3
          simp [e1, e2] at hc'
        · simp only [e1, e2, e3, if_false] at hc'
          have := (hr.obj i cells' hc').keep hkeep (fun _ _ => rfl)
          simpa [β', e2] using this
  · rcases hlive i1 l1 with ⟨e1, f1⟩ | ⟨e1, e1', l1', f1⟩ <;> rcases hlive i2 l2 with ⟨e2, f2⟩ | ⟨e2, e2', l2', f2⟩
    · rw [e1, e2]
    · exact absurd (hr.inj id i2 a1 a2 (by rw [h1]; rfl) l2' (by rw [← f1]; exact b1) (by rw [← f2]; exact b2) hb).symm e2'
    · exact absurd (hr.inj i1 id a1 a2 l1' (by rw [h1]; rfl) (by rw [← f1]; exact b1) (by rw [← f2]; exact b2) hb) e1'
    · exact hr.inj i1 i2 a1 a2 l1' l2' (by rw [← f1]; exact b1) (by rw [← f2]; exact b2) hb

end
end Go.Am
