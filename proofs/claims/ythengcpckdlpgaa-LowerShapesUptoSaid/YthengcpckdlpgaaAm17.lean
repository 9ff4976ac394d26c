/- Regions that draw their order, in which functions are called that hand back no memory: the text's order serves. -/
import Derived.Test.YthengcpckdlpgaaAm16
import Derived.Deep.Quiet
set_option linter.unusedSimpArgs false
set_option linter.unusedVariables false
namespace Go.Am

def scD : D → Value
  | .fn f => .func (.func f) #[] #[]
  | x => dV x

def scC : C → Value
  | .d x => scD x
  | _ => undef

/-- The value of data without memory. -/
def scVal : AV → Value
  | .one c => scC c
  | .agg cs => .agg (cs.map scC).toArray
  | .tup ts => .tuple (ts.map fun t => match t with | .one c => scC c | _ => undef).toArray
  | .junk => undef

section
variable {P : Program} {T : Nat → TI} {b₀ : Bs} {β : Loc} {w : World}

theorem RepD.scalar {J : Nat → Prop} {x : D} {v : Value} (hs : scalarD x = true) (h : RepD J w x v) : v = scD x := by
  cases h <;> first | rfl | (simp [scalarD] at hs; done)

theorem scD_rep {J : Nat → Prop} {x : D} (hs : scalarD x = true) : RepD J w x (scD x) := by
  cases x <;> first | (simp [scalarD] at hs; done) | constructor

theorem RVc.scalar {J : Nat → Prop} {c : C} {v : Value} (hs : scalarC c = true) (h : RVc J w c v) : v = scC c := by
  obtain ⟨x, rfl, hx⟩ := h
  exact hx.scalar hs

theorem scC_rep {J : Nat → Prop} {c : C} (hs : scalarC c = true) : RVc J w c (scC c) := by
  cases c <;> simp [scalarC] at hs
  exact ⟨_, rfl, scD_rep hs⟩

theorem RVs.scalar {J : Nat → Prop} : ∀ {ts : List AV} {vs : List Value}, (ts.all fun t => match t with | .one c => scalarC c | _ => false) = true → RVs J w ts vs → vs = ts.map fun t => match t with | .one c => scC c | _ => undef
  | [], _, _, h => by simp only [RVs] at h; rw [h]; rfl
  | t :: ts, vs, hs, h => by
    simp only [List.all_cons, Bool.and_eq_true] at hs
    simp only [RVs] at h
    obtain ⟨u, us, rfl, h1, h2⟩ := h
    rw [RVs.scalar hs.2 h2]
    cases t with
    | one c => simp only [RV] at h1; simp only [List.map_cons, h1.scalar hs.1]
    | _ => simp at hs

theorem RV.scalar {J : Nat → Prop} {x : AV} {v : Value} (hs : scalarAV x = true) (h : RV J w x v) : v = scVal x := by
  cases x with
  | one c => simp only [RV] at h; exact h.scalar hs
  | agg cs =>
    simp only [RV] at h
    obtain ⟨vs, rfl, h2, h3⟩ := h
    simp only [scalarAV, List.all_eq_true] at hs
    simp only [scVal]
    congr 1
    apply Array.ext
    · simp [h2]
    · intro i h1 h4
      have hi : i < cs.length := by simpa using h4
      obtain ⟨u, hu, hr⟩ := h3 i cs[i] (List.getElem?_eq_getElem hi)
      have e := (Array.getElem?_eq_some_iff.1 hu).2
      rw [e, hr.scalar (hs _ (List.getElem_mem hi))]
      simp
  | tup ts =>
    simp only [RV] at h
    obtain ⟨vs, rfl, h2⟩ := h
    rw [RVs.scalar hs h2]; rfl
  | junk => simp [scalarAV] at hs

theorem scVals_rep {J : Nat → Prop} : ∀ {ts : List AV}, (ts.all fun t => match t with | .one c => scalarC c | _ => false) = true → RVs J w ts (ts.map fun t => match t with | .one c => scC c | _ => undef)
  | [], _ => by simp only [List.map_nil, RVs]
  | t :: ts, hs => by
    simp only [List.all_cons, Bool.and_eq_true] at hs
    simp only [List.map_cons, RVs]
    refine ⟨_, _, rfl, ?_, scVals_rep hs.2⟩
    cases t with
    | one c => simp only [RV]; exact scC_rep hs.1
    | _ => simp at hs

theorem scVal_rep {J : Nat → Prop} {x : AV} (hs : scalarAV x = true) : RV J w x (scVal x) := by
  cases x with
  | one c => simp only [RV, scVal]; exact scC_rep hs
  | agg cs =>
    simp only [RV, scVal]
    refine ⟨_, rfl, by simp, fun i c hc => ?_⟩
    simp only [scalarAV, List.all_eq_true] at hs
    exact ⟨scC c, by simp [hc], scC_rep (hs c (List.mem_of_getElem? hc))⟩
  | tup ts =>
    simp only [RV, scVal]
    exact ⟨_, rfl, scVals_rep hs⟩
  | junk => simp [scalarAV] at hs

/-- A call that hands back data without memory, of which its contract leaves nothing open. -/
def SemQ (P : Program) (o : Oper) (s : St) (R : St → Prop) : Prop := ∃ (f : FuncId) (args : Array Operand) (tys : Array TypeId) (xs : List AV) (r : AV),
  o.op = .call ⟨.value (.func f), args, tys⟩ ∧ FrzVs s (args.toList.map s.ev) xs ∧ PureR P f xs (· = r) ∧ scalarAV r = true ∧ R (s.put o.dst r)

def spQ (P : Program) (B : Nat) : Sp := ⟨SemQ P, fun _ _ _ => False, fun _ _ => False, B⟩
@[go_sem] theorem spQ_base (P : Program) (B : Nat) : (spQ P B).base = B := Eq.trans rfl rfl

def quietOp (o : Op) : Bool := pureOp o || match o with | .call ⟨.value _, _, _⟩ => true | _ => false

def drawOkQ (ops : Array Oper) : Bool := ops.toList.all (quietOp ·.op) && Region.lexB .any ops

theorem quiet_args {N : Nat} {s : St} {a : Act} (hr : Rel b₀ N s β a w) {w' : World} (he : Ext w w') : ∀ (l : List Operand) {xs : List AV}, FrzVs s (l.map s.ev) xs → RVs (Own b₀ w') w' xs (l.map a.eval)
  | [], xs, h => by simp only [List.map_nil, FrzVs] at h; subst h; simp only [List.map_nil, RVs]
  | x :: l, xs, h => by
    simp only [List.map_cons, FrzVs] at h
    obtain ⟨r, rs, rfl, h1, h2⟩ := h
    simp only [List.map_cons, RVs]
    exact ⟨_, _, rfl, RV.mono (fun b hb => ⟨⟨by have := hb.1; have := he.1; omega, hb.2⟩, he.2 b hb.1⟩) r (h1.rep hr (hr.ev x)), quiet_args hr he l h2⟩

/-- Quiet operations, and calls, one by one, whatever order is drawn. -/
theorem wpQuiet_sound (hT : TabOk P T) {B N : Nat} {ops : Array Oper} {Q : Act → Prop} {K : St → Prop} {k : Box K} : ∀ (l : List Oper) {s : St} {a : Act}, Rel b₀ N s β a w → dstsOk N l = true → l.all (quietOp ·.op) = true → wpO (spQ P B) T ops l s k →
    (∀ s' a', K s' → Rel b₀ N s' β a' w → s'.gen = s.gen → s'.obj = s.obj → Q a') → wpQuiet P ops (fun w' => Ext w w' ∧ w'.os = w.os ∧ w'.output = w.output) Q l a
  | [], s, a, hr, _, _, h, hQ => hQ s a h hr rfl rfl
  | o :: rest, s, a, hr, hds, hp, h, hQ => by
    obtain ⟨hd, hds'⟩ := dstsOk_cons hds
    simp only [List.all_cons, Bool.and_eq_true] at hp
    unfold wpO at h
    unfold wpQuiet
    have hop : ∀ {s0 : St}, Rel b₀ N s0 β a w → s0.gen = s.gen → s0.obj = s.obj → opA (spQ P B) T o s0 (bx fun s' => wpO (spQ P B) T ops rest s' k) → o.quiet P a (fun w' => Ext w w' ∧ w'.os = w.os ∧ w'.output = w.output) (wpQuiet P ops (fun w' => Ext w w' ∧ w'.os = w.os ∧ w'.output = w.output) Q rest) := fun {s0} hr0 hg0 ho0 h0 => by
      by_cases hpo : pureOp o.op = true
      · obtain ⟨y, cv, h1, h2, h3⟩ := opA_pure hT hr0 hpo h0
        refine ⟨cv, fun w' hw' => ?_, wpQuiet_sound hT rest (hr0.put hd h3) hds' hp.2 h1 (fun s' a' k1 k2 k3 k4 => hQ s' a' k1 k2 (by rw [k3, St.put_gen, hg0]) (by rw [k4, St.put_obj, ho0]))⟩
        unfold Oper.quietAt
        rw [h2 w' hw'.1]
        exact ⟨rfl, rfl⟩
      · have hq := hp.1
        simp only [quietOp, Bool.or_eq_true] at hq
        have hq := hq.resolve_left hpo
        obtain ⟨dst, op, ty, ps, af, gd⟩ := o
        cases op with
        | call c =>
          obtain ⟨callee, args, tys⟩ := c
          cases callee with
          | value fo =>
            have h0 : hookA (spQ P B) ⟨dst, .call ⟨.value fo, args, tys⟩, ty, ps, af, gd⟩ s0 (bx fun s' => wpO (spQ P B) T ops rest s' k) := h0
            obtain ⟨R, ⟨f, args', tys', xs, r, ho, hx, hpr, hsc, hR⟩, hK⟩ := h0
            have hK := hK _ hR
            have hrv : RepV b₀ β s0.gen s0.obj w r (scVal r) := RV.rep r (scVal_rep hsc)
            refine ⟨scVal r, fun w' hw' => ?_, wpQuiet_sound hT rest (hr0.put hd hrv) hds' hp.2 hK (fun s' a' k1 k2 k3 k4 => hQ s' a' k1 k2 (by rw [k3, St.put_gen, hg0]) (by rw [k4, St.put_obj, ho0]))⟩
            unfold Oper.quietAt
            rw [run_call ho hpr.1 w']
            refine ⟨rfl, ?_⟩
            have := hpr.2 (Own b₀ w') w' (args'.toList.map a.eval) (fun _ h => h.1) (quiet_args hr0 hw'.1 _ hx)
            rw [show (args'.toList.map a.eval).toArray = args'.map a.eval from Array.ext' (by simp)] at this
            refine this.mono fun e w'' ⟨v, r', he, hRr, hs, hh, hos, hv⟩ => ?_
            subst hRr
            exact ⟨by rw [he, hv.scalar hsc], hw'.1.trans ⟨hs, hh⟩, hos.1.trans hw'.2.1, hos.2.trans hw'.2.2⟩
          | builtin b => simp at hq
          | invoke r m => simp at hq
        | _ => simp at hq
    cases hg : o.guard with
    | none =>
      rw [hg] at h
      simp only at h
      rw [if_pos (by simp [Region.wanted, hg])]
      exact hop hr rfl rfl h
    | some p =>
      obtain ⟨j, want⟩ := p
      rw [hg] at h
      simp only at h
      obtain ⟨d, hj, h⟩ := onSome_inv h
      unfold guardA at h
      split at h
      · rename_i b hb
        have hy := hr.yielded hj hb
        have h := BSplit_inv h
        have hr' := hr.reput hb
        by_cases hw : b = want
        · rw [if_pos hw] at h
          rw [if_pos (by simp [Region.wanted, hg, hy, hw])]
          exact hop hr' rfl rfl h
        · rw [if_neg hw] at h
          rw [if_neg (by simp [Region.wanted, hg, hy, hw])]
          have hp' := hr'.put hd (x := uv) (v := undef) undefRep
          exact wpQuiet_sound hT rest hp' hds' hp.2 h (fun s2 a2 k1 k2 k3 k4 => hQ _ _ k1 k2 (by rw [k3, St.put_gen]) (by rw [k4, St.put_obj]))
      · rename_i hb
        have hy := hr.yielded_u hj hb
        rw [if_neg (by simp [Region.wanted, hg, hy])]
        have hp' := hr.put hd (x := uv) (v := undef) undefRep
        exact wpQuiet_sound hT rest hp' hds' hp.2 h (fun s2 a2 k1 k2 k3 k4 => hQ _ _ k1 k2 (by rw [k3, St.put_gen]) (by rw [k4, St.put_obj]))
      · exact h.elim

/-- A drawn region with calls, as the walk meets it. -/
theorem draw_calls (hT : TabOk P T) (hm : P.follows .mixedOrders = true) {B id : Nat} {ops : Array Oper} {s : St} {Q : Exit → St → Prop} {q : Box Q} (hok : drawOkQ ops = true) (h : wpO (spQ P B) T ops ops.toList s (bx fun s' => Q .normal s')) : DrawA (spB P B) T id ops s q := by
  refine .inr ⟨fun e s' => e = .normal ∧ Q .normal s', fun b₀ N β a w hc hr => ?_, fun e s' ⟨h1, h2⟩ => h1 ▸ h2⟩
  simp only [drawOkQ, Bool.and_eq_true] at hok
  have hr1 : Rel b₀ N s β a { w with drawn := w.drawn + 1 } := hr.of_heap rfl
  have ht1 : Tr b₀ β s w β s { w with drawn := w.drawn + 1 } := Tr.same rfl rfl rfl
  refine wp_region_quiet hm hok.2 (C := fun w' => Ext { w with drawn := w.drawn + 1 } w' ∧ w'.os = w.os ∧ w'.output = w.output) ⟨.refl, rfl, rfl⟩ ?_
  refine wpQuiet_sound hT ops.toList hr1 hc hok.1 h (fun s' a' k1 k2 k3 k4 w' hw' => ?_)
  obtain ⟨g1, g2⟩ := k2.grow hw'.1.1 hw'.1.2 ⟨hw'.2.1, hw'.2.2⟩
  refine ⟨s', β, ⟨rfl, k1⟩, g1, ht1.trans (Tr.trans (Tr.same k3 k4 rfl) g2)⟩

theorem frzVs_data {s : St} : ∀ {ts : List AV}, (ts.all fun t => match t with | .one (.d x) => (match x with | .nsl => false | _ => true) | _ => false) = true → FrzVs s ts ts
  | [], _ => rfl
  | t :: ts, h => by
    simp only [List.all_cons, Bool.and_eq_true] at h
    refine ⟨t, ts, rfl, ?_, frzVs_data h.2⟩
    match t, h.1 with
    | .one (.d x), h1 =>
      refine ⟨x, ?_, rfl⟩
      have := Frz.d (s := s) x
      cases x <;> first | exact this | (simp at h1; done)

/-- A call in such a region, by its contract. -/
theorem quiet_call {o : Oper} {s : St} {K : St → Prop} {k : Box K} {B : Nat} {f : FuncId} {args : Array Operand} {tys : Array TypeId} (ho : o.op = .call ⟨.value (.func f), args, tys⟩) {r : AV} {xs : List AV}
    (hp : PureR P f xs (· = r)) (hx : FrzVs s (args.toList.map s.ev) xs) (hs : scalarAV r = true) (hk : K (s.put o.dst r)) : hookA (spQ P B) o s k :=
  ⟨fun s' => s' = s.put o.dst r, ⟨f, args, tys, xs, r, ho, hx, hp, hs, rfl⟩, fun _ e => e ▸ hk⟩

/-- A slot's object is given up: the slot holds its data. -/
theorem vs_give {s : St} {t id : Nat} {c : C} {x : D} (ht : s.f t = .one c) (hf : FrzP (· = id) s c x) : SemVs s { s with f := upd s.f t (.one (.d x)), obj := upd s.obj id none } := by
  refine vs_freeze (· = id) rfl (fun i => ?_) (fun i cells' hc => ?_)
  · by_cases h : i = t
    · subst h; exact .inr ⟨c, x, ht, by simp [upd], hf⟩
    · exact .inl (by simp [upd, h])
  · simp only [upd] at hc
    by_cases h : i = id
    · rw [if_pos h] at hc; cases hc
    · rw [if_neg h] at hc
      exact ⟨h, cells', hc, rfl, fun j c1 c2 e1 e2 => .inl (by rw [e1] at e2; exact (Option.some.inj e2).symm)⟩

/-- Elements of one cell each. -/
theorem frzp_list {P : Nat → Prop} {s : St} {id g len : Nat} {cells : List C} (hp : P id) (hg : s.gen id = g) (ho : s.obj id = some cells) (ds : List D) (hl : ds.length = len) (hlc : ds.length ≤ cells.length)
    (h : ∀ (j : Nat) (d : D) (c : C), ds[j]? = some d → cells[j]? = some c → FrzP P s c d) : FrzP P s (.osl id g 1 0 len) (.sl (ds.map fun d => [d])) := by
  have hfl : (ds.map fun d => [d]).flatten = ds := by
    clear hl hlc h
    induction ds with
    | nil => rfl
    | cons a l ih => simp [ih]
  refine .osl hp hg ho (by omega) (by simpa using hl) (fun e he => by obtain ⟨a, _, rfl⟩ := List.mem_map.1 he; rfl) (fun j => (cells[0 + j]?).getD (.d .nsl)) (fun j x hx => ?_) (fun j x hx => ?_)
  · rw [hfl] at hx
    have hj := (List.getElem?_eq_some_iff.1 hx).1
    rw [Nat.zero_add, List.getElem?_eq_getElem (by omega)]; rfl
  · rw [hfl] at hx
    have hj := (List.getElem?_eq_some_iff.1 hx).1
    rw [Nat.zero_add, List.getElem?_eq_getElem (by omega)]
    exact h j x _ hx (List.getElem?_eq_getElem (by omega))

/-- Some objects are given up: a slot holds them as data. -/
theorem vs_gives (p : Nat → Bool) {s : St} {t : Nat} {c : C} {x : D} (ht : s.f t = .one c) (hf : FrzP (fun i => p i = true) s c x) : SemVs s { s with f := upd s.f t (.one (.d x)), obj := fun i => if p i then none else s.obj i } := by
  refine vs_freeze (fun i => p i = true) rfl (fun i => ?_) (fun i cells' hc => ?_)
  · by_cases h : i = t
    · subst h; exact .inr ⟨c, x, ht, by simp [upd], hf⟩
    · exact .inl (by simp [upd, h])
  · simp only at hc
    by_cases h : p i = true
    · rw [if_pos h] at hc; cases hc
    · rw [if_neg h] at hc
      exact ⟨h, cells', hc, rfl, fun j c1 c2 e1 e2 => .inl (by rw [e1] at e2; exact (Option.some.inj e2).symm)⟩

/-- The slots are told anew: only what is wanted of them stays known. -/
theorem cut_O {S : Sp} {ops : Array Oper} {l : List Oper} {f : Nat → AV} {g : Nat → Nat} {ob : Obs} {K : St → Prop} {k : Box K} (I : (Nat → AV) → Prop) (h : I f) (hk : ∀ f, I f → wpO S T ops l ⟨f, g, ob⟩ k) : wpO S T ops l ⟨f, g, ob⟩ k := hk f h
theorem cut_C {S : Sp} {c : Code} {f : Nat → AV} {g : Nat → Nat} {ob : Obs} {Q : Exit → St → Prop} {q : Box Q} (I : (Nat → AV) → Prop) (h : I f) (hk : ∀ f, I f → wpC S T c q ⟨f, g, ob⟩) : wpC S T c q ⟨f, g, ob⟩ := hk f h

end
end Go.Am
