/- Calls that are lent the caller's objects, and hand back data in new memory: nothing of the caller's changes. -/
import Derived.Test.YthengcpckdlpgaaAm15
set_option linter.unusedSimpArgs false
set_option linter.unusedVariables false
namespace Go.Am

/-- A result, as data: the call's own objects, from the number B on, are given up. -/
inductive FrzA (B : Nat) (s : St) : AV → AV → Prop where
  | one {c : C} {x : D} (h : FrzP (B ≤ ·) s c x) : FrzA B s (.one c) (.one (.d x))
  | agg {cs : List C} {xs : List D} (hl : xs.length = cs.length) (h : ∀ (i : Nat) (c : C), cs[i]? = some c → ∃ x, xs[i]? = some x ∧ FrzP (B ≤ ·) s c x) : FrzA B s (.agg cs) (.agg (xs.map .d))

def FrzAs (B : Nat) (s : St) : List AV → List AV → Prop
  | [], rs => rs = []
  | t :: ts, rs => ∃ r rs', rs = r :: rs' ∧ FrzA B s t r ∧ FrzAs B s ts rs'

/-- At the end of a call that was lent objects. -/
def RetL (B : Nat) (g : Nat → Nat) (ob : Obs) (res : List Nat) (R : AV → Prop) : Exit → St → Prop
  | .normal, s | .ret, s => (∀ i, i < B → s.gen i = g i) ∧ (∀ i, i < B → s.obj i = ob i) ∧
    match res with
    | [t] => ∃ r, FrzA B s (s.f t) r ∧ R r
    | ts => ∃ rs, FrzAs B s (ts.map s.f) rs ∧ R (.tup rs)
  | _, _ => False

section
variable {P : Program} {T : Nat → TI} {b₀ : Bs} {β : Loc} {w : World}

theorem FrzA.rep {B N : Nat} {s : St} {a : Act} {ob' : Obs} (hob' : ∀ id, (ob' id).isSome = true → (s.obj id).isSome = true ∧ ¬ B ≤ id) (hr : Rel b₀ N s β a w) {x r : AV} (h : FrzA B s x r) {v : Value} (hv : RepV b₀ β s.gen s.obj w x v) {g' : Nat → Nat} {β' : Loc} (hβ : ∀ id, (ob' id).isSome = true → β' id = β id) : RepV b₀ β' g' ob' w r v := by
  have himm : ∀ b, Imm b₀ β ob' w b → Imm b₀ β' ob' w b ∧ w.heap[b]? = w.heap[b]? := fun b hb => ⟨⟨hb.1, hb.2.1, fun id a ho he => hb.2.2 id a ho (by rw [← hβ id ho]; exact he)⟩, rfl⟩
  cases h with
  | one h =>
    simp only [RepV] at hv ⊢
    simp only [RepC]
    exact (FrzP.rep hob' hr h hv).mono himm
  | agg hl h =>
    rename_i cs xs
    simp only [RepV] at hv ⊢
    obtain ⟨vs, h1, h2, h3⟩ := hv
    refine ⟨vs, h1, by rw [h2, List.length_map, hl], fun i c hc => ?_⟩
    rw [List.getElem?_map] at hc
    cases hq : xs[i]? with
    | none => rw [hq] at hc; cases hc
    | some y =>
      rw [hq] at hc
      simp only [Option.map_some, Option.some.injEq] at hc
      subst hc
      have hlt : i < cs.length := by rw [← hl]; exact (List.getElem?_eq_some_iff.1 hq).1
      obtain ⟨u, hu, hru⟩ := h3 i _ (List.getElem?_eq_getElem hlt)
      obtain ⟨y', hy', hf⟩ := h i _ (List.getElem?_eq_getElem hlt)
      have : y' = y := by simpa [hy'] using hq
      subst this
      refine ⟨u, hu, ?_⟩
      simp only [RepC]
      exact (FrzP.rep hob' hr hf hru).mono himm

theorem FrzAs.rep {B N : Nat} {s : St} {a : Act} {ob' : Obs} (hob' : ∀ id, (ob' id).isSome = true → (s.obj id).isSome = true ∧ ¬ B ≤ id) (hr : Rel b₀ N s β a w) {g' : Nat → Nat} {β' : Loc} (hβ : ∀ id, (ob' id).isSome = true → β' id = β id) :
    ∀ (ts : List Nat) {rs : List AV}, FrzAs B s (ts.map s.f) rs → RepVs b₀ β' g' ob' w rs (ts.map fun t => a.tmps.getD t undef)
  | [], rs, h => by simp only [List.map_nil, FrzAs] at h; subst h; simp only [List.map_nil, RepVs]
  | t :: ts, rs, h => by
    simp only [List.map_cons, FrzAs] at h
    obtain ⟨r, rs', rfl, h1, h2⟩ := h
    simp only [List.map_cons, RepVs]
    exact ⟨_, _, rfl, h1.rep hob' hr (hr.f t) hβ, FrzAs.rep hob' hr hβ ts h2⟩

/-- What is told of a cell at the end, and was told at the beginning, holds with the beginning's numbers. -/
theorem RepC.back {β' : Loc} {g g' : Nat → Nat} {ob ob' : Obs} {w w' : World} (hl : ∀ id, (ob id).isSome = true → g' id = g id ∧ β' id = β id ∧ (ob' id).isSome = true) (himm : ∀ b, Imm b₀ β' ob' w' b → Imm b₀ β ob w' b)
    {c : C} {v v0 : Value} (h : RepC b₀ β' g' ob' w' c v) (h0 : RepC b₀ β g ob w c v0) : RepC b₀ β g ob w' c v := by
  cases c with
  | d x => exact RepD.mono h fun b hb => ⟨himm b hb, rfl⟩
  | osl id g1 sz off len =>
    refine ⟨h.1, h0.2.1, fun hg ho => ?_⟩
    obtain ⟨l1, l2, l3⟩ := hl id ho
    rw [← l2]; exact h.2.2 (by rw [l1]; exact hg) l3
  | ptr id g1 off =>
    refine ⟨h.1, h0.2.1, fun hg ho => ?_⟩
    obtain ⟨l1, l2, l3⟩ := hl id ho
    rw [← l2]; exact h.2.2 (by rw [l1]; exact hg) l3
  | mp id g1 kd =>
    refine ⟨h.1, h0.2.1, fun hg ho => ?_⟩
    obtain ⟨l1, l2, l3⟩ := hl id ho
    rw [← l2]; exact h.2.2 (by rw [l1]; exact hg) l3
  | lsl n => exact h
  | clo f caps =>
    obtain ⟨vs, h1, h2, h3⟩ := h
    obtain ⟨vs0, _, _, h03⟩ := h0
    refine ⟨vs, h1, h2, fun i pc hp => ?_⟩
    obtain ⟨u, hu, hr⟩ := h3 i pc hp
    obtain ⟨u0, _, hr0⟩ := h03 i pc hp
    refine ⟨u, hu, ?_⟩
    cases pc with
    | d x => exact RepD.mono hr fun b hb => ⟨himm b hb, rfl⟩
    | ptr id g1 off =>
      refine ⟨hr.1, hr0.2.1, fun hg ho => ?_⟩
      obtain ⟨l1, l2, l3⟩ := hl id ho
      rw [← l2]; exact hr.2.2 (by rw [l1]; exact hg) l3

theorem MapRep.back {R R0 R' : C → Value → Prop} {kd : TypeDesc} {cs : List C} {es es0 : List MapEntry} (h : MapRep R kd cs es) (h0 : MapRep R0 kd cs es0) (hr : ∀ c v v0, R c v → R0 c v0 → R' c v) : MapRep R' kd cs es := by
  induction h generalizing es0 with
  | nil => exact .nil
  | cons hk h1 h2 _ ih =>
    cases h0 with
    | cons _ _ h02 h0' => exact .cons hk h1 (hr _ _ _ h2 h02) (ih h0')

/-- A function that is lent objects, and changes none. -/
theorem lent_of_wp (B : Nat) (hT : TabOk P T) (hm : P.follows .mixedOrders = true) {f : FuncId} {fn : Func} {c : Code} (hf : P.funcs[f]? = some fn) (hb : fn.body = some c) (hn : (fn.name == "runtime.NumGoroutine") = false)
    (res : List Nat) (hres : fn.results = (res.map ResultVar.tmp).toArray) (hok : codeOk fn.ntmps c = true) {xs : List AV} (hargs : xs.length ≤ fn.ntmps) {g : Nat → Nat} {ob : Obs} {R : AV → Prop} (hB : ∀ i, B ≤ i → ob i = none)
    (h : wpC (spB P B) T c (bx (RetL B g ob res R)) ⟨initF xs, g, ob⟩) : FunR P f xs g ob (fun r g' ob' => R r ∧ g' = g ∧ ob' = ob) := by
  refine ⟨⟨fn, hf, by rw [hb]; rfl, hn⟩, fun b₀ N β a fa w vs hr0 hv => ?_⟩
  refine calls_of_wp hf hb ?_
  have hl := hv.len
  have hr : Rel b₀ fn.ntmps ⟨initF xs, g, ob⟩ β { tmps := vs.toArray ++ Array.replicate (fn.ntmps - vs.toArray.size) undef, defers := [] } w := by
    refine ⟨rfl, by simp; omega, fun i => ?_, hr0.obj, hr0.inj, hr0.base⟩
    simp only [initF]
    cases hx : xs[i]? with
    | some x =>
      obtain ⟨v, h1, h2⟩ := hv.get hx
      have hlt : i < vs.length := (List.getElem?_eq_some_iff.1 h1).1
      have : (vs.toArray ++ Array.replicate (fn.ntmps - vs.toArray.size) undef).getD i undef = v := by
        rw [Array.getD_eq_getD_getElem?, Array.getElem?_append_left (by simpa using hlt)]
        simp [h1]
      rw [this]
      simpa only [Option.getD_some] using h2
    | none =>
      have hge : xs.length ≤ i := by simpa using hx
      have : (vs.toArray ++ Array.replicate (fn.ntmps - vs.toArray.size) undef).getD i undef = undef := by
        rw [Array.getD_eq_getD_getElem?, Array.getElem?_append_right (by simp; omega)]
        simp [Array.getElem?_replicate]
        split <;> rfl
      rw [this]
      exact undefRep
  refine wp_mono (wpC_sound (B := B) hT hm c hok hr h) (fun e a' w' hp => ?_)
  obtain ⟨s', β', hQ, hr', ht⟩ := hp
  have hres' : RetL B g ob res R .ret s' → ∃ v, (results fn a'.tmps).run P w' = .ok v w' ∧ ∃ v' r g' ob' β', Ending.returned v = .returned v' ∧ (R r ∧ g' = g ∧ ob' = ob) ∧ RepV b₀ β' g' ob' w' r v' ∧
      (∀ id cells, ob' id = some cells → ObjAt b₀ β' g' ob' w' cells (β' id)) ∧ (∀ id id' a a', (ob' id).isSome = true → (ob' id').isSome = true → β' id = some a → β' id' = some a' → a.block = a'.block → id = id') ∧
      Tr b₀ β ⟨fa, g, ob⟩ w β' ⟨fa, g', ob'⟩ w' := by
    rintro ⟨hg, hob, hfz⟩
    have hlt : ∀ id, (ob id).isSome = true → id < B := fun id ho => Classical.byContradiction fun hc => by
      rw [hB id (by omega)] at ho; cases ho
    have hlive : ∀ id, (ob id).isSome = true → s'.gen id = g id ∧ β' id = β id ∧ (s'.obj id).isSome = true := fun id ho => by
      have h1 := hg id (hlt id ho)
      have h2 : (s'.obj id).isSome = true := by rw [hob id (hlt id ho)]; exact ho
      exact ⟨h1, (ht.keep.live id h1 h2).2.1, h2⟩
    have hob' : ∀ id, (ob id).isSome = true → (s'.obj id).isSome = true ∧ ¬ B ≤ id := fun id ho => ⟨(hlive id ho).2.2, by have := hlt id ho; omega⟩
    have himm : ∀ b, Imm b₀ β' s'.obj w' b → Imm b₀ β ob w' b := fun b hb => ⟨hb.1, hb.2.1, fun id a ho he => hb.2.2 id a (hlive id ho).2.2 (by rw [(hlive id ho).2.1]; exact he)⟩
    have hobj : ∀ id cells, ob id = some cells → ObjAt b₀ β g ob w' cells (β id) := fun id cells hc => by
      have ho : (ob id).isSome = true := by rw [hc]; rfl
      have h1 := hr'.obj id cells (by rw [hob id (hlt id ho)]; exact hc)
      rw [(hlive id ho).2.1] at h1
      have h0 := hr.obj id cells hc
      cases hβ : β id with
      | none => rw [hβ] at h1; exact h1
      | some ad =>
        rw [hβ] at h1 h0
        cases hs : ad.spot with
        | none =>
          obtain ⟨p1, arr, el, lo, hi, p2, p3, p4, p5⟩ := h1.cells hs
          obtain ⟨_, arr0, el0, lo0, hi0, _, _, _, q5⟩ := h0.cells hs
          refine .ofCells hs ⟨p1, arr, el, lo, hi, p2, p3, p4, fun j c hj => ?_⟩
          obtain ⟨v, hv, hrv⟩ := p5 j c hj
          obtain ⟨v0, _, hrv0⟩ := q5 j c hj
          exact ⟨v, hv, RepC.back hlive himm hrv hrv0⟩
        | some kd =>
          obtain ⟨p1, es, clock, p2, p3⟩ := h1.map hs
          obtain ⟨_, es0, clock0, _, q3⟩ := h0.map hs
          exact .ofMap hs ⟨p1, es, clock, p2, p3.back q3 fun c v v0 => RepC.back hlive himm⟩
    have hkeep : Keep b₀ β g ob w β g ob w' := by
      refine ⟨fun b hb => ⟨himm b (ht.imm b hb).1, (ht.imm b hb).2⟩, fun _ => Nat.le_refl _, fun id _ ho => ⟨ho, rfl, fun a' ha' arr el fr hh => ?_⟩⟩
      exact (ht.keep.live id (hlive id ho).1 (hlive id ho).2.2).2.2 a' ha' arr el fr hh
    refine ⟨_, run_results res hres a'.tmps, ?_⟩
    have hfin : ∀ r, RepV b₀ β g ob w' r (resVal a'.tmps res) → R r → ∃ v' r g' ob' β', Ending.returned (resVal a'.tmps res) = .returned v' ∧ (R r ∧ g' = g ∧ ob' = ob) ∧ RepV b₀ β' g' ob' w' r v' ∧
      (∀ id cells, ob' id = some cells → ObjAt b₀ β' g' ob' w' cells (β' id)) ∧ (∀ id id' a a', (ob' id).isSome = true → (ob' id').isSome = true → β' id = some a → β' id' = some a' → a.block = a'.block → id = id') ∧
      Tr b₀ β ⟨fa, g, ob⟩ w β' ⟨fa, g', ob'⟩ w' := fun r h1 h2 => ⟨_, r, g, ob, β, rfl, ⟨h2, rfl, rfl⟩, h1, hobj, hr.inj, ⟨ht.size, ht.old, hkeep, ht.os⟩⟩
    have hββ : ∀ id, (ob id).isSome = true → β id = β' id := fun id ho => (hlive id ho).2.1.symm
    match res, hfz with
    | [t], ⟨r, h1, h2⟩ => exact hfin r (h1.rep hob' hr' (hr'.f t) hββ) h2
    | [], ⟨rs, h1, h2⟩ => exact hfin _ (by simp only [RepV]; exact ⟨_, rfl, FrzAs.rep hob' hr' hββ [] h1⟩) h2
    | t :: t' :: ts, ⟨rs, h1, h2⟩ => exact hfin _ (by simp only [RepV]; exact ⟨_, rfl, FrzAs.rep hob' hr' hββ (t :: t' :: ts) h1⟩) h2
  cases e with
  | normal => exact ⟨hr'.defers, hres' hQ⟩
  | ret => exact ⟨hr'.defers, hres' hQ⟩
  | exit id => exact hQ.elim
  | goto l => exact hQ.elim
  | panic ch => exact hQ.elim
  | outgrown => exact hQ.elim

theorem put_same (s : St) (d : Option Nat) (r : AV) : St.put ⟨s.f, s.gen, s.obj⟩ d r = s.put d r := rfl

/-- A call that is lent objects, as the walk meets it. -/
theorem hook_lent {o : Oper} {s : St} {K : St → Prop} {k : Box K} {B : Nat} {f : FuncId} {args : Array Operand} {tys : Array TypeId} (ho : o.op = .call ⟨.value (.func f), args, tys⟩) {R : AV → Prop}
    (hp : FunR P f (args.toList.map s.ev) s.gen s.obj (fun r g' ob' => R r ∧ g' = s.gen ∧ ob' = s.obj)) (hk : ∀ r, R r → K (s.put o.dst r)) : hookA (spB P B) o s k :=
  hook_fun ho hp fun r g' ob' ⟨h1, h2, h3⟩ => by rw [h2, h3]; exact hk r h1

theorem hook_cloLent {o : Oper} {s : St} {K : St → Prop} {k : Box K} {B : Nat} {t : Nat} {args : Array Operand} {tys : Array TypeId} (ho : o.op = .call ⟨.value (.tmp t), args, tys⟩) {f : FuncId} {caps : List PC} (hf : s.f t = .one (.clo f caps))
    {R : AV → Prop} (hp : FunR P f (args.toList.map s.ev ++ caps.map pcAV) s.gen s.obj (fun r g' ob' => R r ∧ g' = s.gen ∧ ob' = s.obj)) (hk : ∀ r, R r → K (s.put o.dst r)) : hookA (spB P B) o s k :=
  hook_clo ho hf hp fun r g' ob' ⟨h1, h2, h3⟩ => by rw [h2, h3]; exact hk r h1

/-- An operation that is met in a state told anew. -/
theorem hook_vs {o : Oper} {s : St} (s₁ : St) {K : St → Prop} {k : Box K} {B : Nat} (hv : SemVs s s₁) (h : hookA (spB P B) o s₁ k) : hookA (spB P B) o s k := by
  obtain ⟨R, hR, hK⟩ := h
  refine ⟨R, fun b₀ N β a w hr hdst next Q hn => ?_, hK⟩
  obtain ⟨β1, r1, t1⟩ := hv b₀ N β a w hr
  exact hR b₀ N β1 a w r1 hdst next Q (fun s' β' a' w' h1 h2 h3 => hn s' β' a' w' h1 h2 (t1.trans h3))

/-- Code that is met in a state told anew. -/
theorem hook_pure {o : Oper} {s : St} {K : St → Prop} {k : Box K} {B : Nat} {f : FuncId} {args : Array Operand} {tys : Array TypeId} (ho : o.op = .call ⟨.value (.func f), args, tys⟩) {R : AV → Prop}
    (hp : PureR P f (args.toList.map s.ev) R) (hd : (args.toList.map s.ev).all dataAV = true) (hk : ∀ r, R r → K (s.put o.dst r)) : hookA (spB P B) o s k :=
  ⟨_, call_pure ho hp hd, fun _ ⟨r, hr, e⟩ => e ▸ hk r hr⟩

theorem loop_introB {B0 : Nat} {B : (Exit → St → Prop) → St → Prop} {b : Box B} {Q : Exit → St → Prop} {q : Box Q} {s : St} (I : Nat → St → Prop) (n : Nat) (h0 : I n s)
    (hr : ∀ n f g ob, I n ⟨f, g, ob⟩ → B (thenA (bx fun s' => ∃ n' s₁, n' < n ∧ (spB P B0).vs s' s₁ ∧ I n' s₁) q) ⟨f, g, ob⟩) : LoopA (spB P B0) b q s :=
  ⟨I, ⟨n, s, SemVs.refl s, h0⟩, fun n s hs => hr n s.f s.gen s.obj hs⟩

theorem loop_vsB {B0 : Nat} {B : (Exit → St → Prop) → St → Prop} {b : Box B} {Q : Exit → St → Prop} {q : Box Q} {s : St} (s₁ : St) (hv : SemVs s s₁) (I : Nat → St → Prop) (n : Nat) (h0 : I n s₁)
    (hr : ∀ n f g ob, I n ⟨f, g, ob⟩ → B (thenA (bx fun s' => ∃ n' s₁, n' < n ∧ (spB P B0).vs s' s₁ ∧ I n' s₁) q) ⟨f, g, ob⟩) : LoopA (spB P B0) b q s :=
  ⟨I, ⟨n, s₁, hv, h0⟩, fun n s hs => hr n s.f s.gen s.obj hs⟩

theorem round_endB {B0 : Nat} {I : Nat → St → Prop} {n : Nat} {s : St} (n' : Nat) (h : n' < n) (hI : I n' s) : ∃ n' s₁, n' < n ∧ (spB P B0).vs s s₁ ∧ I n' s₁ := ⟨n', s, h, SemVs.refl s, hI⟩
theorem draw_introB {B0 : Nat} {id : Nat} {ops : Array Oper} {s : St} {Q : Exit → St → Prop} {q : Box Q} (hok : drawOk ops = true) (h : wpO (spB P B0) T ops ops.toList s (bx fun s' => Q .normal s')) : DrawA (spB P B0) T id ops s q := .inl ⟨hok, h⟩

end

/-! Results. -/
@[go_sem] theorem RetL_one {B : Nat} {g : Nat → Nat} {ob : Obs} {t : Nat} {R : AV → Prop} {s : St} : RetL B g ob [t] R .ret s = ((∀ i, i < B → s.gen i = g i) ∧ (∀ i, i < B → s.obj i = ob i) ∧ ∃ r, FrzA B s (s.f t) r ∧ R r) := Eq.trans rfl rfl
@[go_sem] theorem RetL_two {B : Nat} {g : Nat → Nat} {ob : Obs} {t u : Nat} {R : AV → Prop} {s : St} : RetL B g ob [t, u] R .ret s = ((∀ i, i < B → s.gen i = g i) ∧ (∀ i, i < B → s.obj i = ob i) ∧ ∃ rs, FrzAs B s [s.f t, s.f u] rs ∧ R (.tup rs)) := Eq.trans rfl rfl
@[go_sem] theorem RetL_three {B : Nat} {g : Nat → Nat} {ob : Obs} {t u v : Nat} {R : AV → Prop} {s : St} : RetL B g ob [t, u, v] R .ret s = ((∀ i, i < B → s.gen i = g i) ∧ (∀ i, i < B → s.obj i = ob i) ∧ ∃ rs, FrzAs B s [s.f t, s.f u, s.f v] rs ∧ R (.tup rs)) := Eq.trans rfl rfl
@[go_sem] theorem RetL_norm {B : Nat} {g : Nat → Nat} {ob : Obs} {ts : List Nat} {R : AV → Prop} {s : St} : RetL B g ob ts R .normal s = RetL B g ob ts R .ret s := Eq.trans rfl rfl
theorem frzA_dx {B : Nat} {s : St} {x : D} {R : AV → Prop} (hx : x ≠ .nsl) : (∃ r, FrzA B s (.one (.d x)) r ∧ R r) = R (.one (.d x)) := by
  apply propext
  constructor
  · rintro ⟨r, hr, hR⟩
    cases hr with
    | one h =>
      cases h with
      | d => exact hR
      | nil => exact absurd rfl hx
  · intro h; exact ⟨_, .one (.d x), h⟩
@[go_sem] theorem frzAs_nil {B : Nat} {s : St} {R : List AV → Prop} : (∃ rs, FrzAs B s [] rs ∧ R rs) = R [] := by simp [FrzAs]
@[go_sem] theorem frzAs_cons {B : Nat} {s : St} {t : AV} {ts : List AV} {R : List AV → Prop} : (∃ rs, FrzAs B s (t :: ts) rs ∧ R rs) = ∃ r, FrzA B s t r ∧ ∃ rs, FrzAs B s ts rs ∧ R (r :: rs) := by
  apply propext
  simp only [FrzAs]
  constructor
  · rintro ⟨_, ⟨r, rs', rfl, h1, h2⟩, hR⟩; exact ⟨r, h1, rs', h2, hR⟩
  · rintro ⟨r, h1, rs', h2, hR⟩; exact ⟨_, ⟨r, rs', rfl, h1, h2⟩, hR⟩
@[go_sem] theorem frzA_int {B : Nat} {s : St} {k : IntKind} {n : Int} {R : AV → Prop} : (∃ r, FrzA B s (.one (.d (.int k n))) r ∧ R r) = R (.one (.d (.int k n))) := frzA_dx (by simp)
@[go_sem] theorem frzA_bool {B : Nat} {s : St} {b : Bool} {R : AV → Prop} : (∃ r, FrzA B s (.one (.d (.bool b))) r ∧ R r) = R (.one (.d (.bool b))) := frzA_dx (by simp)
@[go_sem] theorem frzA_str {B : Nat} {s : St} {b : List UInt8} {R : AV → Prop} : (∃ r, FrzA B s (.one (.d (.str b))) r ∧ R r) = R (.one (.d (.str b))) := frzA_dx (by simp)
@[go_sem] theorem frzA_sl {B : Nat} {s : St} {es : List (List D)} {R : AV → Prop} : (∃ r, FrzA B s (.one (.d (.sl es))) r ∧ R r) = R (.one (.d (.sl es))) := frzA_dx (by simp)
theorem frzA_nsl {B : Nat} {s : St} {R : AV → Prop} (h : R (.one (.d (.sl [])))) : ∃ r, FrzA B s (.one (.d .nsl)) r ∧ R r := ⟨_, .one .nil, h⟩
theorem frzA_osl {B : Nat} {s : St} {id g sz off len : Nat} {x : D} {R : AV → Prop} (h : FrzP (B ≤ ·) s (.osl id g sz off len) x) (hR : R (.one (.d x))) : ∃ r, FrzA B s (.one (.osl id g sz off len)) r ∧ R r := ⟨_, .one h, hR⟩

theorem nc0 : ((0 : Nat) : Int) = 0 := rfl
theorem nc1 : ((1 : Nat) : Int) = 1 := rfl
attribute [go_sem] nc0 nc1 Nat.add_zero Nat.sub_zero Int.cast_ofNat_Int

/-! Maps. -/
theorem keyEq_eq {a b : D} (h : keyEq a b = true) : a = b := by
  cases a <;> cases b <;> simp_all [keyEq]

theorem mget_mset (k : D) (x : C) (k' : D) : ∀ cells : List C, mget (mset cells k x) k' = if keyEq k k' = true then some x else mget cells k'
  | .d k1 :: c :: r => by
    simp only [mset]
    split
    · rename_i h1
      rw [keyEq_eq h1]
      simp only [mget]
      split <;> rfl
    · rename_i h1
      simp only [mget]
      rw [mget_mset k x k' r]
      by_cases h2 : keyEq k k' = true
      · rw [if_pos h2]
        split
        · rename_i h3
          exfalso
          have e1 := keyEq_eq h3
          have e2 := keyEq_eq h2
          subst e1; subst e2; exact h1 h3
        · rfl
      · rw [if_neg h2, if_neg h2]
  | [] => by simp [mset, mget]
  | [.d k1] => by simp [mset, mget]
  | .osl .. :: _ => by simp [mset, mget]
  | .ptr .. :: _ => by simp [mset, mget]
  | .clo .. :: _ => by simp [mset, mget]
  | .mp .. :: _ => by simp [mset, mget]
  | .lsl .. :: _ => by simp [mset, mget]

/-! Numbers of new objects, from B on, against numbers below. -/
theorem ne_lo {B i : Nat} (h : i < B) (k : Nat) : (i = B + k) = False := by simp; omega
theorem ne_hi {B i : Nat} (h : i < B) (k : Nat) : (B + k = i) = False := by simp; omega
@[go_sem] theorem hi_hi (B k j : Nat) : (B + k = B + j) = (k = j) := by simp
@[go_sem] theorem base_zero (k : Nat) : (0 + k = k) = True := by simp

end Go.Am
