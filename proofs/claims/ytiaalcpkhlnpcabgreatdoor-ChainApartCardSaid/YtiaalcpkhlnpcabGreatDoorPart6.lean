/- A part of the proof; no conditions. -/
import Derived.Test.YtiaalcpkhlnpcabGreatDoorPart5
import Derived.Deep.Quiet
import Derived.Orders
set_option linter.unusedSimpArgs false
set_option linter.unusedVariables false
namespace Go.Am

/-- A result, as data: the call's own objects, from the number B on, are given up. -/
inductive FrzA (B : Nat) (s : St) : AV → AV → Prop where
  | one {c : C} {x : D} (h : FrzP (B ≤ ·) s c x) : FrzA B s (.one c) (.one (.d x))
  | agg {cs : List C} {xs : List D} (hl : xs.length = cs.length) (h : ∀ (i : Nat) (c : C), cs[i]? = some c → ∃ x, xs[i]? = some x ∧ FrzP (B ≤ ·) s c x) : FrzA B s (.agg cs) (.agg (xs.map .d))

def FrzAs (B : Nat) (s : St) : List AV → List AV → Prop
  | [], rs => rs = []
  | t :: ts, rs => ∃ r rs', rs = r :: rs' ∧ FrzA B s t r ∧ FrzAs B s ts rs'

/-- At the end of a call that was lent objects. -/
def RetL (B : Nat) (g : Nat → Nat) (ob : Obs) (res : List Nat) (R : AV → Prop) : Exit → St → Prop
  | .normal, s | .ret, s => (∀ i, i < B → s.gen i = g i) ∧ (∀ i, i < B → s.obj i = ob i) ∧
    match res with
    | [t] => ∃ r, FrzA B s (s.f t) r ∧ R r
    | ts => ∃ rs, FrzAs B s (ts.map s.f) rs ∧ R (.tup rs)
  | _, _ => False

section
variable {P : Program} {T : Nat → TI} {b₀ : Bs} {β : Loc} {w : World}

theorem FrzA.rep {B N : Nat} {s : St} {a : Act} {ob' : Obs} (hob' : ∀ id, (ob' id).isSome = true → (s.obj id).isSome = true ∧ ¬ B ≤ id) (hr : Rel b₀ N s β a w) {x r : AV} (h : FrzA B s x r) {v : Value} (hv : RepV b₀ β s.gen s.obj w x v) {g' : Nat → Nat} {β' : Loc} (hβ : ∀ id, (ob' id).isSome = true → β' id = β id) : RepV b₀ β' g' ob' w r v := by
  have himm : ∀ b, Imm b₀ β ob' w b → Imm b₀ β' ob' w b ∧ w.heap[b]? = w.heap[b]? := fun b hb => ⟨⟨hb.1, hb.2.1, fun id a ho he => hb.2.2 id a ho (by rw [← hβ id ho]; exact he)⟩, rfl⟩
  cases h with
  | one h =>
    simp only [RepV] at hv ⊢
    simp only [RepC]
    exact (FrzP.rep hob' hr h hv).mono himm
  | agg hl h =>
    rename_i cs xs
    simp only [RepV] at hv ⊢
    obtain ⟨vs, h1, h2, h3⟩ := hv
    refine ⟨vs, h1, by rw [h2, List.length_map, hl], fun i c hc => ?_⟩
    rw [List.getElem?_map] at hc
    cases hq : xs[i]? with
    | none => rw [hq] at hc; cases hc
    | some y =>
      rw [hq] at hc
      simp only [Option.map_some, Option.some.injEq] at hc
      subst hc
      have hlt : i < cs.length := by rw [← hl]; exact (List.getElem?_eq_some_iff.1 hq).1
      obtain ⟨u, hu, hru⟩ := h3 i _ (List.getElem?_eq_getElem hlt)
      obtain ⟨y', hy', hf⟩ := h i _ (List.getElem?_eq_getElem hlt)
      have : y' = y := by simpa [hy'] using hq
      subst this
      refine ⟨u, hu, ?_⟩
      simp only [RepC]
      exact (FrzP.rep hob' hr hf hru).mono himm

theorem FrzAs.rep {B N : Nat} {s : St} {a : Act} {ob' : Obs} (hob' : ∀ id, (ob' id).isSome = true → (s.obj id).isSome = true ∧ ¬ B ≤ id) (hr : Rel b₀ N s β a w) {g' : Nat → Nat} {β' : Loc} (hβ : ∀ id, (ob' id).isSome = true → β' id = β id) :
    ∀ (ts : List Nat) {rs : List AV}, FrzAs B s (ts.map s.f) rs → RepVs b₀ β' g' ob' w rs (ts.map fun t => a.tmps.getD t undef)
  | [], rs, h => by simp only [List.map_nil, FrzAs] at h; subst h; simp only [List.map_nil, RepVs]
  | t :: ts, rs, h => by
    simp only [List.map_cons, FrzAs] at h
    obtain ⟨r, rs', rfl, h1, h2⟩ := h
    simp only [List.map_cons, RepVs]
    exact ⟨_, _, rfl, h1.rep hob' hr (hr.f t) hβ, FrzAs.rep hob' hr hβ ts h2⟩

/-- What is told of a cell at the end, and was told at the beginning, holds with the beginning's numbers. -/
theorem RepC.back {β' : Loc} {g g' : Nat → Nat} {ob ob' : Obs} {w w' : World} (hl : ∀ id, (ob id).isSome = true → g' id = g id ∧ β' id = β id ∧ (ob' id).isSome = true) (himm : ∀ b, Imm b₀ β' ob' w' b → Imm b₀ β ob w' b)
    {c : C} {v v0 : Value} (h : RepC b₀ β' g' ob' w' c v) (h0 : RepC b₀ β g ob w c v0) : RepC b₀ β g ob w' c v := by
  cases c with
  | d x => exact RepD.mono h fun b hb => ⟨himm b hb, rfl⟩
  | osl id g1 sz off len =>
    refine ⟨h.1, h0.2.1, fun hg ho => ?_⟩
    obtain ⟨l1, l2, l3⟩ := hl id ho
    rw [← l2]; exact h.2.2 (by rw [l1]; exact hg) l3
  | ptr id g1 off =>
    refine ⟨h.1, h0.2.1, fun hg ho => ?_⟩
    obtain ⟨l1, l2, l3⟩ := hl id ho
    rw [← l2]; exact h.2.2 (by rw [l1]; exact hg) l3
  | mp id g1 kd =>
    refine ⟨h.1, h0.2.1, fun hg ho => ?_⟩
    obtain ⟨l1, l2, l3⟩ := hl id ho
    rw [← l2]; exact h.2.2 (by rw [l1]; exact hg) l3
  | lsl n => exact h
  | raw o => exact h.elim
  | clo f caps =>
    obtain ⟨vs, h1, h2, h3⟩ := h
    obtain ⟨vs0, _, _, h03⟩ := h0
    refine ⟨vs, h1, h2, fun i pc hp => ?_⟩
    obtain ⟨u, hu, hr⟩ := h3 i pc hp
    obtain ⟨u0, _, hr0⟩ := h03 i pc hp
    refine ⟨u, hu, ?_⟩
    cases pc with
    | d x => exact RepD.mono hr fun b hb => ⟨himm b hb, rfl⟩
    | ptr id g1 off =>
      refine ⟨hr.1, hr0.2.1, fun hg ho => ?_⟩
      obtain ⟨l1, l2, l3⟩ := hl id ho
      rw [← l2]; exact hr.2.2 (by rw [l1]; exact hg) l3

theorem MapRep.back {R R0 R' : C → Value → Prop} {kd : TypeDesc} {cs : List C} {es es0 : List MapEntry} (h : MapRep R kd cs es) (h0 : MapRep R0 kd cs es0) (hr : ∀ c v v0, R c v → R0 c v0 → R' c v) : MapRep R' kd cs es := by
  induction h generalizing es0 with
  | nil => exact .nil
  | cons hk h1 h2 _ ih =>
    cases h0 with
    | cons _ _ h02 h0' => exact .cons hk h1 (hr _ _ _ h2 h02) (ih h0')

/-- A function that is lent objects, and changes none. -/
theorem lent_of_wp (B : Nat) (hT : TabOk P T) (hm : P.follows .mixedOrders = true) {f : FuncId} {fn : Func} {c : Code} (hf : P.funcs[f]? = some fn) (hb : fn.body = some c) (hn : (fn.name == "runtime.NumGoroutine") = false)
    (res : List Nat) (hres : fn.results = (res.map ResultVar.tmp).toArray) (hok : codeOk fn.ntmps c = true) {xs : List AV} (hargs : xs.length ≤ fn.ntmps) {g : Nat → Nat} {ob : Obs} {R : AV → Prop} (hB : ∀ i, B ≤ i → ob i = none)
    (h : wpC (spB P B) T c (bx (RetL B g ob res R)) ⟨initF xs, g, ob⟩) : FunR P f xs g ob (fun r g' ob' => R r ∧ g' = g ∧ ob' = ob) := by
  refine ⟨⟨fn, hf, by rw [hb]; rfl, hn⟩, fun b₀ N β a fa w vs hr0 hv => ?_⟩
  refine calls_of_wp hf hb ?_
  have hl := hv.len
  have hr : Rel b₀ fn.ntmps ⟨initF xs, g, ob⟩ β { tmps := vs.toArray ++ Array.replicate (fn.ntmps - vs.toArray.size) undef, defers := [] } w := by
    refine ⟨rfl, by simp; omega, fun i => ?_, hr0.obj, hr0.inj, hr0.base⟩
    simp only [initF]
    cases hx : xs[i]? with
    | some x =>
      obtain ⟨v, h1, h2⟩ := hv.get hx
      have hlt : i < vs.length := (List.getElem?_eq_some_iff.1 h1).1
      have : (vs.toArray ++ Array.replicate (fn.ntmps - vs.toArray.size) undef).getD i undef = v := by
        rw [Array.getD_eq_getD_getElem?, Array.getElem?_append_left (by simpa using hlt)]
        simp [h1]
      rw [this]
      simpa only [Option.getD_some] using h2
    | none =>
      have hge : xs.length ≤ i := by simpa using hx
      have : (vs.toArray ++ Array.replicate (fn.ntmps - vs.toArray.size) undef).getD i undef = undef := by
        rw [Array.getD_eq_getD_getElem?, Array.getElem?_append_right (by simp; omega)]
        simp [Array.getElem?_replicate]
        split <;> rfl
      rw [this]
      exact undefRep
  refine wp_mono (wpC_sound (B := B) hT hm c hok hr h) (fun e a' w' hp => ?_)
  obtain ⟨s', β', hQ, hr', ht⟩ := hp
  have hres' : RetL B g ob res R .ret s' → ∃ v, (results fn a'.tmps).run P w' = .ok v w' ∧ ∃ v' r g' ob' β', Ending.returned v = .returned v' ∧ (R r ∧ g' = g ∧ ob' = ob) ∧ RepV b₀ β' g' ob' w' r v' ∧
      (∀ id cells, ob' id = some cells → ObjAt b₀ β' g' ob' w' (g' id) cells (β' id)) ∧ (∀ id id' a a', (ob' id).isSome = true → (ob' id').isSome = true → β' id = some a → β' id' = some a' → a.block = a'.block → id = id') ∧
      Tr b₀ β ⟨fa, g, ob⟩ w β' ⟨fa, g', ob'⟩ w' := by
    rintro ⟨hg, hob, hfz⟩
    have hlt : ∀ id, (ob id).isSome = true → id < B := fun id ho => Classical.byContradiction fun hc => by
      rw [hB id (by omega)] at ho; cases ho
    have hlive : ∀ id, (ob id).isSome = true → s'.gen id = g id ∧ β' id = β id ∧ (s'.obj id).isSome = true := fun id ho => by
      have h1 := hg id (hlt id ho)
      have h2 : (s'.obj id).isSome = true := by rw [hob id (hlt id ho)]; exact ho
      exact ⟨h1, (ht.keep.live id h1 h2).2.1, h2⟩
    have hob' : ∀ id, (ob id).isSome = true → (s'.obj id).isSome = true ∧ ¬ B ≤ id := fun id ho => ⟨(hlive id ho).2.2, by have := hlt id ho; omega⟩
    have himm : ∀ b, Imm b₀ β' s'.obj w' b → Imm b₀ β ob w' b := fun b hb => ⟨hb.1, hb.2.1, fun id a ho he => hb.2.2 id a (hlive id ho).2.2 (by rw [(hlive id ho).2.1]; exact he)⟩
    have hobj : ∀ id cells, ob id = some cells → ObjAt b₀ β g ob w' (g id) cells (β id) := fun id cells hc => by
      have ho : (ob id).isSome = true := by rw [hc]; rfl
      have h1 := hr'.obj id cells (by rw [hob id (hlt id ho)]; exact hc)
      rw [(hlive id ho).2.1, (hlive id ho).1] at h1
      have h0 := hr.obj id cells hc
      cases hβ : β id with
      | none => rw [hβ] at h1; exact h1
      | some ad =>
        rw [hβ] at h1 h0
        cases hs : ad.spot with
        | none =>
          obtain ⟨p1, arr, el, lo, hi, p2, p3, p4, p5⟩ := h1.cells hs
          obtain ⟨_, arr0, el0, lo0, hi0, _, _, _, q5⟩ := h0.cells hs
          refine .ofCells hs ⟨p1, arr, el, lo, hi, p2, p3, p4, fun j c hj => ?_⟩
          obtain ⟨v, hv, hrv⟩ := p5 j c hj
          obtain ⟨v0, _, hrv0⟩ := q5 j c hj
          exact ⟨v, hv, RepC.back hlive himm hrv hrv0⟩
        | some kd =>
          obtain ⟨p1, ⟨es, clock, p2, p3⟩ | hraw⟩ := h1.map hs
          · obtain ⟨_, ⟨es0, clock0, _, q3⟩ | ⟨_, o, q3, _⟩⟩ := h0.map hs
            · exact .ofMap hs ⟨p1, .inl ⟨es, clock, p2, p3.back q3 fun c v v0 h h0 => by
              unfold RepM at h h0 ⊢
              split
              · rename_i hk
                rw [if_pos hk] at h h0
                exact RepC.back hlive himm h h0
              · rename_i hk
                rw [if_neg hk] at h
                obtain ⟨ds, vs, q1, q2, q3, q4⟩ := h
                exact ⟨ds, vs, q1, q2, q3, fun i x hx => let ⟨u, hu, hr⟩ := q4 i x hx; ⟨u, hu, RepD.mono hr fun b hb => ⟨himm b hb, rfl⟩⟩⟩⟩⟩
            · subst q3
              generalize es.toList = el at p3
              cases p3
          · exact .ofMap hs ⟨p1, .inr hraw⟩
    have hkeep : Keep b₀ β g ob w β g ob w' := by
      refine ⟨fun b hb => ⟨himm b (ht.imm b hb).1, (ht.imm b hb).2⟩, fun _ => Nat.le_refl _, fun id _ ho => ⟨ho, rfl, fun a' ha' arr el fr hh => ?_⟩⟩
      exact (ht.keep.live id (hlive id ho).1 (hlive id ho).2.2).2.2 a' ha' arr el fr hh
    refine ⟨_, run_results res hres a'.tmps, ?_⟩
    have hfin : ∀ r, RepV b₀ β g ob w' r (resVal a'.tmps res) → R r → ∃ v' r g' ob' β', Ending.returned (resVal a'.tmps res) = .returned v' ∧ (R r ∧ g' = g ∧ ob' = ob) ∧ RepV b₀ β' g' ob' w' r v' ∧
      (∀ id cells, ob' id = some cells → ObjAt b₀ β' g' ob' w' (g' id) cells (β' id)) ∧ (∀ id id' a a', (ob' id).isSome = true → (ob' id').isSome = true → β' id = some a → β' id' = some a' → a.block = a'.block → id = id') ∧
      Tr b₀ β ⟨fa, g, ob⟩ w β' ⟨fa, g', ob'⟩ w' := fun r h1 h2 => ⟨_, r, g, ob, β, rfl, ⟨h2, rfl, rfl⟩, h1, hobj, hr.inj, ⟨ht.size, ht.old, hkeep, ht.os⟩⟩
    have hββ : ∀ id, (ob id).isSome = true → β id = β' id := fun id ho => (hlive id ho).2.1.symm
    match res, hfz with
    | [t], ⟨r, h1, h2⟩ => exact hfin r (h1.rep hob' hr' (hr'.f t) hββ) h2
    | [], ⟨rs, h1, h2⟩ => exact hfin _ (by simp only [RepV]; exact ⟨_, rfl, FrzAs.rep hob' hr' hββ [] h1⟩) h2
    | t :: t' :: ts, ⟨rs, h1, h2⟩ => exact hfin _ (by simp only [RepV]; exact ⟨_, rfl, FrzAs.rep hob' hr' hββ (t :: t' :: ts) h1⟩) h2
  cases e with
  | normal => exact ⟨hr'.defers, hres' hQ⟩
  | ret => exact ⟨hr'.defers, hres' hQ⟩
  | exit id => exact hQ.elim
  | goto l => exact hQ.elim
  | panic ch => exact hQ.elim
  | outgrown => exact hQ.elim

theorem put_same (s : St) (d : Option Nat) (r : AV) : St.put ⟨s.f, s.gen, s.obj⟩ d r = s.put d r := rfl

/-- A call that is lent objects, as the walk meets it. -/
theorem hook_lent {o : Oper} {s : St} {K : St → Prop} {k : Box K} {B : Nat} {f : FuncId} {args : Array Operand} {tys : Array TypeId} (ho : o.op = .call ⟨.value (.func f), args, tys⟩) {R : AV → Prop}
    (hp : FunR P f (args.toList.map s.ev) s.gen s.obj (fun r g' ob' => R r ∧ g' = s.gen ∧ ob' = s.obj)) (hk : ∀ r, R r → K (s.put o.dst r)) : hookA (spB P B) o s k :=
  hook_fun ho hp fun r g' ob' ⟨h1, h2, h3⟩ => by rw [h2, h3]; exact hk r h1

theorem hook_cloLent {o : Oper} {s : St} {K : St → Prop} {k : Box K} {B : Nat} {t : Nat} {args : Array Operand} {tys : Array TypeId} (ho : o.op = .call ⟨.value (.tmp t), args, tys⟩) {f : FuncId} {caps : List PC} (hf : s.f t = .one (.clo f caps))
    {R : AV → Prop} (hp : FunR P f (args.toList.map s.ev ++ caps.map pcAV) s.gen s.obj (fun r g' ob' => R r ∧ g' = s.gen ∧ ob' = s.obj)) (hk : ∀ r, R r → K (s.put o.dst r)) (hf1 : f < 1000000 := by decide) : hookA (spB P B) o s k :=
  hook_clo ho hf hp (fun r g' ob' ⟨h1, h2, h3⟩ => by rw [h2, h3]; exact hk r h1) hf1

/-- An operation that is met in a state told anew. -/
theorem hook_vs {o : Oper} {s : St} (s₁ : St) {K : St → Prop} {k : Box K} {B : Nat} (hv : SemVs s s₁) (h : hookA (spB P B) o s₁ k) : hookA (spB P B) o s k := by
  obtain ⟨R, hR, hK⟩ := h
  refine ⟨R, fun b₀ N β a w hr hdst next Q hn => ?_, hK⟩
  obtain ⟨β1, r1, t1⟩ := hv b₀ N β a w hr
  exact hR b₀ N β1 a w r1 hdst next Q (fun s' β' a' w' h1 h2 h3 => hn s' β' a' w' h1 h2 (t1.trans h3))

/-- Code that is met in a state told anew. -/
theorem hook_pure {o : Oper} {s : St} {K : St → Prop} {k : Box K} {B : Nat} {f : FuncId} {args : Array Operand} {tys : Array TypeId} (ho : o.op = .call ⟨.value (.func f), args, tys⟩) {R : AV → Prop}
    (hp : PureR P f (args.toList.map s.ev) R) (hd : (args.toList.map s.ev).all dataAV = true) (hk : ∀ r, R r → K (s.put o.dst r)) : hookA (spB P B) o s k :=
  ⟨_, call_pure ho hp hd, fun _ ⟨r, hr, e⟩ => e ▸ hk r hr⟩

theorem loop_introB {B0 : Nat} {B : (Exit → St → Prop) → St → Prop} {b : Box B} {Q : Exit → St → Prop} {q : Box Q} {s : St} (I : Nat → St → Prop) (n : Nat) (h0 : I n s)
    (hr : ∀ n f g ob, I n ⟨f, g, ob⟩ → B (thenA (bx fun s' => ∃ n' s₁, n' < n ∧ (spB P B0).vs s' s₁ ∧ I n' s₁) q) ⟨f, g, ob⟩) : LoopA (spB P B0) b q s :=
  ⟨I, ⟨n, s, SemVs.refl s, h0⟩, fun n s hs => hr n s.f s.gen s.obj hs⟩

theorem loop_vsB {B0 : Nat} {B : (Exit → St → Prop) → St → Prop} {b : Box B} {Q : Exit → St → Prop} {q : Box Q} {s : St} (s₁ : St) (hv : SemVs s s₁) (I : Nat → St → Prop) (n : Nat) (h0 : I n s₁)
    (hr : ∀ n f g ob, I n ⟨f, g, ob⟩ → B (thenA (bx fun s' => ∃ n' s₁, n' < n ∧ (spB P B0).vs s' s₁ ∧ I n' s₁) q) ⟨f, g, ob⟩) : LoopA (spB P B0) b q s :=
  ⟨I, ⟨n, s₁, hv, h0⟩, fun n s hs => hr n s.f s.gen s.obj hs⟩

theorem round_endB {B0 : Nat} {I : Nat → St → Prop} {n : Nat} {s : St} (n' : Nat) (h : n' < n) (hI : I n' s) : ∃ n' s₁, n' < n ∧ (spB P B0).vs s s₁ ∧ I n' s₁ := ⟨n', s, h, SemVs.refl s, hI⟩
theorem draw_introB {B0 : Nat} {id : Nat} {ops : Array Oper} {s : St} {Q : Exit → St → Prop} {q : Box Q} (hok : drawOk T ops = true) (h : wpO (spB P B0) T ops ops.toList s (bx fun s' => Q .normal s')) : DrawA (spB P B0) T id ops s q := .inl ⟨hok, h⟩

end

/-! Results. -/
@[go_sem] theorem RetL_one {B : Nat} {g : Nat → Nat} {ob : Obs} {t : Nat} {R : AV → Prop} {s : St} : RetL B g ob [t] R .ret s = ((∀ i, i < B → s.gen i = g i) ∧ (∀ i, i < B → s.obj i = ob i) ∧ ∃ r, FrzA B s (s.f t) r ∧ R r) := Eq.trans rfl rfl
@[go_sem] theorem RetL_two {B : Nat} {g : Nat → Nat} {ob : Obs} {t u : Nat} {R : AV → Prop} {s : St} : RetL B g ob [t, u] R .ret s = ((∀ i, i < B → s.gen i = g i) ∧ (∀ i, i < B → s.obj i = ob i) ∧ ∃ rs, FrzAs B s [s.f t, s.f u] rs ∧ R (.tup rs)) := Eq.trans rfl rfl
@[go_sem] theorem RetL_three {B : Nat} {g : Nat → Nat} {ob : Obs} {t u v : Nat} {R : AV → Prop} {s : St} : RetL B g ob [t, u, v] R .ret s = ((∀ i, i < B → s.gen i = g i) ∧ (∀ i, i < B → s.obj i = ob i) ∧ ∃ rs, FrzAs B s [s.f t, s.f u, s.f v] rs ∧ R (.tup rs)) := Eq.trans rfl rfl
@[go_sem] theorem RetL_norm {B : Nat} {g : Nat → Nat} {ob : Obs} {ts : List Nat} {R : AV → Prop} {s : St} : RetL B g ob ts R .normal s = RetL B g ob ts R .ret s := Eq.trans rfl rfl
theorem frzA_dx {B : Nat} {s : St} {x : D} {R : AV → Prop} (hx : x ≠ .nsl) : (∃ r, FrzA B s (.one (.d x)) r ∧ R r) = R (.one (.d x)) := by
  apply propext
  constructor
  · rintro ⟨r, hr, hR⟩
    cases hr with
    | one h =>
      cases h with
      | d => exact hR
      | nil => exact absurd rfl hx
  · intro h; exact ⟨_, .one (.d x), h⟩
@[go_sem] theorem frzAs_nil {B : Nat} {s : St} {R : List AV → Prop} : (∃ rs, FrzAs B s [] rs ∧ R rs) = R [] := by simp [FrzAs]
@[go_sem] theorem frzAs_cons {B : Nat} {s : St} {t : AV} {ts : List AV} {R : List AV → Prop} : (∃ rs, FrzAs B s (t :: ts) rs ∧ R rs) = ∃ r, FrzA B s t r ∧ ∃ rs, FrzAs B s ts rs ∧ R (r :: rs) := by
  apply propext
  simp only [FrzAs]
  constructor
  · rintro ⟨_, ⟨r, rs', rfl, h1, h2⟩, hR⟩; exact ⟨r, h1, rs', h2, hR⟩
  · rintro ⟨r, h1, rs', h2, hR⟩; exact ⟨_, ⟨r, rs', rfl, h1, h2⟩, hR⟩
@[go_sem] theorem frzA_int {B : Nat} {s : St} {k : IntKind} {n : Int} {R : AV → Prop} : (∃ r, FrzA B s (.one (.d (.int k n))) r ∧ R r) = R (.one (.d (.int k n))) := frzA_dx (by simp)
@[go_sem] theorem frzA_bool {B : Nat} {s : St} {b : Bool} {R : AV → Prop} : (∃ r, FrzA B s (.one (.d (.bool b))) r ∧ R r) = R (.one (.d (.bool b))) := frzA_dx (by simp)
@[go_sem] theorem frzA_str {B : Nat} {s : St} {b : List UInt8} {R : AV → Prop} : (∃ r, FrzA B s (.one (.d (.str b))) r ∧ R r) = R (.one (.d (.str b))) := frzA_dx (by simp)
@[go_sem] theorem frzA_sl {B : Nat} {s : St} {es : List (List D)} {R : AV → Prop} : (∃ r, FrzA B s (.one (.d (.sl es))) r ∧ R r) = R (.one (.d (.sl es))) := frzA_dx (by simp)
theorem frzA_nsl {B : Nat} {s : St} {R : AV → Prop} (h : R (.one (.d (.sl [])))) : ∃ r, FrzA B s (.one (.d .nsl)) r ∧ R r := ⟨_, .one .nil, h⟩
theorem frzA_osl {B : Nat} {s : St} {id g sz off len : Nat} {x : D} {R : AV → Prop} (h : FrzP (B ≤ ·) s (.osl id g sz off len) x) (hR : R (.one (.d x))) : ∃ r, FrzA B s (.one (.osl id g sz off len)) r ∧ R r := ⟨_, .one h, hR⟩

theorem nc0 : ((0 : Nat) : Int) = 0 := rfl
theorem nc1 : ((1 : Nat) : Int) = 1 := rfl
attribute [go_sem] nc0 nc1 Nat.add_zero Nat.sub_zero Int.cast_ofNat_Int

/-! Maps. -/
theorem keyEq_eq {a b : D} (h : keyEq a b = true) : a = b := by
  cases a <;> cases b <;> simp_all [keyEq]

theorem mget_mset (k : D) (x : C) (k' : D) : ∀ cells : List C, mget (mset cells k x) k' = if keyEq k k' = true then some x else mget cells k'
  | .d k1 :: c :: r => by
    simp only [mset]
    split
    · rename_i h1
      rw [keyEq_eq h1]
      simp only [mget]
      split <;> rfl
    · rename_i h1
      simp only [mget]
      rw [mget_mset k x k' r]
      by_cases h2 : keyEq k k' = true
      · rw [if_pos h2]
        split
        · rename_i h3
          exfalso
          have e1 := keyEq_eq h3
          have e2 := keyEq_eq h2
          subst e1; subst e2; exact h1 h3
        · rfl
      · rw [if_neg h2, if_neg h2]
  | [] => by simp [mset, mget]
  | [.d k1] => by simp [mset, mget]
  | .osl .. :: _ => by simp [mset, mget]
  | .ptr .. :: _ => by simp [mset, mget]
  | .clo .. :: _ => by simp [mset, mget]
  | .mp .. :: _ => by simp [mset, mget]
  | .lsl .. :: _ => by simp [mset, mget]
  | .raw _ :: _ => by simp [mset, mget]

/-! Numbers of new objects, from B on, against numbers below. -/
theorem ne_lo {B i : Nat} (h : i < B) (k : Nat) : (i = B + k) = False := by simp; omega
theorem ne_hi {B i : Nat} (h : i < B) (k : Nat) : (B + k = i) = False := by simp; omega
@[go_sem] theorem hi_hi (B k j : Nat) : (B + k = B + j) = (k = j) := by simp
@[go_sem] theorem base_zero (k : Nat) : (0 + k = k) = True := by simp

end Go.Am

namespace Go.Am

def scD : D → Value
  | .fn f => .func (.func f) #[] #[]
  | .yld l => .func (.yield l) #[] #[]
  | x => dV x

def scC : C → Value
  | .d x => scD x
  | _ => undef

/-- The value of data without memory. -/
def scVal : AV → Value
  | .one c => scC c
  | .agg cs => .agg (cs.map scC).toArray
  | .tup ts => .tuple (ts.map fun t => match t with | .one c => scC c | _ => undef).toArray
  | .junk => undef
  | .exact v => v

section
variable {P : Program} {T : Nat → TI} {b₀ : Bs} {β : Loc} {w : World}

theorem RepD.scalar {J : Nat → Prop} {x : D} {v : Value} (hs : scalarD x = true) (h : RepD J w x v) : v = scD x := by
  cases h <;> first | rfl | (simp [scalarD] at hs; done)

theorem scD_rep {J : Nat → Prop} {x : D} (hs : scalarD x = true) : RepD J w x (scD x) := by
  cases x <;> first | (simp [scalarD] at hs; done) | constructor

theorem RVc.scalar {J : Nat → Prop} {c : C} {v : Value} (hs : scalarC c = true) (h : RVc J w c v) : v = scC c := by
  obtain ⟨x, rfl, hx⟩ := h
  exact hx.scalar hs

theorem scC_rep {J : Nat → Prop} {c : C} (hs : scalarC c = true) : RVc J w c (scC c) := by
  cases c <;> simp [scalarC] at hs
  exact ⟨_, rfl, scD_rep hs⟩

theorem RVs.scalar {J : Nat → Prop} : ∀ {ts : List AV} {vs : List Value}, (ts.all fun t => match t with | .one c => scalarC c | _ => false) = true → RVs J w ts vs → vs = ts.map fun t => match t with | .one c => scC c | _ => undef
  | [], _, _, h => by simp only [RVs] at h; rw [h]; rfl
  | t :: ts, vs, hs, h => by
    simp only [List.all_cons, Bool.and_eq_true] at hs
    simp only [RVs] at h
    obtain ⟨u, us, rfl, h1, h2⟩ := h
    rw [RVs.scalar hs.2 h2]
    cases t with
    | one c => simp only [RV] at h1; simp only [List.map_cons, h1.scalar hs.1]
    | _ => simp at hs

theorem RV.scalar {J : Nat → Prop} {x : AV} {v : Value} (hs : scalarAV x = true) (h : RV J w x v) : v = scVal x := by
  cases x with
  | one c => simp only [RV] at h; exact h.scalar hs
  | agg cs =>
    simp only [RV] at h
    obtain ⟨vs, rfl, h2, h3⟩ := h
    simp only [scalarAV, List.all_eq_true] at hs
    simp only [scVal]
    congr 1
    apply Array.ext
    · simp [h2]
    · intro i h1 h4
      have hi : i < cs.length := by simpa using h4
      obtain ⟨u, hu, hr⟩ := h3 i cs[i] (List.getElem?_eq_getElem hi)
      have e := (Array.getElem?_eq_some_iff.1 hu).2
      rw [e, hr.scalar (hs _ (List.getElem_mem hi))]
      simp
  | tup ts =>
    simp only [RV] at h
    obtain ⟨vs, rfl, h2⟩ := h
    rw [RVs.scalar hs h2]; rfl
  | junk => simp [scalarAV] at hs
  | exact => simp [scalarAV] at hs

theorem scVals_rep {J : Nat → Prop} : ∀ {ts : List AV}, (ts.all fun t => match t with | .one c => scalarC c | _ => false) = true → RVs J w ts (ts.map fun t => match t with | .one c => scC c | _ => undef)
  | [], _ => by simp only [List.map_nil, RVs]
  | t :: ts, hs => by
    simp only [List.all_cons, Bool.and_eq_true] at hs
    simp only [List.map_cons, RVs]
    refine ⟨_, _, rfl, ?_, scVals_rep hs.2⟩
    cases t with
    | one c => simp only [RV]; exact scC_rep hs.1
    | _ => simp at hs

theorem scVal_rep {J : Nat → Prop} {x : AV} (hs : scalarAV x = true) : RV J w x (scVal x) := by
  cases x with
  | one c => simp only [RV, scVal]; exact scC_rep hs
  | agg cs =>
    simp only [RV, scVal]
    refine ⟨_, rfl, by simp, fun i c hc => ?_⟩
    simp only [scalarAV, List.all_eq_true] at hs
    exact ⟨scC c, by simp [hc], scC_rep (hs c (List.mem_of_getElem? hc))⟩
  | tup ts =>
    simp only [RV, scVal]
    exact ⟨_, rfl, scVals_rep hs⟩
  | junk => simp [scalarAV] at hs
  | exact => simp [scalarAV] at hs

/-- A call that hands back data without memory, of which its contract leaves nothing open. -/
def SemQ (P : Program) (o : Oper) (s : St) (R : St → Prop) : Prop := ∃ (f : FuncId) (args : Array Operand) (tys : Array TypeId) (xs : List AV) (r : AV),
  o.op = .call ⟨.value (.func f), args, tys⟩ ∧ FrzVs s (args.toList.map s.ev) xs ∧ PureR P f xs (· = r) ∧ scalarAV r = true ∧ R (s.put o.dst r)

def spQ (P : Program) (B : Nat) : Sp := ⟨SemQ P, fun _ _ _ => False, fun _ _ => False, B⟩
@[go_sem] theorem spQ_base (P : Program) (B : Nat) : (spQ P B).base = B := Eq.trans rfl rfl

def quietOp (T : Nat → TI) (o : Op) : Bool := pureOp T o || match o with | .call ⟨.value _, _, _⟩ => true | _ => false

def drawOkQ (T : Nat → TI) (ops : Array Oper) : Bool := ops.toList.all (quietOp T ·.op) && Region.lexB .any ops

theorem quiet_args {N : Nat} {s : St} {a : Act} (hr : Rel b₀ N s β a w) {w' : World} (he : Ext w w') : ∀ (l : List Operand) {xs : List AV}, FrzVs s (l.map s.ev) xs → RVs (Own b₀ w') w' xs (l.map a.eval)
  | [], xs, h => by simp only [List.map_nil, FrzVs] at h; subst h; simp only [List.map_nil, RVs]
  | x :: l, xs, h => by
    simp only [List.map_cons, FrzVs] at h
    obtain ⟨r, rs, rfl, h1, h2⟩ := h
    simp only [List.map_cons, RVs]
    exact ⟨_, _, rfl, RV.mono (fun b hb => ⟨⟨by have := hb.1; have := he.1; omega, hb.2⟩, he.2 b hb.1⟩) r (h1.rep hr (hr.ev x)), quiet_args hr he l h2⟩

/-- Quiet operations, and calls, one by one, whatever order is drawn. -/
theorem wpQuiet_sound (hT : TabOk P T) {B N : Nat} {ops : Array Oper} {Q : Act → Prop} {K : St → Prop} {k : Box K} : ∀ (l : List Oper) {s : St} {a : Act}, Rel b₀ N s β a w → dstsOk N l = true → l.all (quietOp T ·.op) = true → wpO (spQ P B) T ops l s k →
    (∀ s' a', K s' → Rel b₀ N s' β a' w → s'.gen = s.gen → s'.obj = s.obj → Q a') → wpQuiet P ops (fun w' => Ext w w' ∧ w'.os = w.os ∧ w'.output = w.output) Q l a
  | [], s, a, hr, _, _, h, hQ => hQ s a h hr rfl rfl
  | o :: rest, s, a, hr, hds, hp, h, hQ => by
    obtain ⟨hd, hds'⟩ := dstsOk_cons hds
    simp only [List.all_cons, Bool.and_eq_true] at hp
    unfold wpO at h
    unfold wpQuiet
    have hop : ∀ {s0 : St}, Rel b₀ N s0 β a w → s0.gen = s.gen → s0.obj = s.obj → opA (spQ P B) T o s0 (bx fun s' => wpO (spQ P B) T ops rest s' k) → o.quiet P a (fun w' => Ext w w' ∧ w'.os = w.os ∧ w'.output = w.output) (wpQuiet P ops (fun w' => Ext w w' ∧ w'.os = w.os ∧ w'.output = w.output) Q rest) := fun {s0} hr0 hg0 ho0 h0 => by
      by_cases hpo : pureOp T o.op = true
      · obtain ⟨y, cv, h1, h2, h3⟩ := opA_pure hT hr0 hpo h0
        refine ⟨cv, fun w' hw' => ?_, wpQuiet_sound hT rest (hr0.put hd h3) hds' hp.2 h1 (fun s' a' k1 k2 k3 k4 => hQ s' a' k1 k2 (by rw [k3, St.put_gen, hg0]) (by rw [k4, St.put_obj, ho0]))⟩
        unfold Oper.quietAt
        rw [h2 w' hw'.1]
        exact ⟨rfl, rfl⟩
      · have hq := hp.1
        simp only [quietOp, Bool.or_eq_true] at hq
        have hq := hq.resolve_left hpo
        obtain ⟨dst, op, ty, ps, af, gd⟩ := o
        cases op with
        | call c =>
          obtain ⟨callee, args, tys⟩ := c
          cases callee with
          | value fo =>
            have h0 : hookA (spQ P B) ⟨dst, .call ⟨.value fo, args, tys⟩, ty, ps, af, gd⟩ s0 (bx fun s' => wpO (spQ P B) T ops rest s' k) := h0
            obtain ⟨R, ⟨f, args', tys', xs, r, ho, hx, hpr, hsc, hR⟩, hK⟩ := h0
            have hK := hK _ hR
            have hrv : RepV b₀ β s0.gen s0.obj w r (scVal r) := RV.rep r (scVal_rep hsc)
            refine ⟨scVal r, fun w' hw' => ?_, wpQuiet_sound hT rest (hr0.put hd hrv) hds' hp.2 hK (fun s' a' k1 k2 k3 k4 => hQ s' a' k1 k2 (by rw [k3, St.put_gen, hg0]) (by rw [k4, St.put_obj, ho0]))⟩
            unfold Oper.quietAt
            rw [run_call ho hpr.1 w']
            refine ⟨rfl, ?_⟩
            have := hpr.2 (Own b₀ w') w' (args'.toList.map a.eval) (fun _ h => h.1) (quiet_args hr0 hw'.1 _ hx)
            rw [show (args'.toList.map a.eval).toArray = args'.map a.eval from Array.ext' (by simp)] at this
            refine this.mono fun e w'' ⟨v, r', he, hRr, hs, hh, hos, hv⟩ => ?_
            subst hRr
            exact ⟨by rw [he, hv.scalar hsc], hw'.1.trans ⟨hs, hh⟩, hos.1.trans hw'.2.1, hos.2.trans hw'.2.2⟩
          | builtin b => simp at hq
          | invoke r m => simp at hq
        | _ => simp at hq
    cases hg : o.guard with
    | none =>
      rw [hg] at h
      simp only at h
      rw [if_pos (by simp [Region.wanted, hg])]
      exact hop hr rfl rfl h
    | some p =>
      obtain ⟨j, want⟩ := p
      rw [hg] at h
      simp only at h
      obtain ⟨d, hj, h⟩ := onSome_inv h
      unfold guardA at h
      split at h
      · rename_i b hb
        have hy := hr.yielded hj hb
        have h := BSplit_inv h
        have hr' := hr.reput hb
        by_cases hw : b = want
        · rw [if_pos hw] at h
          rw [if_pos (by simp [Region.wanted, hg, hy, hw])]
          exact hop hr' rfl rfl h
        · rw [if_neg hw] at h
          rw [if_neg (by simp [Region.wanted, hg, hy, hw])]
          have hp' := hr'.put hd (x := uv) (v := undef) undefRep
          exact wpQuiet_sound hT rest hp' hds' hp.2 h (fun s2 a2 k1 k2 k3 k4 => hQ _ _ k1 k2 (by rw [k3, St.put_gen]) (by rw [k4, St.put_obj]))
      · rename_i hb
        have hy := hr.yielded_u hj hb
        rw [if_neg (by simp [Region.wanted, hg, hy])]
        have hp' := hr.put hd (x := uv) (v := undef) undefRep
        exact wpQuiet_sound hT rest hp' hds' hp.2 h (fun s2 a2 k1 k2 k3 k4 => hQ _ _ k1 k2 (by rw [k3, St.put_gen]) (by rw [k4, St.put_obj]))
      · exact h.elim

/-- A drawn region with calls, as the walk meets it. -/
theorem draw_calls (hT : TabOk P T) (hm : P.follows .mixedOrders = true) {B id : Nat} {ops : Array Oper} {s : St} {Q : Exit → St → Prop} {q : Box Q} (hok : drawOkQ T ops = true) (h : wpO (spQ P B) T ops ops.toList s (bx fun s' => Q .normal s')) : DrawA (spB P B) T id ops s q := by
  refine .inr ⟨fun e s' => e = .normal ∧ Q .normal s', fun b₀ N β a w hc hr => ?_, fun e s' ⟨h1, h2⟩ => h1 ▸ h2⟩
  simp only [drawOkQ, Bool.and_eq_true] at hok
  have hr1 : Rel b₀ N s β a { w with drawn := w.drawn + 1 } := hr.of_heap rfl
  have ht1 : Tr b₀ β s w β s { w with drawn := w.drawn + 1 } := Tr.same rfl rfl rfl
  refine wp_region_quiet hm hok.2 (C := fun w' => Ext { w with drawn := w.drawn + 1 } w' ∧ w'.os = w.os ∧ w'.output = w.output) ⟨.refl, rfl, rfl⟩ ?_
  refine wpQuiet_sound hT ops.toList hr1 hc hok.1 h (fun s' a' k1 k2 k3 k4 w' hw' => ?_)
  obtain ⟨g1, g2⟩ := k2.grow hw'.1.1 hw'.1.2 ⟨hw'.2.1, hw'.2.2⟩
  refine ⟨s', β, ⟨rfl, k1⟩, g1, ht1.trans (Tr.trans (Tr.same k3 k4 rfl) g2)⟩

theorem frzVs_data {s : St} : ∀ {ts : List AV}, (ts.all fun t => match t with | .one (.d x) => (match x with | .nsl => false | _ => true) | _ => false) = true → FrzVs s ts ts
  | [], _ => rfl
  | t :: ts, h => by
    simp only [List.all_cons, Bool.and_eq_true] at h
    refine ⟨t, ts, rfl, ?_, frzVs_data h.2⟩
    match t, h.1 with
    | .one (.d x), h1 =>
      refine ⟨x, ?_, rfl⟩
      have := Frz.d (s := s) x
      cases x <;> first | exact this | (simp at h1; done)

/-- A call in such a region, by its contract. -/
theorem quiet_call {o : Oper} {s : St} {K : St → Prop} {k : Box K} {B : Nat} {f : FuncId} {args : Array Operand} {tys : Array TypeId} (ho : o.op = .call ⟨.value (.func f), args, tys⟩) {r : AV} {xs : List AV}
    (hp : PureR P f xs (· = r)) (hx : FrzVs s (args.toList.map s.ev) xs) (hs : scalarAV r = true) (hk : K (s.put o.dst r)) : hookA (spQ P B) o s k :=
  ⟨fun s' => s' = s.put o.dst r, ⟨f, args, tys, xs, r, ho, hx, hp, hs, rfl⟩, fun _ e => e ▸ hk⟩

/-- A slot's object is given up: the slot holds its data. -/
theorem vs_give {s : St} {t id : Nat} {c : C} {x : D} (ht : s.f t = .one c) (hf : FrzP (· = id) s c x) : SemVs s { s with f := upd s.f t (.one (.d x)), obj := upd s.obj id none } := by
  refine vs_freeze (· = id) rfl (fun i => ?_) (fun i cells' hc => ?_)
  · by_cases h : i = t
    · subst h; exact .inr ⟨c, x, ht, by simp [upd], hf⟩
    · exact .inl (by simp [upd, h])
  · simp only [upd] at hc
    by_cases h : i = id
    · rw [if_pos h] at hc; cases hc
    · rw [if_neg h] at hc
      exact ⟨h, cells', hc, rfl, fun j c1 c2 e1 e2 => .inl (by rw [e1] at e2; exact (Option.some.inj e2).symm)⟩

/-- Elements of one cell each. -/
theorem frzp_list {P : Nat → Prop} {s : St} {id g len : Nat} {cells : List C} (hp : P id) (hg : s.gen id = g) (ho : s.obj id = some cells) (ds : List D) (hl : ds.length = len) (hlc : ds.length ≤ cells.length)
    (h : ∀ (j : Nat) (d : D) (c : C), ds[j]? = some d → cells[j]? = some c → FrzP P s c d) : FrzP P s (.osl id g 1 0 len) (.sl (ds.map fun d => [d])) := by
  have hfl : (ds.map fun d => [d]).flatten = ds := by
    clear hl hlc h
    induction ds with
    | nil => rfl
    | cons a l ih => simp [ih]
  refine .osl hp hg ho (by omega) (by simpa using hl) (fun e he => by obtain ⟨a, _, rfl⟩ := List.mem_map.1 he; rfl) (fun j => (cells[0 + j]?).getD (.d .nsl)) (fun j x hx => ?_) (fun j x hx => ?_)
  · rw [hfl] at hx
    have hj := (List.getElem?_eq_some_iff.1 hx).1
    rw [Nat.zero_add, List.getElem?_eq_getElem (by omega)]; rfl
  · rw [hfl] at hx
    have hj := (List.getElem?_eq_some_iff.1 hx).1
    rw [Nat.zero_add, List.getElem?_eq_getElem (by omega)]
    exact h j x _ hx (List.getElem?_eq_getElem (by omega))

/-- Some objects are given up: a slot holds them as data. -/
theorem vs_gives (p : Nat → Bool) {s : St} {t : Nat} {c : C} {x : D} (ht : s.f t = .one c) (hf : FrzP (fun i => p i = true) s c x) : SemVs s { s with f := upd s.f t (.one (.d x)), obj := fun i => if p i then none else s.obj i } := by
  refine vs_freeze (fun i => p i = true) rfl (fun i => ?_) (fun i cells' hc => ?_)
  · by_cases h : i = t
    · subst h; exact .inr ⟨c, x, ht, by simp [upd], hf⟩
    · exact .inl (by simp [upd, h])
  · simp only at hc
    by_cases h : p i = true
    · rw [if_pos h] at hc; cases hc
    · rw [if_neg h] at hc
      exact ⟨h, cells', hc, rfl, fun j c1 c2 e1 e2 => .inl (by rw [e1] at e2; exact (Option.some.inj e2).symm)⟩

/-- The slots are told anew: only what is wanted of them stays known. -/
theorem cut_O {S : Sp} {ops : Array Oper} {l : List Oper} {f : Nat → AV} {g : Nat → Nat} {ob : Obs} {K : St → Prop} {k : Box K} (I : (Nat → AV) → Prop) (h : I f) (hk : ∀ f, I f → wpO S T ops l ⟨f, g, ob⟩ k) : wpO S T ops l ⟨f, g, ob⟩ k := hk f h
theorem cut_C {S : Sp} {c : Code} {f : Nat → AV} {g : Nat → Nat} {ob : Obs} {Q : Exit → St → Prop} {q : Box Q} (I : (Nat → AV) → Prop) (h : I f) (hk : ∀ f, I f → wpC S T c q ⟨f, g, ob⟩) : wpC S T c q ⟨f, g, ob⟩ := hk f h

end
end Go.Am

namespace Go.Am

/-- Of a result: plain data as it is, of a slice its length. -/
def lenC : C → C
  | .d (.sl es) => .lsl es.length
  | .d .nsl => .lsl 0
  | c => c

def lenOkC : C → Bool
  | .d (.sl _) | .d .nsl => true
  | c => scalarC c

def lenAV : AV → AV
  | .one c => .one (lenC c)
  | .tup ts => .tup (ts.map fun t => match t with | .one c => .one (lenC c) | x => x)
  | x => x

def lenOk : AV → Bool
  | .one c => lenOkC c
  | .tup ts => ts.all fun t => match t with | .one c => lenOkC c | _ => false
  | _ => false

@[go_sem] theorem lenAV_one (c : C) : lenAV (.one c) = .one (lenC c) := Eq.trans rfl rfl
@[go_sem] theorem lenAV_two (c d : C) : lenAV (.tup [.one c, .one d]) = .tup [.one (lenC c), .one (lenC d)] := Eq.trans rfl rfl
@[go_sem] theorem lenC_sl (es : List (List D)) : lenC (.d (.sl es)) = .lsl es.length := Eq.trans rfl rfl
@[go_sem] theorem lenC_int (k : IntKind) (n : Int) : lenC (.d (.int k n)) = .d (.int k n) := Eq.trans rfl rfl
@[go_sem] theorem lenC_bool (b : Bool) : lenC (.d (.bool b)) = .d (.bool b) := Eq.trans rfl rfl
@[go_sem] theorem lenC_str (b : List UInt8) : lenC (.d (.str b)) = .d (.str b) := Eq.trans rfl rfl

section
variable {P : Program} {T : Nat → TI} {b₀ : Bs} {β : Loc} {w : World}

theorem lenC_rep {J : Nat → Prop} {g : Nat → Nat} {ob : Obs} {c : C} {v : Value} (hs : lenOkC c = true) (h : RVc J w c v) : RepC b₀ β g ob w (lenC c) v := by
  obtain ⟨x, rfl, hx⟩ := h
  cases x with
  | sl es =>
    simp only [lenC, RepC]
    cases hx with
    | sl0 => exact ⟨_, _, rfl⟩
    | sl => exact ⟨_, _, rfl⟩
  | nsl =>
    simp only [lenC, RepC]
    cases hx; exact ⟨_, _, rfl⟩
  | iptr cs => simp [lenOkC, scalarC, scalarD] at hs
  | _ => simp only [lenC, RepC]; exact hx.of_scalar rfl

theorem lenVs_rep {J : Nat → Prop} {g : Nat → Nat} {ob : Obs} : ∀ {ts : List AV} {vs : List Value}, (ts.all fun t => match t with | .one c => lenOkC c | _ => false) = true → RVs J w ts vs → RepVs b₀ β g ob w (ts.map fun t => match t with | .one c => .one (lenC c) | x => x) vs
  | [], _, _, h => by simp only [RVs] at h; simp only [List.map_nil, RepVs]; exact h
  | t :: ts, vs, hs, h => by
    simp only [List.all_cons, Bool.and_eq_true] at hs
    simp only [RVs] at h
    obtain ⟨u, us, rfl, h1, h2⟩ := h
    simp only [List.map_cons, RepVs]
    refine ⟨_, _, rfl, ?_, lenVs_rep hs.2 h2⟩
    cases t with
    | one c => simp only [RV] at h1; simp only [RepV]; exact lenC_rep hs.1 h1
    | _ => simp at hs

theorem lenAV_rep {J : Nat → Prop} {g : Nat → Nat} {ob : Obs} {r : AV} {v : Value} (hs : lenOk r = true) (h : RV J w r v) : RepV b₀ β g ob w (lenAV r) v := by
  cases r with
  | one c => simp only [RV] at h; simp only [lenAV, RepV]; exact lenC_rep hs h
  | tup ts =>
    simp only [RV] at h
    obtain ⟨vs, h1, h2⟩ := h
    simp only [lenAV, RepV]
    exact ⟨vs, h1, lenVs_rep hs h2⟩
  | _ => simp [lenOk] at hs

/-- A call that is lent what the caller owns; of what it gives, lengths and plain data are kept. -/
theorem call_len {o : Oper} {s : St} {f : FuncId} {args : Array Operand} {tys : Array TypeId} (ho : o.op = .call ⟨.value (.func f), args, tys⟩) {R : AV → Prop} {xs : List AV}
    (hx : FrzVs s (args.toList.map s.ev) xs) (hp : PureR P f xs R) (hd : ∀ r, R r → lenOk r = true) : SemOp P o s (fun s' => ∃ r, R r ∧ s' = s.put o.dst (lenAV r)) := by
  intro b₀ N β a w hr hdst next Q hn
  unfold Oper.wp
  rw [run_call ho hp.1 w]
  simp only [Oper.upon]
  have := hp.2 (Own b₀ w) w (args.toList.map a.eval) (fun _ h => h.1) (quiet_args hr .refl _ hx)
  rw [show (args.toList.map a.eval).toArray = args.map a.eval from Array.ext' (by simp)] at this
  refine this.mono fun e w' ⟨v, r, he, hR, hs, hh, hos, hv⟩ => ?_
  subst he
  obtain ⟨g1, g2⟩ := hr.grow hs hh hos
  exact hn _ β _ w' ⟨r, hR, rfl⟩ (g1.put hdst (lenAV_rep (hd r hR) hv)) (g2.trans (Tr.same (St.put_gen _ _ _) (St.put_obj _ _ _) rfl))

theorem hook_len {o : Oper} {s : St} {K : St → Prop} {k : Box K} {B : Nat} {f : FuncId} {args : Array Operand} {tys : Array TypeId} (ho : o.op = .call ⟨.value (.func f), args, tys⟩) {R : AV → Prop} {xs : List AV}
    (hp : PureR P f xs R) (hx : FrzVs s (args.toList.map s.ev) xs) (hd : ∀ r, R r → lenOk r = true) (hk : ∀ r, R r → K (s.put o.dst (lenAV r))) : hookA (spB P B) o s k :=
  ⟨_, call_len ho hx hp hd, fun _ ⟨r, hr, e⟩ => e ▸ hk r hr⟩

/-- The state in which a slice, a cell of another object, has another number. -/
def St.rename (s : St) (id id' o j : Nat) (c : C) (cs cells : List C) : St :=
  { s with gen := upd s.gen id' (nxC (code (s.gen id)) (s.gen id')), obj := fun i => if i = o then some (cells.set j c) else if i = id' then some cs else if i = id then none else s.obj i }

theorem vs_rename {s : St} {id id' o j t sz off len sz' off' len' : Nat} {cs cells : List C} (ht : s.f t = .one (.osl o (s.gen o) sz' off' len')) (h1 : s.obj id = some cs) (h2 : s.obj id' = none) (ho : s.obj o = some cells) (n1 : o ≠ id) (n2 : o ≠ id') (n3 : id ≠ id')
    (hc : cells[j]? = some (.osl id (s.gen id) sz off len)) : SemVs s (s.rename id id' o j (.osl id' (nxC (code (s.gen id)) (s.gen id')) sz off len) cs cells) := by
  intro b₀ N β a w hr
  let β' : Loc := fun i => if i = id' then β id else β i
  have hlive : ∀ i, ((s.rename id id' o j (.osl id' (nxC (code (s.gen id)) (s.gen id')) sz off len) cs cells).obj i).isSome = true → (i = id' ∧ β' i = β id) ∨ (i ≠ id' ∧ i ≠ id ∧ (s.obj i).isSome = true ∧ β' i = β i) := fun i hi => by
    simp only [St.rename] at hi
    by_cases e1 : i = id'
    · exact .inl ⟨e1, by simp [β', e1]⟩
    · refine .inr ⟨e1, ?_⟩
      by_cases e2 : i = o
      · subst e2; exact ⟨n1, by rw [ho]; rfl, by simp [β', e1]⟩
      · by_cases e3 : i = id
        · simp [e1, e2, e3] at hi
          subst e3
          simp [e1, e2] at hi
        · simp only [e1, e2, e3, if_false] at hi
          exact ⟨e3, hi, by simp [β', e1]⟩
  have hkeep : Keep b₀ β s.gen s.obj w β' (s.rename id id' o j (.osl id' (nxC (code (s.gen id)) (s.gen id')) sz off len) cs cells).gen (s.rename id id' o j (.osl id' (nxC (code (s.gen id)) (s.gen id')) sz off len) cs cells).obj w := by
    refine ⟨fun b hb => ⟨⟨hb.1, hb.2.1, fun i a' hi hβ => ?_⟩, rfl⟩, fun i => ?_, fun i hg hi => ?_⟩
    · rcases hlive i hi with ⟨_, e⟩ | ⟨_, _, e1, e2⟩
      · exact hb.2.2 id a' (by rw [h1]; rfl) (by rw [← e]; exact hβ)
      · exact hb.2.2 i a' e1 (by rw [← e2]; exact hβ)
    · simp only [St.rename, upd]; split
      · rename_i e; subst e; exact Nat.le_of_lt (nxC_lt _ _)
      · exact Nat.le_refl _
    · rcases hlive i hi with ⟨e, _⟩ | ⟨_, _, e1, e2⟩
      · subst e; simp [St.rename, upd] at hg; exact absurd hg (nxC_ne _ _)
      · exact ⟨e1, e2, fun a' _ arr el fr h => ⟨arr, el, fr, h, Nat.le_refl _⟩⟩
  have hspot : ∀ ad, β o = some ad → ad.spot = none := by
    have hv := hr.f t
    rw [ht] at hv
    simp only [RepV] at hv
    exact (osl_live hv rfl (by rw [ho]; rfl)).spot
  refine ⟨β', ⟨hr.defers, hr.size, fun i => RepV.keep hkeep _ (hr.f i), fun i cells' hc' => ?_, fun i1 i2 a1 a2 l1 l2 b1 b2 hb => ?_, hr.base⟩, Nat.le_refl _, fun _ _ => rfl, hkeep, rfl, rfl⟩
  · simp only [St.rename] at hc'
    by_cases e1 : i = o
    · subst e1
      simp only [if_true, Option.some.injEq] at hc'
      subst hc'
      have hob := hr.obj i cells ho
      have hβ' : β' i = β i := by simp [β', n2]
      rw [hβ']
      cases hβ : β i with
      | none => rw [hβ] at hob; have : cells = [] := hob; subst this; simp at hc
      | some ad =>
        rw [hβ] at hob
        obtain ⟨g1, arr, el, lo, hi, g2, g3, g4, g5⟩ := hob.cells (hspot ad hβ)
        refine .ofCells (hspot ad hβ) ⟨g1, arr, el, lo, hi, g2, by simpa [St.rename, upd, n2] using g3, by simpa using g4, fun k c hk => ?_⟩
        by_cases hkj : k = j
        · subst hkj
          have hlt := (List.getElem?_eq_some_iff.1 hc).1
          rw [List.getElem?_set_self hlt] at hk
          cases hk
          obtain ⟨v, hv, hrv⟩ := g5 k _ hc
          refine ⟨v, hv, hrv.1, by simp [St.rename, upd], fun _ _ => ?_⟩
          have := osl_live hrv rfl (by rw [h1]; rfl)
          simpa [β'] using this
        · rw [List.getElem?_set_ne (Ne.symm hkj)] at hk
          obtain ⟨v, hv, hrv⟩ := g5 k c hk
          exact ⟨v, hv, hrv.keep hkeep⟩
    · by_cases e2 : i = id'
      · subst e2
        simp only [if_neg e1, if_true, Option.some.injEq] at hc'
        subst hc'
        have := ((hr.obj id cs h1).keep hkeep (fun _ _ => rfl)).recode (e' := nxC (code (s.gen id)) (s.gen i)) (by rw [code_nxC' _ (code_lt _)])
        simpa [β', St.rename, upd] using this
      · by_cases e3 : i = id
        · simp [e1, e2, e3] at hc'
          subst e3
          simp [e1, e2] at hc'
        · simp only [e1, e2, e3, if_false] at hc'
          have := (hr.obj i cells' hc').keep hkeep (fun _ _ => rfl)
          simpa [β', e2, St.rename, upd] using this
  · rcases hlive i1 l1 with ⟨e1, f1⟩ | ⟨e1, e1', l1', f1⟩ <;> rcases hlive i2 l2 with ⟨e2, f2⟩ | ⟨e2, e2', l2', f2⟩
    · rw [e1, e2]
    · exact absurd (hr.inj id i2 a1 a2 (by rw [h1]; rfl) l2' (by rw [← f1]; exact b1) (by rw [← f2]; exact b2) hb).symm e2'
    · exact absurd (hr.inj i1 id a1 a2 l1' (by rw [h1]; rfl) (by rw [← f1]; exact b1) (by rw [← f2]; exact b2) hb) e1'
    · exact hr.inj i1 i2 a1 a2 l1' l2' (by rw [← f1]; exact b1) (by rw [← f2]; exact b2) hb

end
end Go.Am

namespace Go.Am
section
variable {P : Program} {T : Nat → TI} {b₀ : Bs} {β : Loc} {w : World}

theorem count_set {l : Array Bool} {i : Nat} (h : l[i]? = some false) : (l.setIfInBounds i true).toList.count false + 1 = l.toList.count false := by
  obtain ⟨hi, he⟩ := Array.getElem?_eq_some_iff.1 h
  rw [Array.toList_setIfInBounds]
  have hl : l.toList[i]? = some false := by simpa using h
  generalize l.toList = m at hl
  clear h hi he
  induction m generalizing i with
  | nil => simp at hl
  | cons a m ih =>
    cases i with
    | zero => simp at hl; subst hl; simp
    | succ i =>
      simp only [List.set_cons_succ, List.count_cons]
      have := ih (i := i) (by simpa using hl)
      omega

theorem wpAny_of {hT : TabOk P T} {B N : Nat} {ops : Array Oper} {Q : Exit → Act → World → Prop} (hg : ops.toList.all (fun o => o.guard.isNone) = true) (hds : dstsOk N ops.toList = true) (I : (Nat → Bool) → St → Prop)
    (hstep : ∀ (L : Nat → Bool) (s : St) (i : Nat) (o : Oper), I L s → ops[i]? = some o → L i = false → (∀ e ∈ o.after.toList, Region.binds .any e = true → L e.on = true) →
      (∀ j o', L j = true → ops[j]? = some o' → ∀ e ∈ o'.after.toList, Region.binds .any e = true → L e.on = true) → opA (spB P B) T o s (bx fun s' => I (upd L i true) s'))
    (hend : ∀ L s β' a' w', (∀ i, i < ops.size → L i = true) → I L s → Rel b₀ N s β' a' w' → ∀ s0 β0 w0, True → (Tr b₀ β0 s0 w0 β' s w' → Tr b₀ β0 s0 w0 β' s w')) :
    ∀ (fuel : Nat) (listed : Array Bool) {s : St} {β : Loc} {a : Act} {w : World}, listed.size = ops.size → listed.toList.count false ≤ fuel → Rel b₀ N s β a w → I (fun i => listed.getD i false) s →
      (∀ j o', listed.getD j false = true → ops[j]? = some o' → ∀ e ∈ o'.after.toList, Region.binds .any e = true → listed.getD e.on false = true) →
      (∀ L s' β' a' w', (∀ i, i < ops.size → L i = true ∨ ∃ o, ops[i]? = some o) → I L s' → (Region.ready .any ops listed = [] → True) → Rel b₀ N s' β' a' w' → Tr b₀ β s w β' s' w' → (∃ listed', L = (fun i => listed'.getD i false) ∧ listed'.size = ops.size ∧ Region.ready .any ops listed' = []) → Q .normal a' w') →
      wpAny P .any ops Q fuel listed a w
  | 0, listed, s, β, a, w, hsz, hc, hr, hI, hid, hQ => by
    have hall : ∀ i, i < ops.size → listed.getD i true = true := fun i hi => by
      have hnf : false ∉ listed.toList := fun h => by
        have := List.count_pos_iff.2 h; omega
      rw [Array.getD_eq_getD_getElem?, Array.getElem?_eq_getElem (by omega)]
      simp only [Option.getD_some]
      cases hq : listed[i]'(by omega) with
      | true => rfl
      | false => exact absurd (hq ▸ Array.mem_toList_iff.2 (Array.getElem_mem (by omega))) hnf
    have hrd : Region.ready .any ops listed = [] := by
      unfold Region.ready
      rw [List.filter_eq_nil_iff]
      intro i hi
      simp [hall i (List.mem_range.1 hi)]
    exact ⟨hrd, hQ _ s β a w (fun i hi => .inr ⟨_, Array.getElem?_eq_getElem hi⟩) hI (fun _ => trivial) hr Tr.refl ⟨listed, rfl, hsz, hrd⟩⟩
  | fuel + 1, listed, s, β, a, w, hsz, hc, hr, hI, hid, hQ => by
    refine ⟨fun hrd => hQ _ s β a w (fun i hi => .inr ⟨_, Array.getElem?_eq_getElem hi⟩) hI (fun _ => trivial) hr Tr.refl ⟨listed, rfl, hsz, hrd⟩, fun i hi => ?_⟩
    unfold Region.ready at hi
    simp only [List.mem_filter, List.mem_range, Bool.and_eq_true, Bool.not_eq_true'] at hi
    obtain ⟨hi1, hi2, hi3⟩ := hi
    have ho : ops[i]? = some ops[i] := Array.getElem?_eq_getElem hi1
    rw [ho] at hi3
    simp only [Option.map_some, Option.getD_some, Array.all_eq_true', Bool.or_eq_true, Bool.not_eq_true'] at hi3
    have hli : listed[i]? = some false := by
      rw [Array.getD_eq_getD_getElem?, Array.getElem?_eq_getElem (by omega)] at hi2
      rw [Array.getElem?_eq_getElem (by omega)]
      simpa using hi2
    have hL : listed.getD i false = false := by rw [Array.getD_eq_getD_getElem?, hli]; rfl
    have hedge : ∀ e ∈ ops[i].after.toList, Region.binds .any e = true → listed.getD e.on false = true := fun e he hb => by
      rcases hi3 e (by simpa using he) with h | h
      · rw [hb] at h; cases h
      · exact h
    have hgi : (ops[i]).guard = none := by
      have := List.all_eq_true.1 hg ops[i] (Array.getElem_mem_toList hi1)
      simpa using this
    have hdi : ∀ d, (ops[i]).dst = some d → d < N := fun d hd => by
      have := List.all_eq_true.1 hds ops[i] (Array.getElem_mem_toList hi1)
      rw [hd] at this
      simpa using this
    unfold wpOp
    rw [ho]
    simp only
    rw [if_pos (by simp [Region.wanted, hgi])]
    have hset : (fun j => (listed.setIfInBounds i true).getD j false) = upd (fun j => listed.getD j false) i true := by
      funext j
      simp only [upd, Array.getD_eq_getD_getElem?, Array.getElem?_setIfInBounds]
      by_cases hj : i = j
      · subst hj; simp [hsz, hi1]
      · have : ¬ j = i := fun e => hj e.symm
        simp [hj, this]
    refine .inl (opA_sound hT hr hdi (hstep _ s i ops[i] hI ho hL hedge hid) (fun s' β' a' w' hI' hr' ht' => ?_))
    refine wpAny_of (hT := hT) hg hds I hstep hend fuel (listed.setIfInBounds i true) (by simpa using hsz) (by have := count_set hli; omega) hr' (by rw [hset]; exact hI') (fun j o' hj hoj e he hb => ?_) (fun L s2 β2 a2 w2 h1 h2 _ h4 h5 h6 => hQ L s2 β2 a2 w2 h1 h2 (fun _ => trivial) h4 (ht'.trans h5) h6)
    have e1 := congrFun hset
    simp only [upd] at e1
    rw [e1] at hj ⊢
    by_cases hej : e.on = i
    · rw [if_pos hej]
    · rw [if_neg hej]
      by_cases hji : j = i
      · subst hji
        rw [ho] at hoj
        cases hoj
        exact hedge e he hb
      · rw [if_neg hji] at hj
        exact hid j o' hj hoj e he hb

/-- Every edge leads back in the text. -/
def backB (ops : Array Oper) : Bool := (List.range ops.size).all fun i => ((ops[i]?).map fun o => o.after.toList.all fun e => !Region.binds .any e || decide (e.on < i)).getD true

theorem ready_all {ops : Array Oper} (hb : backB ops = true) {listed : Array Bool} (hsz : listed.size = ops.size) (h : Region.ready .any ops listed = []) : ∀ i, i < ops.size → listed.getD i false = true := by
  intro i
  induction i using Nat.strongRecOn with
  | ind i ih =>
    intro hi
    cases hq : listed.getD i false with
    | true => rfl
    | false =>
      exfalso
      unfold Region.ready at h
      rw [List.filter_eq_nil_iff] at h
      refine h i (List.mem_range.2 hi) ?_
      have hli : listed[i]? = some false := by
        rw [Array.getD_eq_getD_getElem?, Array.getElem?_eq_getElem (by omega)] at hq
        rw [Array.getElem?_eq_getElem (by omega)]
        simpa using hq
      rw [Array.getD_eq_getD_getElem?, hli, Array.getElem?_eq_getElem hi]
      simp only [Option.getD_some, Bool.not_false, Option.map_some, Bool.true_and, Array.all_eq_true', Bool.or_eq_true, Bool.not_eq_true']
      intro e he
      cases hbd : Region.binds .any e with
      | false => exact .inl rfl
      | true =>
        right
        have h1 := List.all_eq_true.1 hb i (List.mem_range.2 hi)
        rw [Array.getElem?_eq_getElem hi] at h1
        simp only [Option.map_some, Option.getD_some] at h1
        have h2 := List.all_eq_true.1 h1 e (by simpa using he)
        rw [hbd] at h2
        simp only [Bool.not_true, Bool.false_or, decide_eq_true_eq] at h2
        exact ih e.on h2 (by omega)

/-- A region that draws its order, by what holds whatever has come up: L tells what has. -/
theorem draw_any (hT : TabOk P T) (hm : P.follows .mixedOrders = true) {B id : Nat} {ops : Array Oper} {s : St} {Q : Exit → St → Prop} {q : Box Q} (hok : (ops.toList.all (fun o => o.guard.isNone) && backB ops) = true) (I : (Nat → Bool) → St → Prop) (h0 : I (fun _ => false) s)
    (hstep : ∀ (L : Nat → Bool) (s : St) (i : Nat) (o : Oper), I L s → ops[i]? = some o → L i = false → (∀ e ∈ o.after.toList, Region.binds .any e = true → L e.on = true) →
      (∀ j o', L j = true → ops[j]? = some o' → ∀ e ∈ o'.after.toList, Region.binds .any e = true → L e.on = true) → opA (spB P B) T o s (bx fun s' => I (upd L i true) s'))
    (hend : ∀ L s', I L s' → (∀ i, i < ops.size → L i = true) → Q .normal s') : DrawA (spB P B) T id ops s q := by
  rw [Bool.and_eq_true] at hok
  obtain ⟨hg, hbk⟩ := hok
  refine .inr ⟨fun e s' => e = .normal ∧ Q .normal s', fun b₀ N β a w hc hr => ?_, fun e s' ⟨h1, h2⟩ => h1 ▸ h2⟩
  have hr1 : Rel b₀ N s β a { w with drawn := w.drawn + 1 } := hr.of_heap rfl
  have ht1 : Tr b₀ β s w β s { w with drawn := w.drawn + 1 } := Tr.same rfl rfl rfl
  refine wp_region_any hm (wpAny_of (hT := hT) hg hc I hstep (fun _ _ _ _ _ _ _ _ _ _ _ _ h => h) ops.size (Array.replicate ops.size false) (by simp) (by simp) hr1 ?_ (fun j o' hj => ?_) (fun L s' β' a' w' _ h2 _ h4 h5 h6 => ⟨s', β', ⟨rfl, hend L s' h2 (by obtain ⟨listed, rfl, e1, e2⟩ := h6; exact ready_all hbk e1 e2)⟩, h4, ht1.trans h5⟩))
  · have : (fun i => (Array.replicate ops.size false).getD i false) = fun _ => false := by
      funext i
      rw [Array.getD_eq_getD_getElem?, Array.getElem?_replicate]
      split <;> rfl
    rw [this]; exact h0
  · rw [Array.getD_eq_getD_getElem?, Array.getElem?_replicate] at hj
    split at hj <;> simp at hj

theorem cut_D {S : Sp} {id : Nat} {ops : Array Oper} {f : Nat → AV} {g : Nat → Nat} {ob : Obs} {Q : Exit → St → Prop} {q : Box Q} (I : (Nat → AV) → (Nat → Nat) → Obs → Prop) (h : I f g ob) (hk : ∀ f g ob, I f g ob → DrawA S T id ops ⟨f, g, ob⟩ q) : DrawA S T id ops ⟨f, g, ob⟩ q := hk f g ob h

end
end Go.Am

namespace Go.Am

structure Ent where
  o : Oper
  rd : List Nat
  hd : List Nat
  ef : List Nat
  full : Bool

def zipE : List Oper → List (List Nat × List Nat × List Nat × Bool) → List Ent
  | o :: os, t :: ts => ⟨o, t.1, t.2.1, t.2.2.1, t.2.2.2⟩ :: zipE os ts
  | _, _ => []

def maskf {α : Type} : List Nat → (Nat → α) → (Nat → α) → Nat → α
  | [], _, fa => fa
  | r :: rs, f, fa => upd (maskf rs f fa) r (f r)
def maskm {α : Type} (ids : List Nat) : List Nat → (Nat → α) → (Nat → α) → Nat → α
  | [], g, _ => g
  | a :: aas, g, ga => upd (maskm ids aas g ga) (ids.getD a 0) (ga (ids.getD a 0))
def setm {α : Type} (ids : List Nat) : List Nat → List α → (Nat → α) → Nat → α
  | a :: aas, x :: xs, g => upd (setm ids aas xs g) (ids.getD a 0) x
  | _, _, g => g

def putF (f : Nat → AV) : Option Nat → AV → Nat → AV
  | some d, v => upd f d v
  | none, _ => f

def effS (ids : List Nat) (e : Ent) (v : AV) (m : List (Nat × Option (List C))) (s : St) : St :=
  ⟨putF s.f e.o.dst v, setm ids e.ef (m.map (·.1)) s.gen, setm ids e.ef (m.map (·.2)) s.obj⟩

def StepE (S : Sp) (T : Nat → TI) (ids : List Nat) (e : Ent) (s : St) (v : AV) (m : List (Nat × Option (List C))) : Prop :=
  ∀ (fa : Nat → AV) (ga : Nat → Nat) (oa : Nat → Option (List C)) (K' : St → Prop), K' (effS ids e v m ⟨maskf e.rd s.f fa, maskm ids e.hd s.gen ga, maskm ids e.hd s.obj oa⟩) → opA S T e.o ⟨maskf e.rd s.f fa, maskm ids e.hd s.gen ga, maskm ids e.hd s.obj oa⟩ (bx K')

/-- The last operation, which waits for all others. -/
def LastE (S : Sp) (T : Nat → TI) (o : Oper) (s : St) (K : St → Prop) : Prop := ∀ K' : St → Prop, (∀ s'', K s'' → K' s'') → opA S T o s (bx K')

def wpDet (S : Sp) (T : Nat → TI) (ids : List Nat) : List Ent → St → {K : St → Prop} → Box K → Prop
  | [], s, K, _ => K s
  | e :: r, s, K, k => match e.full with
    | true => LastE S T e.o s K
    | false => ∃ v m, (m.length = e.ef.length ∧ StepE S T ids e s v m) ∧ wpDet S T ids r (effS ids e v m s) k

theorem det_trace {S : Sp} {T : Nat → TI} {ids : List Nat} {K : St → Prop} {k : Box K} : ∀ (l : List Ent) (s : St), wpDet S T ids l s k → (∀ i e, l[i]? = some e → e.full = true → i + 1 = l.length) →
    ∃ t : Nat → St, t 0 = s ∧ (∀ i e, l[i]? = some e → e.full = false → ∃ v m, (m.length = e.ef.length ∧ StepE S T ids e (t i) v m) ∧ t (i + 1) = effS ids e v m (t i)) ∧ (∀ i e, l[i]? = some e → e.full = true → LastE S T e.o (t i) K) ∧
      ((∀ (i : Nat) (e : Ent), l[i]? = some e → e.full = false) → K (t l.length))
  | [], s, h, _ => ⟨fun _ => s, rfl, fun i e hi => (by simp at hi), fun i e hi => (by simp at hi), fun _ => h⟩
  | e :: r, s, h, hl => by
    unfold wpDet at h
    cases hf : e.full with
    | true =>
      rw [hf] at h
      have h0 := hl 0 e rfl hf
      have : r = [] := List.eq_nil_of_length_eq_zero (by simpa using h0)
      subst this
      refine ⟨fun _ => s, rfl, fun i e' hi hf' => ?_, fun i e' hi _ => ?_, fun ha => ?_⟩
      · cases i with
        | zero => simp at hi; subst hi; rw [hf] at hf'; cases hf'
        | succ i => simp at hi
      · cases i with
        | zero => simp at hi; subst hi; exact h
        | succ i => simp at hi
      · have := ha 0 e rfl; rw [hf] at this; cases this
    | false =>
      rw [hf] at h
      obtain ⟨v, m, hs, hr⟩ := h
      obtain ⟨t, t0, t1, t2, t3⟩ := det_trace r _ hr (fun i e' hi hf' => by have := hl (i + 1) e' (by simpa using hi) hf'; simpa using this)
      refine ⟨fun i => match i with | 0 => s | i + 1 => t i, rfl, fun i e' hi hf' => ?_, fun i e' hi hf' => ?_, fun ha => ?_⟩
      · cases i with
        | zero => simp at hi; subst hi; exact ⟨v, m, hs, t0⟩
        | succ i => exact t1 i e' (by simpa using hi) hf'
      · cases i with
        | zero => simp at hi; subst hi; rw [hf] at hf'; cases hf'
        | succ i => exact t2 i e' (by simpa using hi) hf'
      · exact t3 (fun i e' hi => ha (i + 1) e' (by rw [List.getElem?_cons_succ]; exact hi))

/-- What each operation waits for, directly or not. -/
def clStep (tab : List (List Nat)) (o : Oper) : List Nat := (o.after.toList.filter (Region.binds .any ·)).foldl (fun acc e => (e.on :: (tab[e.on]?).getD []).foldl (fun a j => if a.contains j then a else j :: a) acc) []
def clTab (ops : Array Oper) : List (List Nat) := ops.toList.foldl (fun tab o => tab ++ [clStep tab o]) []

def inCl (tab : List (List Nat)) (i j : Nat) : Bool := ((tab[i]?).getD []).contains j

def clOk (ops : Array Oper) (tab : List (List Nat)) : Bool := (List.range ops.size).all fun i => ((tab[i]?).getD []).all fun j => decide (j < i) && ((ops[i]?).map fun o => o.after.toList.any fun e => Region.binds .any e && (e.on == j || inCl tab e.on j) && decide (e.on < i)).getD false

def okDetT (ops : Array Oper) (tb : List (List Nat × List Nat × List Nat × Bool)) (nid : Nat) (tab : List (List Nat)) : Bool :=
  ops.toList.all (fun o => o.guard.isNone) && backB ops && clOk ops tab && (tb.length == ops.size) &&
  (List.range ops.size).all fun i => (((ops[i]?).bind fun o => (tb[i]?).map fun t =>
    (t.1.all fun r => (List.range ops.size).all fun j => inCl tab i j || ((ops[j]?).map fun o' => decide (o'.dst ≠ some r)).getD false) &&
    ((List.range ops.size).all fun j => i == j || ((ops[j]?).map fun o' => o'.dst.isNone || decide (o'.dst ≠ o.dst)).getD false) &&
    ((List.range nid).all fun a => t.2.1.contains a || (List.range ops.size).all fun j => inCl tab i j || inCl tab j i || i == j || ((tb[j]?).map fun t' => !t'.2.2.1.contains a).getD false) &&
    (t.2.1.all fun a => decide (a < nid)) && (t.2.2.1.all fun a => decide (a < nid)) && (t.2.2.1.all fun a => (List.range ops.size).all fun j => inCl tab i j || inCl tab j i || i == j || ((tb[j]?).map fun t' => !t'.2.2.1.contains a).getD false) &&
    (!t.2.2.2 || (i + 1 == ops.size && (List.range i).all fun j => inCl tab i j))).getD false)

def okDet (ops : Array Oper) (tb : List (List Nat × List Nat × List Nat × Bool)) (nid : Nat) : Bool := okDetT ops tb nid (clTab ops)

theorem cl_listed {ops : Array Oper} {tab : List (List Nat)} (hok : clOk ops tab = true) {L : Nat → Bool} (hid : ∀ j o', L j = true → ops[j]? = some o' → ∀ e ∈ o'.after.toList, Region.binds .any e = true → L e.on = true) :
    ∀ (i : Nat) (o : Oper), ops[i]? = some o → (∀ e ∈ o.after.toList, Region.binds .any e = true → L e.on = true) → ∀ j, inCl tab i j = true → L j = true ∧ j < i := by
  intro i
  induction i using Nat.strongRecOn with
  | ind i ih =>
    intro o ho hdep j hj
    have hi := (Array.getElem?_eq_some_iff.1 ho).1
    have h1 := List.all_eq_true.1 hok i (List.mem_range.2 hi)
    have h2 := List.all_eq_true.1 h1 j (by simpa [inCl] using hj)
    rw [ho] at h2
    simp only [Option.map_some, Option.getD_some, Bool.and_eq_true, decide_eq_true_eq, List.any_eq_true, Bool.or_eq_true, beq_iff_eq] at h2
    obtain ⟨hlt, e, he, ⟨hb, h3⟩, hlt2⟩ := h2
    refine ⟨?_, hlt⟩
    rcases h3 with h3 | h3
    · rw [← h3]; exact hdep e he hb
    · have hLe := hdep e he hb
      have hes : e.on < ops.size := by omega
      exact (ih e.on hlt2 _ (Array.getElem?_eq_getElem hes) (fun e' he' hb' => hid e.on _ hLe (Array.getElem?_eq_getElem hes) e' he' hb') j h3).1

theorem maskf_same {α : Type} {rd : List Nat} {f fa : Nat → α} (h : ∀ r ∈ rd, fa r = f r) : maskf rd f fa = fa := by
  induction rd with
  | nil => rfl
  | cons r rs ih =>
    unfold maskf
    rw [ih (fun r' hr => h r' (by simp [hr]))]
    funext j
    simp only [upd]
    split
    · rename_i e; subst e; rw [h _ (by simp)]
    · rfl

theorem maskm_same {α : Type} {ids hd : List Nat} {g ga : Nat → α} (h : ∀ id, (∀ a ∈ hd, ids.getD a 0 ≠ id) → ga id = g id) : maskm ids hd g ga = ga := by
  funext id
  have : ∀ hd : List Nat, maskm ids hd g ga id = if ∃ a ∈ hd, ids.getD a 0 = id then ga id else g id := by
    intro hd
    induction hd with
    | nil => simp [maskm]
    | cons a aas ih =>
      simp only [maskm, upd]
      by_cases h1 : id = ids.getD a 0
      · rw [if_pos h1, if_pos ⟨a, by simp, h1.symm⟩, ← h1]
      · rw [if_neg h1, ih]
        by_cases h2 : ∃ a ∈ aas, ids.getD a 0 = id
        · rw [if_pos h2, if_pos (by obtain ⟨b, hb, e⟩ := h2; exact ⟨b, by simp [hb], e⟩)]
        · rw [if_neg h2, if_neg (by
            rintro ⟨b, hb, e⟩
            rcases List.mem_cons.1 hb with rfl | hb
            · exact h1 e.symm
            · exact h2 ⟨b, hb, e⟩)]
  rw [this]
  by_cases h1 : ∃ a ∈ hd, ids.getD a 0 = id
  · rw [if_pos h1]
  · rw [if_neg h1]
    exact (h id (fun a ha e => h1 ⟨a, ha, e⟩)).symm

theorem setm_other {α : Type} {ids ef : List Nat} {xs : List α} {g : Nat → α} {id : Nat} (h : ∀ a ∈ ef, ids.getD a 0 ≠ id) : setm ids ef xs g id = g id := by
  induction ef generalizing xs with
  | nil => rfl
  | cons a aas ih =>
    cases xs with
    | nil => rfl
    | cons x xs =>
      simp only [setm, upd]
      rw [if_neg (fun e => h a (by simp) e.symm)]
      exact ih (fun b hb => h b (by simp [hb]))

theorem setm_mine {α : Type} {ids ef : List Nat} {xs : List α} {g g' : Nat → α} (hl : xs.length = ef.length) {id : Nat} (h : ∃ a ∈ ef, ids.getD a 0 = id) : setm ids ef xs g id = setm ids ef xs g' id := by
  induction ef generalizing xs with
  | nil => obtain ⟨a, ha, _⟩ := h; simp at ha
  | cons a aas ih =>
    cases xs with
    | nil => simp at hl
    | cons x xs =>
      simp only [setm, upd]
      split
      · rfl
      · rename_i hne
        refine ih (by simpa using hl) ?_
        obtain ⟨b, hb, e⟩ := h
        rcases List.mem_cons.1 hb with rfl | hb
        · exact absurd e.symm hne
        · exact ⟨b, hb, e⟩

theorem zipE_get : ∀ {os : List Oper} {ts : List (List Nat × List Nat × List Nat × Bool)} {i : Nat} {e : Ent}, (zipE os ts)[i]? = some e → os[i]? = some e.o ∧ ts[i]? = some (e.rd, e.hd, e.ef, e.full)
  | [], _, i, e, h => by simp [zipE] at h
  | _ :: _, [], i, e, h => by simp [zipE] at h
  | o :: os, t :: ts, 0, e, h => by simp [zipE] at h; subst h; exact ⟨rfl, rfl⟩
  | o :: os, t :: ts, i + 1, e, h => by
    have := zipE_get (os := os) (ts := ts) (i := i) (e := e) (by simpa [zipE] using h)
    simpa using this
theorem zipE_has : ∀ {os : List Oper} {ts : List (List Nat × List Nat × List Nat × Bool)} {i : Nat} {o : Oper} {t : List Nat × List Nat × List Nat × Bool}, os[i]? = some o → ts[i]? = some t → (zipE os ts)[i]? = some ⟨o, t.1, t.2.1, t.2.2.1, t.2.2.2⟩
  | [], _, i, o, t, h, _ => by simp at h
  | _ :: _, [], i, o, t, _, h => by simp at h
  | o :: os, t :: ts, 0, o', t', h, h' => by simp at h h'; subst h h'; simp [zipE]
  | o :: os, t :: ts, i + 1, o', t', h, h' => by
    have := zipE_has (os := os) (ts := ts) (i := i) (o := o') (t := t') (by simpa using h) (by simpa using h')
    simpa [zipE] using this
theorem zipE_len : ∀ {os : List Oper} {ts : List (List Nat × List Nat × List Nat × Bool)}, ts.length = os.length → (zipE os ts).length = os.length
  | [], [], _ => rfl
  | o :: os, t :: ts, h => by simp only [zipE, List.length_cons]; rw [zipE_len (by simpa using h)]
  | [], _ :: _, h => by simp at h
  | _ :: _, [], h => by simp at h

section
variable {P : Program} {T : Nat → TI} {b₀ : Bs} {β : Loc} {w : World}

/-- What holds, whatever has come up: t tells the states of the text's order. -/
structure DetI (n : Nat) (dst : Nat → Option Nat) (ef : Nat → List Nat) (ids : List Nat) (t : Nat → St) (L : Nat → Bool) (s : St) : Prop where
  f : ∀ i d, i < n → dst i = some d → L i = true → s.f d = (t (i + 1)).f d
  f0 : ∀ d, (∀ i, i < n → dst i ≠ some d) → s.f d = (t 0).f d
  m : ∀ id k, k ≤ n → (∀ j a, j < n → a ∈ ef j → ids.getD a 0 = id → (L j = true ↔ j < k)) → s.gen id = (t k).gen id ∧ s.obj id = (t k).obj id

theorem det_inv {B : Nat} {ops : Array Oper} {s : St} {Q : Exit → St → Prop} (ids : List Nat) (tb : List (List Nat × List Nat × List Nat × Bool)) (nid : Nat) (hok : okDet ops tb nid = true) (hnid : ids.length = nid) (hnd : ids.Nodup)
    (h : wpDet (spB P B) T ids (zipE ops.toList tb) s (bx fun s' => Q .normal s')) : (ops.toList.all (fun o => o.guard.isNone) && backB ops) = true ∧ ∃ I : (Nat → Bool) → St → Prop, I (fun _ => false) s ∧
      (∀ (L : Nat → Bool) (s : St) (i : Nat) (o : Oper), I L s → ops[i]? = some o → L i = false → (∀ e ∈ o.after.toList, Region.binds .any e = true → L e.on = true) →
        (∀ j o', L j = true → ops[j]? = some o' → ∀ e ∈ o'.after.toList, Region.binds .any e = true → L e.on = true) → opA (spB P B) T o s (bx fun s' => I (upd L i true) s')) ∧
      (∀ L s', I L s' → (∀ i, i < ops.size → L i = true) → Q .normal s') := by
  subst hnid
  unfold okDet okDetT at hok
  generalize clTab ops = tab at hok
  simp only [Bool.and_eq_true, beq_iff_eq] at hok
  obtain ⟨⟨⟨⟨hg, hbk⟩, hcl⟩, htl⟩, hall⟩ := hok
  have hzl : (zipE ops.toList tb).length = ops.size := by rw [zipE_len (by simpa using htl)]; simp
  have hent : ∀ i, i < ops.size → ∃ e, (zipE ops.toList tb)[i]? = some e ∧ ops[i]? = some e.o ∧ tb[i]? = some (e.rd, e.hd, e.ef, e.full) := fun i hi => by
    have h1 : i < (zipE ops.toList tb).length := by omega
    refine ⟨_, List.getElem?_eq_getElem h1, ?_⟩
    have := zipE_get (List.getElem?_eq_getElem h1)
    simpa using this
  have hinj : ∀ a b, a < ids.length → b < ids.length → ids.getD a 0 = ids.getD b 0 → a = b := fun a b ha hb e => by
    rw [List.getD_eq_getElem?_getD, List.getD_eq_getElem?_getD, List.getElem?_eq_getElem ha, List.getElem?_eq_getElem hb] at e
    simp only [Option.getD_some] at e
    exact (List.getElem_inj hnd).1 e
  -- the checks, by operation
  have hchk : ∀ (i : Nat) (e : Ent), i < ops.size → ops[i]? = some e.o → tb[i]? = some (e.rd, e.hd, e.ef, e.full) →
      (∀ r ∈ e.rd, ∀ (j : Nat) (e' : Oper), j < ops.size → ops[j]? = some e' → e'.dst = some r → inCl tab i j = true) ∧
      (∀ (j : Nat) (o' : Oper), j < ops.size → j ≠ i → ops[j]? = some o' → o'.dst = none ∨ o'.dst ≠ e.o.dst) ∧
      (∀ a, a < ids.length → a ∉ e.hd → ∀ j t', j < ops.size → tb[j]? = some t' → a ∈ t'.2.2.1 → inCl tab i j = true ∨ inCl tab j i = true ∨ i = j) ∧
      (∀ a ∈ e.hd, a < ids.length) ∧ (∀ a ∈ e.ef, a < ids.length) ∧
      (∀ a ∈ e.ef, ∀ j t', j < ops.size → tb[j]? = some t' → a ∈ t'.2.2.1 → inCl tab i j = true ∨ inCl tab j i = true ∨ i = j) ∧
      (e.full = true → i + 1 = ops.size ∧ ∀ j, j < i → inCl tab i j = true) := by
    intro i e hi ho ht
    have h1 := List.all_eq_true.1 hall i (List.mem_range.2 hi)
    rw [ho, ht] at h1
    simp only [Option.bind_some, Option.map_some, Option.getD_some, Bool.and_eq_true] at h1
    obtain ⟨⟨⟨⟨⟨⟨c1, c2⟩, c3⟩, c4⟩, c5⟩, c6⟩, c7⟩ := h1
    refine ⟨fun r hr j o' hj hoj hd => ?_, fun j o' hj hne hoj => ?_, fun a ha hna j t' hj htj hat => ?_, fun a ha => ?_, fun a ha => ?_, fun a ha j t' hj htj hat => ?_, fun hf => ?_⟩
    · have := List.all_eq_true.1 (List.all_eq_true.1 c1 r hr) j (List.mem_range.2 hj)
      rw [hoj] at this
      simp only [Option.map_some, Option.getD_some, Bool.or_eq_true, decide_eq_true_eq] at this
      rcases this with h | h
      · exact h
      · exact absurd hd h
    · have := List.all_eq_true.1 c2 j (List.mem_range.2 hj)
      rw [hoj] at this
      simp only [Option.map_some, Option.getD_some, Bool.or_eq_true, decide_eq_true_eq, beq_iff_eq, Option.isNone_iff_eq_none] at this
      rcases this with h | h | h
      · exact absurd h.symm hne
      · exact .inl h
      · exact .inr h
    · have := List.all_eq_true.1 c3 a (List.mem_range.2 ha)
      simp only [Bool.or_eq_true, List.contains_iff_mem, List.all_eq_true, List.mem_range] at this
      rcases this with h | h
      · exact absurd h hna
      · have := h j hj
        rw [htj] at this
        simp only [Option.map_some, Option.getD_some, beq_iff_eq, Bool.not_eq_true'] at this
        rcases this with ((h | h) | h) | h
        · exact .inl h
        · exact .inr (.inl h)
        · exact .inr (.inr h)
        · rw [List.contains_iff_mem.2 hat] at h; cases h
    · exact of_decide_eq_true (List.all_eq_true.1 c4 a ha)
    · exact of_decide_eq_true (List.all_eq_true.1 c5 a ha)
    · have := List.all_eq_true.1 (List.all_eq_true.1 c6 a ha) j (List.mem_range.2 hj)
      rw [htj] at this
      simp only [Option.map_some, Option.getD_some, Bool.or_eq_true, beq_iff_eq, Bool.not_eq_true'] at this
      rcases this with ((h | h) | h) | h
      · exact .inl h
      · exact .inr (.inl h)
      · exact .inr (.inr h)
      · rw [List.contains_iff_mem.2 hat] at h; cases h
    · rw [hf] at c7
      simp only [Bool.not_true, Bool.false_or, Bool.and_eq_true, beq_iff_eq, List.all_eq_true, List.mem_range] at c7
      exact c7
  have hfull : ∀ (i : Nat) (e : Ent), (zipE ops.toList tb)[i]? = some e → e.full = true → i + 1 = (zipE ops.toList tb).length := fun i e hi hf => by
    have hlt : i < ops.size := by rw [← hzl]; exact (List.getElem?_eq_some_iff.1 hi).1
    have h2 := zipE_get hi
    rw [hzl]
    exact ((hchk i e hlt (by simpa using h2.1) h2.2).2.2.2.2.2.2 hf).1
  obtain ⟨t, t0, t1, t2, t3⟩ := det_trace _ _ h hfull
  let dst : Nat → Option Nat := fun i => (ops[i]?).bind (·.dst)
  let ef : Nat → List Nat := fun i => ((tb[i]?).map (·.2.2.1)).getD []
  -- how the trace goes
  have tf : ∀ (i : Nat) (e : Ent), i < ops.size → (zipE ops.toList tb)[i]? = some e → e.full = false → ∀ d, dst i ≠ some d → (t (i + 1)).f d = (t i).f d := fun i e hi he hf d hd => by
    obtain ⟨v, m, _, h2⟩ := t1 i e he hf
    rw [h2]
    have h3 : ops[i]? = some e.o := by simpa using (zipE_get he).1
    simp only [dst, h3, Option.bind_some] at hd
    simp only [effS]
    cases hq : e.o.dst with
    | none => rfl
    | some d' => simp only [putF, upd]; rw [if_neg (fun e' => hd (by rw [hq, e']))]
  have tm : ∀ (i : Nat) (e : Ent), i < ops.size → (zipE ops.toList tb)[i]? = some e → e.full = false → ∀ id, (∀ a ∈ ef i, ids.getD a 0 ≠ id) → (t (i + 1)).gen id = (t i).gen id ∧ (t (i + 1)).obj id = (t i).obj id := fun i e hi he hf id hd => by
    obtain ⟨v, m, _, h2⟩ := t1 i e he hf
    rw [h2]
    have h3 := (zipE_get he).2
    simp only [ef, h3, Option.map_some, Option.getD_some] at hd
    simp only [effS]
    exact ⟨setm_other hd, setm_other hd⟩
  -- how many are walked by themselves
  obtain ⟨N, hN, hNf, hNl⟩ : ∃ N, N ≤ ops.size ∧ (∀ (i : Nat) (e : Ent), i < N → (zipE ops.toList tb)[i]? = some e → e.full = false) ∧ (N = ops.size ∨ (N + 1 = ops.size ∧ ∃ e, (zipE ops.toList tb)[N]? = some e ∧ e.full = true)) := by
    by_cases hlast : ∃ (i : Nat) (e : Ent), (zipE ops.toList tb)[i]? = some e ∧ e.full = true
    · obtain ⟨i, e, he, hf⟩ := hlast
      have h1 := hfull i e he hf
      rw [hzl] at h1
      refine ⟨i, by omega, fun j e' hj hj' => ?_, .inr ⟨h1, e, he, hf⟩⟩
      cases hq : e'.full with
      | false => rfl
      | true => have := hfull j e' hj' hq; rw [hzl] at this; omega
    · refine ⟨ops.size, Nat.le_refl _, fun j e' hj hj' => ?_, .inl rfl⟩
      cases hq : e'.full with
      | false => rfl
      | true => exact absurd ⟨j, e', hj', hq⟩ hlast
  have tfs : ∀ (d k i : Nat), i ≤ k → k ≤ N → (∀ j, i ≤ j → j < k → dst j ≠ some d) → (t k).f d = (t i).f d := by
    intro d k
    induction k with
    | zero => intro i hi _ _; rw [show i = 0 by omega]
    | succ k ih =>
      intro i hi hk hd
      by_cases hik : i = k + 1
      · subst hik; rfl
      · obtain ⟨e, he, _, _⟩ := hent k (by omega)
        rw [tf k e (by omega) he (hNf k e (by omega) he) d (hd k (by omega) (by omega))]
        exact ih i (by omega) (by omega) (fun j h1 h2 => hd j h1 (by omega))
  have tms : ∀ (id k i : Nat), i ≤ k → k ≤ N → (∀ j, i ≤ j → j < k → ∀ a ∈ ef j, ids.getD a 0 ≠ id) → (t k).gen id = (t i).gen id ∧ (t k).obj id = (t i).obj id := by
    intro id k
    induction k with
    | zero => intro i hi _ _; rw [show i = 0 by omega]; exact ⟨rfl, rfl⟩
    | succ k ih =>
      intro i hi hk hd
      by_cases hik : i = k + 1
      · subst hik; exact ⟨rfl, rfl⟩
      · obtain ⟨e, he, _, _⟩ := hent k (by omega)
        obtain ⟨m1, m2⟩ := tm k e (by omega) he (hNf k e (by omega) he) id (hd k (by omega) (by omega))
        rw [m1, m2]
        exact ih i (by omega) (by omega) (fun j h1 h2 => hd j h1 (by omega))
  have hdist : ∀ (i j d : Nat), i < ops.size → j < ops.size → dst i = some d → dst j = some d → i = j := fun i j d hi hj h1 h2 => by
    rcases Nat.lt_or_ge i j with hij | hij
    · exfalso
      obtain ⟨e, he, ho, htb⟩ := hent i hi
      obtain ⟨e', he', ho', htb'⟩ := hent j hj
      simp only [dst, ho, ho', Option.bind_some] at h1 h2
      rcases (hchk i e hi ho htb).2.1 j e'.o hj (by omega) ho' with h | h
      · rw [h] at h2; cases h2
      · exact h (by rw [h1, h2])
    · rcases Nat.lt_or_ge j i with hji | hji
      · exfalso
        obtain ⟨e, he, ho, htb⟩ := hent i hi
        obtain ⟨e', he', ho', htb'⟩ := hent j hj
        simp only [dst, ho, ho', Option.bind_some] at h1 h2
        rcases (hchk i e hi ho htb).2.1 j e'.o hj (by omega) ho' with h | h
        · rw [h] at h2; cases h2
        · exact h (by rw [h1, h2])
      · omega
  -- where all have come up, it is the text's state
  have hsame : ∀ (k : Nat) (L : Nat → Bool) (s' : St), k = N → (∀ i, i < k → L i = true) → DetI N dst ef ids t L s' → s' = t k := by
    rintro k L ⟨f', g', o'⟩ rfl hL hI
    have h1 : f' = (t k).f := by
      funext d
      by_cases hd : ∃ i, i < k ∧ dst i = some d
      · obtain ⟨i, hi, hd⟩ := hd
        rw [show f' d = _ from hI.f i d hi hd (hL i hi)]
        exact (tfs d k (i + 1) (by omega) (Nat.le_refl _) (fun j h1 h2 h3 => by have := hdist i j d (by omega) (by omega) hd h3; omega)).symm
      · have h0 : ∀ i, i < k → dst i ≠ some d := fun i hi h => hd ⟨i, hi, h⟩
        rw [show f' d = _ from hI.f0 d h0]
        exact (tfs d k 0 (by omega) (Nat.le_refl _) (fun j _ h2 => h0 j h2)).symm
    have h2 : g' = (t k).gen := funext fun id => (hI.m id k (Nat.le_refl _) (fun j a hj _ _ => ⟨fun _ => hj, fun _ => hL j hj⟩)).1
    have h3 : o' = (t k).obj := funext fun id => (hI.m id k (Nat.le_refl _) (fun j a hj _ _ => ⟨fun _ => hj, fun _ => hL j hj⟩)).2
    rw [h1, h2, h3]
  refine ⟨by rw [hg, hbk]; rfl, fun L s' => (N < ops.size → L N = true → Q .normal s') ∧ ((N < ops.size → L N = false) → DetI N dst ef ids t L s'), ?_, ?_, ?_⟩
  · refine ⟨fun _ h => (by cases h), fun _ => ⟨fun i d _ _ h => (by cases h), fun d _ => by rw [t0], fun id k hk hc => ?_⟩⟩
    have := tms id k 0 (by omega) hk (fun j _ hj a ha e => by have := (hc j a (by omega) ha e).2 hj; cases this)
    rw [this.1, this.2, t0]
    exact ⟨rfl, rfl⟩
  · intro L s' i o hI ho hL hdep hid
    have hi := (Array.getElem?_eq_some_iff.1 ho).1
    obtain ⟨e, he, ho', htb⟩ := hent i hi
    obtain rfl : o = e.o := by rw [ho] at ho'; cases ho'; rfl
    have hcls := cl_listed hcl hid i e.o ho hdep
    have hck := hchk i e hi ho htb
    by_cases hiN : i < N
    · have hLN : N < ops.size → L N = false := fun hlt => by
        cases hq : L N with
        | false => rfl
        | true =>
          exfalso
          rcases hNl with h | ⟨h, e2, he2, hf2⟩
          · omega
          · have hz := zipE_get he2
            have ho2 : ops[N]? = some e2.o := by simpa using hz.1
            have := (hchk N e2 hlt ho2 hz.2).2.2.2.2.2.2 hf2
            have h3 := cl_listed hcl hid N e2.o ho2 (fun e' he' hb' => hid N _ hq ho2 e' he' hb') i (this.2 i hiN)
            rw [hL] at h3
            exact absurd h3.1 (by simp)
      have hD := hI.2 hLN
      obtain ⟨v, m, ⟨hml, hst⟩, hn⟩ := t1 i e he (hNf i e hiN he)
      have r1 : maskf e.rd (t i).f s'.f = s'.f := maskf_same fun r hr => by
        by_cases hd : ∃ j, j < N ∧ dst j = some r
        · obtain ⟨j, hj, hd⟩ := hd
          obtain ⟨e2, he2, ho2, _⟩ := hent j (by omega)
          have hd2 : e2.o.dst = some r := by simpa [dst, ho2] using hd
          obtain ⟨hLj, hji⟩ := hcls j (hck.1 r hr j e2.o (by omega) ho2 hd2)
          rw [hD.f j r hj hd hLj]
          exact (tfs r i (j + 1) (by omega) (by omega) (fun k h1 h2 h3 => by have := hdist j k r (by omega) (by omega) hd h3; omega)).symm
        · have h0 : ∀ j, j < N → dst j ≠ some r := fun j hj h => hd ⟨j, hj, h⟩
          rw [hD.f0 r h0]
          exact (tfs r i 0 (by omega) (by omega) (fun j _ h2 => h0 j (by omega))).symm
      have hvis : ∀ id, (∀ a ∈ e.hd, ids.getD a 0 ≠ id) → s'.gen id = (t i).gen id ∧ s'.obj id = (t i).obj id := fun id hv => by
        refine hD.m id i (by omega) (fun j a hj ha hai => ?_)
        obtain ⟨e2, he2, ho2, htb2⟩ := hent j (by omega)
        have ha2 : a ∈ e2.ef := by simpa [ef, htb2] using ha
        have halt : a < ids.length := (hchk j e2 (by omega) ho2 htb2).2.2.2.2.1 a ha2
        rcases hck.2.2.1 a halt (fun h => hv a h hai) j _ (by omega) htb2 ha2 with h | h | h
        · have := hcls j h
          exact ⟨fun _ => this.2, fun _ => this.1⟩
        · constructor
          · intro hLj
            have := cl_listed hcl hid j e2.o ho2 (fun e' he' hb' => hid j _ hLj ho2 e' he' hb') i h
            rw [hL] at this
            exact absurd this.1 (by simp)
          · intro hji
            exfalso
            have h1 := List.all_eq_true.1 hcl j (List.mem_range.2 (by omega))
            have h2 := List.all_eq_true.1 h1 i (by simpa [inCl] using h)
            simp only [Bool.and_eq_true, decide_eq_true_eq] at h2
            omega
        · subst h
          rw [hL]
          exact ⟨fun h => (by cases h), fun h => (by omega)⟩
      have r2 : maskm ids e.hd (t i).gen s'.gen = s'.gen := maskm_same fun id hv => (hvis id hv).1
      have r3 : maskm ids e.hd (t i).obj s'.obj = s'.obj := maskm_same fun id hv => (hvis id hv).2
      have h1 := hst s'.f s'.gen s'.obj
      rw [r1, r2, r3] at h1
      refine h1 _ ?_
      refine ⟨fun hlt h => ?_, fun _ => ⟨fun j d hj hd hLj => ?_, fun d hd => ?_, fun id k hk hc => ?_⟩⟩
      · simp only [upd] at h
        rw [if_neg (by omega), hLN hlt] at h
        cases h
      · simp only [upd] at hLj
        by_cases hji : j = i
        · subst hji
          have hd2 : e.o.dst = some d := by simpa [dst, ho] using hd
          rw [hn]
          simp only [effS, hd2, putF, upd, if_true]
        · rw [if_neg hji] at hLj
          have hne : e.o.dst ≠ some d := fun h => hji (hdist j i d (by omega) hi hd (by simpa [dst, ho] using h))
          rw [← hD.f j d hj hd hLj]
          simp only [effS]
          cases hq : e.o.dst with
          | none => rfl
          | some d' => simp only [putF, upd]; rw [if_neg (fun e' => hne (by rw [hq, e']))]
      · rw [← hD.f0 d hd]
        have hne : e.o.dst ≠ some d := fun h => hd i hiN (by simpa [dst, ho] using h)
        simp only [effS]
        cases hq : e.o.dst with
        | none => rfl
        | some d' => simp only [putF, upd]; rw [if_neg (fun e' => hne (by rw [hq, e']))]
      · have hef : ef i = e.ef := by simp [ef, htb]
        by_cases hmine : ∃ a ∈ e.ef, ids.getD a 0 = id
        · obtain ⟨a, ha, hai⟩ := hmine
          have hik : i < k := (hc i a hiN (by rw [hef]; exact ha) hai).1 (by simp [upd])
          have halt := hck.2.2.2.2.1 a ha
          have := tms id k (i + 1) (by omega) hk (fun j h1 h2 b hb hbi => by
            obtain ⟨e2, he2, ho2, htb2⟩ := hent j (by omega)
            have hb2 : b ∈ e2.ef := by simpa [ef, htb2] using hb
            have hblt := (hchk j e2 (by omega) ho2 htb2).2.2.2.2.1 b hb2
            obtain rfl : a = b := hinj a b halt hblt (by rw [hai, hbi])
            have hLj : L j = true := by
              have := (hc j a (by omega) hb hbi).2 h2
              simp only [upd] at this
              rwa [if_neg (by omega)] at this
            rcases hck.2.2.2.2.2.1 a ha j _ (by omega) htb2 hb2 with h | h | h
            · have := (hcls j h).2; omega
            · have := cl_listed hcl hid j e2.o ho2 (fun e' he' hb' => hid j _ hLj ho2 e' he' hb') i h
              rw [hL] at this
              exact absurd this.1 (by simp)
            · omega)
          rw [this.1, this.2, hn]
          simp only [effS]
          exact ⟨setm_mine (by simpa using hml) ⟨a, ha, hai⟩, setm_mine (by simpa using hml) ⟨a, ha, hai⟩⟩
        · have hno : ∀ a ∈ e.ef, ids.getD a 0 ≠ id := fun a ha h => hmine ⟨a, ha, h⟩
          simp only [effS]
          rw [setm_other hno, setm_other hno]
          refine hD.m id k hk (fun j a hj ha hai => ?_)
          have hji : j ≠ i := fun h => by subst h; rw [hef] at ha; exact hno a ha hai
          have := hc j a hj ha hai
          simp only [upd] at this
          rwa [if_neg hji] at this
    · have hiN' : i = N := by
        rcases hNl with h | ⟨h, _⟩ <;> omega
      subst hiN'
      rcases hNl with h | ⟨h, e2, he2, hf2⟩
      · omega
      · obtain rfl : e = e2 := by rw [he] at he2; cases he2; rfl
        have hD := hI.2 (fun _ => hL)
        have hall2 : ∀ j, j < i → L j = true := fun j hj => (hcls j ((hck.2.2.2.2.2.2 hf2).2 j hj)).1
        rw [hsame i L s' rfl hall2 hD]
        refine t2 i e he hf2 _ (fun s'' hs => ?_)
        exact ⟨fun _ _ => hs, fun hh => by have := hh hi; simp [upd] at this⟩
  · intro L s' hI hL
    rcases hNl with h | ⟨h, _⟩
    · subst h
      have hD := hI.2 (fun h => absurd h (by omega))
      have h1 := t3 (fun i e he => hNf i e (by rw [← hzl]; exact (List.getElem?_eq_some_iff.1 he).1) he)
      rw [hzl] at h1
      rw [hsame _ L s' rfl hL hD]
      exact h1
    · exact hI.1 (by omega) (hL N (by omega))

theorem draw_det (hT : TabOk P T) (hm : P.follows .mixedOrders = true) {B id : Nat} {ops : Array Oper} {s : St} {Q : Exit → St → Prop} {q : Box Q} (ids : List Nat) (tb : List (List Nat × List Nat × List Nat × Bool)) (nid : Nat) (hok : okDet ops tb nid = true) (hnid : ids.length = nid) (hnd : ids.Nodup)
    (h : wpDet (spB P B) T ids (zipE ops.toList tb) s (bx fun s' => Q .normal s')) : DrawA (spB P B) T id ops s q := by
  obtain ⟨h1, I, h2, h3, h4⟩ := det_inv (Q := Q) ids tb nid hok hnid hnd h
  exact draw_any hT hm h1 I h2 h3 h4

end

section steps
variable {S : Sp} {T : Nat → TI} {ids : List Nat} {f : Nat → AV} {g : Nat → Nat} {ob : Nat → Option (List C)} {K : St → Prop} {k : Box K} {op : Op} {ty : TypeId} {ps : String} {af : Array Edge} {rd hd : List Nat} {r : List Ent} {d : Nat}

/-- An operation without effect on objects. -/
theorem det_pure {v : AV} (h1 : ∀ (fa : Nat → AV) (ga : Nat → Nat) (oa : Nat → Option (List C)) (K' : St → Prop), K' ⟨upd (maskf rd f fa) d v, maskm ids hd g ga, maskm ids hd ob oa⟩ → opA S T ⟨some d, op, ty, ps, af, none⟩ ⟨maskf rd f fa, maskm ids hd g ga, maskm ids hd ob oa⟩ (bx K'))
    (h2 : wpDet S T ids r ⟨upd f d v, g, ob⟩ k) : wpDet S T ids (⟨⟨some d, op, ty, ps, af, none⟩, rd, hd, [], false⟩ :: r) ⟨f, g, ob⟩ k := by
  unfold wpDet
  exact ⟨v, [], ⟨rfl, fun fa ga oa K' hK => h1 fa ga oa K' hK⟩, h2⟩

/-- A new object. -/
theorem det_new {v : AV} {a x : Nat} {y : Option (List C)} (h1 : ∀ (fa : Nat → AV) (ga : Nat → Nat) (oa : Nat → Option (List C)) (K' : St → Prop), K' ⟨upd (maskf rd f fa) d v, upd (maskm ids hd g ga) (ids.getD a 0) x, upd (maskm ids hd ob oa) (ids.getD a 0) y⟩ → opA S T ⟨some d, op, ty, ps, af, none⟩ ⟨maskf rd f fa, maskm ids hd g ga, maskm ids hd ob oa⟩ (bx K'))
    (h2 : wpDet S T ids r ⟨upd f d v, upd g (ids.getD a 0) x, upd ob (ids.getD a 0) y⟩ k) : wpDet S T ids (⟨⟨some d, op, ty, ps, af, none⟩, rd, hd, [a], false⟩ :: r) ⟨f, g, ob⟩ k := by
  unfold wpDet
  exact ⟨v, [(x, y)], ⟨rfl, fun fa ga oa K' hK => h1 fa ga oa K' hK⟩, h2⟩

/-- An object is written, in sight of the operation. -/
theorem det_store {a : Nat} {y : Option (List C)} (hv : ids.getD a 0 ∉ hd.map (fun b => ids.getD b 0)) (h1 : ∀ (fa : Nat → AV) (ga : Nat → Nat) (oa : Nat → Option (List C)) (K' : St → Prop), K' ⟨maskf rd f fa, maskm ids hd g ga, upd (maskm ids hd ob oa) (ids.getD a 0) y⟩ → opA S T ⟨none, op, ty, ps, af, none⟩ ⟨maskf rd f fa, maskm ids hd g ga, maskm ids hd ob oa⟩ (bx K'))
    (h2 : wpDet S T ids r ⟨f, g, upd ob (ids.getD a 0) y⟩ k) : wpDet S T ids (⟨⟨none, op, ty, ps, af, none⟩, rd, hd, [a], false⟩ :: r) ⟨f, g, ob⟩ k := by
  have hself : ∀ (α : Type) (h : Nat → α) (i : Nat), upd h i (h i) = h := fun α h i => by funext j; simp only [upd]; split <;> simp_all
  have hmask : ∀ ga : Nat → Nat, maskm ids hd g ga (ids.getD a 0) = g (ids.getD a 0) := fun ga => by
    clear h1 h2
    induction hd with
    | nil => rfl
    | cons b bs ih =>
      simp only [List.map_cons, List.mem_cons, not_or] at hv
      simp only [maskm, upd]
      rw [if_neg hv.1]
      exact ih hv.2
  unfold wpDet
  refine ⟨uv, [(g (ids.getD a 0), y)], ⟨rfl, fun fa ga oa K' hK => h1 fa ga oa K' ?_⟩, ?_⟩
  · have e : effS ids ⟨⟨none, op, ty, ps, af, none⟩, rd, hd, [a], false⟩ uv [(g (ids.getD a 0), y)] ⟨maskf rd f fa, maskm ids hd g ga, maskm ids hd ob oa⟩ = ⟨maskf rd f fa, maskm ids hd g ga, upd (maskm ids hd ob oa) (ids.getD a 0) y⟩ := by
      simp only [effS, putF, setm, List.map_cons, List.map_nil]
      rw [← hmask ga, hself]
    rw [← e]; exact hK
  · have e : effS ids ⟨⟨none, op, ty, ps, af, none⟩, rd, hd, [a], false⟩ uv [(g (ids.getD a 0), y)] ⟨f, g, ob⟩ = ⟨f, g, upd ob (ids.getD a 0) y⟩ := by
      simp only [effS, putF, setm, List.map_cons, List.map_nil]
      rw [hself]
    rw [e]; exact h2

theorem det_last {o : Oper} {ef : List Nat} (h : ∀ K' : St → Prop, (∀ s'', K s'' → K' s'') → opA S T o ⟨f, g, ob⟩ (bx K')) : wpDet S T ids [⟨o, rd, hd, ef, true⟩] ⟨f, g, ob⟩ k := by
  unfold wpDet; exact h
theorem det_nil (h : K ⟨f, g, ob⟩) : wpDet S T ids [] ⟨f, g, ob⟩ k := by unfold wpDet; exact h
end steps

@[go_sem] theorem maskf_nil {α : Type} {f fa : Nat → α} : maskf [] f fa = fa := Eq.trans rfl rfl
@[go_sem] theorem maskf_cons {α : Type} {r : Nat} {rs : List Nat} {f fa : Nat → α} : maskf (r :: rs) f fa = upd (maskf rs f fa) r (f r) := Eq.trans rfl rfl
@[go_sem] theorem maskm_nil {α : Type} {ids : List Nat} {f fa : Nat → α} : maskm ids [] f fa = f := Eq.trans rfl rfl
@[go_sem] theorem maskm_cons {α : Type} {ids : List Nat} {a : Nat} {aas : List Nat} {g ga : Nat → α} : maskm ids (a :: aas) g ga = upd (maskm ids aas g ga) (ids.getD a 0) (ga (ids.getD a 0)) := Eq.trans rfl rfl
attribute [go_sem] List.getD_cons_zero List.getD_cons_succ
@[go_sem] theorem zipE_nil {ts : List (List Nat × List Nat × List Nat × Bool)} : zipE [] ts = [] := by cases ts <;> rfl
@[go_sem] theorem zipE_cons {o : Oper} {os : List Oper} {rd hd ef : List Nat} {fl : Bool} {ts : List (List Nat × List Nat × List Nat × Bool)} : zipE (o :: os) ((rd, hd, ef, fl) :: ts) = ⟨o, rd, hd, ef, fl⟩ :: zipE os ts := Eq.trans rfl rfl

end Go.Am
