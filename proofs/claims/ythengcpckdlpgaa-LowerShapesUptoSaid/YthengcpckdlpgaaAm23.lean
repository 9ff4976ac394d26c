/- Functions whose results lie in cells of their own. -/
import Derived.Test.YthengcpckdlpgaaAm22
set_option linter.unusedSimpArgs false
set_option linter.unusedVariables false
namespace Go.Am

section
variable {P : Program} {T : Nat → TI} {b₀ : Bs} {β : Loc} {w : World}

/-- The results' values. -/
def evalR (T : Nat → TI) (s : St) : List ResultVar → {K : List AV → Prop} → Box K → Prop
  | [], K, _ => K []
  | .tmp t :: r, K, _ => evalR T s r (bx fun vs => K (s.f t :: vs))
  | .cell a ty :: r, K, _ => loadA (T ty) s (s.f a) (bx fun v => evalR T s r (bx fun vs => K (v :: vs)))

theorem evalR_sound (hT : TabOk P T) {N : Nat} {s : St} {a : Act} (hr : Rel b₀ N s β a w) :
    ∀ (rs : List ResultVar) {K : List AV → Prop} {k : Box K}, evalR T s rs k → ∃ vs avs, (∀ g : ResultVar → Sem Value, (∀ t, g (.tmp t) = pure (a.tmps.getD t undef)) → (∀ x t, g (.cell x t) = do loadVar t (← asAddr (a.tmps.getD x undef))) → (rs.mapM g).run P w = .ok vs w) ∧ K avs ∧ RepVs b₀ β s.gen s.obj w avs vs
  | [], K, k, h => ⟨[], [], fun _ _ _ => by simp, h, by simp only [RepVs]⟩
  | .tmp t :: r, K, k, h => by
    obtain ⟨vs, avs, h1, h2, h3⟩ := evalR_sound hT hr r h
    refine ⟨_ :: vs, _ :: avs, fun g hg hg2 => ?_, h2, by simp only [RepVs]; exact ⟨_, _, rfl, hr.f t, h3⟩⟩
    simp only [List.mapM_cons, Sem.run_bind, hg, Sem.run_pure, Result.andThen_ok, h1 g hg hg2]
  | .cell x ty :: r, K, k, h => by
    unfold evalR at h
    obtain ⟨y, cv, hK, hrun, hrep⟩ := loadA_sound hT hr h (hr.f x)
    obtain ⟨vs, avs, h1, h2, h3⟩ := evalR_sound hT hr r hK
    refine ⟨cv :: vs, y :: avs, fun g hg hg2 => ?_, h2, by simp only [RepVs]; exact ⟨_, _, rfl, hrep, h3⟩⟩
    have hl := hrun w .refl
    have hcell : (g (.cell x ty)).run P w = .ok cv w := by
      rw [hg2]
      unfold Instr.loadAt at hl
      cases hv : a.tmps.getD x undef with
      | pointer p =>
        rw [hv] at hl
        cases p with
        | some p => simpa [Instr.sureAddr, asAddr] using hl
        | none => simp [Instr.sureAddr] at hl
      | _ => rw [hv] at hl; simp [Instr.sureAddr] at hl
    simp only [List.mapM_cons, Sem.run_bind, hcell, Sem.run_pure, Result.andThen_ok, h1 g hg hg2]

def pack : List AV → AV
  | [t] => t
  | ts => .tup ts
def packV : List Value → Value
  | [v] => v
  | vs => .tuple vs.toArray

theorem pack_rep {g : Nat → Nat} {ob : Obs} : ∀ {avs : List AV} {vs : List Value}, RepVs b₀ β g ob w avs vs → RepV b₀ β g ob w (pack avs) (packV vs)
  | [], vs, h => by simp only [RepVs] at h; subst h; simp only [pack, packV, RepV, RepVs]; exact ⟨[], rfl, rfl⟩
  | [t], vs, h => by simp only [RepVs] at h; obtain ⟨u, us, rfl, h1, rfl⟩ := h; exact h1
  | t :: t' :: ts, vs, h => by
    have h0 := h
    simp only [RepVs] at h
    obtain ⟨u, us, rfl, h1, u', us', rfl, h2, h3⟩ := h
    simp only [pack, packV, RepV]
    exact ⟨_, rfl, h0⟩

theorem evalR_results (hT : TabOk P T) {N : Nat} {s : St} {a : Act} (hr : Rel b₀ N s β a w) {fn : Func} {rs : List ResultVar} (hres : fn.results = rs.toArray) {K : List AV → Prop} {k : Box K} (h : evalR T s rs k) :
    ∃ v avs, (results fn a.tmps).run P w = .ok v w ∧ K avs ∧ RepV b₀ β s.gen s.obj w (pack avs) v ∧ ∃ vs, v = packV vs ∧ RepVs b₀ β s.gen s.obj w avs vs := by
  obtain ⟨vs, avs, h1, h2, h3⟩ := evalR_sound hT hr rs h
  refine ⟨packV vs, avs, ?_, h2, pack_rep h3, vs, rfl, h3⟩
  unfold results
  simp only [hres, List.mapM_toArray, Sem.run_bind, Sem.run_map]
  rw [h1 _ (fun _ => rfl) (fun _ _ => rfl)]
  simp only [Result.andThen_ok, Sem.run_pure]
  match vs with
  | [] => simp [packV]
  | [t] => simp [packV]
  | t :: t' :: ts => simp [packV]

/-- At a function's end: R of its results and its objects, perhaps told anew. -/
def RetFR (T : Nat → TI) (rs : List ResultVar) (R : AV → (Nat → Nat) → Obs → Prop) : Exit → St → Prop
  | .normal, s | .ret, s => ∃ s', SemVs s s' ∧ evalR T s' rs (bx fun avs => R (pack avs) s'.gen s'.obj)
  | _, _ => False

/-- A function, by its body's abstract code. -/
theorem fun_of_wpR (B : Nat) (hT : TabOk P T) (hm : P.follows .mixedOrders = true) {f : FuncId} {fn : Func} {c : Code} (hf : P.funcs[f]? = some fn) (hb : fn.body = some c) (hn : (fn.name == "runtime.NumGoroutine") = false)
    (rs : List ResultVar) (hres : fn.results = rs.toArray) (hok : codeOk fn.ntmps c = true) {xs : List AV} (hargs : xs.length ≤ fn.ntmps) {g : Nat → Nat} {ob : Obs} {R : AV → (Nat → Nat) → Obs → Prop}
    (h : wpC (spB P B) T c (bx (RetFR T rs R)) ⟨initF xs, g, ob⟩) : FunR P f xs g ob R := by
  refine ⟨⟨fn, hf, by rw [hb]; rfl, hn⟩, fun b₀ N β a fa w vs hr0 hv => ?_⟩
  refine calls_of_wp hf hb ?_
  have hl := hv.len
  have hr : Rel b₀ fn.ntmps ⟨initF xs, g, ob⟩ β { tmps := vs.toArray ++ Array.replicate (fn.ntmps - vs.toArray.size) undef, defers := [] } w := by
    refine ⟨rfl, by simp; omega, fun i => ?_, hr0.obj, hr0.inj, hr0.base⟩
    simp only [initF]
    cases hx : xs[i]? with
    | some x =>
      obtain ⟨v, h1, h2⟩ := hv.get hx
      have hlt : i < vs.length := (List.getElem?_eq_some_iff.1 h1).1
      have : (vs.toArray ++ Array.replicate (fn.ntmps - vs.toArray.size) undef).getD i undef = v := by
        rw [Array.getD_eq_getD_getElem?, Array.getElem?_append_left (by simpa using hlt)]
        simp [h1]
      rw [this]
      simpa only [Option.getD_some] using h2
    | none =>
      have hge : xs.length ≤ i := by simpa using hx
      have : (vs.toArray ++ Array.replicate (fn.ntmps - vs.toArray.size) undef).getD i undef = undef := by
        rw [Array.getD_eq_getD_getElem?, Array.getElem?_append_right (by simp; omega)]
        simp [Array.getElem?_replicate]
        split <;> rfl
      rw [this]
      exact undefRep
  refine wp_mono (wpC_sound (B := B) hT hm c hok hr h) (fun e a' w' hp => ?_)
  obtain ⟨s', β', hQ, hr', ht⟩ := hp
  have hres' : RetFR T rs R .ret s' → ∃ v, (results fn a'.tmps).run P w' = .ok v w' ∧ ∃ v' r g' ob' β', Ending.returned v = .returned v' ∧ R r g' ob' ∧ RepV b₀ β' g' ob' w' r v' ∧
      (∀ id cells, ob' id = some cells → ObjAt b₀ β' g' ob' w' cells (β' id)) ∧ (∀ id id' a a', (ob' id).isSome = true → (ob' id').isSome = true → β' id = some a → β' id' = some a' → a.block = a'.block → id = id') ∧
      Tr b₀ β ⟨fa, g, ob⟩ w β' ⟨fa, g', ob'⟩ w' := by
    rintro ⟨s2, hvs, hR⟩
    obtain ⟨β2, hr2, ht2⟩ := hvs b₀ fn.ntmps β' a' w' hr'
    have hta := ht.trans ht2
    obtain ⟨v, avs, h1, h2, h3, _⟩ := evalR_results hT hr2 hres hR
    exact ⟨v, h1, v, _, _, _, β2, rfl, h2, h3, hr2.obj, hr2.inj, ⟨hta.size, hta.old, hta.keep, hta.os⟩⟩
  cases e with
  | normal => exact ⟨hr'.defers, hres' hQ⟩
  | ret => exact ⟨hr'.defers, hres' hQ⟩
  | exit id => exact hQ.elim
  | goto l => exact hQ.elim
  | panic ch => exact hQ.elim
  | outgrown => exact hQ.elim

/-- Frozen results. -/
def FrzR (s : St) : List AV → AV → Prop
  | [t], r => FrzV s t r
  | ts, r => ∃ rs, FrzVs s ts rs ∧ r = .tup rs

theorem FrzR.rep {N : Nat} {s : St} {a : Act} (hr : Rel b₀ N s β a w) : ∀ {ts : List AV} {r : AV} {vs : List Value}, FrzR s ts r → RepVs b₀ β s.gen s.obj w ts vs → RV (Own b₀ w) w r (packV vs) := by
  have hmany : ∀ (ts rs : List AV) (vs : List Value), FrzVs s ts rs → RepVs b₀ β s.gen s.obj w ts vs → RVs (Own b₀ w) w rs vs := by
    intro ts
    induction ts with
    | nil => intro rs vs h hv; simp only [FrzVs] at h; simp only [RepVs] at hv; subst h hv; simp only [RVs]
    | cons t ts ih =>
      intro rs vs h hv
      simp only [FrzVs] at h
      simp only [RepVs] at hv
      obtain ⟨r, rs', rfl, h1, h2⟩ := h
      obtain ⟨u, us, rfl, h3, h4⟩ := hv
      simp only [RVs]
      exact ⟨_, _, rfl, h1.rep hr h3, ih _ _ h2 h4⟩
  intro ts r vs h hv
  match ts, h with
  | [], ⟨rs, h1, h2⟩ =>
    subst h2
    have := hmany _ _ _ h1 hv
    simp only [RepVs] at hv
    subst hv
    simp only [RV, packV]; exact ⟨_, rfl, this⟩
  | [t], h =>
    simp only [RepVs] at hv
    obtain ⟨u, us, rfl, h1, rfl⟩ := hv
    exact FrzV.rep hr h h1
  | t :: t' :: ts, ⟨rs, h1, h2⟩ =>
    subst h2
    have := hmany _ _ _ h1 hv
    simp only [RepVs] at hv
    obtain ⟨u, us, rfl, _, u', us', rfl, _, _⟩ := hv
    simp only [RV, packV]; exact ⟨_, rfl, this⟩

/-- At a function's end: R of its results. -/
def RetQR (T : Nat → TI) (rs : List ResultVar) (R : AV → Prop) : Exit → St → Prop
  | .normal, s | .ret, s => evalR T s rs (bx fun avs => ∃ r, FrzR s avs r ∧ R r)
  | _, _ => False

theorem pure_of_wpR (hT : TabOk P T) (hm : P.follows .mixedOrders = true) {f : FuncId} {fn : Func} {c : Code} (hf : P.funcs[f]? = some fn) (hb : fn.body = some c) (hn : (fn.name == "runtime.NumGoroutine") = false)
    (rs : List ResultVar) (hres : fn.results = rs.toArray) (hok : codeOk fn.ntmps c = true) {args : List AV} (hargs : args.length ≤ fn.ntmps) {R : AV → Prop}
    (h : ∀ g, wpC (sp P) T c (bx (RetQR T rs R)) ⟨initF args, g, fun _ => none⟩) : PureR P f args R := by
  refine ⟨⟨fn, hf, by rw [hb]; rfl, hn⟩, fun J w vs hJ hv => ?_⟩
  refine calls_of_wp hf hb ?_
  have hlen : ∀ (l : List AV) (vs : List Value), RVs J w l vs → vs.length = l.length := by
    intro l
    induction l with
    | nil => intro vs h; simp only [RVs] at h; subst h; rfl
    | cons x l ih => intro vs h; simp only [RVs] at h; obtain ⟨u, us, rfl, _, h⟩ := h; simp [ih us h]
  have hl := hlen _ _ hv
  let J' : Nat → Prop := J
  have hr : Rel ⟨w.heap.size, J'⟩ fn.ntmps ⟨initF args, fun _ => 0, fun _ => none⟩ (fun _ => none) { tmps := vs.toArray ++ Array.replicate (fn.ntmps - vs.toArray.size) undef, defers := [] } w := by
    refine ⟨rfl, by simp; omega, fun i => ?_, fun id cells ho => (by cases ho), fun id id' a a' ho => (by cases ho), Nat.le_refl _⟩
    have hget : ∀ (l : List AV) (vs : List Value), RVs J w l vs → ∀ (i : Nat) (x : AV), l[i]? = some x → ∃ v, vs[i]? = some v ∧ RV J w x v := by
      intro l
      induction l with
      | nil => intro vs _ i x h; simp at h
      | cons y l ih =>
        intro vs h i x hx
        simp only [RVs] at h
        obtain ⟨u, us, rfl, h1, h2⟩ := h
        cases i with
        | zero => simp at hx; subst hx; exact ⟨u, rfl, h1⟩
        | succ i => simpa using ih us h2 i x (by simpa using hx)
    simp only [initF]
    cases hx : args[i]? with
    | some x =>
      obtain ⟨v, h1, h2⟩ := hget _ _ hv i x hx
      have hlt : i < vs.length := (List.getElem?_eq_some_iff.1 h1).1
      have : (vs.toArray ++ Array.replicate (fn.ntmps - vs.toArray.size) undef).getD i undef = v := by
        rw [Array.getD_eq_getD_getElem?, Array.getElem?_append_left (by simpa using hlt)]
        simp [h1]
      rw [this]
      simp only [Option.getD_some]
      exact RV.rep x (RV.mono (fun b hb => ⟨⟨hJ b hb, fun _ => hb, fun id a ho => by cases ho⟩, rfl⟩) x h2)
    | none =>
      have hge : args.length ≤ i := by simpa using hx
      have : (vs.toArray ++ Array.replicate (fn.ntmps - vs.toArray.size) undef).getD i undef = undef := by
        rw [Array.getD_eq_getD_getElem?, Array.getElem?_append_right (by simp; omega)]
        simp [Array.getElem?_replicate]
        split <;> rfl
      rw [this]
      exact undefRep
  refine wp_mono (wpC_sound hT hm c hok hr (h _)) (fun e a' w' hp => ?_)
  obtain ⟨s', β', hQ, hr', ht⟩ := hp
  have hres' : RetQR T rs R .ret s' → ∃ v, (results fn a'.tmps).run P w' = .ok v w' ∧ ∃ r, R r ∧ RV (Own ⟨w.heap.size, J'⟩ w') w' r v := by
    intro hQ
    obtain ⟨v, avs, h1, ⟨r, h2, h3⟩, _, vs', rfl, h4⟩ := evalR_results hT hr' hres hQ
    exact ⟨_, h1, r, h3, h2.rep hr' h4⟩
  cases e with
  | normal =>
    obtain ⟨v, h1, r, h2, h3⟩ := hres' hQ
    exact ⟨hr'.defers, v, h1, v, r, rfl, h2, ht.size, fun b hb => ht.old b hb, ht.os, h3⟩
  | ret =>
    obtain ⟨v, h1, r, h2, h3⟩ := hres' hQ
    exact ⟨hr'.defers, v, h1, v, r, rfl, h2, ht.size, fun b hb => ht.old b hb, ht.os, h3⟩
  | exit id => exact hQ.elim
  | goto l => exact hQ.elim
  | panic ch => exact hQ.elim
  | outgrown => exact hQ.elim

end

@[go_sem] theorem evalR_nil {T : Nat → TI} {s : St} {K : List AV → Prop} {k : Box K} : evalR T s [] k = K [] := Eq.trans rfl rfl
@[go_sem] theorem evalR_tmp {T : Nat → TI} {s : St} {t : Nat} {r : List ResultVar} {K : List AV → Prop} {k : Box K} : evalR T s (.tmp t :: r) k = evalR T s r (bx fun vs => K (s.f t :: vs)) := Eq.trans rfl rfl
@[go_sem] theorem evalR_cell {T : Nat → TI} {s : St} {a ty : Nat} {r : List ResultVar} {K : List AV → Prop} {k : Box K} : evalR T s (.cell a ty :: r) k = loadA (T ty) s (s.f a) (bx fun v => evalR T s r (bx fun vs => K (v :: vs))) := Eq.trans rfl rfl
@[go_sem] theorem RetQR_ret {T : Nat → TI} {rs : List ResultVar} {R : AV → Prop} {s : St} : RetQR T rs R .ret s = evalR T s rs (bx fun avs => ∃ r, FrzR s avs r ∧ R r) := Eq.trans rfl rfl
@[go_sem] theorem RetQR_normal {T : Nat → TI} {rs : List ResultVar} {R : AV → Prop} {s : St} : RetQR T rs R .normal s = evalR T s rs (bx fun avs => ∃ r, FrzR s avs r ∧ R r) := Eq.trans rfl rfl
@[go_sem] theorem frzR_one {s : St} {t r : AV} : FrzR s [t] r = FrzV s t r := Eq.trans rfl rfl

/-- Rows of plain data. -/
theorem frz_rows {α : Type} {s : St} {id g sz n : Nat} {cells : List C} (hg : s.gen id = g) (l : List α) (enc : α → List D) (ho : s.obj id = some cells) (hc : cells = l.flatMap (fun a => (enc a).map .d)) (hn : ∀ a ∈ l, ∀ x ∈ enc a, normD x = x) (hs : ∀ a ∈ l, (enc a).length = sz) (hl : l.length = n) :
    Frz s (.osl id g sz 0 n) (.sl (l.map enc)) := by
  have hfl : cells = (l.map enc).flatten.map .d := by rw [hc]; clear hn hs hl hc ho; induction l with | nil => rfl | cons a l ih => simp [ih]
  have hlen : cells.length = n * sz := by
    rw [hfl, List.length_map]
    clear hfl hc hn ho
    subst hl
    induction l with
    | nil => simp
    | cons a l ih =>
      simp only [List.map_cons, List.flatten_cons, List.length_append, List.length_cons, hs a (by simp), ih (fun b hb => hs b (by simp [hb]))]
      rw [Nat.add_mul]; omega
  refine .osl hg ho (by omega) (by simpa using hl) (fun e he => by obtain ⟨a, ha, rfl⟩ := List.mem_map.1 he; exact hs a ha) (fun j => (cells[0 + j]?).getD (.d .nsl)) (fun j x hx => ?_) (fun j x hx => ?_)
  · rw [hfl, Nat.zero_add, List.getElem?_map, hx]; rfl
  · rw [hfl, Nat.zero_add, List.getElem?_map, hx]
    simp only [Option.map_some, Option.getD_some]
    have hxn : normD x = x := by
      have hm := List.mem_of_getElem? hx
      obtain ⟨e, he, hxe⟩ := List.mem_flatten.1 hm
      obtain ⟨a, ha, rfl⟩ := List.mem_map.1 he
      exact hn a ha x hxe
    have := Frz.d (s := s) x
    rwa [hxn] at this

end Go.Am
