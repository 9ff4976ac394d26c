/- A part of the proof; no conditions. -/
import Derived.Test.YtifciocionlciaaGreatDoorPart2
import Derived.Lib.UnsafeStr
import Derived.Laws.Externs
import Derived.Handed
import Derived.Lay
import Derived.LaidMore
import Derived.SevenTiedAt
import Derived.Stop.Joined
import Derived.Below
import Derived.Test.YtifciocionlciaaGreatDoorProg
import Derived.KernelRfl
import Derived.Lib.Bytealg
import Derived.Shelf.Strings.IndexAnyAll
import Derived.Laws.RangeAny
import Derived.WalkMore
import Derived.Shelf.RegionOpenPlain
import Derived.BigQuiet
import Derived.Laws.Runes
import Derived.Shelf.Small.Utf8
import Derived.Lib.QuoteLoop
import Derived.Lib.TrimU
import Derived.Lib.OthersKept
import Derived.Shelf.Strings.SlTrimAscii
import Derived.Shelf.Strings.Runes
set_option linter.unusedSimpArgs false
set_option linter.unusedVariables false
namespace Go.Am

section
variable {P : Program} {T : Nat → TI} {b₀ : Bs} {β : Loc} {w : World}

/-- The results' values. -/
def evalR (T : Nat → TI) (s : St) : List ResultVar → {K : List AV → Prop} → Box K → Prop
  | [], K, _ => K []
  | .tmp t :: r, K, _ => evalR T s r (bx fun vs => K (s.f t :: vs))
  | .cell a ty :: r, K, _ => loadA (T ty) s (s.f a) (bx fun v => evalR T s r (bx fun vs => K (v :: vs)))

theorem evalR_sound (hT : TabOk P T) {N : Nat} {s : St} {a : Act} (hr : Rel b₀ N s β a w) :
    ∀ (rs : List ResultVar) {K : List AV → Prop} {k : Box K}, evalR T s rs k → ∃ vs avs, (∀ g : ResultVar → Sem Value, (∀ t, g (.tmp t) = pure (a.tmps.getD t undef)) → (∀ x t, g (.cell x t) = do loadVar t (← asAddr (a.tmps.getD x undef))) → (rs.mapM g).run P w = .ok vs w) ∧ K avs ∧ RepVs b₀ β s.gen s.obj w avs vs
  | [], K, k, h => ⟨[], [], fun _ _ _ => by simp, h, by simp only [RepVs]⟩
  | .tmp t :: r, K, k, h => by
    obtain ⟨vs, avs, h1, h2, h3⟩ := evalR_sound hT hr r h
    refine ⟨_ :: vs, _ :: avs, fun g hg hg2 => ?_, h2, by simp only [RepVs]; exact ⟨_, _, rfl, hr.f t, h3⟩⟩
    simp only [List.mapM_cons, Sem.run_bind, hg, Sem.run_pure, Result.andThen_ok, h1 g hg hg2]
  | .cell x ty :: r, K, k, h => by
    unfold evalR at h
    obtain ⟨y, cv, hK, hrun, hrep⟩ := loadA_sound hT hr h (hr.f x)
    obtain ⟨vs, avs, h1, h2, h3⟩ := evalR_sound hT hr r hK
    refine ⟨cv :: vs, y :: avs, fun g hg hg2 => ?_, h2, by simp only [RepVs]; exact ⟨_, _, rfl, hrep, h3⟩⟩
    have hl := hrun w .refl
    have hcell : (g (.cell x ty)).run P w = .ok cv w := by
      rw [hg2]
      unfold Instr.loadAt at hl
      cases hv : a.tmps.getD x undef with
      | pointer p =>
        rw [hv] at hl
        cases p with
        | some p => simpa [Instr.sureAddr, asAddr] using hl
        | none => simp [Instr.sureAddr] at hl
      | _ => rw [hv] at hl; simp [Instr.sureAddr] at hl
    simp only [List.mapM_cons, Sem.run_bind, hcell, Sem.run_pure, Result.andThen_ok, h1 g hg hg2]

def pack : List AV → AV
  | [t] => t
  | ts => .tup ts
def packV : List Value → Value
  | [v] => v
  | vs => .tuple vs.toArray

theorem pack_rep {g : Nat → Nat} {ob : Obs} : ∀ {avs : List AV} {vs : List Value}, RepVs b₀ β g ob w avs vs → RepV b₀ β g ob w (pack avs) (packV vs)
  | [], vs, h => by simp only [RepVs] at h; subst h; simp only [pack, packV, RepV, RepVs]; exact ⟨[], rfl, rfl⟩
  | [t], vs, h => by simp only [RepVs] at h; obtain ⟨u, us, rfl, h1, rfl⟩ := h; exact h1
  | t :: t' :: ts, vs, h => by
    have h0 := h
    simp only [RepVs] at h
    obtain ⟨u, us, rfl, h1, u', us', rfl, h2, h3⟩ := h
    simp only [pack, packV, RepV]
    exact ⟨_, rfl, h0⟩

theorem evalR_results (hT : TabOk P T) {N : Nat} {s : St} {a : Act} (hr : Rel b₀ N s β a w) {fn : Func} {rs : List ResultVar} (hres : fn.results = rs.toArray) {K : List AV → Prop} {k : Box K} (h : evalR T s rs k) :
    ∃ v avs, (results fn a.tmps).run P w = .ok v w ∧ K avs ∧ RepV b₀ β s.gen s.obj w (pack avs) v ∧ ∃ vs, v = packV vs ∧ RepVs b₀ β s.gen s.obj w avs vs := by
  obtain ⟨vs, avs, h1, h2, h3⟩ := evalR_sound hT hr rs h
  refine ⟨packV vs, avs, ?_, h2, pack_rep h3, vs, rfl, h3⟩
  unfold results
  simp only [hres, List.mapM_toArray, Sem.run_bind, Sem.run_map]
  rw [h1 _ (fun _ => rfl) (fun _ _ => rfl)]
  simp only [Result.andThen_ok, Sem.run_pure]
  match vs with
  | [] => simp [packV]
  | [t] => simp [packV]
  | t :: t' :: ts => simp [packV]

/-- At a function's end: R of its results and its objects, perhaps told anew. -/
def RetFR (T : Nat → TI) (rs : List ResultVar) (R : AV → (Nat → Nat) → Obs → Prop) : Exit → St → Prop
  | .normal, s | .ret, s => ∃ s', SemVs s s' ∧ evalR T s' rs (bx fun avs => R (pack avs) s'.gen s'.obj)
  | _, _ => False

/-- A function, by its body's abstract code. -/
theorem fun_of_wpR (B : Nat) (hT : TabOk P T) (hm : P.follows .mixedOrders = true) {f : FuncId} {fn : Func} {c : Code} (hf : P.funcs[f]? = some fn) (hb : fn.body = some c) (hn : (fn.name == "runtime.NumGoroutine") = false)
    (rs : List ResultVar) (hres : fn.results = rs.toArray) (hok : codeOk fn.ntmps c = true) {xs : List AV} (hargs : xs.length ≤ fn.ntmps) {g : Nat → Nat} {ob : Obs} {R : AV → (Nat → Nat) → Obs → Prop}
    (h : wpC (spB P B) T c (bx (RetFR T rs R)) ⟨initF xs, g, ob⟩) : FunR P f xs g ob R := by
  refine ⟨⟨fn, hf, by rw [hb]; rfl, hn⟩, fun b₀ N β a fa w vs hr0 hv => ?_⟩
  refine calls_of_wp hf hb ?_
  have hl := hv.len
  have hr : Rel b₀ fn.ntmps ⟨initF xs, g, ob⟩ β { tmps := vs.toArray ++ Array.replicate (fn.ntmps - vs.toArray.size) undef, defers := [] } w := by
    refine ⟨rfl, by simp; omega, fun i => ?_, hr0.obj, hr0.inj, hr0.base⟩
    simp only [initF]
    cases hx : xs[i]? with
    | some x =>
      obtain ⟨v, h1, h2⟩ := hv.get hx
      have hlt : i < vs.length := (List.getElem?_eq_some_iff.1 h1).1
      have : (vs.toArray ++ Array.replicate (fn.ntmps - vs.toArray.size) undef).getD i undef = v := by
        rw [Array.getD_eq_getD_getElem?, Array.getElem?_append_left (by simpa using hlt)]
        simp [h1]
      rw [this]
      simpa only [Option.getD_some] using h2
    | none =>
      have hge : xs.length ≤ i := by simpa using hx
      have : (vs.toArray ++ Array.replicate (fn.ntmps - vs.toArray.size) undef).getD i undef = undef := by
        rw [Array.getD_eq_getD_getElem?, Array.getElem?_append_right (by simp; omega)]
        simp [Array.getElem?_replicate]
        split <;> rfl
      rw [this]
      exact undefRep
  refine wp_mono (wpC_sound (B := B) hT hm c hok hr h) (fun e a' w' hp => ?_)
  obtain ⟨s', β', hQ, hr', ht⟩ := hp
  have hres' : RetFR T rs R .ret s' → ∃ v, (results fn a'.tmps).run P w' = .ok v w' ∧ ∃ v' r g' ob' β', Ending.returned v = .returned v' ∧ R r g' ob' ∧ RepV b₀ β' g' ob' w' r v' ∧
      (∀ id cells, ob' id = some cells → ObjAt b₀ β' g' ob' w' (g' id) cells (β' id)) ∧ (∀ id id' a a', (ob' id).isSome = true → (ob' id').isSome = true → β' id = some a → β' id' = some a' → a.block = a'.block → id = id') ∧
      Tr b₀ β ⟨fa, g, ob⟩ w β' ⟨fa, g', ob'⟩ w' := by
    rintro ⟨s2, hvs, hR⟩
    obtain ⟨β2, hr2, ht2⟩ := hvs b₀ fn.ntmps β' a' w' hr'
    have hta := ht.trans ht2
    obtain ⟨v, avs, h1, h2, h3, _⟩ := evalR_results hT hr2 hres hR
    exact ⟨v, h1, v, _, _, _, β2, rfl, h2, h3, hr2.obj, hr2.inj, ⟨hta.size, hta.old, hta.keep, hta.os⟩⟩
  cases e with
  | normal => exact ⟨hr'.defers, hres' hQ⟩
  | ret => exact ⟨hr'.defers, hres' hQ⟩
  | exit id => exact hQ.elim
  | goto l => exact hQ.elim
  | panic ch => exact hQ.elim
  | outgrown => exact hQ.elim

/-- Frozen results. -/
def FrzR (s : St) : List AV → AV → Prop
  | [t], r => FrzV s t r
  | ts, r => ∃ rs, FrzVs s ts rs ∧ r = .tup rs

theorem FrzR.rep {N : Nat} {s : St} {a : Act} (hr : Rel b₀ N s β a w) : ∀ {ts : List AV} {r : AV} {vs : List Value}, FrzR s ts r → RepVs b₀ β s.gen s.obj w ts vs → RV (Own b₀ w) w r (packV vs) := by
  have hmany : ∀ (ts rs : List AV) (vs : List Value), FrzVs s ts rs → RepVs b₀ β s.gen s.obj w ts vs → RVs (Own b₀ w) w rs vs := by
    intro ts
    induction ts with
    | nil => intro rs vs h hv; simp only [FrzVs] at h; simp only [RepVs] at hv; subst h hv; simp only [RVs]
    | cons t ts ih =>
      intro rs vs h hv
      simp only [FrzVs] at h
      simp only [RepVs] at hv
      obtain ⟨r, rs', rfl, h1, h2⟩ := h
      obtain ⟨u, us, rfl, h3, h4⟩ := hv
      simp only [RVs]
      exact ⟨_, _, rfl, h1.rep hr h3, ih _ _ h2 h4⟩
  intro ts r vs h hv
  match ts, h with
  | [], ⟨rs, h1, h2⟩ =>
    subst h2
    have := hmany _ _ _ h1 hv
    simp only [RepVs] at hv
    subst hv
    simp only [RV, packV]; exact ⟨_, rfl, this⟩
  | [t], h =>
    simp only [RepVs] at hv
    obtain ⟨u, us, rfl, h1, rfl⟩ := hv
    exact FrzV.rep hr h h1
  | t :: t' :: ts, ⟨rs, h1, h2⟩ =>
    subst h2
    have := hmany _ _ _ h1 hv
    simp only [RepVs] at hv
    obtain ⟨u, us, rfl, _, u', us', rfl, _, _⟩ := hv
    simp only [RV, packV]; exact ⟨_, rfl, this⟩

/-- At a function's end: R of its results. -/
def RetQR (T : Nat → TI) (rs : List ResultVar) (R : AV → Prop) : Exit → St → Prop
  | .normal, s | .ret, s => evalR T s rs (bx fun avs => ∃ r, FrzR s avs r ∧ R r)
  | _, _ => False

theorem pure_of_wpR (hT : TabOk P T) (hm : P.follows .mixedOrders = true) {f : FuncId} {fn : Func} {c : Code} (hf : P.funcs[f]? = some fn) (hb : fn.body = some c) (hn : (fn.name == "runtime.NumGoroutine") = false)
    (rs : List ResultVar) (hres : fn.results = rs.toArray) (hok : codeOk fn.ntmps c = true) {args : List AV} (hargs : args.length ≤ fn.ntmps) {R : AV → Prop}
    (h : ∀ g, wpC (sp P) T c (bx (RetQR T rs R)) ⟨initF args, g, fun _ => none⟩) : PureR P f args R := by
  refine ⟨⟨fn, hf, by rw [hb]; rfl, hn⟩, fun J w vs hJ hv => ?_⟩
  refine calls_of_wp hf hb ?_
  have hlen : ∀ (l : List AV) (vs : List Value), RVs J w l vs → vs.length = l.length := by
    intro l
    induction l with
    | nil => intro vs h; simp only [RVs] at h; subst h; rfl
    | cons x l ih => intro vs h; simp only [RVs] at h; obtain ⟨u, us, rfl, _, h⟩ := h; simp [ih us h]
  have hl := hlen _ _ hv
  let J' : Nat → Prop := J
  have hr : Rel ⟨w.heap.size, J'⟩ fn.ntmps ⟨initF args, fun _ => 0, fun _ => none⟩ (fun _ => none) { tmps := vs.toArray ++ Array.replicate (fn.ntmps - vs.toArray.size) undef, defers := [] } w := by
    refine ⟨rfl, by simp; omega, fun i => ?_, fun id cells ho => (by cases ho), fun id id' a a' ho => (by cases ho), Nat.le_refl _⟩
    have hget : ∀ (l : List AV) (vs : List Value), RVs J w l vs → ∀ (i : Nat) (x : AV), l[i]? = some x → ∃ v, vs[i]? = some v ∧ RV J w x v := by
      intro l
      induction l with
      | nil => intro vs _ i x h; simp at h
      | cons y l ih =>
        intro vs h i x hx
        simp only [RVs] at h
        obtain ⟨u, us, rfl, h1, h2⟩ := h
        cases i with
        | zero => simp at hx; subst hx; exact ⟨u, rfl, h1⟩
        | succ i => simpa using ih us h2 i x (by simpa using hx)
    simp only [initF]
    cases hx : args[i]? with
    | some x =>
      obtain ⟨v, h1, h2⟩ := hget _ _ hv i x hx
      have hlt : i < vs.length := (List.getElem?_eq_some_iff.1 h1).1
      have : (vs.toArray ++ Array.replicate (fn.ntmps - vs.toArray.size) undef).getD i undef = v := by
        rw [Array.getD_eq_getD_getElem?, Array.getElem?_append_left (by simpa using hlt)]
        simp [h1]
      rw [this]
      simp only [Option.getD_some]
      exact RV.rep x (RV.mono (fun b hb => ⟨⟨hJ b hb, fun _ => hb, fun id a ho => by cases ho⟩, rfl⟩) x h2)
    | none =>
      have hge : args.length ≤ i := by simpa using hx
      have : (vs.toArray ++ Array.replicate (fn.ntmps - vs.toArray.size) undef).getD i undef = undef := by
        rw [Array.getD_eq_getD_getElem?, Array.getElem?_append_right (by simp; omega)]
        simp [Array.getElem?_replicate]
        split <;> rfl
      rw [this]
      exact undefRep
  refine wp_mono (wpC_sound hT hm c hok hr (h _)) (fun e a' w' hp => ?_)
  obtain ⟨s', β', hQ, hr', ht⟩ := hp
  have hres' : RetQR T rs R .ret s' → ∃ v, (results fn a'.tmps).run P w' = .ok v w' ∧ ∃ r, R r ∧ RV (Own ⟨w.heap.size, J'⟩ w') w' r v := by
    intro hQ
    obtain ⟨v, avs, h1, ⟨r, h2, h3⟩, _, vs', rfl, h4⟩ := evalR_results hT hr' hres hQ
    exact ⟨_, h1, r, h3, h2.rep hr' h4⟩
  cases e with
  | normal =>
    obtain ⟨v, h1, r, h2, h3⟩ := hres' hQ
    exact ⟨hr'.defers, v, h1, v, r, rfl, h2, ht.size, fun b hb => ht.old b hb, ht.os, h3⟩
  | ret =>
    obtain ⟨v, h1, r, h2, h3⟩ := hres' hQ
    exact ⟨hr'.defers, v, h1, v, r, rfl, h2, ht.size, fun b hb => ht.old b hb, ht.os, h3⟩
  | exit id => exact hQ.elim
  | goto l => exact hQ.elim
  | panic ch => exact hQ.elim
  | outgrown => exact hQ.elim

end

@[go_sem] theorem evalR_nil {T : Nat → TI} {s : St} {K : List AV → Prop} {k : Box K} : evalR T s [] k = K [] := Eq.trans rfl rfl
@[go_sem] theorem evalR_tmp {T : Nat → TI} {s : St} {t : Nat} {r : List ResultVar} {K : List AV → Prop} {k : Box K} : evalR T s (.tmp t :: r) k = evalR T s r (bx fun vs => K (s.f t :: vs)) := Eq.trans rfl rfl
@[go_sem] theorem evalR_cell {T : Nat → TI} {s : St} {a ty : Nat} {r : List ResultVar} {K : List AV → Prop} {k : Box K} : evalR T s (.cell a ty :: r) k = loadA (T ty) s (s.f a) (bx fun v => evalR T s r (bx fun vs => K (v :: vs))) := Eq.trans rfl rfl
@[go_sem] theorem RetQR_ret {T : Nat → TI} {rs : List ResultVar} {R : AV → Prop} {s : St} : RetQR T rs R .ret s = evalR T s rs (bx fun avs => ∃ r, FrzR s avs r ∧ R r) := Eq.trans rfl rfl
@[go_sem] theorem RetQR_normal {T : Nat → TI} {rs : List ResultVar} {R : AV → Prop} {s : St} : RetQR T rs R .normal s = evalR T s rs (bx fun avs => ∃ r, FrzR s avs r ∧ R r) := Eq.trans rfl rfl
@[go_sem] theorem frzR_one {s : St} {t r : AV} : FrzR s [t] r = FrzV s t r := Eq.trans rfl rfl

/-- Rows of plain data. -/
theorem frz_rows {α : Type} {s : St} {id g sz n : Nat} {cells : List C} (hg : s.gen id = g) (l : List α) (enc : α → List D) (ho : s.obj id = some cells) (hc : cells = l.flatMap (fun a => (enc a).map .d)) (hn : ∀ a ∈ l, ∀ x ∈ enc a, normD x = x) (hs : ∀ a ∈ l, (enc a).length = sz) (hl : l.length = n) :
    Frz s (.osl id g sz 0 n) (.sl (l.map enc)) := by
  have hfl : cells = (l.map enc).flatten.map .d := by rw [hc]; clear hn hs hl hc ho; induction l with | nil => rfl | cons a l ih => simp [ih]
  have hlen : cells.length = n * sz := by
    rw [hfl, List.length_map]
    clear hfl hc hn ho
    subst hl
    induction l with
    | nil => simp
    | cons a l ih =>
      simp only [List.map_cons, List.flatten_cons, List.length_append, List.length_cons, hs a (by simp), ih (fun b hb => hs b (by simp [hb]))]
      rw [Nat.add_mul]; omega
  refine .osl hg ho (by omega) (by simpa using hl) (fun e he => by obtain ⟨a, ha, rfl⟩ := List.mem_map.1 he; exact hs a ha) (fun j => (cells[0 + j]?).getD (.d .nsl)) (fun j x hx => ?_) (fun j x hx => ?_)
  · rw [hfl, Nat.zero_add, List.getElem?_map, hx]; rfl
  · rw [hfl, Nat.zero_add, List.getElem?_map, hx]
    simp only [Option.map_some, Option.getD_some]
    have hxn : normD x = x := by
      have hm := List.mem_of_getElem? hx
      obtain ⟨e, he, hxe⟩ := List.mem_flatten.1 hm
      obtain ⟨a, ha, rfl⟩ := List.mem_map.1 he
      exact hn a ha x hxe
    have := Frz.d (s := s) x
    rwa [hxn] at this

end Go.Am

namespace Go.Am

/-- The same memory, but for blocks of deferred calls that no object lies in. -/
structure Shut (b₀ : Bs) (β : Loc) (ob : Obs) (n₀ : Nat) (w w' : World) : Prop where
  size : w'.heap.size = w.heap.size
  os : w'.os = w.os ∧ w'.output = w.output
  same : ∀ b, w'.heap[b]? = w.heap[b]? ∨ (n₀ ≤ b ∧ Imm b₀ β ob w b ∧ (∃ x, w.heap[b]? = some (.deferred x)) ∧ ∃ x, w'.heap[b]? = some (.deferred x))

section
variable {P : Program} {T : Nat → TI} {b₀ : Bs} {β : Loc} {g : Nat → Nat} {ob : Obs} {n₀ : Nat} {w w' : World}

theorem Shut.refl : Shut b₀ β ob n₀ w w := ⟨rfl, ⟨rfl, rfl⟩, fun _ => .inl rfl⟩
theorem Shut.trans {w'' : World} (h : Shut b₀ β ob n₀ w w') (h' : Shut b₀ β ob n₀ w' w'') : Shut b₀ β ob n₀ w w'' := by
  refine ⟨h'.size.trans h.size, ⟨h'.os.1.trans h.os.1, h'.os.2.trans h.os.2⟩, fun b => ?_⟩
  rcases h.same b with e | ⟨e1, e2, e3, e4⟩
  · rcases h'.same b with e' | ⟨e1', e2', e3', e4'⟩
    · exact .inl (e'.trans e)
    · exact .inr ⟨e1', by unfold Imm at *; rw [h.size] at e2'; exact e2', by rw [← e]; exact e3', e4'⟩
  · rcases h'.same b with e' | ⟨e1', e2', e3', e4'⟩
    · exact .inr ⟨e1, e2, e3, by rw [e']; exact e4⟩
    · exact .inr ⟨e1, e2, e3, e4'⟩

theorem Shut.cell (h : Shut b₀ β ob n₀ w w') {a : Addr} {v : Value} (hc : w.cell? a = some v) : w'.cell? a = some v := by
  rcases h.same a.block with e | ⟨_, _, ⟨x, e⟩, _⟩
  · rw [cell?_of_heap e]; exact hc
  · simp [World.cell?, e] at hc

theorem Shut.imm (h : Shut b₀ β ob n₀ w w') {b : Nat} (hb : Imm b₀ β ob w b) : Imm b₀ β ob w' b := by unfold Imm at *; rw [h.size]; exact hb

theorem RepD.shut {J J' : Nat → Prop} {x : D} {v : Value} (h : RepD J w x v) (hJ : ∀ b, J b → J' b) (hc : ∀ a v, w.cell? a = some v → w'.cell? a = some v) : RepD J' w' x v := by
  induction h with
  | bool b => exact .bool b
  | int k n => exact .int k n
  | str s => exact .str s
  | nsl => exact .nsl
  | nilp => exact .nilp
  | nilf => exact .nilf
  | nili => exact .nili
  | nilm => exact .nilm
  | fn f => exact .fn f
  | yld l => exact .yld l
  | sl0 => exact .sl0
  | sl vals hcap hj hsz hcl hr ih => exact .sl vals hcap (fun h => hJ _ (hj h)) hsz (fun i e he j x hx => hc _ _ (hcl i e he j x hx)) ih
  | iptr vals hj hcl hr ih => exact .iptr vals (fun h => hJ _ (hj h)) (fun j x hx => hc _ _ (hcl j x hx)) ih

theorem RepPC.shut (h : Shut b₀ β ob n₀ w w') {c : PC} {v : Value} (hr : RepPC b₀ β g ob w c v) : RepPC b₀ β g ob w' c v := by
  cases c with
  | d x => exact RepD.shut hr (fun _ => h.imm) (fun _ _ => h.cell)
  | ptr id g1 off => exact hr

theorem RepC.shut (h : Shut b₀ β ob n₀ w w') {c : C} {v : Value} (hr : RepC b₀ β g ob w c v) : RepC b₀ β g ob w' c v := by
  cases c with
  | d x => exact RepD.shut hr (fun _ => h.imm) (fun _ _ => h.cell)
  | osl id g1 sz off len =>
    obtain ⟨h1, h2, h3⟩ := hr
    refine ⟨h1, h2, fun hg ho => ?_⟩
    have h4 := h3 hg ho
    cases hβ : β id with
    | none => rw [hβ] at h4; exact h4
    | some a =>
      rw [hβ] at h4
      obtain ⟨h5, h6⟩ := h4
      refine ⟨h5, ?_⟩
      rcases h6 with ⟨cap, q1, q2, q3⟩ | h6
      · refine .inl ⟨cap, q1, q2, fun arr el fr hh => ?_⟩
        rcases h.same a.block with e | ⟨_, _, _, ⟨x, e⟩⟩
        · exact q3 arr el fr (by rw [← e]; exact hh)
        · rw [e] at hh; cases hh
      · exact .inr h6
  | ptr id g1 off => exact hr
  | clo f caps =>
    obtain ⟨vs, h1, h2, h3⟩ := hr
    exact ⟨vs, h1, h2, fun i pc hp => let ⟨u, hu, hr⟩ := h3 i pc hp; ⟨u, hu, hr.shut h⟩⟩
  | mp id g1 kd => exact hr
  | lsl n => exact hr
  | raw o => exact hr

theorem RepCs.shut (h : Shut b₀ β ob n₀ w w') {cs : List C} {vs : Array Value} (hr : RepCs b₀ β g ob w cs vs) : RepCs b₀ β g ob w' cs vs :=
  ⟨hr.1, fun i c hc => let ⟨u, hu, hr⟩ := hr.2 i c hc; ⟨u, hu, hr.shut h⟩⟩

mutual
theorem RepV.shut (h : Shut b₀ β ob n₀ w w') : (x : AV) → {v : Value} → RepV b₀ β g ob w x v → RepV b₀ β g ob w' x v
  | .one _, _, hr => by simp only [RepV] at hr ⊢; exact RepC.shut h hr
  | .agg _, _, hr => by simp only [RepV] at hr ⊢; obtain ⟨vs, h1, h2⟩ := hr; exact ⟨vs, h1, h2.shut h⟩
  | .tup ts, _, hr => by simp only [RepV] at hr ⊢; obtain ⟨vs, h1, h2⟩ := hr; exact ⟨vs, h1, RepVs.shut h ts h2⟩
  | .junk, _, _ => by simp only [RepV]
theorem RepVs.shut (h : Shut b₀ β ob n₀ w w') : (x : List AV) → {v : List Value} → RepVs b₀ β g ob w x v → RepVs b₀ β g ob w' x v
  | [], _, hr => by simp only [RepVs] at hr ⊢; exact hr
  | t :: ts, _, hr => by simp only [RepVs] at hr ⊢; obtain ⟨u, us, h1, h2, h3⟩ := hr; exact ⟨u, us, h1, RepV.shut h t h2, RepVs.shut h ts h3⟩
end

theorem Rel.shut {N : Nat} {s : St} {a : Act} (hr : Rel b₀ N s β a w) (h : Shut b₀ β s.obj n₀ w w') : Rel b₀ N s β a w' := by
  refine ⟨hr.defers, hr.size, fun i => RepV.shut h _ (hr.f i), fun id cells ho => ?_, hr.inj, by rw [h.size]; exact hr.base⟩
  have h1 := hr.obj id cells ho
  cases hβ : β id with
  | none => rw [hβ] at h1; exact h1
  | some ad =>
    rw [hβ] at h1
    have he : w'.heap[ad.block]? = w.heap[ad.block]? := by
      rcases h.same ad.block with e | ⟨_, e, _⟩
      · exact e
      · exact absurd rfl (e.2.2 id ad (by simp [ho]) hβ)
    cases hs : ad.spot with
    | none =>
      obtain ⟨h2, arr, el, lo, hi, h3, h4, h5, h6⟩ := h1.cells hs
      exact .ofCells hs ⟨h2, arr, el, lo, hi, by rw [he]; exact h3, h4, h5, fun j c hc => let ⟨v, hv, hr⟩ := h6 j c hc; ⟨v, hv, hr.shut h⟩⟩
    | some kd =>
      obtain ⟨h2, ⟨es, clock, h3, h4⟩ | ⟨hk100, o, h3, h4⟩⟩ := h1.map hs
      · exact .ofMap hs ⟨h2, .inl ⟨es, clock, by rw [he]; exact h3, h4.mono fun _ _ => RepC.shut h⟩⟩
      · exact .ofMap hs ⟨h2, .inr ⟨hk100, o, h3, by rw [he]; exact h4⟩⟩

theorem Mk.put {D : Nat} {o : Obj} : ∀ {ds : List Deferred}, Mk b₀ β ob w n₀ ds → (∀ d' ∈ ds, d' ≠ { target := .collected D, args := #[] }) → Mk b₀ β ob (w.putObj D o) n₀ ds
  | [], _, _ => trivial
  | d :: ds, hm, hne => by
    obtain ⟨⟨E, h1, h2, h3, h4, h5⟩, hr⟩ := hm
    have hE : E ≠ D := fun he => hne d (by simp) (by rw [h1, he])
    exact ⟨⟨E, h1, h2, by unfold Imm at *; simpa using h3, by rw [World.putObj_heap_other hE]; exact h4, h5⟩, hr.put (fun d' hd' => hne d' (by simp [hd']))⟩

/-- An activation's marks are taken up. -/
theorem leaves_marks {fn : Func} {tmps : Array Value} {R : Ending → World → Prop} : ∀ {ds : List Deferred} {w : World}, Mk b₀ β ob w n₀ ds →
    (∀ w5, Shut b₀ β ob n₀ w w5 → ∃ v, (results fn tmps).run P w5 = .ok v w5 ∧ R (.returned v) w5) → LeavesInM (fen none) 0 P fn tmps R ds .returning w
  | [], w, _, h => h w .refl
  | d :: ds, w, hm, h => by
    obtain ⟨⟨D, h1, h2, h3, h4, h5⟩, hr⟩ := hm
    refine ⟨by simp, .inl ⟨D, _, by rw [h1], run_takeDeferred h4, ?_⟩⟩
    have hlt : D < w.heap.size := h3.1
    have hsh : Shut b₀ β ob n₀ w (w.putObj D (.deferred none)) := ⟨by simp, ⟨rfl, rfl⟩, fun b => by
      by_cases hb : b = D
      · subst hb
        exact .inr ⟨h2, h3, ⟨_, h4⟩, ⟨none, World.putObj_heap_same hlt⟩⟩
      · exact .inl (World.putObj_heap_other hb)⟩
    exact leaves_marks (hr.put (fun d' hd' => by rw [← h1]; exact h5 d' hd')) (fun w5 h6 => h w5 (hsh.trans h6))

/-- A function that hands back data, and may hold loops over functions. -/
theorem pure_of_wpRF (B : Nat) (hT : TabOk P T) {f : FuncId} {fn : Func} {c : Code} (hf : P.funcs[f]? = some fn) (hb : fn.body = some c) (hn : (fn.name == "runtime.NumGoroutine") = false)
    (rs : List ResultVar) (hres : fn.results = rs.toArray) (hcm : calm c = true) (hok : codeOk fn.ntmps c = true) {args : List AV} (hargs : args.length ≤ fn.ntmps) {R : AV → Prop}
    (h : ∀ b₀ β0 s0 w0 g, wpC (spF P none b₀ (PhiC b₀ β0 s0 w0) B noPan) T c (bx (RetQR T rs R)) ⟨initF args, g, fun _ => none⟩) : PureR P f args R := by
  refine ⟨⟨fn, hf, by rw [hb]; rfl, hn⟩, fun J w vs hJ hv => ?_⟩
  refine calls_of_fen (n := 0) (callsIn_of_wp_marks hf hb trivial ?_)
  have hlen : ∀ (l : List AV) (vs : List Value), RVs J w l vs → vs.length = l.length := by
    intro l
    induction l with
    | nil => intro vs h; simp only [RVs] at h; subst h; rfl
    | cons x l ih => intro vs h; simp only [RVs] at h; obtain ⟨u, us, rfl, _, h⟩ := h; simp [ih us h]
  have hl := hlen _ _ hv
  let J' : Nat → Prop := J
  have hr : Rel ⟨w.heap.size, J'⟩ fn.ntmps ⟨initF args, fun _ => 0, fun _ => none⟩ (fun _ => none) { tmps := vs.toArray ++ Array.replicate (fn.ntmps - vs.toArray.size) undef, defers := [] } w := by
    refine ⟨rfl, by simp; omega, fun i => ?_, fun id cells ho => (by cases ho), fun id id' a a' ho => (by cases ho), Nat.le_refl _⟩
    have hget : ∀ (l : List AV) (vs : List Value), RVs J w l vs → ∀ (i : Nat) (x : AV), l[i]? = some x → ∃ v, vs[i]? = some v ∧ RV J w x v := by
      intro l
      induction l with
      | nil => intro vs _ i x h; simp at h
      | cons y l ih =>
        intro vs h i x hx
        simp only [RVs] at h
        obtain ⟨u, us, rfl, h1, h2⟩ := h
        cases i with
        | zero => simp at hx; subst hx; exact ⟨u, rfl, h1⟩
        | succ i => simpa using ih us h2 i x (by simpa using hx)
    simp only [initF]
    cases hx : args[i]? with
    | some x =>
      obtain ⟨v, h1, h2⟩ := hget _ _ hv i x hx
      have hlt : i < vs.length := (List.getElem?_eq_some_iff.1 h1).1
      have : (vs.toArray ++ Array.replicate (fn.ntmps - vs.toArray.size) undef).getD i undef = v := by
        rw [Array.getD_eq_getD_getElem?, Array.getElem?_append_left (by simpa using hlt)]
        simp [h1]
      rw [this]
      simp only [Option.getD_some]
      exact RV.rep x (RV.mono (fun b hb => ⟨⟨hJ b hb, fun _ => hb, fun id a ho => by cases ho⟩, rfl⟩) x h2)
    | none =>
      have hge : args.length ≤ i := by simpa using hx
      have : (vs.toArray ++ Array.replicate (fn.ntmps - vs.toArray.size) undef).getD i undef = undef := by
        rw [Array.getD_eq_getD_getElem?, Array.getElem?_append_right (by simp; omega)]
        simp [Array.getElem?_replicate]
        split <;> rfl
      rw [this]
      exact undefRep
  refine wpIn_mono (wpC_soundF (rd := none) (B := B) (ds := []) hT kept_phiC c hcm hok hr ⟨Tr.refl, trivial⟩ (h _ _ _ w _)) (fun e a' w' hp => ?_)
  obtain ⟨s', β', a0, ds', rfl, hQ, hr', ht, hmk⟩ := hp.plain
  have hres' : RetQR T rs R .ret s' → bodyPostM (fen none) 0 P fn (fun e w' => ∃ v r, e = .returned v ∧ R r ∧ w.heap.size ≤ w'.heap.size ∧ (∀ b, b < w.heap.size → w'.heap[b]? = w.heap[b]?) ∧ (w'.os = w.os ∧ w'.output = w.output) ∧ RV (Own ⟨w.heap.size, J'⟩ w') w' r v) .ret { a0 with defers := ds' } w' := by
    intro hQ
    refine leaves_marks hmk (fun w5 h5 => ?_)
    obtain ⟨v, avs, h1, ⟨r, h2, h3⟩, _, vs', rfl, h4⟩ := evalR_results hT (hr'.shut h5) hres hQ
    refine ⟨_, h1, _, r, rfl, h3, by rw [h5.size]; exact ht.size, fun b hb => ?_, ⟨h5.os.1.trans ht.os.1, h5.os.2.trans ht.os.2⟩, h2.rep (hr'.shut h5) h4⟩
    rcases h5.same b with e | ⟨e, _⟩
    · rw [e]; exact ht.old b hb
    · omega
  cases e with
  | normal => exact hres' hQ
  | ret => exact hres' hQ
  | exit id => exact hQ.elim
  | goto l => exact hQ.elim
  | panic ch => exact hQ.elim
  | outgrown => exact hQ.elim

end
end Go.Am

namespace Go.Am
section
variable {P : Program} {T : Nat → TI} {b₀ : Bs} {β : Loc} {w : World}

theorem scArgs_eq {g : Nat → Nat} {ob : Obs} : ∀ {xs : List AV} {vs : List Value}, (xs.all fun x => match x with | .one c => scalarC c | _ => false) = true → RepVs b₀ β g ob w xs vs → vs = xs.map scVal
  | [], vs, _, h => by simp only [RepVs] at h; exact h
  | x :: xs, vs, hs, h => by
    simp only [RepVs] at h
    obtain ⟨u, us, rfl, h1, h2⟩ := h
    simp only [List.all_cons, Bool.and_eq_true] at hs
    rw [List.map_cons, ← scArgs_eq hs.2 h2]
    congr 1
    cases x with
    | one c =>
      simp only [RepV] at h1
      simp only [scVal]
      cases c with
      | d x => simp only [RepC] at h1; exact RepD.scalar hs.1 h1
      | _ => simp [scalarC] at hs
    | _ => simp at hs

/-- A call of a function without a body, that reads no memory. -/
theorem hook_extern {o : Oper} {s : St} {K : St → Prop} {k : Box K} {B : Nat} {f : FuncId} {args : Array Operand} {tys : Array TypeId} (ho : o.op = .call ⟨.value (.func f), args, tys⟩)
    (hs : ((args.toList.map s.ev).all fun x => match x with | .one c => scalarC c | _ => false) = true) {x : D} (hx : scalarD x = true)
    (hrun : ∀ w : World, (callFunc f ((args.toList.map s.ev).map scVal).toArray).run P w = .ok (.value (scD x)) w) (hk : K (s.put o.dst (.one (.d x)))) : hookA (spB P B) o s k := by
  refine ⟨fun s' => s' = s.put o.dst (.one (.d x)), fun b₀ N β a w hr hd next Q hn => ?_, fun _ e => e ▸ hk⟩
  have hv := scArgs_eq hs (args_rep hr args.toList)
  have h := hrun w
  rw [← hv, show (args.toList.map a.eval).toArray = args.map a.eval from Array.ext' (by simp)] at h
  have hex : (execOp a.eval o).run P w = .ok (.value (scD x)) w := by
    simp [execOp, ho, resolve, Act.eval, Deferred.ofValue, invoke]
    exact h
  exact wp_value hex (hn _ β _ w rfl (hr.put hd (by simp only [RepV, RepC]; exact scD_rep hx)) (Tr.same (St.put_gen _ _ _) (St.put_obj _ _ _) rfl))

theorem hook_usd_nil {o : Oper} {s : St} {K : St → Prop} {k : Box K} {B : Nat} {x : Operand} {tys : Array TypeId} (ho : o.op = .call ⟨.builtin .unsafeSliceData, #[x], tys⟩) (hx : s.ev x = .one (.d .nsl)) (hk : K (s.put o.dst (.one (.d .nilp)))) : hookA (spB P B) o s k := by
  refine ⟨fun s' => s' = s.put o.dst (.one (.d .nilp)), fun b₀ N β a w hr hd next Q hn => ?_, fun _ e => e ▸ hk⟩
  have hv := hr.ev x
  rw [hx] at hv
  simp only [RepV, RepC] at hv
  have hv := hv.inv_nsl
  have hex : (execOp a.eval o).run P w = .ok (.value (.pointer none)) w := by
    simp [execOp, ho, resolve, invoke, hv, builtin, Lib.run_unsafeSliceData_nil]
  exact wp_value hex (hn _ β _ w rfl (hr.put hd (by simp only [RepV, RepC]; exact .nilp)) (Tr.same (St.put_gen _ _ _) (St.put_obj _ _ _) rfl))

theorem hook_usd {o : Oper} {s : St} {K : St → Prop} {k : Box K} {B : Nat} {x : Operand} {tys : Array TypeId} (ho : o.op = .call ⟨.builtin .unsafeSliceData, #[x], tys⟩) {id g off len : Nat} (hx : s.ev x = .one (.osl id g 1 off len)) (hg : s.gen id = g) (hob : (s.obj id).isSome = true) (hl : 0 < len)
    (hk : K (s.put o.dst (.one (.ptr id g off)))) : hookA (spB P B) o s k := by
  refine ⟨fun s' => s' = s.put o.dst (.one (.ptr id g off)), fun b₀ N β a w hr hd next Q hn => ?_, fun _ e => e ▸ hk⟩
  have hv := hr.ev x
  rw [hx] at hv
  simp only [RepV, RepC] at hv
  obtain ⟨_, hle, hat⟩ := hv
  have hat := hat hg hob
  cases hβ : β id with
  | none => rw [hβ] at hat; have := hat.1; omega
  | some ad =>
    rw [hβ] at hat
    obtain ⟨hsp, ⟨cap, hv, hc, _⟩ | ⟨h0, _⟩⟩ := hat
    · have hex : (execOp a.eval o).run P w = .ok (.value (.pointer (some ⟨ad.block, ad.off + off, none⟩))) w := by
        have := Lib.run_unsafeSliceData_row (P := P) (w := w) tys o.type ⟨ad.block, ad.off + off, none⟩ len cap (by omega)
        simp [execOp, ho, resolve, invoke, hv, builtin, this]
      refine wp_value hex (hn _ β _ w rfl (hr.put hd ?_) (Tr.same (St.put_gen _ _ _) (St.put_obj _ _ _) rfl))
      simp only [RepV, RepC]
      exact ⟨rfl, hle, fun _ _ => ⟨ad, hβ, hsp, rfl⟩⟩
    · omega

theorem hook_ustr_nil {o : Oper} {s : St} {K : St → Prop} {k : Box K} {B : Nat} {p n : Operand} {t1 t2 : TypeId} (ho : o.op = .call ⟨.builtin .unsafeString, #[p, n], #[t1, t2]⟩) (hp : s.ev p = .one (.d .nilp)) (hn0 : s.ev n = iv .i64 0) (hk : K (s.put o.dst (sv []))) : hookA (spB P B) o s k := by
  refine ⟨fun s' => s' = s.put o.dst (sv []), fun b₀ N β a w hr hd next Q hn => ?_, fun _ e => e ▸ hk⟩
  have hv := hr.ev p
  have hw := hr.ev n
  rw [hp] at hv
  rw [hn0] at hw
  simp only [RepV, RepC] at hv hw
  have hw := hw.inv_int
  have hv : a.eval p = .pointer none := by generalize a.eval p = v at hv; cases hv; rfl
  have hex : (execOp a.eval o).run P w = .ok (.value (.string .empty)) w := by
    simp [execOp, ho, resolve, invoke, hv, hw, builtin, Lib.run_unsafeString_none]
  refine wp_value hex (hn _ β _ w rfl (hr.put hd ?_) (Tr.same (St.put_gen _ _ _) (St.put_obj _ _ _) rfl))
  simp only [RepV, RepC]
  exact .str []

theorem freeze_size (w : World) (a : Addr) (n : Nat) : (w.freeze a n).heap.size = w.heap.size := by unfold World.freeze; split <;> simp
theorem freeze_os (w : World) (a : Addr) (n : Nat) : (w.freeze a n).os = w.os ∧ (w.freeze a n).output = w.output := by unfold World.freeze; split <;> exact ⟨rfl, rfl⟩
theorem freeze_other (w : World) (a : Addr) (n : Nat) {b : Nat} (hb : b ≠ a.block) : (w.freeze a n).heap[b]? = w.heap[b]? := by
  unfold World.freeze
  split
  · rfl
  · simp only [Array.getElem?_modify]
    rw [if_neg (fun e => hb e.symm)]

/-- An object is given up, and its block turns. -/
theorem rel_gone {N : Nat} {s : St} {a : Act} (hr : Rel b₀ N s β a w) {id : Nat} {ad : Addr} (ho : (s.obj id).isSome = true) (hβ : β id = some ad) {w' : World} (hsz : w'.heap.size = w.heap.size) (hos : w'.os = w.os ∧ w'.output = w.output) (hoth : ∀ b, b ≠ ad.block → w'.heap[b]? = w.heap[b]?) :
    Rel b₀ N { s with obj := upd s.obj id none } β a w' ∧ Tr b₀ β s w β { s with obj := upd s.obj id none } w' := by
  have hB : b₀.B ≤ ad.block := by
    obtain ⟨cells, hc⟩ := Option.isSome_iff_exists.1 ho
    have := hr.obj id cells hc
    rw [hβ] at this
    exact this.block.1
  have hlive : ∀ i, (upd s.obj id none i).isSome = true → i ≠ id ∧ (s.obj i).isSome = true := fun i hi => by
    simp only [upd] at hi
    by_cases hid : i = id
    · simp [hid] at hi
    · rw [if_neg hid] at hi; exact ⟨hid, hi⟩
  have hne : ∀ i a', (upd s.obj id none i).isSome = true → β i = some a' → a'.block ≠ ad.block := fun i a' hi ha' hb => (hlive i hi).1 (hr.inj i id a' ad (hlive i hi).2 ho ha' hβ hb)
  have hkeep : Keep b₀ β s.gen s.obj w β s.gen (upd s.obj id none) w' := by
    refine ⟨fun b hb => ?_, fun _ => Nat.le_refl _, fun i _ hi => ?_⟩
    · have hnb : b ≠ ad.block := fun he => hb.2.2 id ad ho hβ he.symm
      exact ⟨⟨by rw [hsz]; exact hb.1, hb.2.1, fun i a' hi => hb.2.2 i a' (hlive i hi).2⟩, hoth b hnb⟩
    · refine ⟨(hlive i hi).2, rfl, fun a' ha' arr1 el1 fr1 h1 => ?_⟩
      rw [hoth _ (hne i a' hi ha')] at h1
      exact ⟨arr1, el1, fr1, h1, Nat.le_refl _⟩
  refine ⟨⟨hr.defers, hr.size, fun i => RepV.keep hkeep _ (hr.f i), fun i cells' hc' => ?_, fun i i' a1 a2 h1 h2 => hr.inj i i' a1 a2 (hlive i h1).2 (hlive i' h2).2, by rw [hsz]; exact hr.base⟩, by rw [hsz]; exact Nat.le_refl _, fun b hb => hoth b (by omega), hkeep, hos⟩
  have hi : (upd s.obj id none i).isSome = true := by
    have : upd s.obj id none i = some cells' := hc'
    rw [this]; rfl
  have hc'' : s.obj i = some cells' := by
    have h := hc'
    simp only [upd, if_neg (hlive i hi).1] at h
    exact h
  exact (hr.obj i cells' hc'').keep hkeep (fun a' ha' => hoth _ (hne i a' hi ha'))

theorem hook_ustr {o : Oper} {s : St} {K : St → Prop} {k : Box K} {B : Nat} {p n : Operand} {t1 t2 e : TypeId} (ho : o.op = .call ⟨.builtin .unsafeString, #[p, n], #[t1, t2]⟩) (ht : P.underlying t1 = some (.pointer e)) (hce : P.cellsOf e = 1) {id g : Nat} {l : List UInt8}
    (hp : s.ev p = .one (.ptr id g 0)) (hn0 : s.ev n = iv .i64 l.length) (hg : s.gen id = g) (hcode : code g = e + 1) {cells : List C} (hob : s.obj id = some cells) (hfit : cells.take l.length = l.map fun b => .d (byteD b)) (hl : l ≠ []) (h63 : l.length ≤ 9223372036854775807)
    (hk : K (St.put { s with obj := upd s.obj id none } o.dst (sv l))) : hookA (spB P B) o s k := by
  refine ⟨fun s' => s' = St.put { s with obj := upd s.obj id none } o.dst (sv l), fun b₀ N β a w hr hd next Q hn => ?_, fun _ e => e ▸ hk⟩
  have hv := hr.ev p
  have hw := hr.ev n
  rw [hp] at hv
  rw [hn0] at hw
  simp only [RepV, RepC] at hv hw
  have hw := hw.inv_int
  obtain ⟨ad, hβ, hsp, hv⟩ := hv.2.2 hg (by rw [hob]; rfl)
  have hobj := hr.obj id cells hob
  rw [hβ] at hobj
  obtain ⟨_, arr, el, lo, hi, hblk, ⟨_, hcl⟩, hlen, hcells⟩ := hobj.cells hsp
  rw [hg, hcode] at hcl
  obtain ⟨hel, hoff⟩ := hcl (by omega)
  have hel : el = e := Nat.add_right_cancel hel
  subst hel
  have hll : l.length ≤ cells.length := by
    have := congrArg List.length hfit
    simp at this
    omega
  have hrun := Lib.run_unsafeString_row (P := P) (w := w) t1 t2 o.type el ht hce ad.block (arr.size) (by simp [World.shape?, hblk]) l hl (by omega) h63 (fun j x hx => by
    have hjl := (List.getElem?_eq_some_iff.1 hx).1
    have hcj : cells[j]? = some (.d (byteD x)) := by
      have := congrArg (fun m : List C => m[j]?) hfit
      simp only [List.getElem?_take, hjl, if_true, List.getElem?_map, hx, Option.map_some] at this
      exact this
    obtain ⟨u, hu, hru⟩ := hcells j _ hcj
    simp only [RepC, byteD] at hru
    have hru := hru.inv_int
    rw [hoff, Nat.zero_add] at hu
    rw [addr_add, Nat.zero_add, cell?_of_arr hblk, hu, hru])
  have hex : (execOp a.eval o).run P w = .ok (.value (.string ⟨l.toArray⟩)) (w.freeze ⟨ad.block, 0, none⟩ l.length) := by
    rw [hoff] at hv
    simp [execOp, ho, resolve, invoke, hv, hw, builtin, hrun]
  obtain ⟨r1, t1⟩ := rel_gone hr (by rw [hob]; rfl) hβ (freeze_size w ⟨ad.block, 0, none⟩ l.length) (freeze_os _ _ _) (fun b hb => freeze_other w ⟨ad.block, 0, none⟩ l.length hb)
  refine wp_value hex (hn _ β _ _ rfl (r1.put hd ?_) (t1.trans (Tr.same (St.put_gen _ _ _) (St.put_obj _ _ _) rfl)))
  simp only [RepV, RepC]
  exact .str l

end
end Go.Am

namespace Go.Am

/-- Objects are given up, to which nothing that is wanted points. -/
theorem vs_drops {s : St} (p : Nat → Bool) : SemVs s ⟨s.f, s.gen, fun i => if p i = true then none else s.obj i⟩ := by
  refine vs_freeze (fun i => p i = true) rfl (fun i => .inl rfl) (fun i cells' hc => ?_)
  simp only at hc
  by_cases h : p i = true
  · rw [if_pos h] at hc; cases hc
  · rw [if_neg h] at hc
    exact ⟨h, cells', hc, rfl, fun j c c' e1 e2 => .inl (by rw [e1] at e2; exact (Option.some.inj e2).symm)⟩

theorem retF_drops {res : List Nat} {R : AV → (Nat → Nat) → Obs → Prop} {s : St} (p : Nat → Bool) (h : R (resAV s.f res) s.gen (fun i => if p i = true then none else s.obj i)) : RetF res R .normal s := ⟨_, vs_drops p, h⟩
theorem retF_dropsR {res : List Nat} {R : AV → (Nat → Nat) → Obs → Prop} {s : St} (p : Nat → Bool) (h : R (resAV s.f res) s.gen (fun i => if p i = true then none else s.obj i)) : RetF res R .ret s := ⟨_, vs_drops p, h⟩

@[go_sem] theorem absV_nili : absV .nilIface = .one (.d .nili) := Eq.trans rfl rfl
@[go_sem] theorem absV_nilf : absV .nilFunc = .one (.d .nilf) := Eq.trans rfl rfl

end Go.Am

namespace Go.Am
section
variable {P : Program} {T : Nat → TI} {b₀ : Bs} {rd : Option Nat} {Φ : St → Loc → List Deferred → World → Prop} {Ψ : PanF} {B0 : Nat}

theorem loop_introF {B : (Exit → St → Prop) → St → Prop} {b : Box B} {Q : Exit → St → Prop} {q : Box Q} {s : St} (I : Nat → St → Prop) (n : Nat) (h0 : I n s)
    (hr : ∀ n f g ob, I n ⟨f, g, ob⟩ → B (thenA (bx fun s' => ∃ n' s₁, n' < n ∧ (spF P rd b₀ Φ B0 Ψ).vs s' s₁ ∧ I n' s₁) q) ⟨f, g, ob⟩) : LoopA (spF P rd b₀ Φ B0 Ψ) b q s :=
  ⟨I, ⟨n, s, SemVs.refl s, h0⟩, fun n s hs => hr n s.f s.gen s.obj hs⟩
theorem round_endF {I : Nat → St → Prop} {n : Nat} {s : St} (n' : Nat) (h : n' < n) (hI : I n' s) : ∃ n' s₁, n' < n ∧ (spF P rd b₀ Φ B0 Ψ).vs s s₁ ∧ I n' s₁ := ⟨n', s, h, SemVs.refl s, hI⟩

theorem hook_callF (hΦ : KeptTr b₀ Φ) {o : Oper} {s : St} {K : St → Prop} {k : Box K} {f : FuncId} {args : Array Operand} {tys : Array TypeId} (ho : o.op = .call ⟨.value (.func f), args, tys⟩) {R : AV → Prop}
    (hp : PureR P f (args.toList.map s.ev) R) (hd : (args.toList.map s.ev).all dataAV = true) (hk : ∀ r, R r → K (s.put o.dst r)) : hookA (spF P rd b₀ Φ B0 Ψ) o s k :=
  hookF hΦ (by simp [noDefer, ho]) (hook_pure (B := 0) (k := k) ho hp hd hk)

theorem hook_funF (hΦ : KeptTr b₀ Φ) {o : Oper} {s : St} {K : St → Prop} {k : Box K} {f : FuncId} {args : Array Operand} {tys : Array TypeId} (ho : o.op = .call ⟨.value (.func f), args, tys⟩) {R : AV → (Nat → Nat) → Obs → Prop}
    (hp : FunR P f (args.toList.map s.ev) s.gen s.obj R) (hk : ∀ r g' ob', R r g' ob' → K (St.put ⟨s.f, g', ob'⟩ o.dst r)) : hookA (spF P rd b₀ Φ B0 Ψ) o s k :=
  hookF hΦ (by simp [noDefer, ho]) (hook_fun (B := 0) (k := k) ho hp hk)

/-- A call of a function value that holds no variables. -/
theorem hook_fnv {o : Oper} {s : St} {K : St → Prop} {k : Box K} {B : Nat} {t : Nat} {args : Array Operand} {tys : Array TypeId} (ho : o.op = .call ⟨.value (.tmp t), args, tys⟩) {f : FuncId} (hf : s.f t = .one (.d (.fn f))) {R : AV → Prop}
    (hp : PureR P f (args.toList.map s.ev) R) (hd : (args.toList.map s.ev).all dataAV = true) (hk : ∀ r, R r → K (s.put o.dst r)) : hookA (spB P B) o s k := by
  refine ⟨fun s' => ∃ r, R r ∧ s' = s.put o.dst r, ?_, fun _ ⟨r, hr, e⟩ => e ▸ hk r hr⟩
  intro b₀ N β a w hr hdst next Q hn
  have hv := hr.f t
  rw [hf] at hv
  simp only [RepV, RepC] at hv
  have hv : a.tmps.getD t undef = .func (.func f) #[] #[] := by generalize a.tmps.getD t undef = v at hv; cases hv; rfl
  have hrun : (execOp a.eval o).run P w = .ok (.enter f (args.map a.eval)) w := by
    obtain ⟨fn, h1, h2, h3⟩ := hp.1
    have h2 : ¬ fn.body = none := by intro h; rw [h] at h2; simp at h2
    have h3 : ¬ fn.name = "runtime.NumGoroutine" := by simpa using h3
    simp [execOp, ho, resolve, Act.eval, hv, Deferred.ofValue, invoke, callFunc, h1, h2, h3]
  unfold Oper.wp
  rw [hrun]
  simp only [Oper.upon]
  have hargs : ∀ l : List Operand, (l.map s.ev).all dataAV = true → RVs (Imm b₀ β s.obj w) w (l.map s.ev) (l.map a.eval) := by
    intro l
    induction l with
    | nil => intro _; simp only [List.map_nil, RVs]
    | cons x l ih =>
      intro h
      simp only [List.map_cons, List.all_cons, Bool.and_eq_true] at h
      simp only [List.map_cons, RVs]
      exact ⟨_, _, rfl, RepV.data h.1 (hr.ev x), ih h.2⟩
  have := hp.2 (Imm b₀ β s.obj w) w (args.toList.map a.eval) (fun _ h => h.1) (hargs _ hd)
  rw [show (args.toList.map a.eval).toArray = args.map a.eval from Array.ext' (by simp)] at this
  refine this.mono fun e w' ⟨v, r, he, hR, hs, hh, hos, hv⟩ => ?_
  subst he
  obtain ⟨g1, g2⟩ := hr.grow hs hh hos
  refine hn _ β _ w' ⟨r, hR, rfl⟩ (g1.put hdst (RV.rep r (RV.mono (fun b hb => ⟨imm_new hr (fun _ h => h) hb, rfl⟩) r hv))) (g2.trans (Tr.same (St.put_gen _ _ _) (St.put_obj _ _ _) rfl))

theorem hook_fnvF (hΦ : KeptTr b₀ Φ) {o : Oper} {s : St} {K : St → Prop} {k : Box K} {t : Nat} {args : Array Operand} {tys : Array TypeId} (ho : o.op = .call ⟨.value (.tmp t), args, tys⟩) {f : FuncId} (hf : s.f t = .one (.d (.fn f))) {R : AV → Prop}
    (hp : PureR P f (args.toList.map s.ev) R) (hd : (args.toList.map s.ev).all dataAV = true) (hk : ∀ r, R r → K (s.put o.dst r)) : hookA (spF P rd b₀ Φ B0 Ψ) o s k :=
  hookF hΦ (by simp [noDefer, ho]) (hook_fnv (B := 0) (k := k) ho hf hp hd hk)

theorem hook_viewF (hΦ : KeptTr b₀ Φ) {o : Oper} {s : St} {K : St → Prop} {k : Box K} {f : FuncId} {args : Array Operand} {tys : Array TypeId} (ho : o.op = .call ⟨.value (.func f), args, tys⟩) {R : AV → Prop} {xs : List AV}
    (hx : FrzVs s (args.toList.map s.ev) xs) (hp : PureR P f xs R) (hd : ∀ r, R r → scalarAV r = true) (hk : ∀ r, R r → K (s.put o.dst r)) : hookA (spF P rd b₀ Φ B0 Ψ) o s k :=
  hookF hΦ (by simp [noDefer, ho]) (hook_view (k := k) ho hx hp hd hk)
end
section
variable {S : Sp} {T : Nat → TI}
@[go_sem] theorem wpC_rangeFunc {fo : Operand} {ps : Array Tmp} {x y : Code} {f : Nat → AV} {g : Nat → Nat} {ob : Nat → Option (List C)} {Q : Exit → St → Prop} {q : Box Q} : wpC S T (.rangeFunc fo ps x y) q ⟨f, g, ob⟩ = hookC S (.rangeFunc fo ps x y) ⟨f, g, ob⟩ q := Eq.trans rfl rfl
end
end Go.Am

namespace Go.Am
open Go.ChangeShapes Go.WideShapes Go.ChangeAt Go.RowKit
variable {H : Type} {enc : TypeId × Value → H}

theorem returns_of_law_laid {C : Checked} {os : Os} {f : FuncId} {fn : Func} {s : ChangeSpec} {conds : List PathCond} {laid : List (String × DataW Unit)} (own : ownKnob C.prog.godebug = none) (started : os.Started) (noInit : C.prog.inits.idxOf? f = none) (hfn : C.prog.funcs[f]? = some fn)
    (witness : ∃ (w : World) (tape : Tape) (i : Input), w.os = os ∧ (w.forCall tape i).Shaped C.prog ∧ i.vars = [] ∧ Input.okWide C.prog (w.forCall tape i) .any w.heap.size f i ∧
      ((s.pre enc C.prog fn conds false (w.forCall tape i).memory i.args ∧ laidMetH C.prog laid (w.forCall tape i).memory) ∧ sizedMet enc C.prog fn (OpenSpec.ofChange s) false (w.forCall tape i).memory i.args) ∧ Assume.holds {} C.prog (lone (Frame.enter C.prog f i.args .normal) [] (w.forCall tape i)))
    (hvars : s.vars = []) (hl : laidOutB C.prog = true) (hts : fn.params.toList.all (fun t => C.prog.readableRec t && decide (t < C.prog.types.size)) = true) {tb : TypeId} (hres : fn.resultTypes = #[tb]) (htb : C.prog.underlying tb = some .bool)
    (hspec : ∀ ds : List (DataW H), ds.length = fn.params.toList.length → s.fn H ds = { results := [.lit (.bool true)], args := ds })
    (hcall : ∀ (W : World) (base : Nat) (args : Array Value) (ds : List (DataW H)) (ps : List MemPlace), (∀ (j : Nat) t v, fn.params[j]? = some t → args[j]? = some v → Value.okWide C.prog W .any base t v) → DataW.TrodAll enc C.prog W 0 (fun _ => true) true fn.params.toList args.toList ds ps → (DataW.weightsEach C.prog fn.params.toList ds).all (· ≤ reachBytes) = true → SaysTrue C.prog f args W) :
    ReturnsInHanded {} C os f .any (fun w args => (s.pre enc C.prog fn conds false w args ∧ laidMetH C.prog laid w) ∧ sizedMet enc C.prog fn (OpenSpec.ofChange s) false w args) (s.post enc C.prog fn false true false false) := by
  refine returnsInHanded_of_change_and (X := fun w _ => laidMetH C.prog laid w) (fun _ _ _ hh h => h.of_heap hh) own started noInit hfn witness ?_
  intro W base args ds gs before hval hW hcnd hsz _ _
  have hW' := hW
  obtain ⟨p, q, hA, hV, rfl, hfz, hnd⟩ := hW
  rw [hvars] at hV
  obtain ⟨rfl, rfl⟩ := trodVars_none hV
  have hvt : s.plain.varTypes C.prog = [] := by simp [ChangeSpec.plain, DataSpec.varTypes, hvars]
  rw [hvt, List.append_nil, List.append_nil] at hsz
  refine (hcall W base args ds p hval hA hsz).mono fun e W' ⟨he, hs, hb, ho⟩ => ⟨_, he, ?_⟩
  have hlt : ∀ x ∈ p, x.block < W.heap.size := fun x hx => hW'.lt x (by simp [hx])
  have hsp : s.fn H (ds ++ []) = { results := [.lit (.bool true)], args := ds } := by rw [List.append_nil]; exact hspec ds (trodAll_len _ _ _ _ hA)
  refine ⟨ds, [], p ++ [], [], p, [], hW', ?_, ?_, ?_, kept_of hb ho _, fun h => by cases h⟩
  · rw [hsp, hres]
    exact trodAll_mk1 ⟨1, by simp [DataW.trod, htb, Value.cells]⟩
  · rw [hsp]
    exact trodAll_stays hl hb _ _ _ _ hts hlt hA
  · rw [hsp, hvars]
    exact rfl

end Go.Am

namespace Go.Am

/-- The blocks up to a number are as they were told. -/
abbrev Hold := Nat → Option Obj
def Held (gb : Nat) (o : Hold) (w : World) : Prop := gb < w.heap.size ∧ ∀ b, b ≤ gb → w.heap[b]? = o b
theorem Held.lt {gb : Nat} {o : Hold} {w : World} (h : Held gb o w) : gb < w.heap.size := h.1
theorem Held.down {gb gb' : Nat} {o : Hold} {w : World} (hl : gb ≤ gb') (h : Held gb' o w) : Held gb o w := ⟨Nat.lt_of_le_of_lt hl h.1, fun b hb => h.2 b (Nat.le_trans hb hl)⟩

/-- .. and such blocks as data may refer to. -/
def HeldI (b₀ : Bs) (gb : Nat) (o : Hold) (w : World) : Prop := (gb < b₀.B ∧ ∀ b, b ≤ gb → b₀.I b) ∧ Held gb o w

/-- PureR, where an old block holds o. -/
def PureG (P : Program) (gb : Nat) (o : Hold) (f : FuncId) (args : List AV) (R : AV → Prop) : Prop :=
  Fine P f ∧ ∀ (J : Nat → Prop) (w : World) (vs : List Value), Held gb o w → (∀ b, J b → b < w.heap.size) → RVs J w args vs →
    Calls P f vs.toArray w fun e w' => ∃ v r, e = .returned v ∧ R r ∧ w.heap.size ≤ w'.heap.size ∧ (∀ b, b < w.heap.size → w'.heap[b]? = w.heap[b]?) ∧ (w'.os = w.os ∧ w'.output = w.output) ∧ RV (fun b => b < w'.heap.size ∧ (b < w.heap.size → J b ∨ b ≤ gb)) w' r v

theorem PureR.toG {P : Program} {gb : Nat} {o : Hold} {f : FuncId} {args : List AV} {R : AV → Prop} (h : PureR P f args R) : PureG P gb o f args R :=
  ⟨h.1, fun J w vs _ h1 h2 => (h.2 J w vs h1 h2).mono fun _ _ ⟨v, r, q1, q2, q3, q4, q5, q6⟩ => ⟨v, r, q1, q2, q3, q4, q5, RV.mono (fun _ hb => ⟨⟨hb.1, fun hl => .inl (hb.2 hl)⟩, rfl⟩) r q6⟩⟩

/-- FunR, where a block that is older than the caller's own objects holds o. -/
def FunG (P : Program) (gb : Nat) (o : Hold) (f : FuncId) (xs : List AV) (g : Nat → Nat) (ob : Obs) (R : AV → (Nat → Nat) → Obs → Prop) : Prop :=
  Fine P f ∧ ∀ (b₀ : Bs) (N : Nat) (β : Loc) (a : Act) (fa : Nat → AV) (w : World) (vs : List Value), gb < b₀.B → HeldI b₀ gb o w → Rel b₀ N ⟨fa, g, ob⟩ β a w → RepVs b₀ β g ob w xs vs →
    Calls P f vs.toArray w fun e w' => ∃ v r g' ob' β', e = .returned v ∧ R r g' ob' ∧ RepV b₀ β' g' ob' w' r v ∧
      (∀ id cells, ob' id = some cells → ObjAt b₀ β' g' ob' w' (g' id) cells (β' id)) ∧ (∀ id id' a a', (ob' id).isSome = true → (ob' id').isSome = true → β' id = some a → β' id' = some a' → a.block = a'.block → id = id') ∧
      Tr b₀ β ⟨fa, g, ob⟩ w β' ⟨fa, g', ob'⟩ w'

theorem FunR.toG {P : Program} {gb : Nat} {o : Hold} {f : FuncId} {xs : List AV} {g : Nat → Nat} {ob : Obs} {R : AV → (Nat → Nat) → Obs → Prop} (h : FunR P f xs g ob R) : FunG P gb o f xs g ob R := ⟨h.1, fun b₀ N β a fa w vs _ _ => h.2 b₀ N β a fa w vs⟩

/-- What holds along in a frame of such a function. -/
def PhiG (gb : Nat) (o : Hold) (b₀ : Bs) (β0 : Loc) (s0 : St) (w0 : World) : St → Loc → List Deferred → World → Prop := fun s β ds w => (gb < b₀.B ∧ HeldI b₀ gb o w) ∧ PhiC b₀ β0 s0 w0 s β ds w

section
variable {P : Program} {T : Nat → TI} {b₀ : Bs} {rd : Option Nat} {gb : Nat} {o : Hold} {Ψ : PanF} {B0 : Nat} {β0 : Loc} {s0 : St} {w0 : World}

theorem kept_phiG : KeptTr b₀ (PhiG gb o b₀ β0 s0 w0) := fun _ _ _ _ _ _ _ h ht => ⟨⟨h.1.1, h.1.2.1, Nat.lt_of_lt_of_le h.1.2.2.1 ht.size, fun b hb => by rw [ht.old b (Nat.lt_of_le_of_lt hb h.1.1)]; exact h.1.2.2.2 b hb⟩, kept_phiC _ _ _ _ _ _ _ h.2 ht⟩

theorem imm_held {N : Nat} {s : St} {β : Loc} {a : Act} {w : World} (hr : Rel b₀ N s β a w) (hG : HeldI b₀ gb o w) {b : Nat} (hb : b ≤ gb) : Imm b₀ β s.obj w b := by
  refine ⟨Nat.lt_of_le_of_lt hb hG.2.1, fun _ => hG.1.2 b hb, fun id a' ho hβ he => ?_⟩
  obtain ⟨cells, hc⟩ := Option.isSome_iff_exists.1 ho
  have h := hr.obj id cells hc
  rw [hβ] at h
  have h1 := h.block.1
  have h2 := hG.1.1
  omega

theorem hook_callG {Φ : St → Loc → List Deferred → World → Prop} (hΦ : KeptTr b₀ Φ) (hG : ∀ s β ds w, Φ s β ds w → HeldI b₀ gb o w) {op : Oper} {s : St} {K : St → Prop} {k : Box K} {f : FuncId} {args : Array Operand} {tys : Array TypeId} (ho : op.op = .call ⟨.value (.func f), args, tys⟩) {R : AV → Prop}
    (hp : PureG P gb o f (args.toList.map s.ev) R) (hd : (args.toList.map s.ev).all dataAV = true) (hk : ∀ r, R r → K (s.put op.dst r)) : hookA (spF P rd b₀ Φ B0 Ψ) op s k := by
  refine ⟨fun s' => ∃ r, R r ∧ s' = s.put op.dst r, ?_, fun _ ⟨r, hr, e⟩ => e ▸ hk r hr⟩
  intro N β a ds w hr hφ hdst next Q hn _
  have hnd : noDefer op = true := by simp [noDefer, ho]
  refine wp_fen hnd ?_
  unfold Oper.wp
  rw [run_call ho hp.1 w]
  simp only [Oper.upon]
  have hargs : ∀ l : List Operand, (l.map s.ev).all dataAV = true → RVs (Imm b₀ β s.obj w) w (l.map s.ev) (l.map a.eval) := by
    intro l
    induction l with
    | nil => intro _; simp only [List.map_nil, RVs]
    | cons x l ih =>
      intro h
      simp only [List.map_cons, List.all_cons, Bool.and_eq_true] at h
      simp only [List.map_cons, RVs]
      exact ⟨_, _, rfl, RepV.data h.1 (hr.ev x), ih h.2⟩
  have := hp.2 (Imm b₀ β s.obj w) w (args.toList.map a.eval) (hG _ _ _ _ hφ).2 (fun _ h => h.1) (hargs _ hd)
  rw [show (args.toList.map a.eval).toArray = args.map a.eval from Array.ext' (by simp)] at this
  refine this.mono fun e w' ⟨v, r, he, hR, hs, hh, hos, hv⟩ => ?_
  subst he
  obtain ⟨g1, g2⟩ := hr.grow hs hh hos
  have g3 := g2.trans (Tr.same (St.put_gen s op.dst r) (St.put_obj s op.dst r) rfl)
  have h1 := g1.put hdst (RV.rep r (RV.mono (fun b hb => ⟨imm_new hr (J := fun b => Imm b₀ β s.obj w b ∨ b ≤ gb) (fun b h => h.elim id (imm_held hr (hG _ _ _ _ hφ))) hb, rfl⟩) r hv))
  exact ⟨h1.defers, hn _ β _ w' ⟨r, hR, rfl⟩ h1 (hΦ _ _ _ _ _ _ _ hφ g3)⟩

/-- An element of a package's table, which is held: its address tells what is there. -/
theorem hook_gidx {Φ : St → Loc → List Deferred → World → Prop} (hΦ : KeptTr b₀ Φ) (hG : ∀ s β ds w, Φ s β ds w → HeldI b₀ gb o w) (hT : TabOk P T) {dst : Option Tmp} {t n e gi : Nat} {ix : Operand} {ty : TypeId} {ps : String} {af : Array Edge} {gd : Option (Nat × Bool)} {s : St} {K : St → Prop} {k : Box K}
    (ht : (T t).desc = .array n e) (he : okD (T e).desc = true) (hgi : gi ≤ gb) {kd : IntKind} {i : Nat} (hix : s.ev ix = iv kd i) (hi : i < n) {cs : List D} (hcs : ∀ (j : Nat) (x : D), cs[j]? = some x → plainD x = true)
    (hrow : ∀ w : World, Held gb o w → ∀ (j : Nat) (x : D), cs[j]? = some x → w.cell? ⟨gi, i * (T e).size + j, none⟩ = some (dV x)) (hk : K (s.put dst (.one (.d (.iptr cs))))) :
    hookA (spF P rd b₀ Φ B0 Ψ) ⟨dst, .indexAddr t (.global gi) ix, ty, ps, af, gd⟩ s k := by
  refine ⟨fun s' => s' = s.put dst (.one (.d (.iptr cs))), fun N β a ds w hr hφ hd next Q hn _ => ?_, fun _ e => e ▸ hk⟩
  refine wp_fen rfl ?_
  have hH := hG _ _ _ _ hφ
  have hvi := hr.ev ix
  rw [hix] at hvi
  simp only [RepV, RepC] at hvi
  have hvi := hvi.inv_int
  have hu := (hT t (by rw [ht]; rfl)).desc
  rw [ht] at hu
  have hte := hT e he
  have hex : (execOp a.eval ⟨dst, .indexAddr t (.global gi) ix, ty, ps, af, gd⟩).run P w = .ok (.value (.pointer (some ⟨gi, i * (T e).size, none⟩))) w := by
    simp [execOp, hvi, show a.eval (.global gi) = .pointer (some ⟨gi, 0, none⟩) from rfl, Instr.indexAt, asIntOf, run_underlying hu, hi, run_sizeOf' hte, addr_add, Instr.sureAddr]
  have hr' := hr.put hd (x := .one (.d (.iptr cs))) (v := .pointer (some ⟨gi, i * (T e).size, none⟩)) (by
    simp only [RepV, RepC]
    refine .iptr (fun j => dV (cs.getD j .nsl)) (fun _ => imm_held hr hH hgi) (fun j x hx => ?_) (fun j x hx => ?_)
    · rw [hrow w hH.2 j x hx]; simp [List.getD_eq_getElem?_getD, hx]
    · rw [show cs.getD j .nsl = x by simp [List.getD_eq_getElem?_getD, hx]]; exact RepD.of_plain (hcs j x hx))
  exact wp_value hex ⟨hr'.defers, hn _ β _ w rfl hr' (hΦ _ _ _ _ _ _ _ hφ (Tr.same (St.put_gen _ _ _) (St.put_obj _ _ _) rfl))⟩

theorem hook_funG {Φ : St → Loc → List Deferred → World → Prop} (hΦ : KeptTr b₀ Φ) (hG : ∀ s β ds w, Φ s β ds w → gb < b₀.B ∧ HeldI b₀ gb o w) {op : Oper} {s : St} {K : St → Prop} {k : Box K} {f : FuncId} {args : Array Operand} {tys : Array TypeId} (ho : op.op = .call ⟨.value (.func f), args, tys⟩) {R : AV → (Nat → Nat) → Obs → Prop}
    (hp : FunG P gb o f (args.toList.map s.ev) s.gen s.obj R) (hk : ∀ r g' ob', R r g' ob' → K (St.put ⟨s.f, g', ob'⟩ op.dst r)) : hookA (spF P rd b₀ Φ B0 Ψ) op s k := by
  refine ⟨fun s' => ∃ r g' ob', R r g' ob' ∧ s' = St.put ⟨s.f, g', ob'⟩ op.dst r, ?_, fun _ ⟨r, g', ob', hr, e⟩ => e ▸ hk r g' ob' hr⟩
  intro N β a ds w hr hφ hdst next Q hn _
  have hnd : noDefer op = true := by simp [noDefer, ho]
  refine wp_fen hnd ?_
  unfold Oper.wp
  rw [run_call ho hp.1 w]
  simp only [Oper.upon]
  obtain ⟨hg1, hg2⟩ := hG _ _ _ _ hφ
  have := hp.2 b₀ N β a s.f w (args.toList.map a.eval) hg1 hg2 hr (args_rep hr _)
  rw [show (args.toList.map a.eval).toArray = args.map a.eval from Array.ext' (by simp)] at this
  refine this.mono fun e w' ⟨v, r, g', ob', β', he, hR, hv, h1, h2, h3⟩ => ?_
  subst he
  obtain ⟨k1, k2⟩ := call_back hr hdst hv h1 h2 h3
  exact ⟨k1.defers, hn _ β' _ w' ⟨r, g', ob', hR, rfl⟩ k1 (hΦ _ _ _ _ _ _ _ hφ k2)⟩
end

/-- What holds along in a frame that bears no marks. -/
def PhiN (gb : Nat) (o : Hold) (b₀ : Bs) (β0 : Loc) (s0 : St) (w0 : World) : St → Loc → List Deferred → World → Prop := fun s β ds w => (gb < b₀.B ∧ HeldI b₀ gb o w) ∧ ds = [] ∧ Tr b₀ β0 s0 w0 β s w

section
variable {P : Program} {T : Nat → TI} {gb : Nat} {o : Hold}
theorem kept_phiN {b₀ : Bs} {β0 : Loc} {s0 : St} {w0 : World} : KeptTr b₀ (PhiN gb o b₀ β0 s0 w0) := fun _ _ _ _ _ _ _ h ht => ⟨⟨h.1.1, h.1.2.1, Nat.lt_of_lt_of_le h.1.2.2.1 ht.size, fun b hb => by rw [ht.old b (Nat.lt_of_le_of_lt hb h.1.1)]; exact h.1.2.2.2 b hb⟩, h.2.1, h.2.2.trans ht⟩

end

theorem PureG.up {P : Program} {gb gb' : Nat} {o : Hold} {f : FuncId} {args : List AV} {R : AV → Prop} (hl : gb ≤ gb') (h : PureG P gb o f args R) : PureG P gb' o f args R := 
  ⟨h.1, fun J w vs hG h1 h2 => (h.2 J w vs (hG.down hl) h1 h2).mono fun _ _ ⟨v, r, q1, q2, q3, q4, q5, q6⟩ => ⟨v, r, q1, q2, q3, q4, q5, RV.mono (fun _ hb => ⟨⟨hb.1, fun hw => (hb.2 hw).imp id (fun h => Nat.le_trans h hl)⟩, rfl⟩) r q6⟩⟩

/-- Of a contract off the shelf: plain arguments, a plain result, and the world as it was but for new blocks. -/
theorem pure_of_shelf {P : Program} {f : FuncId} {args : List AV} (hf : Fine P f) (hs : (args.all fun x => match x with | .one c => scalarC c | _ => false) = true) {r : AV} (hr : scalarAV r = true)
    (h : ∀ w : World, Calls P f (args.map scVal).toArray w fun e w' => e = .returned (scVal r) ∧ w.heap.size ≤ w'.heap.size ∧ (∀ b, b < w.heap.size → w'.heap[b]? = w.heap[b]?) ∧ (w'.os = w.os ∧ w'.output = w.output)) : PureR P f args (· = r) := by
  refine ⟨hf, fun J w vs hJ hv => ?_⟩
  have hvs : vs = args.map scVal := by
    clear h hf
    induction args generalizing vs with
    | nil => simp only [RVs] at hv; exact hv
    | cons x xs ih =>
      simp only [RVs] at hv
      obtain ⟨u, us, rfl, h1, h2⟩ := hv
      simp only [List.all_cons, Bool.and_eq_true] at hs
      rw [List.map_cons, ← ih hs.2 us h2]
      congr 1
      cases x with
      | one c =>
        simp only [RV, RVc] at h1
        obtain ⟨x, rfl, h1⟩ := h1
        simp only [scVal, scC]
        exact RepD.scalar hs.1 h1
      | _ => simp at hs
  rw [hvs]
  refine (h w).mono fun e w' ⟨he, h1, h2, h3⟩ => ⟨_, r, he, rfl, h1, h2, h3, ?_⟩
  exact scVal_rep hr

end Go.Am

namespace Go.Am

section
variable {P : Program} {T : Nat → TI} {b₀ : Bs} {w : World} {rd : Option Nat} {Φ : St → Loc → List Deferred → World → Prop} {Ψ : PanF} {B : Nat} {ops : Array Oper}

theorem put_nods {a : Act} (ha : a.defers = []) (d : Option Nat) (v : Value) : (a.put d v).defers = [] := by cases d <;> exact ha

theorem still_defers {o : Oper} {a : Act} {K : Act → Prop} (ha : a.defers = []) (h : o.still P a w K) : o.still P a w (fun a' => a'.defers = [] ∧ K a') := by
  unfold Oper.still at *
  generalize (execOp a.eval o).run P w = r at *
  cases r with
  | ok n w' =>
    cases n <;> simp only [Oper.stillUpon] at h ⊢
    case enter f args => obtain ⟨h1, v, hc, hn⟩ := h; exact ⟨h1, v, hc, put_nods ha _ _, hn⟩
    all_goals exact ⟨h.1, put_nods ha _ _, h.2⟩
  | halt x w' => simp only [Oper.stillUpon] at h

theorem wpOpIn_of_stOp {i : Nat} {a : Act} {ds : List Deferred} {K : Act → Prop} {K' : Act → World → Prop} {Q' : Exit → Act → World → Prop} (ha : a.defers = []) (hnd : ops.toList.all noDefer = true) (h : ∀ a', a'.defers = [] → K a' → K' { a' with defers := ds } w) (hh : stOp P ops w i K a) :
    wpOpIn (fen rd) 0 P ops Q' i K' { a with defers := ds } w := by
  unfold stOp at hh
  unfold wpOpIn
  cases ho : ops[i]? with
  | none => simp only [ho] at hh ⊢; exact h _ ha hh
  | some o =>
    simp only [ho] at hh ⊢
    have hno : noDefer o = true := List.all_eq_true.1 hnd o (by
      obtain ⟨hi, e⟩ := Array.getElem?_eq_some_iff.1 ho
      rw [← e]; exact Array.getElem_mem_toList hi)
    by_cases hw : Region.wanted o (yielded ops a.tmps) = true
    · rw [if_pos hw] at hh ⊢
      exact wp_fen hno (Oper.wp_of_still (K' := fun a' w' => a'.defers = [] ∧ K' { a' with defers := ds } w') (fun a' hk => ⟨hk.1, h a' hk.1 hk.2⟩) (still_defers ha hh))
    · rw [if_neg hw] at hh ⊢
      refine ⟨fun _ _ => trivial, ?_⟩
      rw [put_ds]
      exact h _ (put_nods ha _ _) hh

theorem wpAnyIn_of_head {n g : Nat} {ds : List Deferred} {L : Array Bool → Act → Prop} {Q' : Exit → Act → World → Prop} (hnd : ops.toList.all noDefer = true) (hL : ∀ listed a, a.defers = [] → L listed a → wpAnyIn (fen rd) 0 P .any ops Q' g listed { a with defers := ds } w) :
    ∀ (f : Nat) (listed : Array Bool) (a : Act), a.defers = [] → wpAnyL P .any ops w n L f listed a → wpAnyIn (fen rd) 0 P .any ops Q' (f + g) listed { a with defers := ds } w
  | 0, listed, a, ha, h => by rw [Nat.zero_add]; exact hL _ _ ha h
  | f + 1, listed, a, ha, h => by
    rw [show f + 1 + g = (f + g) + 1 by omega]
    exact ⟨fun h0 => absurd h0 h.1, fun i hi => wpOpIn_of_stOp ha hnd (fun a' ha' h' => wpAnyIn_of_head hnd hL f _ a' ha' h') (h.2 i hi).2⟩

theorem wpAnyIn_of_still {ds : List Deferred} {Q : Act → Prop} {Q' : Exit → Act → World → Prop} (hnd : ops.toList.all noDefer = true) (hQ : ∀ a, a.defers = [] → Q a → Q' .normal { a with defers := ds } w) : ∀ (fuel : Nat) (listed : Array Bool) (a : Act), a.defers = [] →
    wpAnyS P .any ops w Q fuel listed a → wpAnyIn (fen rd) 0 P .any ops Q' fuel listed { a with defers := ds } w
  | 0, _, _, ha, h => ⟨h.1, hQ _ ha h.2⟩
  | fuel + 1, _, _, ha, h => ⟨fun h0 => hQ _ ha (h.1 h0), fun i hi => wpOpIn_of_stOp ha hnd (fun a' ha' => wpAnyIn_of_still hnd hQ fuel _ a' ha') (h.2 i hi)⟩

theorem wpAnyIn_of_seq {F : Fence} {n : Nat} {Q' : Exit → Act → World → Prop} : ∀ (l : List Oper) (k : Nat) (listed : Array Bool) (a : Act) (w : World), (∀ j, l[j]? = ops[k + j]?) →
    Region.seqB .any ops l.length k listed = true → wpListIn F n P ops Q' l a w → wpAnyIn F n P .any ops Q' l.length listed a w
  | [], _, _, _, _, _, hB, h => ⟨by simpa [Region.seqB] using hB, h⟩
  | o :: l, k, listed, a, w, hl, hB, h => by
    have h0 : ops[k]? = some o := by simpa using (hl 0).symm
    simp only [List.length_cons, Region.seqB, Bool.and_eq_true, decide_eq_true_eq] at hB
    refine ⟨fun h1 => (by rw [hB.1] at h1; cases h1), fun i hi => ?_⟩
    rw [hB.1] at hi
    have hik : i = k := by simpa using hi
    subst hik
    have hw : wpOpIn F n P ops Q' i (wpListIn F n P ops Q' l) a w := by unfold wpOpIn; simp only [h0]; exact h
    exact wpOpIn_mono (fun a' w' h' => wpAnyIn_of_seq l (i + 1) _ a' w' (fun j => by have := hl (j + 1); simpa [Nat.add_assoc, Nat.add_comm 1 j] using this) hB.2 h') hw

/-- Quiet operations know nothing of the frame. -/
theorem opA_quiet {o : Oper} (hp : pureOp o.op = true) {s : St} {K : St → Prop} {k : Box K} (h : opA (spF P rd b₀ Φ B Ψ) T o s k) : opA (spB P B) T o s k := by
  obtain ⟨dst, op, ty, ps, af, gd⟩ := o
  cases op with
  | slice t x lo hi mx => cases mx <;> first | exact h | (simp [pureOp] at hp; done)
  | indexAddr t x ix => cases x <;> first | (simp [pureOp] at hp; done) | exact h
  | makeFunc f => cases f <;> first | exact h | (simp [pureOp] at hp; done)
  | call c =>
    obtain ⟨callee, args, tys⟩ := c
    cases callee with
    | value f => simp [pureOp] at hp
    | invoke r m => simp [pureOp] at hp
    | builtin b => cases b <;> first | exact h | (simp [pureOp] at hp; done)
  | _ => first | exact h | (simp [pureOp] at hp; done)

theorem wpStill_soundF (hT : TabOk P T) {N : Nat} {β : Loc} {Q : Act → Prop} {K : St → Prop} {k : Box K} (more : List Oper) : ∀ (l : List Oper) {s : St} {a : Act}, Rel b₀ N s β a w → dstsOk N l = true → l.all (pureOp ·.op) = true → wpO (spF P rd b₀ Φ B Ψ) T ops (l ++ more) s k →
    (∀ s' a', wpO (spF P rd b₀ Φ B Ψ) T ops more s' k → Rel b₀ N s' β a' w → Tr b₀ β s w β s' w → Q a') → wpStill P ops w Q l a
  | [], s, a, hr, _, _, h, hQ => hQ s a h hr Tr.refl
  | o :: rest, s, a, hr, hds, hp, h, hQ => by
    obtain ⟨hd, hds'⟩ := dstsOk_cons hds
    simp only [List.all_cons, Bool.and_eq_true] at hp
    rw [List.cons_append] at h
    unfold wpO at h
    unfold wpStill
    have hop : ∀ {s0 : St}, Rel b₀ N s0 β a w → Tr b₀ β s w β s0 w → opA (spF P rd b₀ Φ B Ψ) T o s0 (bx fun s' => wpO (spF P rd b₀ Φ B Ψ) T ops (rest ++ more) s' k) → o.still P a w (wpStill P ops w Q rest) := fun {s0} hr0 ht0 h0 => by
      obtain ⟨y, cv, h1, h2, h3⟩ := opA_pure hT hr0 hp.1 (opA_quiet hp.1 h0)
      unfold Oper.still
      rw [h2 w .refl]
      refine ⟨rfl, wpStill_soundF hT more rest (hr0.put hd h3) hds' hp.2 h1 (fun s' a' k1 k2 k3 => hQ s' a' k1 k2 (ht0.trans (Tr.trans (Tr.same (St.put_gen _ _ _) (St.put_obj _ _ _) rfl) k3)))⟩
    cases hg : o.guard with
    | none =>
      rw [hg] at h
      simp only at h
      rw [if_pos (by simp [Region.wanted, hg])]
      exact hop hr Tr.refl h
    | some p =>
      obtain ⟨j, want⟩ := p
      rw [hg] at h
      simp only at h
      obtain ⟨d, hj, h⟩ := onSome_inv h
      unfold guardA at h
      split at h
      · rename_i b hb
        have hy := hr.yielded hj hb
        have h := BSplit_inv h
        have hr' := hr.reput hb
        by_cases hw : b = want
        · rw [if_pos hw] at h
          rw [if_pos (by simp [Region.wanted, hg, hy, hw])]
          exact hop hr' (Tr.same rfl rfl rfl) h
        · rw [if_neg hw] at h
          rw [if_neg (by simp [Region.wanted, hg, hy, hw])]
          have hp' := hr'.put hd (x := uv) (v := undef) undefRep
          exact wpStill_soundF hT more rest hp' hds' hp.2 h (fun s2 a2 k1 k2 k3 => hQ _ _ k1 k2 (Tr.trans (Tr.same (by rw [St.put_gen]) (by rw [St.put_obj]) rfl) k3))
      · rename_i hb
        have hy := hr.yielded_u hj hb
        rw [if_neg (by simp [Region.wanted, hg, hy])]
        have hp' := hr.put hd (x := uv) (v := undef) undefRep
        exact wpStill_soundF hT more rest hp' hds' hp.2 h (fun s2 a2 k1 k2 k3 => hQ _ _ k1 k2 (Tr.trans (Tr.same (by rw [St.put_gen]) (by rw [St.put_obj]) rfl) k3))
      · exact h.elim

theorem region_draw_soundF (hT : TabOk P T) (hm : P.follows .mixedOrders = true) (hΦ : KeptTr b₀ Φ) {N id : Nat} {β : Loc} {ds : List Deferred} {K : St → Prop} {k : Box K} {s : St} {a : Act} (hr : Rel b₀ N s β a w) (hφ : Φ s β ds w) (hnd : ops.toList.all noDefer = true) (hd : dstsOk N ops.toList = true) (hok : drawOk ops = true)
    (h : wpO (spF P rd b₀ Φ B Ψ) T ops ops.toList s k) {Q : Exit → Act → World → Prop} (hQ : ∀ s' β' a' w', K s' → Rel b₀ N s' β' a' w' → Φ s' β' ds w' → Q .normal { a' with defers := ds } w') (hX : ∀ ch s' β' a' w', Ψ ch s' → Rel b₀ N s' β' a' w' → Φ s' β' ds w' → Q (.panic ch) { a' with defers := ds } w') : (Code.region id ops true).wpIn (fen rd) 0 P Q { a with defers := ds } w := by
  have hr1 : Rel b₀ N s β a { w with drawn := w.drawn + 1 } := hr.of_heap rfl
  have hφ1 : Φ s β ds { w with drawn := w.drawn + 1 } := hΦ _ _ _ _ _ _ _ hφ (Tr.same rfl rfl rfl)
  simp only [drawOk, Bool.or_eq_true, Bool.and_eq_true, List.any_eq_true] at hok
  refine wpIn_region_any hm ?_
  rcases hok with ⟨hp, hB⟩ | ⟨m, _, hp, hB⟩
  · simp only [Region.lexB, Bool.and_eq_true] at hB
    refine wpAnyIn_of_still (Q := fun a' => a'.defers = [] → Q .normal { a' with defers := ds } { w with drawn := w.drawn + 1 }) hnd (fun a' ha h => h ha) _ _ _ hr.defers ?_
    have hst : wpStill P ops { w with drawn := w.drawn + 1 } (fun a' => a'.defers = [] → Q .normal { a' with defers := ds } { w with drawn := w.drawn + 1 }) ops.toList a :=
      wpStill_soundF hT [] ops.toList hr1 hd hp (by rw [List.append_nil]; exact h) (fun s' a' k1 k2 k3 _ => hQ _ _ _ _ k1 k2 (hΦ _ _ _ _ _ _ _ hφ1 k3))
    have := wpAnyS_lex (md := .any) hB.1 ops.toList 0 (Array.replicate ops.size false) a (by simp) (by simpa using hB.2) hst
    simpa using this
  · obtain ⟨l, rfl⟩ : ∃ l : List Oper, ops = l.toArray := ⟨ops.toList, by simp⟩
    generalize hn0 : l.toArray.size - m = n at hp hB
    simp only [Region.lexTailB, Bool.and_eq_true, decide_eq_true_eq] at hB
    obtain ⟨⟨⟨⟨hsel, hn⟩, hs⟩, hc⟩, hlex⟩ := hB
    have hn' : n < l.length := by simpa using hn
    have htl : (l.take n).length = n := by simp; omega
    have hdl : (l.drop n).length = l.toArray.size - n := by simp
    have inv0 : HeadInv .any l.toArray n (Array.replicate l.toArray.size false) :=
      ⟨by simp, fun j oj _ hl => (by rw [getD_replicate_false] at hl; cases hl), fun t _ ht => getD_in (by simpa using ht) (getD_replicate_false _ _)⟩
    obtain ⟨d1, d2⟩ := dstsOk_take hd n
    have hnd2 : (l.drop n).all noDefer = true := List.all_eq_true.2 fun o ho => List.all_eq_true.1 hnd o (by simpa using List.mem_of_mem_drop ho)
    have hst : wpStill P l.toArray { w with drawn := w.drawn + 1 } (fun a' => a'.defers = [] → wpListIn (fen rd) 0 P l.toArray Q (l.drop n) { a' with defers := ds } { w with drawn := w.drawn + 1 }) (l.take n) a := by
      refine wpStill_soundF hT (l.drop n) (l.take n) hr1 d1 hp (by rw [List.take_append_drop]; simpa using h) (fun s' a' k1 k2 k3 _ => ?_)
      exact wpO_soundF hT hΦ (l.drop n) k2 (hΦ _ _ _ _ _ _ _ hφ1 k3) hnd2 d2 k1 hQ hX
    have H := wpAnyL_lex (md := .any) (g := l.toArray.size - n) hsel hs hc hn (l.take n) 0 _ a (fun j hj => by
      have hj' : j < n := by rw [htl] at hj; exact hj
      simp [hj']) (by simpa using htl) inv0 (by rw [htl]; exact hlex) hst
    have := wpAnyIn_of_head (Q' := Q) (ds := ds) (rd := rd) (g := l.toArray.size - n) hnd (fun listed a' ha hL => by
      have := wpAnyIn_of_seq (Q' := Q) (F := fen rd) (n := 0) (l.drop n) n listed { a' with defers := ds } { w with drawn := w.drawn + 1 } (fun j => by simp [List.getElem?_drop]) (by rw [hdl]; exact hL.1) (hL.2 ha)
      rwa [hdl] at this) _ _ _ hr.defers H
    rw [htl, show n + (l.toArray.size - n) = l.toArray.size by omega] at this
    exact this

/-- No 'defer', no scope. -/
def calm2 : Code → Bool
  | .region _ ops _ => ops.toList.all noDefer
  | .seq x y => calm2 x && calm2 y
  | .cond _ x y => calm2 x && calm2 y
  | .block _ c => calm2 c
  | .loop c => calm2 c
  | .scope _ => false
  | _ => true

theorem wpC_soundF2 (hT : TabOk P T) (hm : P.follows .mixedOrders = true) (hΦ : KeptTr b₀ Φ) {N : Nat} : ∀ (c : Code) {Q : Exit → St → Prop} {q : Box Q} {s : St} {β : Loc} {a : Act} {ds : List Deferred} {w : World}, calm2 c = true → codeOk N c = true → Rel b₀ N s β a w → Φ s β ds w → wpC (spF P rd b₀ Φ B Ψ) T c q s → c.wpIn (fen rd) 0 P (PostF b₀ N Φ Ψ Q) { a with defers := ds } w
  | .skip, _, _, s, β, a, ds, _, _, _, hr, hφ, h => wpIn_skip ⟨s, β, a, ds, rfl, .inl h, hr, hφ⟩
  | .label _, _, _, s, β, a, ds, _, _, _, hr, hφ, h => wpIn_label ⟨s, β, a, ds, rfl, .inl h, hr, hφ⟩
  | .exit _, _, _, s, β, a, ds, _, _, _, hr, hφ, h => wpIn_exit ⟨s, β, a, ds, rfl, .inl h, hr, hφ⟩
  | .goto _, _, _, s, β, a, ds, _, _, _, hr, hφ, h => wpIn_goto ⟨s, β, a, ds, rfl, .inl h, hr, hφ⟩
  | .ret, _, _, s, β, a, ds, _, _, _, hr, hφ, h => wpIn_ret ⟨s, β, a, ds, rfl, .inl h, hr, hφ⟩
  | .region id ops b, Q, q, s, β, a, ds, w, hcm, hc, hr, hφ, h => by
    simp only [calm2] at hcm
    cases b with
    | false =>
      have h : wpO (spF P rd b₀ Φ B Ψ) T ops ops.toList s (bx fun s' => Q .normal s') := h
      exact wpIn_region_list (wpO_soundF hT hΦ ops.toList hr hφ hcm hc h (fun s' β' a' w' h1 h2 h3 => ⟨s', β', a', ds, rfl, .inl h1, h2, h3⟩) (fun ch s' β' a' w' h1 h2 h3 => ⟨s', β', a', ds, rfl, .inr ⟨ch, rfl, h1⟩, h2, h3⟩))
    | true =>
      rcases h with ⟨hok, h⟩ | ⟨R, hR, hK⟩
      · exact region_draw_soundF hT hm hΦ hr hφ hcm hc hok h (fun s' β' a' w' h1 h2 h3 => ⟨s', β', a', ds, rfl, .inl h1, h2, h3⟩) (fun ch s' β' a' w' h1 h2 h3 => ⟨s', β', a', ds, rfl, .inr ⟨ch, rfl, h1⟩, h2, h3⟩)
      · exact wpIn_mono (hR N β a ds w hc hr hφ) (fun e a' w' ⟨s', β', a0, ds', h0, h1, h2, h3⟩ => ⟨s', β', a0, ds', h0, h1.imp (hK _ _) (fun h => h), h2, h3⟩)
  | .seq x y, Q, q, s, β, a, ds, w, hcm, hc, hr, hφ, h => by
    simp only [codeOk, Bool.and_eq_true] at hc
    simp only [calm2, Bool.and_eq_true] at hcm
    have h : wpC (spF P rd b₀ Φ B Ψ) T x (bx (thenA (bx fun s' => wpC (spF P rd b₀ Φ B Ψ) T y q s') q)) s := h
    refine wpIn_seq (wpIn_mono (wpC_soundF2 hT hm hΦ x hcm.1 hc.1 hr hφ h) (fun e a' w' hp => ?_))
    obtain ⟨s', β', a0, ds', rfl, h1, h2, h3⟩ := hp
    rcases h1 with h1 | ⟨ch, rfl, h1⟩
    · cases e with
      | normal => exact wpC_soundF2 hT hm hΦ y hcm.2 hc.2 h2 h3 h1
      | _ => exact ⟨s', β', a0, ds', rfl, .inl h1, h2, h3⟩
    · exact ⟨s', β', a0, ds', rfl, .inr ⟨ch, rfl, h1⟩, h2, h3⟩
  | .cond c x y, Q, q, s, β, a, ds, w, hcm, hc, hr, hφ, h => by
    simp only [codeOk, Bool.and_eq_true] at hc
    simp only [calm2, Bool.and_eq_true] at hcm
    obtain ⟨b, hb, h⟩ := onBool_inv h (hr.ev c)
    refine wpIn_cond (t := b) hb ?_
    cases b
    · exact wpC_soundF2 hT hm hΦ y hcm.2 hc.2 hr hφ h
    · exact wpC_soundF2 hT hm hΦ x hcm.1 hc.1 hr hφ h
  | .block id c, Q, q, s, β, a, ds, w, hcm, hc, hr, hφ, h => by
    have h : wpC (spF P rd b₀ Φ B Ψ) T c (bx (inBlockA id q)) s := h
    refine wpIn_block (wpIn_mono (wpC_soundF2 hT hm hΦ c hcm hc hr hφ h) (fun e a' w' hp => ?_))
    obtain ⟨s', β', a0, ds', rfl, h1, h2, h3⟩ := hp
    rcases h1 with h1 | ⟨ch, rfl, h1⟩
    · cases e with
      | exit i =>
        simp only [Exit.inBlock, inBlockA] at h1 ⊢
        split at h1
        · rename_i he; rw [if_pos he]; exact ⟨s', β', a0, ds', rfl, .inl h1, h2, h3⟩
        · rename_i he; rw [if_neg he]; exact ⟨s', β', a0, ds', rfl, .inl h1, h2, h3⟩
      | _ => exact ⟨s', β', a0, ds', rfl, .inl h1, h2, h3⟩
    · exact ⟨s', β', a0, ds', rfl, .inr ⟨ch, rfl, h1⟩, h2, h3⟩
  | .scope c, Q, q, s, β, a, ds, w, hcm, hc, hr, hφ, h => by simp [calm2] at hcm
  | .loop c, Q, q, s, β, a, ds, w, hcm, hc, hr, hφ, h => by
    obtain ⟨I, ⟨n, s₁, hvs, h0⟩, hround⟩ := h
    obtain ⟨β₁, hr1, ht1⟩ := hvs b₀ N β a w hr
    refine wpIn_loop_ghost (fun n a' w' => ∃ s' β' a0 ds', a' = { a0 with defers := ds' } ∧ I n s' ∧ Rel b₀ N s' β' a0 w' ∧ Φ s' β' ds' w') n ⟨s₁, β₁, a, ds, rfl, h0, hr1, hΦ _ _ _ _ _ _ _ hφ ht1⟩ ?_
    rintro n a' w' ⟨s', β', a0, ds', rfl, h1, h2, h3⟩
    refine wpIn_mono (wpC_soundF2 hT hm hΦ c hcm hc h2 h3 (hround n s' h1)) (fun e a2 w2 hp => ?_)
    obtain ⟨s2, β2, a02, ds2, rfl, k1, k2, k3⟩ := hp
    rcases k1 with k1 | ⟨ch, rfl, k1⟩
    · cases e with
      | normal =>
        obtain ⟨n', s3, hlt, hvs', hI⟩ := k1
        obtain ⟨β3, hr3, ht3⟩ := hvs' b₀ N β2 a02 w2 k2
        exact ⟨n', hlt, s3, β3, a02, ds2, rfl, hI, hr3, hΦ _ _ _ _ _ _ _ k3 ht3⟩
      | _ => exact ⟨s2, β2, a02, ds2, rfl, .inl k1, k2, k3⟩
    · exact ⟨s2, β2, a02, ds2, rfl, .inr ⟨ch, rfl, k1⟩, k2, k3⟩
  | .rangeFunc f ps x y, Q, q, s, β, a, ds, w, hcm, hc, hr, hφ, h => by
    obtain ⟨R, hR, hK⟩ := h
    exact wpIn_mono (hR N β a ds w hc hr hφ) (fun e a' w' ⟨s', β', a0, ds', h0, h1, h2, h3⟩ => ⟨s', β', a0, ds', h0, h1.imp (hK _ _) (fun h => h), h2, h3⟩)
  | .refuse y, Q, q, s, β, a, ds, w, hcm, hc, hr, hφ, h => by
    obtain ⟨R, hR, hK⟩ := h
    exact wpIn_mono (hR N β a ds w hc hr hφ) (fun e a' w' ⟨s', β', a0, ds', h0, h1, h2, h3⟩ => ⟨s', β', a0, ds', h0, h1.imp (hK _ _) (fun h => h), h2, h3⟩)


theorem draw_introF {B0 : Nat} {id : Nat} {ops : Array Oper} {s : St} {Q : Exit → St → Prop} {q : Box Q} (hok : drawOk ops = true) (h : wpO (spF P rd b₀ Φ B0 Ψ) T ops ops.toList s (bx fun s' => Q .normal s')) : DrawA (spF P rd b₀ Φ B0 Ψ) T id ops s q := .inl ⟨hok, h⟩
end

section
variable {P : Program} {T : Nat → TI} {gb : Nat} {o : Hold}
theorem pure_of_wpG2 (B gb : Nat) (o : Hold) (hT : TabOk P T) (hm : P.follows .mixedOrders = true) {f : FuncId} {fn : Func} {c : Code} (hf : P.funcs[f]? = some fn) (hb : fn.body = some c) (hn : (fn.name == "runtime.NumGoroutine") = false)
    (rs : List ResultVar) (hres : fn.results = rs.toArray) (hcm : calm2 c = true) (hok : codeOk fn.ntmps c = true) {args : List AV} (hargs : args.length ≤ fn.ntmps) {R : AV → Prop}
    (h : ∀ b₀ β0 s0 w0 g, wpC (spF P none b₀ (PhiG gb o b₀ β0 s0 w0) B noPan) T c (bx (RetQR T rs R)) ⟨initF args, g, fun _ => none⟩) : PureG P gb o f args R := by
  refine ⟨⟨fn, hf, by rw [hb]; rfl, hn⟩, fun J w vs hheld hJ hv => ?_⟩
  refine calls_of_fen (n := 0) (callsIn_of_wp_marks hf hb trivial ?_)
  have hlen : ∀ (l : List AV) (vs : List Value), RVs J w l vs → vs.length = l.length := by
    intro l
    induction l with
    | nil => intro vs h; simp only [RVs] at h; subst h; rfl
    | cons x l ih => intro vs h; simp only [RVs] at h; obtain ⟨u, us, rfl, _, h⟩ := h; simp [ih us h]
  have hl := hlen _ _ hv
  let J' : Nat → Prop := fun b => J b ∨ b ≤ gb
  have hr : Rel ⟨w.heap.size, J'⟩ fn.ntmps ⟨initF args, fun _ => 0, fun _ => none⟩ (fun _ => none) { tmps := vs.toArray ++ Array.replicate (fn.ntmps - vs.toArray.size) undef, defers := [] } w := by
    refine ⟨rfl, by simp; omega, fun i => ?_, fun id cells ho => (by cases ho), fun id id' a a' ho => (by cases ho), Nat.le_refl _⟩
    have hget : ∀ (l : List AV) (vs : List Value), RVs J w l vs → ∀ (i : Nat) (x : AV), l[i]? = some x → ∃ v, vs[i]? = some v ∧ RV J w x v := by
      intro l
      induction l with
      | nil => intro vs _ i x h; simp at h
      | cons y l ih =>
        intro vs h i x hx
        simp only [RVs] at h
        obtain ⟨u, us, rfl, h1, h2⟩ := h
        cases i with
        | zero => simp at hx; subst hx; exact ⟨u, rfl, h1⟩
        | succ i => simpa using ih us h2 i x (by simpa using hx)
    simp only [initF]
    cases hx : args[i]? with
    | some x =>
      obtain ⟨v, h1, h2⟩ := hget _ _ hv i x hx
      have hlt : i < vs.length := (List.getElem?_eq_some_iff.1 h1).1
      have : (vs.toArray ++ Array.replicate (fn.ntmps - vs.toArray.size) undef).getD i undef = v := by
        rw [Array.getD_eq_getD_getElem?, Array.getElem?_append_left (by simpa using hlt)]
        simp [h1]
      rw [this]
      simp only [Option.getD_some]
      exact RV.rep x (RV.mono (fun b hb => ⟨⟨hJ b hb, fun _ => .inl hb, fun id a ho => by cases ho⟩, rfl⟩) x h2)
    | none =>
      have hge : args.length ≤ i := by simpa using hx
      have : (vs.toArray ++ Array.replicate (fn.ntmps - vs.toArray.size) undef).getD i undef = undef := by
        rw [Array.getD_eq_getD_getElem?, Array.getElem?_append_right (by simp; omega)]
        simp [Array.getElem?_replicate]
        split <;> rfl
      rw [this]
      exact undefRep
  refine wpIn_mono (wpC_soundF2 (rd := none) (B := B) (ds := []) hT hm kept_phiG c hcm hok hr ⟨⟨hheld.lt, ⟨hheld.lt, fun b hb => .inr hb⟩, hheld⟩, Tr.refl, trivial⟩ (h _ _ _ w _)) (fun e a' w' hp => ?_)
  obtain ⟨s', β', a0, ds', rfl, hQ, hr', _, ht, hmk⟩ := hp.plain
  have hres' : RetQR T rs R .ret s' → bodyPostM (fen none) 0 P fn (fun e w' => ∃ v r, e = .returned v ∧ R r ∧ w.heap.size ≤ w'.heap.size ∧ (∀ b, b < w.heap.size → w'.heap[b]? = w.heap[b]?) ∧ (w'.os = w.os ∧ w'.output = w.output) ∧ RV (Own ⟨w.heap.size, J'⟩ w') w' r v) .ret { a0 with defers := ds' } w' := by
    intro hQ
    refine leaves_marks hmk (fun w5 h5 => ?_)
    obtain ⟨v, avs, h1, ⟨r, h2, h3⟩, _, vs', rfl, h4⟩ := evalR_results hT (hr'.shut h5) hres hQ
    refine ⟨_, h1, _, r, rfl, h3, by rw [h5.size]; exact ht.size, fun b hb => ?_, ⟨h5.os.1.trans ht.os.1, h5.os.2.trans ht.os.2⟩, h2.rep (hr'.shut h5) h4⟩
    rcases h5.same b with e | ⟨e, _⟩
    · rw [e]; exact ht.old b hb
    · omega
  cases e with
  | normal => exact hres' hQ
  | ret => exact hres' hQ
  | exit id => exact hQ.elim
  | goto l => exact hQ.elim
  | panic ch => exact hQ.elim
  | outgrown => exact hQ.elim


theorem fun_of_wpG2 (B gb : Nat) (o : Hold) (hT : TabOk P T) (hm : P.follows .mixedOrders = true) {f : FuncId} {fn : Func} {c : Code} (hf : P.funcs[f]? = some fn) (hb : fn.body = some c) (hn : (fn.name == "runtime.NumGoroutine") = false)
    (rs : List ResultVar) (hres : fn.results = rs.toArray) (hcm : calm2 c = true) (hok : codeOk fn.ntmps c = true) {xs : List AV} (hargs : xs.length ≤ fn.ntmps) {g : Nat → Nat} {ob : Obs} {R : AV → (Nat → Nat) → Obs → Prop}
    (h : ∀ b₀ β0 s0 w0, wpC (spF P none b₀ (PhiN gb o b₀ β0 s0 w0) B noPan) T c (bx (RetFR T rs R)) ⟨initF xs, g, ob⟩) : FunG P gb o f xs g ob R := by
  refine ⟨⟨fn, hf, by rw [hb]; rfl, hn⟩, fun b₀ N β a fa w vs hgb hheld hr0 hv => ?_⟩
  refine calls_of_fen (n := 0) (callsIn_of_wp hf hb trivial ?_)
  have hr := rel_init (N := fn.ntmps) hargs hr0 hv
  refine wpIn_mono (wpC_soundF2 (rd := none) (B := B) (ds := []) hT hm kept_phiN c hcm hok hr ⟨⟨hgb, hheld⟩, rfl, Tr.refl⟩ (h b₀ β ⟨initF xs, g, ob⟩ w)) (fun e a' w' hp => ?_)
  obtain ⟨s', β', a0, ds', rfl, hQ, hr', _, rfl, ht⟩ := hp.plain
  have hres' : RetFR T rs R .ret s' → ∃ v, (results fn a0.tmps).run P w' = .ok v w' ∧ ∃ v' r g' ob' β', Ending.returned v = .returned v' ∧ R r g' ob' ∧ RepV b₀ β' g' ob' w' r v' ∧
      (∀ id cells, ob' id = some cells → ObjAt b₀ β' g' ob' w' (g' id) cells (β' id)) ∧ (∀ id id' a a', (ob' id).isSome = true → (ob' id').isSome = true → β' id = some a → β' id' = some a' → a.block = a'.block → id = id') ∧
      Tr b₀ β ⟨fa, g, ob⟩ w β' ⟨fa, g', ob'⟩ w' := by
    rintro ⟨s2, hvs, hR⟩
    obtain ⟨β2, hr2, ht2⟩ := hvs b₀ fn.ntmps β' a0 w' hr'
    have hta := ht.trans ht2
    obtain ⟨v, avs, h1, h2, h3, _⟩ := evalR_results hT hr2 hres hR
    exact ⟨v, h1, v, _, _, _, β2, rfl, h2, h3, hr2.obj, hr2.inj, ⟨hta.size, hta.old, hta.keep, hta.os⟩⟩
  cases e with
  | normal => exact ⟨rfl, hres' hQ⟩
  | ret => exact ⟨rfl, hres' hQ⟩
  | exit id => exact hQ.elim
  | goto l => exact hQ.elim
  | panic ch => exact hQ.elim
  | outgrown => exact hQ.elim

theorem FunG.mono {f : FuncId} {xs : List AV} {g : Nat → Nat} {ob : Obs} {R R' : AV → (Nat → Nat) → Obs → Prop} (h : FunG P gb o f xs g ob R) (hr : ∀ r g' ob', R r g' ob' → R' r g' ob') : FunG P gb o f xs g ob R' :=
  ⟨h.1, fun b₀ N β a fa w vs h0 h0' h1 h2 => (h.2 b₀ N β a fa w vs h0 h0' h1 h2).mono fun _ _ ⟨v, r, g', ob', β', q1, q2, q3⟩ => ⟨v, r, g', ob', β', q1, hr _ _ _ q2, q3⟩⟩
end
end Go.Am

namespace Go.Proofs.YtifciocionlciaaGreatDoor
open Go Go.Am

def ti1 : TI := ⟨.func #[] #[] false, 1, 8, [.nilf]⟩
theorem ty1 : TyOk Tryz.prog 1 ti1 := tyOk_of (by kernel_rfl) (z := dV (.nilf)) (by kernel_rfl) rfl rfl rfl (.inr rfl)
def ti2 : TI := ⟨.int .i64, 1, 8, [.int .i64 0]⟩
theorem ty2 : TyOk Tryz.prog 2 ti2 := tyOk_of (by kernel_rfl) (z := dV (.int .i64 0)) (by kernel_rfl) rfl rfl rfl (.inr rfl)
def ti3 : TI := ⟨.int .i64, 1, 8, [.int .i64 0]⟩
theorem ty3 : TyOk Tryz.prog 3 ti3 := tyOk_of (by kernel_rfl) (z := dV (.int .i64 0)) (by kernel_rfl) rfl rfl rfl (.inr rfl)
def ti4 : TI := ⟨.bool, 1, 1, [.bool false]⟩
theorem ty4 : TyOk Tryz.prog 4 ti4 := tyOk_of (by kernel_rfl) (z := dV (.bool false)) (by kernel_rfl) rfl rfl rfl (.inr rfl)
def ti5 : TI := ⟨.int .u8, 1, 1, [.int .u8 0]⟩
theorem ty5 : TyOk Tryz.prog 5 ti5 := tyOk_of (by kernel_rfl) (z := dV (.int .u8 0)) (by kernel_rfl) rfl rfl rfl (.inr rfl)
def ti6 : TI := ⟨.int .u8, 1, 1, [.int .u8 0]⟩
theorem ty6 : TyOk Tryz.prog 6 ti6 := tyOk_of (by kernel_rfl) (z := dV (.int .u8 0)) (by kernel_rfl) rfl rfl rfl (.inr rfl)
def ti7 : TI := ⟨.struct #[⟨"x", 2, 0, false, "", "runtime", 0⟩, ⟨"y", 3, 1, false, "", "runtime", 8⟩, ⟨"signed", 4, 2, false, "", "runtime", 16⟩, ⟨"code", 6, 3, false, "", "runtime", 17⟩], 4, 24, [.int .i64 0, .int .i64 0, .bool false, .int .u8 0]⟩
theorem ty7 : TyOk Tryz.prog 7 ti7 := tyOk_of (by kernel_rfl) (z := .agg #[dV (.int .i64 0), dV (.int .i64 0), dV (.bool false), dV (.int .u8 0)]) (by kernel_rfl) rfl rfl rfl (.inl rfl)
def ti8 : TI := ⟨.struct #[⟨"x", 2, 0, false, "", "runtime", 0⟩, ⟨"y", 3, 1, false, "", "runtime", 8⟩, ⟨"signed", 4, 2, false, "", "runtime", 16⟩, ⟨"code", 6, 3, false, "", "runtime", 17⟩], 4, 24, [.int .i64 0, .int .i64 0, .bool false, .int .u8 0]⟩
theorem ty8 : TyOk Tryz.prog 8 ti8 := tyOk_of (by kernel_rfl) (z := .agg #[dV (.int .i64 0), dV (.int .i64 0), dV (.bool false), dV (.int .u8 0)]) (by kernel_rfl) rfl rfl rfl (.inl rfl)
def ti9 : TI := ⟨.string, 1, 16, [.str []]⟩
theorem ty9 : TyOk Tryz.prog 9 ti9 := tyOk_of (by kernel_rfl) (z := dV (.str [])) (by kernel_rfl) rfl rfl rfl (.inr rfl)
def ti10 : TI := ⟨.string, 1, 16, [.str []]⟩
theorem ty10 : TyOk Tryz.prog 10 ti10 := tyOk_of (by kernel_rfl) (z := dV (.str [])) (by kernel_rfl) rfl rfl rfl (.inr rfl)
def ti11 : TI := ⟨.string, 1, 16, [.str []]⟩
theorem ty11 : TyOk Tryz.prog 11 ti11 := tyOk_of (by kernel_rfl) (z := dV (.str [])) (by kernel_rfl) rfl rfl rfl (.inr rfl)
def ti12 : TI := ⟨.int .u64, 1, 8, [.int .u64 0]⟩
theorem ty12 : TyOk Tryz.prog 12 ti12 := tyOk_of (by kernel_rfl) (z := dV (.int .u64 0)) (by kernel_rfl) rfl rfl rfl (.inr rfl)
def ti13 : TI := ⟨.struct #[⟨"msg", 9, 0, false, "", "runtime", 0⟩, ⟨"addr", 12, 1, false, "", "runtime", 16⟩], 2, 24, [.str [], .int .u64 0]⟩
theorem ty13 : TyOk Tryz.prog 13 ti13 := tyOk_of (by kernel_rfl) (z := .agg #[dV (.str []), dV (.int .u64 0)]) (by kernel_rfl) rfl rfl rfl (.inl rfl)
def ti14 : TI := ⟨.struct #[⟨"msg", 9, 0, false, "", "runtime", 0⟩, ⟨"addr", 12, 1, false, "", "runtime", 16⟩], 2, 24, [.str [], .int .u64 0]⟩
theorem ty14 : TyOk Tryz.prog 14 ti14 := tyOk_of (by kernel_rfl) (z := .agg #[dV (.str []), dV (.int .u64 0)]) (by kernel_rfl) rfl rfl rfl (.inl rfl)
def ti15 : TI := ⟨.pointer 146, 1, 8, [.nilp]⟩
theorem ty15 : TyOk Tryz.prog 15 ti15 := tyOk_of (by kernel_rfl) (z := dV (.nilp)) (by kernel_rfl) rfl rfl rfl (.inr rfl)
def ti16 : TI := ⟨.pointer 149, 1, 8, [.nilp]⟩
theorem ty16 : TyOk Tryz.prog 16 ti16 := tyOk_of (by kernel_rfl) (z := dV (.nilp)) (by kernel_rfl) rfl rfl rfl (.inr rfl)
def ti17 : TI := ⟨.pointer 156, 1, 8, [.nilp]⟩
theorem ty17 : TyOk Tryz.prog 17 ti17 := tyOk_of (by kernel_rfl) (z := dV (.nilp)) (by kernel_rfl) rfl rfl rfl (.inr rfl)
def ti18 : TI := ⟨.struct #[⟨"typ", 17, 0, false, "", "internal/runtime/maps", 0⟩], 1, 8, [.nilp]⟩
theorem ty18 : TyOk Tryz.prog 18 ti18 := tyOk_of (by kernel_rfl) (z := .agg #[dV (.nilp)]) (by kernel_rfl) rfl rfl rfl (.inl rfl)
def ti19 : TI := ⟨.struct #[⟨"typ", 17, 0, false, "", "internal/runtime/maps", 0⟩], 1, 8, [.nilp]⟩
theorem ty19 : TyOk Tryz.prog 19 ti19 := tyOk_of (by kernel_rfl) (z := .agg #[dV (.nilp)]) (by kernel_rfl) rfl rfl rfl (.inl rfl)
def ti20 : TI := ⟨.interface #[], 1, 16, [.nili]⟩
theorem ty20 : TyOk Tryz.prog 20 ti20 := tyOk_of (by kernel_rfl) (z := dV (.nili)) (by kernel_rfl) rfl rfl rfl (.inr rfl)
def ti21 : TI := ⟨.int .i32, 1, 4, [.int .i32 0]⟩
theorem ty21 : TyOk Tryz.prog 21 ti21 := tyOk_of (by kernel_rfl) (z := dV (.int .i32 0)) (by kernel_rfl) rfl rfl rfl (.inr rfl)
def ti22 : TI := ⟨.func #[] #[4] false, 1, 8, [.nilf]⟩
theorem ty22 : TyOk Tryz.prog 22 ti22 := tyOk_of (by kernel_rfl) (z := dV (.nilf)) (by kernel_rfl) rfl rfl rfl (.inr rfl)
def ti23 : TI := ⟨.slice 35, 1, 24, [.nsl]⟩
theorem ty23 : TyOk Tryz.prog 23 ti23 := tyOk_of (by kernel_rfl) (z := dV (.nsl)) (by kernel_rfl) rfl rfl rfl (.inr rfl)
def ti24 : TI := ⟨.struct #[⟨"Code", 23, 0, false, "", "", 0⟩, ⟨"Data", 3, 1, false, "", "", 24⟩], 2, 32, [.nsl, .int .i64 0]⟩
theorem ty24 : TyOk Tryz.prog 24 ti24 := tyOk_of (by kernel_rfl) (z := .agg #[dV (.nsl), dV (.int .i64 0)]) (by kernel_rfl) rfl rfl rfl (.inl rfl)
def ti25 : TI := ⟨.struct #[⟨"Code", 23, 0, false, "", "", 0⟩, ⟨"Data", 3, 1, false, "", "", 24⟩], 2, 32, [.nsl, .int .i64 0]⟩
theorem ty25 : TyOk Tryz.prog 25 ti25 := tyOk_of (by kernel_rfl) (z := .agg #[dV (.nsl), dV (.int .i64 0)]) (by kernel_rfl) rfl rfl rfl (.inl rfl)
def ti26 : TI := ⟨.int .i64, 1, 8, [.int .i64 0]⟩
theorem ty26 : TyOk Tryz.prog 26 ti26 := tyOk_of (by kernel_rfl) (z := dV (.int .i64 0)) (by kernel_rfl) rfl rfl rfl (.inr rfl)
def ti28 : TI := ⟨.func #[9] #[25, 3, 26] false, 1, 8, [.nilf]⟩
theorem ty28 : TyOk Tryz.prog 28 ti28 := tyOk_of (by kernel_rfl) (z := dV (.nilf)) (by kernel_rfl) rfl rfl rfl (.inr rfl)
def ti29 : TI := ⟨.func #[25, 25] #[4] false, 1, 8, [.nilf]⟩
theorem ty29 : TyOk Tryz.prog 29 ti29 := tyOk_of (by kernel_rfl) (z := dV (.nilf)) (by kernel_rfl) rfl rfl rfl (.inr rfl)
def ti30 : TI := ⟨.func #[25] #[4] false, 1, 8, [.nilf]⟩
theorem ty30 : TyOk Tryz.prog 30 ti30 := tyOk_of (by kernel_rfl) (z := dV (.nilf)) (by kernel_rfl) rfl rfl rfl (.inr rfl)
def ti31 : TI := ⟨.func #[9] #[4] false, 1, 8, [.nilf]⟩
theorem ty31 : TyOk Tryz.prog 31 ti31 := tyOk_of (by kernel_rfl) (z := dV (.nilf)) (by kernel_rfl) rfl rfl rfl (.inr rfl)
def ti32 : TI := ⟨.slice 9, 1, 24, [.nsl]⟩
theorem ty32 : TyOk Tryz.prog 32 ti32 := tyOk_of (by kernel_rfl) (z := dV (.nsl)) (by kernel_rfl) rfl rfl rfl (.inr rfl)
def ti34 : TI := ⟨.func #[9] #[9, 9, 32, 26] false, 1, 8, [.nilf]⟩
theorem ty34 : TyOk Tryz.prog 34 ti34 := tyOk_of (by kernel_rfl) (z := dV (.nilf)) (by kernel_rfl) rfl rfl rfl (.inr rfl)
def ti35 : TI := ⟨.int .u32, 1, 4, [.int .u32 0]⟩
theorem ty35 : TyOk Tryz.prog 35 ti35 := tyOk_of (by kernel_rfl) (z := dV (.int .u32 0)) (by kernel_rfl) rfl rfl rfl (.inr rfl)
def ti36 : TI := ⟨.func #[32, 32] #[4] false, 1, 8, [.nilf]⟩
theorem ty36 : TyOk Tryz.prog 36 ti36 := tyOk_of (by kernel_rfl) (z := dV (.nilf)) (by kernel_rfl) rfl rfl rfl (.inr rfl)
def ti37 : TI := ⟨.map 9 3, 1, 8, [.nilm]⟩
theorem ty37 : TyOk Tryz.prog 37 ti37 := tyOk_of (by kernel_rfl) (z := dV (.nilm)) (by kernel_rfl) rfl rfl rfl (.inr rfl)
def ti38 : TI := ⟨.slice 44, 1, 24, [.nsl]⟩
theorem ty38 : TyOk Tryz.prog 38 ti38 := tyOk_of (by kernel_rfl) (z := dV (.nsl)) (by kernel_rfl) rfl rfl rfl (.inr rfl)
def ti39 : TI := ⟨.struct #[⟨"m", 25, 0, false, "", "seedcorn/asm", 0⟩, ⟨"data", 4, 2, false, "", "seedcorn/asm", 32⟩, ⟨"places", 37, 3, false, "", "seedcorn/asm", 40⟩, ⟨"uses", 38, 4, false, "", "seedcorn/asm", 48⟩], 5, 72, [.nsl, .int .i64 0, .bool false, .nilm, .nsl]⟩
theorem ty39 : TyOk Tryz.prog 39 ti39 := tyOk_of (by kernel_rfl) (z := .agg #[dV (.nsl), dV (.int .i64 0), dV (.bool false), dV (.nilm), dV (.nsl)]) (by kernel_rfl) rfl rfl rfl (.inl rfl)
def ti40 : TI := ⟨.struct #[⟨"m", 25, 0, false, "", "seedcorn/asm", 0⟩, ⟨"data", 4, 2, false, "", "seedcorn/asm", 32⟩, ⟨"places", 37, 3, false, "", "seedcorn/asm", 40⟩, ⟨"uses", 38, 4, false, "", "seedcorn/asm", 48⟩], 5, 72, [.nsl, .int .i64 0, .bool false, .nilm, .nsl]⟩
theorem ty40 : TyOk Tryz.prog 40 ti40 := tyOk_of (by kernel_rfl) (z := .agg #[dV (.nsl), dV (.int .i64 0), dV (.bool false), dV (.nilm), dV (.nsl)]) (by kernel_rfl) rfl rfl rfl (.inl rfl)
def ti41 : TI := ⟨.func #[9, 9] #[32] false, 1, 8, [.nilf]⟩
theorem ty41 : TyOk Tryz.prog 41 ti41 := tyOk_of (by kernel_rfl) (z := dV (.nilf)) (by kernel_rfl) rfl rfl rfl (.inr rfl)
def ti42 : TI := ⟨.func #[3, 9] #[26] false, 1, 8, [.nilf]⟩
theorem ty42 : TyOk Tryz.prog 42 ti42 := tyOk_of (by kernel_rfl) (z := dV (.nilf)) (by kernel_rfl) rfl rfl rfl (.inr rfl)
def ti43 : TI := ⟨.struct #[⟨"line", 3, 0, false, "", "seedcorn/asm", 0⟩, ⟨"at", 3, 1, false, "", "seedcorn/asm", 8⟩, ⟨"label", 9, 2, false, "", "seedcorn/asm", 16⟩], 3, 32, [.int .i64 0, .int .i64 0, .str []]⟩
theorem ty43 : TyOk Tryz.prog 43 ti43 := tyOk_of (by kernel_rfl) (z := .agg #[dV (.int .i64 0), dV (.int .i64 0), dV (.str [])]) (by kernel_rfl) rfl rfl rfl (.inl rfl)
def ti44 : TI := ⟨.struct #[⟨"line", 3, 0, false, "", "seedcorn/asm", 0⟩, ⟨"at", 3, 1, false, "", "seedcorn/asm", 8⟩, ⟨"label", 9, 2, false, "", "seedcorn/asm", 16⟩], 3, 32, [.int .i64 0, .int .i64 0, .str []]⟩
theorem ty44 : TyOk Tryz.prog 44 ti44 := tyOk_of (by kernel_rfl) (z := .agg #[dV (.int .i64 0), dV (.int .i64 0), dV (.str [])]) (by kernel_rfl) rfl rfl rfl (.inl rfl)
def ti46 : TI := ⟨.pointer 50, 1, 8, [.nilp]⟩
theorem ty46 : TyOk Tryz.prog 46 ti46 := tyOk_of (by kernel_rfl) (z := dV (.nilp)) (by kernel_rfl) rfl rfl rfl (.inr rfl)
def ti47 : TI := ⟨.slice 3, 1, 24, [.nsl]⟩
theorem ty47 : TyOk Tryz.prog 47 ti47 := tyOk_of (by kernel_rfl) (z := dV (.nsl)) (by kernel_rfl) rfl rfl rfl (.inr rfl)
def ti48 : TI := ⟨.slice 55, 1, 24, [.nsl]⟩
theorem ty48 : TyOk Tryz.prog 48 ti48 := tyOk_of (by kernel_rfl) (z := dV (.nsl)) (by kernel_rfl) rfl rfl rfl (.inr rfl)
def ti49 : TI := ⟨.struct #[⟨"image", 25, 0, false, "", "seedcorn/seedcornref12", 0⟩, ⟨"labels", 32, 2, false, "", "seedcorn/seedcornref12", 32⟩, ⟨"places", 47, 3, false, "", "seedcorn/seedcornref12", 56⟩, ⟨"uses", 48, 4, false, "", "seedcorn/seedcornref12", 80⟩, ⟨"data", 4, 5, false, "", "seedcorn/seedcornref12", 104⟩], 6, 112, [.nsl, .int .i64 0, .nsl, .nsl, .nsl, .bool false]⟩
theorem ty49 : TyOk Tryz.prog 49 ti49 := tyOk_of (by kernel_rfl) (z := .agg #[dV (.nsl), dV (.int .i64 0), dV (.nsl), dV (.nsl), dV (.nsl), dV (.bool false)]) (by kernel_rfl) rfl rfl rfl (.inl rfl)
def ti50 : TI := ⟨.struct #[⟨"image", 25, 0, false, "", "seedcorn/seedcornref12", 0⟩, ⟨"labels", 32, 2, false, "", "seedcorn/seedcornref12", 32⟩, ⟨"places", 47, 3, false, "", "seedcorn/seedcornref12", 56⟩, ⟨"uses", 48, 4, false, "", "seedcorn/seedcornref12", 80⟩, ⟨"data", 4, 5, false, "", "seedcorn/seedcornref12", 104⟩], 6, 112, [.nsl, .int .i64 0, .nsl, .nsl, .nsl, .bool false]⟩
theorem ty50 : TyOk Tryz.prog 50 ti50 := tyOk_of (by kernel_rfl) (z := .agg #[dV (.nsl), dV (.int .i64 0), dV (.nsl), dV (.nsl), dV (.nsl), dV (.bool false)]) (by kernel_rfl) rfl rfl rfl (.inl rfl)
def ti51 : TI := ⟨.func #[9] #[32] false, 1, 8, [.nilf]⟩
theorem ty51 : TyOk Tryz.prog 51 ti51 := tyOk_of (by kernel_rfl) (z := dV (.nilf)) (by kernel_rfl) rfl rfl rfl (.inr rfl)
def ti52 : TI := ⟨.func #[9] #[3] false, 1, 8, [.nilf]⟩
theorem ty52 : TyOk Tryz.prog 52 ti52 := tyOk_of (by kernel_rfl) (z := dV (.nilf)) (by kernel_rfl) rfl rfl rfl (.inr rfl)
def ti53 : TI := ⟨.func #[9, 32, 3] #[26] false, 1, 8, [.nilf]⟩
theorem ty53 : TyOk Tryz.prog 53 ti53 := tyOk_of (by kernel_rfl) (z := dV (.nilf)) (by kernel_rfl) rfl rfl rfl (.inr rfl)
def ti54 : TI := ⟨.struct #[⟨"label", 9, 0, false, "", "seedcorn/seedcornref12", 0⟩, ⟨"line", 3, 1, false, "", "seedcorn/seedcornref12", 16⟩, ⟨"word", 3, 2, false, "", "seedcorn/seedcornref12", 24⟩], 3, 32, [.str [], .int .i64 0, .int .i64 0]⟩
theorem ty54 : TyOk Tryz.prog 54 ti54 := tyOk_of (by kernel_rfl) (z := .agg #[dV (.str []), dV (.int .i64 0), dV (.int .i64 0)]) (by kernel_rfl) rfl rfl rfl (.inl rfl)
def ti55 : TI := ⟨.struct #[⟨"label", 9, 0, false, "", "seedcorn/seedcornref12", 0⟩, ⟨"line", 3, 1, false, "", "seedcorn/seedcornref12", 16⟩, ⟨"word", 3, 2, false, "", "seedcorn/seedcornref12", 24⟩], 3, 32, [.str [], .int .i64 0, .int .i64 0]⟩
theorem ty55 : TyOk Tryz.prog 55 ti55 := tyOk_of (by kernel_rfl) (z := .agg #[dV (.str []), dV (.int .i64 0), dV (.int .i64 0)]) (by kernel_rfl) rfl rfl rfl (.inl rfl)
def ti57 : TI := ⟨.func #[9, 9] #[9, 9, 4] false, 1, 8, [.nilf]⟩
theorem ty57 : TyOk Tryz.prog 57 ti57 := tyOk_of (by kernel_rfl) (z := dV (.nilf)) (by kernel_rfl) rfl rfl rfl (.inr rfl)
def ti58 : TI := ⟨.func #[9, 9] #[9] false, 1, 8, [.nilf]⟩
theorem ty58 : TyOk Tryz.prog 58 ti58 := tyOk_of (by kernel_rfl) (z := dV (.nilf)) (by kernel_rfl) rfl rfl rfl (.inr rfl)
def ti59 : TI := ⟨.func #[9, 9] #[3] false, 1, 8, [.nilf]⟩
theorem ty59 : TyOk Tryz.prog 59 ti59 := tyOk_of (by kernel_rfl) (z := dV (.nilf)) (by kernel_rfl) rfl rfl rfl (.inr rfl)
def ti60 : TI := ⟨.func #[9, 9, 3, 3] #[32] false, 1, 8, [.nilf]⟩
theorem ty60 : TyOk Tryz.prog 60 ti60 := tyOk_of (by kernel_rfl) (z := dV (.nilf)) (by kernel_rfl) rfl rfl rfl (.inr rfl)
def ti61 : TI := ⟨.pointer 40, 1, 8, [.nilp]⟩
theorem ty61 : TyOk Tryz.prog 61 ti61 := tyOk_of (by kernel_rfl) (z := dV (.nilp)) (by kernel_rfl) rfl rfl rfl (.inr rfl)
def ti62 : TI := ⟨.func #[9, 32] #[26] false, 1, 8, [.nilf]⟩
theorem ty62 : TyOk Tryz.prog 62 ti62 := tyOk_of (by kernel_rfl) (z := dV (.nilf)) (by kernel_rfl) rfl rfl rfl (.inr rfl)
def ti63 : TI := ⟨.func #[3, 3, 32] #[26] false, 1, 8, [.nilf]⟩
theorem ty63 : TyOk Tryz.prog 63 ti63 := tyOk_of (by kernel_rfl) (z := dV (.nilf)) (by kernel_rfl) rfl rfl rfl (.inr rfl)
def ti64 : TI := ⟨.func #[9, 5] #[3] false, 1, 8, [.nilf]⟩
theorem ty64 : TyOk Tryz.prog 64 ti64 := tyOk_of (by kernel_rfl) (z := dV (.nilf)) (by kernel_rfl) rfl rfl rfl (.inr rfl)
def ti65 : TI := ⟨.func #[9] #[9] false, 1, 8, [.nilf]⟩
theorem ty65 : TyOk Tryz.prog 65 ti65 := tyOk_of (by kernel_rfl) (z := dV (.nilf)) (by kernel_rfl) rfl rfl rfl (.inr rfl)
def ti66 : TI := ⟨.func #[5] #[4] false, 1, 8, [.nilf]⟩
theorem ty66 : TyOk Tryz.prog 66 ti66 := tyOk_of (by kernel_rfl) (z := dV (.nilf)) (by kernel_rfl) rfl rfl rfl (.inr rfl)
def ti67 : TI := ⟨.array 3 3, 3, 24, [.int .i64 0, .int .i64 0, .int .i64 0]⟩
theorem ty67 : TyOk Tryz.prog 67 ti67 := tyOk_of (by kernel_rfl) (z := .agg #[dV (.int .i64 0), dV (.int .i64 0), dV (.int .i64 0)]) (by kernel_rfl) rfl rfl rfl (.inl rfl)
def ti69 : TI := ⟨.func #[9] #[35, 3] false, 1, 8, [.nilf]⟩
theorem ty69 : TyOk Tryz.prog 69 ti69 := tyOk_of (by kernel_rfl) (z := dV (.nilf)) (by kernel_rfl) rfl rfl rfl (.inr rfl)
def ti70 : TI := ⟨.struct #[⟨"Op", 3, 0, false, "", "", 0⟩, ⟨"A", 3, 1, false, "", "", 8⟩, ⟨"B", 3, 2, false, "", "", 16⟩, ⟨"C", 3, 3, false, "", "", 24⟩], 4, 32, [.int .i64 0, .int .i64 0, .int .i64 0, .int .i64 0]⟩
theorem ty70 : TyOk Tryz.prog 70 ti70 := tyOk_of (by kernel_rfl) (z := .agg #[dV (.int .i64 0), dV (.int .i64 0), dV (.int .i64 0), dV (.int .i64 0)]) (by kernel_rfl) rfl rfl rfl (.inl rfl)
def ti71 : TI := ⟨.struct #[⟨"Op", 3, 0, false, "", "", 0⟩, ⟨"A", 3, 1, false, "", "", 8⟩, ⟨"B", 3, 2, false, "", "", 16⟩, ⟨"C", 3, 3, false, "", "", 24⟩], 4, 32, [.int .i64 0, .int .i64 0, .int .i64 0, .int .i64 0]⟩
theorem ty71 : TyOk Tryz.prog 71 ti71 := tyOk_of (by kernel_rfl) (z := .agg #[dV (.int .i64 0), dV (.int .i64 0), dV (.int .i64 0), dV (.int .i64 0)]) (by kernel_rfl) rfl rfl rfl (.inl rfl)
def ti73 : TI := ⟨.func #[71] #[35, 26] false, 1, 8, [.nilf]⟩
theorem ty73 : TyOk Tryz.prog 73 ti73 := tyOk_of (by kernel_rfl) (z := dV (.nilf)) (by kernel_rfl) rfl rfl rfl (.inr rfl)
def ti74 : TI := ⟨.func #[9, 5] #[9] false, 1, 8, [.nilf]⟩
theorem ty74 : TyOk Tryz.prog 74 ti74 := tyOk_of (by kernel_rfl) (z := dV (.nilf)) (by kernel_rfl) rfl rfl rfl (.inr rfl)
def ti78 : TI := ⟨.func #[9] #[76, 4] false, 1, 8, [.nilf]⟩
theorem ty78 : TyOk Tryz.prog 78 ti78 := tyOk_of (by kernel_rfl) (z := dV (.nilf)) (by kernel_rfl) rfl rfl rfl (.inr rfl)
def ti79 : TI := ⟨.func #[9, 80] #[9] false, 1, 8, [.nilf]⟩
theorem ty79 : TyOk Tryz.prog 79 ti79 := tyOk_of (by kernel_rfl) (z := dV (.nilf)) (by kernel_rfl) rfl rfl rfl (.inr rfl)
def ti80 : TI := ⟨.pointer 76, 1, 8, [.nilp]⟩
theorem ty80 : TyOk Tryz.prog 80 ti80 := tyOk_of (by kernel_rfl) (z := dV (.nilp)) (by kernel_rfl) rfl rfl rfl (.inr rfl)
def ti81 : TI := ⟨.func #[9, 21] #[3] false, 1, 8, [.nilf]⟩
theorem ty81 : TyOk Tryz.prog 81 ti81 := tyOk_of (by kernel_rfl) (z := dV (.nilf)) (by kernel_rfl) rfl rfl rfl (.inr rfl)
def ti82 : TI := ⟨.func #[3] #[4] false, 1, 8, [.nilf]⟩
theorem ty82 : TyOk Tryz.prog 82 ti82 := tyOk_of (by kernel_rfl) (z := dV (.nilf)) (by kernel_rfl) rfl rfl rfl (.inr rfl)
def ti83 : TI := ⟨.func #[9, 3] #[32] false, 1, 8, [.nilf]⟩
theorem ty83 : TyOk Tryz.prog 83 ti83 := tyOk_of (by kernel_rfl) (z := dV (.nilf)) (by kernel_rfl) rfl rfl rfl (.inr rfl)
def ti84 : TI := ⟨.struct #[⟨"kind", 3, 0, false, "", "seedcorn/asm", 0⟩, ⟨"n", 35, 1, false, "", "seedcorn/asm", 8⟩, ⟨"great", 4, 2, false, "", "seedcorn/asm", 12⟩], 3, 16, [.int .i64 0, .int .u32 0, .bool false]⟩
theorem ty84 : TyOk Tryz.prog 84 ti84 := tyOk_of (by kernel_rfl) (z := .agg #[dV (.int .i64 0), dV (.int .u32 0), dV (.bool false)]) (by kernel_rfl) rfl rfl rfl (.inl rfl)
def ti85 : TI := ⟨.struct #[⟨"kind", 3, 0, false, "", "seedcorn/asm", 0⟩, ⟨"n", 35, 1, false, "", "seedcorn/asm", 8⟩, ⟨"great", 4, 2, false, "", "seedcorn/asm", 12⟩], 3, 16, [.int .i64 0, .int .u32 0, .bool false]⟩
theorem ty85 : TyOk Tryz.prog 85 ti85 := tyOk_of (by kernel_rfl) (z := .agg #[dV (.int .i64 0), dV (.int .u32 0), dV (.bool false)]) (by kernel_rfl) rfl rfl rfl (.inl rfl)
def ti86 : TI := ⟨.func #[9] #[85] false, 1, 8, [.nilf]⟩
theorem ty86 : TyOk Tryz.prog 86 ti86 := tyOk_of (by kernel_rfl) (z := dV (.nilf)) (by kernel_rfl) rfl rfl rfl (.inr rfl)
def ti87 : TI := ⟨.func #[35] #[26] false, 1, 8, [.nilf]⟩
theorem ty87 : TyOk Tryz.prog 87 ti87 := tyOk_of (by kernel_rfl) (z := dV (.nilf)) (by kernel_rfl) rfl rfl rfl (.inr rfl)
def ti88 : TI := ⟨.struct #[⟨"name", 9, 0, false, "", "seedcorn/inst", 0⟩, ⟨"a", 4, 1, false, "", "seedcorn/inst", 16⟩, ⟨"b", 4, 2, false, "", "seedcorn/inst", 17⟩, ⟨"c", 3, 3, false, "", "seedcorn/inst", 24⟩], 4, 32, [.str [], .bool false, .bool false, .int .i64 0]⟩
theorem ty88 : TyOk Tryz.prog 88 ti88 := tyOk_of (by kernel_rfl) (z := .agg #[dV (.str []), dV (.bool false), dV (.bool false), dV (.int .i64 0)]) (by kernel_rfl) rfl rfl rfl (.inl rfl)
def ti89 : TI := ⟨.struct #[⟨"name", 9, 0, false, "", "seedcorn/inst", 0⟩, ⟨"a", 4, 1, false, "", "seedcorn/inst", 16⟩, ⟨"b", 4, 2, false, "", "seedcorn/inst", 17⟩, ⟨"c", 3, 3, false, "", "seedcorn/inst", 24⟩], 4, 32, [.str [], .bool false, .bool false, .int .i64 0]⟩
theorem ty89 : TyOk Tryz.prog 89 ti89 := tyOk_of (by kernel_rfl) (z := .agg #[dV (.str []), dV (.bool false), dV (.bool false), dV (.int .i64 0)]) (by kernel_rfl) rfl rfl rfl (.inl rfl)
def ti90 : TI := ⟨.func #[3] #[89] false, 1, 8, [.nilf]⟩
theorem ty90 : TyOk Tryz.prog 90 ti90 := tyOk_of (by kernel_rfl) (z := dV (.nilf)) (by kernel_rfl) rfl rfl rfl (.inr rfl)
def ti92 : TI := ⟨.func #[3] #[4, 4, 3] false, 1, 8, [.nilf]⟩
theorem ty92 : TyOk Tryz.prog 92 ti92 := tyOk_of (by kernel_rfl) (z := dV (.nilf)) (by kernel_rfl) rfl rfl rfl (.inr rfl)
def ti93 : TI := ⟨.slice 94, 1, 24, [.nsl]⟩
theorem ty93 : TyOk Tryz.prog 93 ti93 := tyOk_of (by kernel_rfl) (z := dV (.nsl)) (by kernel_rfl) rfl rfl rfl (.inr rfl)
def ti94 : TI := ⟨.pointer 3, 1, 8, [.nilp]⟩
theorem ty94 : TyOk Tryz.prog 94 ti94 := tyOk_of (by kernel_rfl) (z := dV (.nilp)) (by kernel_rfl) rfl rfl rfl (.inr rfl)
def ti95 : TI := ⟨.func #[3, 71, 9] #[26] false, 1, 8, [.nilf]⟩
theorem ty95 : TyOk Tryz.prog 95 ti95 := tyOk_of (by kernel_rfl) (z := dV (.nilf)) (by kernel_rfl) rfl rfl rfl (.inr rfl)
def ti96 : TI := ⟨.func #[71] #[26] false, 1, 8, [.nilf]⟩
theorem ty96 : TyOk Tryz.prog 96 ti96 := tyOk_of (by kernel_rfl) (z := dV (.nilf)) (by kernel_rfl) rfl rfl rfl (.inr rfl)
def ti97 : TI := ⟨.func #[9] #[35, 26] false, 1, 8, [.nilf]⟩
theorem ty97 : TyOk Tryz.prog 97 ti97 := tyOk_of (by kernel_rfl) (z := dV (.nilf)) (by kernel_rfl) rfl rfl rfl (.inr rfl)
def ti98 : TI := ⟨.func #[5] #[35] false, 1, 8, [.nilf]⟩
theorem ty98 : TyOk Tryz.prog 98 ti98 := tyOk_of (by kernel_rfl) (z := dV (.nilf)) (by kernel_rfl) rfl rfl rfl (.inr rfl)
def ti99 : TI := ⟨.func #[3] #[9] false, 1, 8, [.nilf]⟩
theorem ty99 : TyOk Tryz.prog 99 ti99 := tyOk_of (by kernel_rfl) (z := dV (.nilf)) (by kernel_rfl) rfl rfl rfl (.inr rfl)
def ti100 : TI := ⟨.func #[71] #[4] false, 1, 8, [.nilf]⟩
theorem ty100 : TyOk Tryz.prog 100 ti100 := tyOk_of (by kernel_rfl) (z := dV (.nilf)) (by kernel_rfl) rfl rfl rfl (.inr rfl)
def ti102 : TI := ⟨.func #[9] #[21, 3] false, 1, 8, [.nilf]⟩
theorem ty102 : TyOk Tryz.prog 102 ti102 := tyOk_of (by kernel_rfl) (z := dV (.nilf)) (by kernel_rfl) rfl rfl rfl (.inr rfl)
def ti103 : TI := ⟨.func #[9, 21] #[4] false, 1, 8, [.nilf]⟩
theorem ty103 : TyOk Tryz.prog 103 ti103 := tyOk_of (by kernel_rfl) (z := dV (.nilf)) (by kernel_rfl) rfl rfl rfl (.inr rfl)
def ti104 : TI := ⟨.func #[21] #[4] false, 1, 8, [.nilf]⟩
theorem ty104 : TyOk Tryz.prog 104 ti104 := tyOk_of (by kernel_rfl) (z := dV (.nilf)) (by kernel_rfl) rfl rfl rfl (.inr rfl)
def ti105 : TI := ⟨.func #[3] #[3] false, 1, 8, [.nilf]⟩
theorem ty105 : TyOk Tryz.prog 105 ti105 := tyOk_of (by kernel_rfl) (z := dV (.nilf)) (by kernel_rfl) rfl rfl rfl (.inr rfl)
def ti106 : TI := ⟨.int .u64, 1, 8, [.int .u64 0]⟩
theorem ty106 : TyOk Tryz.prog 106 ti106 := tyOk_of (by kernel_rfl) (z := dV (.int .u64 0)) (by kernel_rfl) rfl rfl rfl (.inr rfl)
def ti108 : TI := ⟨.func #[9, 9] #[9, 4] false, 1, 8, [.nilf]⟩
theorem ty108 : TyOk Tryz.prog 108 ti108 := tyOk_of (by kernel_rfl) (z := dV (.nilf)) (by kernel_rfl) rfl rfl rfl (.inr rfl)
def ti109 : TI := ⟨.int .u64, 1, 8, [.int .u64 0]⟩
theorem ty109 : TyOk Tryz.prog 109 ti109 := tyOk_of (by kernel_rfl) (z := dV (.int .u64 0)) (by kernel_rfl) rfl rfl rfl (.inr rfl)
def ti110 : TI := ⟨.func #[9, 5] #[4] false, 1, 8, [.nilf]⟩
theorem ty110 : TyOk Tryz.prog 110 ti110 := tyOk_of (by kernel_rfl) (z := dV (.nilf)) (by kernel_rfl) rfl rfl rfl (.inr rfl)
def ti111 : TI := ⟨.func #[4, 3, 3] #[4] false, 1, 8, [.nilf]⟩
theorem ty111 : TyOk Tryz.prog 111 ti111 := tyOk_of (by kernel_rfl) (z := dV (.nilf)) (by kernel_rfl) rfl rfl rfl (.inr rfl)
def ti112 : TI := ⟨.func #[9, 9] #[4] false, 1, 8, [.nilf]⟩
theorem ty112 : TyOk Tryz.prog 112 ti112 := tyOk_of (by kernel_rfl) (z := dV (.nilf)) (by kernel_rfl) rfl rfl rfl (.inr rfl)
def ti114 : TI := ⟨.func #[9] #[9, 3, 26] false, 1, 8, [.nilf]⟩
theorem ty114 : TyOk Tryz.prog 114 ti114 := tyOk_of (by kernel_rfl) (z := dV (.nilf)) (by kernel_rfl) rfl rfl rfl (.inr rfl)
def ti115 : TI := ⟨.func #[9, 3] #[9] false, 1, 8, [.nilf]⟩
theorem ty115 : TyOk Tryz.prog 115 ti115 := tyOk_of (by kernel_rfl) (z := dV (.nilf)) (by kernel_rfl) rfl rfl rfl (.inr rfl)
def ti117 : TI := ⟨.func #[9] #[35, 35] false, 1, 8, [.nilf]⟩
theorem ty117 : TyOk Tryz.prog 117 ti117 := tyOk_of (by kernel_rfl) (z := dV (.nilf)) (by kernel_rfl) rfl rfl rfl (.inr rfl)
def ti119 : TI := ⟨.struct #[⟨"lo", 5, 0, false, "", "unicode/utf8", 0⟩, ⟨"hi", 5, 1, false, "", "unicode/utf8", 1⟩], 2, 2, [.int .u8 0, .int .u8 0]⟩
theorem ty119 : TyOk Tryz.prog 119 ti119 := tyOk_of (by kernel_rfl) (z := .agg #[dV (.int .u8 0), dV (.int .u8 0)]) (by kernel_rfl) rfl rfl rfl (.inl rfl)
def ti120 : TI := ⟨.struct #[⟨"lo", 5, 0, false, "", "unicode/utf8", 0⟩, ⟨"hi", 5, 1, false, "", "unicode/utf8", 1⟩], 2, 2, [.int .u8 0, .int .u8 0]⟩
theorem ty120 : TyOk Tryz.prog 120 ti120 := tyOk_of (by kernel_rfl) (z := .agg #[dV (.int .u8 0), dV (.int .u8 0)]) (by kernel_rfl) rfl rfl rfl (.inl rfl)
def ti121 : TI := ⟨.array 16 120, 32, 32, [.int .u8 0, .int .u8 0, .int .u8 0, .int .u8 0, .int .u8 0, .int .u8 0, .int .u8 0, .int .u8 0, .int .u8 0, .int .u8 0, .int .u8 0, .int .u8 0, .int .u8 0, .int .u8 0, .int .u8 0, .int .u8 0, .int .u8 0, .int .u8 0, .int .u8 0, .int .u8 0, .int .u8 0, .int .u8 0, .int .u8 0, .int .u8 0, .int .u8 0, .int .u8 0, .int .u8 0, .int .u8 0, .int .u8 0, .int .u8 0, .int .u8 0, .int .u8 0]⟩
theorem ty121 : TyOk Tryz.prog 121 ti121 := tyOk_of (by kernel_rfl) (z := .agg #[dV (.int .u8 0), dV (.int .u8 0), dV (.int .u8 0), dV (.int .u8 0), dV (.int .u8 0), dV (.int .u8 0), dV (.int .u8 0), dV (.int .u8 0), dV (.int .u8 0), dV (.int .u8 0), dV (.int .u8 0), dV (.int .u8 0), dV (.int .u8 0), dV (.int .u8 0), dV (.int .u8 0), dV (.int .u8 0), dV (.int .u8 0), dV (.int .u8 0), dV (.int .u8 0), dV (.int .u8 0), dV (.int .u8 0), dV (.int .u8 0), dV (.int .u8 0), dV (.int .u8 0), dV (.int .u8 0), dV (.int .u8 0), dV (.int .u8 0), dV (.int .u8 0), dV (.int .u8 0), dV (.int .u8 0), dV (.int .u8 0), dV (.int .u8 0)]) (by kernel_rfl) rfl rfl rfl (.inl rfl)
def ti122 : TI := ⟨.slice 5, 1, 24, [.nsl]⟩
theorem ty122 : TyOk Tryz.prog 122 ti122 := tyOk_of (by kernel_rfl) (z := dV (.nsl)) (by kernel_rfl) rfl rfl rfl (.inr rfl)
def ti123 : TI := ⟨.func #[5] #[3] false, 1, 8, [.nilf]⟩
theorem ty123 : TyOk Tryz.prog 123 ti123 := tyOk_of (by kernel_rfl) (z := dV (.nilf)) (by kernel_rfl) rfl rfl rfl (.inr rfl)
def ti125 : TI := ⟨.func #[106, 106] #[106, 106] false, 1, 8, [.nilf]⟩
theorem ty125 : TyOk Tryz.prog 125 ti125 := tyOk_of (by kernel_rfl) (z := dV (.nilf)) (by kernel_rfl) rfl rfl rfl (.inr rfl)
def ti126 : TI := ⟨.pointer 128, 1, 8, [.nilp]⟩
theorem ty126 : TyOk Tryz.prog 126 ti126 := tyOk_of (by kernel_rfl) (z := dV (.nilp)) (by kernel_rfl) rfl rfl rfl (.inr rfl)
def ti127 : TI := ⟨.struct #[⟨"addr", 126, 0, false, "", "strings", 0⟩, ⟨"buf", 122, 1, false, "", "strings", 8⟩], 2, 32, [.nilp, .nsl]⟩
theorem ty127 : TyOk Tryz.prog 127 ti127 := tyOk_of (by kernel_rfl) (z := .agg #[dV (.nilp), dV (.nsl)]) (by kernel_rfl) rfl rfl rfl (.inl rfl)
def ti128 : TI := ⟨.struct #[⟨"addr", 126, 0, false, "", "strings", 0⟩, ⟨"buf", 122, 1, false, "", "strings", 8⟩], 2, 32, [.nilp, .nsl]⟩
theorem ty128 : TyOk Tryz.prog 128 ti128 := tyOk_of (by kernel_rfl) (z := .agg #[dV (.nilp), dV (.nsl)]) (by kernel_rfl) rfl rfl rfl (.inl rfl)
def ti129 : TI := ⟨.func #[3] #[] false, 1, 8, [.nilf]⟩
theorem ty129 : TyOk Tryz.prog 129 ti129 := tyOk_of (by kernel_rfl) (z := dV (.nilf)) (by kernel_rfl) rfl rfl rfl (.inr rfl)
def ti130 : TI := ⟨.interface #[("Error", 135)], 1, 16, [.nili]⟩
theorem ty130 : TyOk Tryz.prog 130 ti130 := tyOk_of (by kernel_rfl) (z := dV (.nili)) (by kernel_rfl) rfl rfl rfl (.inr rfl)
def ti131 : TI := ⟨.interface #[("Error", 135)], 1, 16, [.nili]⟩
theorem ty131 : TyOk Tryz.prog 131 ti131 := tyOk_of (by kernel_rfl) (z := dV (.nili)) (by kernel_rfl) rfl rfl rfl (.inr rfl)
def ti133 : TI := ⟨.func #[9] #[3, 131] false, 1, 8, [.nilf]⟩
theorem ty133 : TyOk Tryz.prog 133 ti133 := tyOk_of (by kernel_rfl) (z := dV (.nilf)) (by kernel_rfl) rfl rfl rfl (.inr rfl)
def ti134 : TI := ⟨.func #[] #[3] false, 1, 8, [.nilf]⟩
theorem ty134 : TyOk Tryz.prog 134 ti134 := tyOk_of (by kernel_rfl) (z := dV (.nilf)) (by kernel_rfl) rfl rfl rfl (.inr rfl)
def ti135 : TI := ⟨.func #[] #[9] false, 1, 8, [.nilf]⟩
theorem ty135 : TyOk Tryz.prog 135 ti135 := tyOk_of (by kernel_rfl) (z := dV (.nilf)) (by kernel_rfl) rfl rfl rfl (.inr rfl)
def ti136 : TI := ⟨.func #[3, 3, 4] #[4] false, 1, 8, [.nilf]⟩
theorem ty136 : TyOk Tryz.prog 136 ti136 := tyOk_of (by kernel_rfl) (z := dV (.nilf)) (by kernel_rfl) rfl rfl rfl (.inr rfl)
def ti137 : TI := ⟨.array 16 5, 16, 16, [.int .u8 0, .int .u8 0, .int .u8 0, .int .u8 0, .int .u8 0, .int .u8 0, .int .u8 0, .int .u8 0, .int .u8 0, .int .u8 0, .int .u8 0, .int .u8 0, .int .u8 0, .int .u8 0, .int .u8 0, .int .u8 0]⟩
theorem ty137 : TyOk Tryz.prog 137 ti137 := tyOk_of (by kernel_rfl) (z := .agg #[dV (.int .u8 0), dV (.int .u8 0), dV (.int .u8 0), dV (.int .u8 0), dV (.int .u8 0), dV (.int .u8 0), dV (.int .u8 0), dV (.int .u8 0), dV (.int .u8 0), dV (.int .u8 0), dV (.int .u8 0), dV (.int .u8 0), dV (.int .u8 0), dV (.int .u8 0), dV (.int .u8 0), dV (.int .u8 0)]) (by kernel_rfl) rfl rfl rfl (.inl rfl)
def ti138 : TI := ⟨.func #[35, 35] #[35, 35] false, 1, 8, [.nilf]⟩
theorem ty138 : TyOk Tryz.prog 138 ti138 := tyOk_of (by kernel_rfl) (z := dV (.nilf)) (by kernel_rfl) rfl rfl rfl (.inr rfl)
def ti140 : TI := ⟨.func #[109, 109] #[109, 109] false, 1, 8, [.nilf]⟩
theorem ty140 : TyOk Tryz.prog 140 ti140 := tyOk_of (by kernel_rfl) (z := dV (.nilf)) (by kernel_rfl) rfl rfl rfl (.inr rfl)
def ti141 : TI := ⟨.pointer 5, 1, 8, [.nilp]⟩
theorem ty141 : TyOk Tryz.prog 141 ti141 := tyOk_of (by kernel_rfl) (z := dV (.nilp)) (by kernel_rfl) rfl rfl rfl (.inr rfl)
def ti142 : TI := ⟨.unsafePointer, 1, 8, [.nilp]⟩
theorem ty142 : TyOk Tryz.prog 142 ti142 := tyOk_of (by kernel_rfl) (z := dV (.nilp)) (by kernel_rfl) rfl rfl rfl (.inr rfl)
def ti143 : TI := ⟨.func #[142] #[142] false, 1, 8, [.nilf]⟩
theorem ty143 : TyOk Tryz.prog 143 ti143 := tyOk_of (by kernel_rfl) (z := dV (.nilf)) (by kernel_rfl) rfl rfl rfl (.inr rfl)
def ti144 : TI := ⟨.func #[3] #[122] false, 1, 8, [.nilf]⟩
theorem ty144 : TyOk Tryz.prog 144 ti144 := tyOk_of (by kernel_rfl) (z := dV (.nilf)) (by kernel_rfl) rfl rfl rfl (.inr rfl)
def ti145 : TI := ⟨.struct #[⟨"_interface", 17, 0, false, "", "runtime", 0⟩, ⟨"concrete", 17, 1, false, "", "runtime", 8⟩, ⟨"asserted", 17, 2, false, "", "runtime", 16⟩, ⟨"missingMethod", 9, 3, false, "", "runtime", 24⟩], 4, 40, [.nilp, .nilp, .nilp, .str []]⟩
theorem ty145 : TyOk Tryz.prog 145 ti145 := tyOk_of (by kernel_rfl) (z := .agg #[dV (.nilp), dV (.nilp), dV (.nilp), dV (.str [])]) (by kernel_rfl) rfl rfl rfl (.inl rfl)
def ti146 : TI := ⟨.struct #[⟨"_interface", 17, 0, false, "", "runtime", 0⟩, ⟨"concrete", 17, 1, false, "", "runtime", 8⟩, ⟨"asserted", 17, 2, false, "", "runtime", 16⟩, ⟨"missingMethod", 9, 3, false, "", "runtime", 24⟩], 4, 40, [.nilp, .nilp, .nilp, .str []]⟩
theorem ty146 : TyOk Tryz.prog 146 ti146 := tyOk_of (by kernel_rfl) (z := .agg #[dV (.nilp), dV (.nilp), dV (.nilp), dV (.str [])]) (by kernel_rfl) rfl rfl rfl (.inl rfl)
def ti147 : TI := ⟨.array 0 16, 0, 0, []⟩
theorem ty147 : TyOk Tryz.prog 147 ti147 := tyOk_of (by kernel_rfl) (z := .agg #[]) (by kernel_rfl) rfl rfl rfl (.inl rfl)
def ti148 : TI := ⟨.struct #[⟨"_", 147, 0, false, "", "runtime", 0⟩], 0, 0, []⟩
theorem ty148 : TyOk Tryz.prog 148 ti148 := tyOk_of (by kernel_rfl) (z := .agg #[]) (by kernel_rfl) rfl rfl rfl (.inl rfl)
def ti149 : TI := ⟨.struct #[⟨"_", 147, 0, false, "", "runtime", 0⟩], 0, 0, []⟩
theorem ty149 : TyOk Tryz.prog 149 ti149 := tyOk_of (by kernel_rfl) (z := .agg #[]) (by kernel_rfl) rfl rfl rfl (.inl rfl)
def ti150 : TI := ⟨.int .u8, 1, 1, [.int .u8 0]⟩
theorem ty150 : TyOk Tryz.prog 150 ti150 := tyOk_of (by kernel_rfl) (z := dV (.int .u8 0)) (by kernel_rfl) rfl rfl rfl (.inr rfl)
def ti151 : TI := ⟨.int .u8, 1, 1, [.int .u8 0]⟩
theorem ty151 : TyOk Tryz.prog 151 ti151 := tyOk_of (by kernel_rfl) (z := dV (.int .u8 0)) (by kernel_rfl) rfl rfl rfl (.inr rfl)
def ti152 : TI := ⟨.func #[142, 142] #[4] false, 1, 8, [.nilf]⟩
theorem ty152 : TyOk Tryz.prog 152 ti152 := tyOk_of (by kernel_rfl) (z := dV (.nilf)) (by kernel_rfl) rfl rfl rfl (.inr rfl)
def ti153 : TI := ⟨.int .i32, 1, 4, [.int .i32 0]⟩
theorem ty153 : TyOk Tryz.prog 153 ti153 := tyOk_of (by kernel_rfl) (z := dV (.int .i32 0)) (by kernel_rfl) rfl rfl rfl (.inr rfl)
def ti154 : TI := ⟨.int .i32, 1, 4, [.int .i32 0]⟩
theorem ty154 : TyOk Tryz.prog 154 ti154 := tyOk_of (by kernel_rfl) (z := dV (.int .i32 0)) (by kernel_rfl) rfl rfl rfl (.inr rfl)
def ti155 : TI := ⟨.struct #[⟨"Size_", 12, 0, false, "", "", 0⟩, ⟨"PtrBytes", 12, 1, false, "", "", 8⟩, ⟨"Hash", 35, 2, false, "", "", 16⟩, ⟨"TFlag", 150, 3, false, "", "", 20⟩, ⟨"Align_", 5, 4, false, "", "", 21⟩, ⟨"FieldAlign_", 5, 5, false, "", "", 22⟩, ⟨"Kind_", 151, 6, false, "", "", 23⟩, ⟨"Equal", 152, 7, false, "", "", 24⟩, ⟨"GCData", 141, 8, false, "", "", 32⟩, ⟨"Str", 153, 9, false, "", "", 40⟩, ⟨"PtrToThis", 154, 10, false, "", "", 44⟩], 11, 48, [.int .u64 0, .int .u64 0, .int .u32 0, .int .u8 0, .int .u8 0, .int .u8 0, .int .u8 0, .nilf, .nilp, .int .i32 0, .int .i32 0]⟩
theorem ty155 : TyOk Tryz.prog 155 ti155 := tyOk_of (by kernel_rfl) (z := .agg #[dV (.int .u64 0), dV (.int .u64 0), dV (.int .u32 0), dV (.int .u8 0), dV (.int .u8 0), dV (.int .u8 0), dV (.int .u8 0), dV (.nilf), dV (.nilp), dV (.int .i32 0), dV (.int .i32 0)]) (by kernel_rfl) rfl rfl rfl (.inl rfl)
def ti156 : TI := ⟨.struct #[⟨"Size_", 12, 0, false, "", "", 0⟩, ⟨"PtrBytes", 12, 1, false, "", "", 8⟩, ⟨"Hash", 35, 2, false, "", "", 16⟩, ⟨"TFlag", 150, 3, false, "", "", 20⟩, ⟨"Align_", 5, 4, false, "", "", 21⟩, ⟨"FieldAlign_", 5, 5, false, "", "", 22⟩, ⟨"Kind_", 151, 6, false, "", "", 23⟩, ⟨"Equal", 152, 7, false, "", "", 24⟩, ⟨"GCData", 141, 8, false, "", "", 32⟩, ⟨"Str", 153, 9, false, "", "", 40⟩, ⟨"PtrToThis", 154, 10, false, "", "", 44⟩], 11, 48, [.int .u64 0, .int .u64 0, .int .u32 0, .int .u8 0, .int .u8 0, .int .u8 0, .int .u8 0, .nilf, .nilp, .int .i32 0, .int .i32 0]⟩
theorem ty156 : TyOk Tryz.prog 156 ti156 := tyOk_of (by kernel_rfl) (z := .agg #[dV (.int .u64 0), dV (.int .u64 0), dV (.int .u32 0), dV (.int .u8 0), dV (.int .u8 0), dV (.int .u8 0), dV (.int .u8 0), dV (.nilf), dV (.nilp), dV (.int .i32 0), dV (.int .i32 0)]) (by kernel_rfl) rfl rfl rfl (.inl rfl)
def Tt : Nat → TI := tabOf [(1, ti1), (2, ti2), (3, ti3), (4, ti4), (5, ti5), (6, ti6), (7, ti7), (8, ti8), (9, ti9), (10, ti10), (11, ti11), (12, ti12), (13, ti13), (14, ti14), (15, ti15), (16, ti16), (17, ti17), (18, ti18), (19, ti19), (20, ti20), (21, ti21), (22, ti22), (23, ti23), (24, ti24), (25, ti25), (26, ti26), (28, ti28), (29, ti29), (30, ti30), (31, ti31), (32, ti32), (34, ti34), (35, ti35), (36, ti36), (37, ti37), (38, ti38), (39, ti39), (40, ti40), (41, ti41), (42, ti42), (43, ti43), (44, ti44), (46, ti46), (47, ti47), (48, ti48), (49, ti49), (50, ti50), (51, ti51), (52, ti52), (53, ti53), (54, ti54), (55, ti55), (57, ti57), (58, ti58), (59, ti59), (60, ti60), (61, ti61), (62, ti62), (63, ti63), (64, ti64), (65, ti65), (66, ti66), (67, ti67), (69, ti69), (70, ti70), (71, ti71), (73, ti73), (74, ti74), (78, ti78), (79, ti79), (80, ti80), (81, ti81), (82, ti82), (83, ti83), (84, ti84), (85, ti85), (86, ti86), (87, ti87), (88, ti88), (89, ti89), (90, ti90), (92, ti92), (93, ti93), (94, ti94), (95, ti95), (96, ti96), (97, ti97), (98, ti98), (99, ti99), (100, ti100), (102, ti102), (103, ti103), (104, ti104), (105, ti105), (106, ti106), (108, ti108), (109, ti109), (110, ti110), (111, ti111), (112, ti112), (114, ti114), (115, ti115), (117, ti117), (119, ti119), (120, ti120), (121, ti121), (122, ti122), (123, ti123), (125, ti125), (126, ti126), (127, ti127), (128, ti128), (129, ti129), (130, ti130), (131, ti131), (133, ti133), (134, ti134), (135, ti135), (136, ti136), (137, ti137), (138, ti138), (140, ti140), (141, ti141), (142, ti142), (143, ti143), (144, ti144), (145, ti145), (146, ti146), (147, ti147), (148, ti148), (149, ti149), (150, ti150), (151, ti151), (152, ti152), (153, ti153), (154, ti154), (155, ti155), (156, ti156)]
theorem Tt_ok : TabOk Tryz.prog Tt := tabOk_of_list (List.forall_mem_cons.2 ⟨ty1, List.forall_mem_cons.2 ⟨ty2, List.forall_mem_cons.2 ⟨ty3, List.forall_mem_cons.2 ⟨ty4, List.forall_mem_cons.2 ⟨ty5, List.forall_mem_cons.2 ⟨ty6, List.forall_mem_cons.2 ⟨ty7, List.forall_mem_cons.2 ⟨ty8, List.forall_mem_cons.2 ⟨ty9, List.forall_mem_cons.2 ⟨ty10, List.forall_mem_cons.2 ⟨ty11, List.forall_mem_cons.2 ⟨ty12, List.forall_mem_cons.2 ⟨ty13, List.forall_mem_cons.2 ⟨ty14, List.forall_mem_cons.2 ⟨ty15, List.forall_mem_cons.2 ⟨ty16, List.forall_mem_cons.2 ⟨ty17, List.forall_mem_cons.2 ⟨ty18, List.forall_mem_cons.2 ⟨ty19, List.forall_mem_cons.2 ⟨ty20, List.forall_mem_cons.2 ⟨ty21, List.forall_mem_cons.2 ⟨ty22, List.forall_mem_cons.2 ⟨ty23, List.forall_mem_cons.2 ⟨ty24, List.forall_mem_cons.2 ⟨ty25, List.forall_mem_cons.2 ⟨ty26, List.forall_mem_cons.2 ⟨ty28, List.forall_mem_cons.2 ⟨ty29, List.forall_mem_cons.2 ⟨ty30, List.forall_mem_cons.2 ⟨ty31, List.forall_mem_cons.2 ⟨ty32, List.forall_mem_cons.2 ⟨ty34, List.forall_mem_cons.2 ⟨ty35, List.forall_mem_cons.2 ⟨ty36, List.forall_mem_cons.2 ⟨ty37, List.forall_mem_cons.2 ⟨ty38, List.forall_mem_cons.2 ⟨ty39, List.forall_mem_cons.2 ⟨ty40, List.forall_mem_cons.2 ⟨ty41, List.forall_mem_cons.2 ⟨ty42, List.forall_mem_cons.2 ⟨ty43, List.forall_mem_cons.2 ⟨ty44, List.forall_mem_cons.2 ⟨ty46, List.forall_mem_cons.2 ⟨ty47, List.forall_mem_cons.2 ⟨ty48, List.forall_mem_cons.2 ⟨ty49, List.forall_mem_cons.2 ⟨ty50, List.forall_mem_cons.2 ⟨ty51, List.forall_mem_cons.2 ⟨ty52, List.forall_mem_cons.2 ⟨ty53, List.forall_mem_cons.2 ⟨ty54, List.forall_mem_cons.2 ⟨ty55, List.forall_mem_cons.2 ⟨ty57, List.forall_mem_cons.2 ⟨ty58, List.forall_mem_cons.2 ⟨ty59, List.forall_mem_cons.2 ⟨ty60, List.forall_mem_cons.2 ⟨ty61, List.forall_mem_cons.2 ⟨ty62, List.forall_mem_cons.2 ⟨ty63, List.forall_mem_cons.2 ⟨ty64, List.forall_mem_cons.2 ⟨ty65, List.forall_mem_cons.2 ⟨ty66, List.forall_mem_cons.2 ⟨ty67, List.forall_mem_cons.2 ⟨ty69, List.forall_mem_cons.2 ⟨ty70, List.forall_mem_cons.2 ⟨ty71, List.forall_mem_cons.2 ⟨ty73, List.forall_mem_cons.2 ⟨ty74, List.forall_mem_cons.2 ⟨ty78, List.forall_mem_cons.2 ⟨ty79, List.forall_mem_cons.2 ⟨ty80, List.forall_mem_cons.2 ⟨ty81, List.forall_mem_cons.2 ⟨ty82, List.forall_mem_cons.2 ⟨ty83, List.forall_mem_cons.2 ⟨ty84, List.forall_mem_cons.2 ⟨ty85, List.forall_mem_cons.2 ⟨ty86, List.forall_mem_cons.2 ⟨ty87, List.forall_mem_cons.2 ⟨ty88, List.forall_mem_cons.2 ⟨ty89, List.forall_mem_cons.2 ⟨ty90, List.forall_mem_cons.2 ⟨ty92, List.forall_mem_cons.2 ⟨ty93, List.forall_mem_cons.2 ⟨ty94, List.forall_mem_cons.2 ⟨ty95, List.forall_mem_cons.2 ⟨ty96, List.forall_mem_cons.2 ⟨ty97, List.forall_mem_cons.2 ⟨ty98, List.forall_mem_cons.2 ⟨ty99, List.forall_mem_cons.2 ⟨ty100, List.forall_mem_cons.2 ⟨ty102, List.forall_mem_cons.2 ⟨ty103, List.forall_mem_cons.2 ⟨ty104, List.forall_mem_cons.2 ⟨ty105, List.forall_mem_cons.2 ⟨ty106, List.forall_mem_cons.2 ⟨ty108, List.forall_mem_cons.2 ⟨ty109, List.forall_mem_cons.2 ⟨ty110, List.forall_mem_cons.2 ⟨ty111, List.forall_mem_cons.2 ⟨ty112, List.forall_mem_cons.2 ⟨ty114, List.forall_mem_cons.2 ⟨ty115, List.forall_mem_cons.2 ⟨ty117, List.forall_mem_cons.2 ⟨ty119, List.forall_mem_cons.2 ⟨ty120, List.forall_mem_cons.2 ⟨ty121, List.forall_mem_cons.2 ⟨ty122, List.forall_mem_cons.2 ⟨ty123, List.forall_mem_cons.2 ⟨ty125, List.forall_mem_cons.2 ⟨ty126, List.forall_mem_cons.2 ⟨ty127, List.forall_mem_cons.2 ⟨ty128, List.forall_mem_cons.2 ⟨ty129, List.forall_mem_cons.2 ⟨ty130, List.forall_mem_cons.2 ⟨ty131, List.forall_mem_cons.2 ⟨ty133, List.forall_mem_cons.2 ⟨ty134, List.forall_mem_cons.2 ⟨ty135, List.forall_mem_cons.2 ⟨ty136, List.forall_mem_cons.2 ⟨ty137, List.forall_mem_cons.2 ⟨ty138, List.forall_mem_cons.2 ⟨ty140, List.forall_mem_cons.2 ⟨ty141, List.forall_mem_cons.2 ⟨ty142, List.forall_mem_cons.2 ⟨ty143, List.forall_mem_cons.2 ⟨ty144, List.forall_mem_cons.2 ⟨ty145, List.forall_mem_cons.2 ⟨ty146, List.forall_mem_cons.2 ⟨ty147, List.forall_mem_cons.2 ⟨ty148, List.forall_mem_cons.2 ⟨ty149, List.forall_mem_cons.2 ⟨ty150, List.forall_mem_cons.2 ⟨ty151, List.forall_mem_cons.2 ⟨ty152, List.forall_mem_cons.2 ⟨ty153, List.forall_mem_cons.2 ⟨ty154, List.forall_mem_cons.2 ⟨ty155, List.forall_mem_cons.2 ⟨ty156, fun _ h => by cases h⟩⟩⟩⟩⟩⟩⟩⟩⟩⟩⟩⟩⟩⟩⟩⟩⟩⟩⟩⟩⟩⟩⟩⟩⟩⟩⟩⟩⟩⟩⟩⟩⟩⟩⟩⟩⟩⟩⟩⟩⟩⟩⟩⟩⟩⟩⟩⟩⟩⟩⟩⟩⟩⟩⟩⟩⟩⟩⟩⟩⟩⟩⟩⟩⟩⟩⟩⟩⟩⟩⟩⟩⟩⟩⟩⟩⟩⟩⟩⟩⟩⟩⟩⟩⟩⟩⟩⟩⟩⟩⟩⟩⟩⟩⟩⟩⟩⟩⟩⟩⟩⟩⟩⟩⟩⟩⟩⟩⟩⟩⟩⟩⟩⟩⟩⟩⟩⟩⟩⟩⟩⟩⟩⟩⟩⟩⟩⟩⟩⟩⟩⟩⟩⟩⟩⟩⟩⟩)
theorem mixed : Tryz.prog.follows .mixedOrders = true := by kernel_rfl
@[go_sem] theorem Tt_1 : Tt 1 = ⟨.func #[] #[] false, 1, 8, [.nilf]⟩ := Eq.trans rfl rfl
@[go_sem] theorem okSl_1 : okSl Tt 1 = false := Eq.trans rfl rfl
@[go_sem] theorem Tt_2 : Tt 2 = ⟨.int .i64, 1, 8, [.int .i64 0]⟩ := Eq.trans rfl rfl
@[go_sem] theorem okSl_2 : okSl Tt 2 = false := Eq.trans rfl rfl
@[go_sem] theorem Tt_3 : Tt 3 = ⟨.int .i64, 1, 8, [.int .i64 0]⟩ := Eq.trans rfl rfl
@[go_sem] theorem okSl_3 : okSl Tt 3 = false := Eq.trans rfl rfl
@[go_sem] theorem Tt_4 : Tt 4 = ⟨.bool, 1, 1, [.bool false]⟩ := Eq.trans rfl rfl
@[go_sem] theorem okSl_4 : okSl Tt 4 = false := Eq.trans rfl rfl
@[go_sem] theorem Tt_5 : Tt 5 = ⟨.int .u8, 1, 1, [.int .u8 0]⟩ := Eq.trans rfl rfl
@[go_sem] theorem okSl_5 : okSl Tt 5 = false := Eq.trans rfl rfl
@[go_sem] theorem Tt_6 : Tt 6 = ⟨.int .u8, 1, 1, [.int .u8 0]⟩ := Eq.trans rfl rfl
@[go_sem] theorem okSl_6 : okSl Tt 6 = false := Eq.trans rfl rfl
@[go_sem] theorem Tt_7 : Tt 7 = ⟨.struct #[⟨"x", 2, 0, false, "", "runtime", 0⟩, ⟨"y", 3, 1, false, "", "runtime", 8⟩, ⟨"signed", 4, 2, false, "", "runtime", 16⟩, ⟨"code", 6, 3, false, "", "runtime", 17⟩], 4, 24, [.int .i64 0, .int .i64 0, .bool false, .int .u8 0]⟩ := Eq.trans rfl rfl
@[go_sem] theorem okSl_7 : okSl Tt 7 = false := Eq.trans rfl rfl
@[go_sem] theorem okSt_7 : okSt Tt 7 = true := Eq.trans rfl rfl
@[go_sem] theorem Tt_8 : Tt 8 = ⟨.struct #[⟨"x", 2, 0, false, "", "runtime", 0⟩, ⟨"y", 3, 1, false, "", "runtime", 8⟩, ⟨"signed", 4, 2, false, "", "runtime", 16⟩, ⟨"code", 6, 3, false, "", "runtime", 17⟩], 4, 24, [.int .i64 0, .int .i64 0, .bool false, .int .u8 0]⟩ := Eq.trans rfl rfl
@[go_sem] theorem okSl_8 : okSl Tt 8 = false := Eq.trans rfl rfl
@[go_sem] theorem okSt_8 : okSt Tt 8 = true := Eq.trans rfl rfl
@[go_sem] theorem Tt_9 : Tt 9 = ⟨.string, 1, 16, [.str []]⟩ := Eq.trans rfl rfl
@[go_sem] theorem okSl_9 : okSl Tt 9 = false := Eq.trans rfl rfl
@[go_sem] theorem Tt_10 : Tt 10 = ⟨.string, 1, 16, [.str []]⟩ := Eq.trans rfl rfl
@[go_sem] theorem okSl_10 : okSl Tt 10 = false := Eq.trans rfl rfl
@[go_sem] theorem Tt_11 : Tt 11 = ⟨.string, 1, 16, [.str []]⟩ := Eq.trans rfl rfl
@[go_sem] theorem okSl_11 : okSl Tt 11 = false := Eq.trans rfl rfl
@[go_sem] theorem Tt_12 : Tt 12 = ⟨.int .u64, 1, 8, [.int .u64 0]⟩ := Eq.trans rfl rfl
@[go_sem] theorem okSl_12 : okSl Tt 12 = false := Eq.trans rfl rfl
@[go_sem] theorem Tt_13 : Tt 13 = ⟨.struct #[⟨"msg", 9, 0, false, "", "runtime", 0⟩, ⟨"addr", 12, 1, false, "", "runtime", 16⟩], 2, 24, [.str [], .int .u64 0]⟩ := Eq.trans rfl rfl
@[go_sem] theorem okSl_13 : okSl Tt 13 = false := Eq.trans rfl rfl
@[go_sem] theorem okSt_13 : okSt Tt 13 = true := Eq.trans rfl rfl
@[go_sem] theorem Tt_14 : Tt 14 = ⟨.struct #[⟨"msg", 9, 0, false, "", "runtime", 0⟩, ⟨"addr", 12, 1, false, "", "runtime", 16⟩], 2, 24, [.str [], .int .u64 0]⟩ := Eq.trans rfl rfl
@[go_sem] theorem okSl_14 : okSl Tt 14 = false := Eq.trans rfl rfl
@[go_sem] theorem okSt_14 : okSt Tt 14 = true := Eq.trans rfl rfl
@[go_sem] theorem Tt_15 : Tt 15 = ⟨.pointer 146, 1, 8, [.nilp]⟩ := Eq.trans rfl rfl
@[go_sem] theorem okSl_15 : okSl Tt 15 = false := Eq.trans rfl rfl
@[go_sem] theorem Tt_16 : Tt 16 = ⟨.pointer 149, 1, 8, [.nilp]⟩ := Eq.trans rfl rfl
@[go_sem] theorem okSl_16 : okSl Tt 16 = false := Eq.trans rfl rfl
@[go_sem] theorem Tt_17 : Tt 17 = ⟨.pointer 156, 1, 8, [.nilp]⟩ := Eq.trans rfl rfl
@[go_sem] theorem okSl_17 : okSl Tt 17 = false := Eq.trans rfl rfl
@[go_sem] theorem Tt_18 : Tt 18 = ⟨.struct #[⟨"typ", 17, 0, false, "", "internal/runtime/maps", 0⟩], 1, 8, [.nilp]⟩ := Eq.trans rfl rfl
@[go_sem] theorem okSl_18 : okSl Tt 18 = false := Eq.trans rfl rfl
@[go_sem] theorem okSt_18 : okSt Tt 18 = true := Eq.trans rfl rfl
@[go_sem] theorem Tt_19 : Tt 19 = ⟨.struct #[⟨"typ", 17, 0, false, "", "internal/runtime/maps", 0⟩], 1, 8, [.nilp]⟩ := Eq.trans rfl rfl
@[go_sem] theorem okSl_19 : okSl Tt 19 = false := Eq.trans rfl rfl
@[go_sem] theorem okSt_19 : okSt Tt 19 = true := Eq.trans rfl rfl
@[go_sem] theorem Tt_20 : Tt 20 = ⟨.interface #[], 1, 16, [.nili]⟩ := Eq.trans rfl rfl
@[go_sem] theorem okSl_20 : okSl Tt 20 = false := Eq.trans rfl rfl
@[go_sem] theorem Tt_21 : Tt 21 = ⟨.int .i32, 1, 4, [.int .i32 0]⟩ := Eq.trans rfl rfl
@[go_sem] theorem okSl_21 : okSl Tt 21 = false := Eq.trans rfl rfl
@[go_sem] theorem Tt_22 : Tt 22 = ⟨.func #[] #[4] false, 1, 8, [.nilf]⟩ := Eq.trans rfl rfl
@[go_sem] theorem okSl_22 : okSl Tt 22 = false := Eq.trans rfl rfl
@[go_sem] theorem Tt_23 : Tt 23 = ⟨.slice 35, 1, 24, [.nsl]⟩ := Eq.trans rfl rfl
@[go_sem] theorem elem_23 : elemTI Tt 23 = ⟨.int .u32, 1, 4, [.int .u32 0]⟩ := Eq.trans rfl rfl
@[go_sem] theorem okSl_23 : okSl Tt 23 = true := Eq.trans rfl rfl
@[go_sem] theorem Tt_24 : Tt 24 = ⟨.struct #[⟨"Code", 23, 0, false, "", "", 0⟩, ⟨"Data", 3, 1, false, "", "", 24⟩], 2, 32, [.nsl, .int .i64 0]⟩ := Eq.trans rfl rfl
@[go_sem] theorem okSl_24 : okSl Tt 24 = false := Eq.trans rfl rfl
@[go_sem] theorem okSt_24 : okSt Tt 24 = true := Eq.trans rfl rfl
@[go_sem] theorem Tt_25 : Tt 25 = ⟨.struct #[⟨"Code", 23, 0, false, "", "", 0⟩, ⟨"Data", 3, 1, false, "", "", 24⟩], 2, 32, [.nsl, .int .i64 0]⟩ := Eq.trans rfl rfl
@[go_sem] theorem okSl_25 : okSl Tt 25 = false := Eq.trans rfl rfl
@[go_sem] theorem okSt_25 : okSt Tt 25 = true := Eq.trans rfl rfl
@[go_sem] theorem Tt_26 : Tt 26 = ⟨.int .i64, 1, 8, [.int .i64 0]⟩ := Eq.trans rfl rfl
@[go_sem] theorem okSl_26 : okSl Tt 26 = false := Eq.trans rfl rfl
@[go_sem] theorem Tt_28 : Tt 28 = ⟨.func #[9] #[25, 3, 26] false, 1, 8, [.nilf]⟩ := Eq.trans rfl rfl
@[go_sem] theorem okSl_28 : okSl Tt 28 = false := Eq.trans rfl rfl
@[go_sem] theorem Tt_29 : Tt 29 = ⟨.func #[25, 25] #[4] false, 1, 8, [.nilf]⟩ := Eq.trans rfl rfl
@[go_sem] theorem okSl_29 : okSl Tt 29 = false := Eq.trans rfl rfl
@[go_sem] theorem Tt_30 : Tt 30 = ⟨.func #[25] #[4] false, 1, 8, [.nilf]⟩ := Eq.trans rfl rfl
@[go_sem] theorem okSl_30 : okSl Tt 30 = false := Eq.trans rfl rfl
@[go_sem] theorem Tt_31 : Tt 31 = ⟨.func #[9] #[4] false, 1, 8, [.nilf]⟩ := Eq.trans rfl rfl
@[go_sem] theorem okSl_31 : okSl Tt 31 = false := Eq.trans rfl rfl
@[go_sem] theorem Tt_32 : Tt 32 = ⟨.slice 9, 1, 24, [.nsl]⟩ := Eq.trans rfl rfl
@[go_sem] theorem elem_32 : elemTI Tt 32 = ⟨.string, 1, 16, [.str []]⟩ := Eq.trans rfl rfl
@[go_sem] theorem okSl_32 : okSl Tt 32 = true := Eq.trans rfl rfl
@[go_sem] theorem Tt_34 : Tt 34 = ⟨.func #[9] #[9, 9, 32, 26] false, 1, 8, [.nilf]⟩ := Eq.trans rfl rfl
@[go_sem] theorem okSl_34 : okSl Tt 34 = false := Eq.trans rfl rfl
@[go_sem] theorem Tt_35 : Tt 35 = ⟨.int .u32, 1, 4, [.int .u32 0]⟩ := Eq.trans rfl rfl
@[go_sem] theorem okSl_35 : okSl Tt 35 = false := Eq.trans rfl rfl
@[go_sem] theorem Tt_36 : Tt 36 = ⟨.func #[32, 32] #[4] false, 1, 8, [.nilf]⟩ := Eq.trans rfl rfl
@[go_sem] theorem okSl_36 : okSl Tt 36 = false := Eq.trans rfl rfl
@[go_sem] theorem Tt_37 : Tt 37 = ⟨.map 9 3, 1, 8, [.nilm]⟩ := Eq.trans rfl rfl
@[go_sem] theorem okSl_37 : okSl Tt 37 = false := Eq.trans rfl rfl
@[go_sem] theorem Tt_38 : Tt 38 = ⟨.slice 44, 1, 24, [.nsl]⟩ := Eq.trans rfl rfl
@[go_sem] theorem elem_38 : elemTI Tt 38 = ⟨.struct #[⟨"line", 3, 0, false, "", "seedcorn/asm", 0⟩, ⟨"at", 3, 1, false, "", "seedcorn/asm", 8⟩, ⟨"label", 9, 2, false, "", "seedcorn/asm", 16⟩], 3, 32, [.int .i64 0, .int .i64 0, .str []]⟩ := Eq.trans rfl rfl
@[go_sem] theorem okSl_38 : okSl Tt 38 = true := Eq.trans rfl rfl
@[go_sem] theorem Tt_39 : Tt 39 = ⟨.struct #[⟨"m", 25, 0, false, "", "seedcorn/asm", 0⟩, ⟨"data", 4, 2, false, "", "seedcorn/asm", 32⟩, ⟨"places", 37, 3, false, "", "seedcorn/asm", 40⟩, ⟨"uses", 38, 4, false, "", "seedcorn/asm", 48⟩], 5, 72, [.nsl, .int .i64 0, .bool false, .nilm, .nsl]⟩ := Eq.trans rfl rfl
@[go_sem] theorem okSl_39 : okSl Tt 39 = false := Eq.trans rfl rfl
@[go_sem] theorem okSt_39 : okSt Tt 39 = true := Eq.trans rfl rfl
@[go_sem] theorem Tt_40 : Tt 40 = ⟨.struct #[⟨"m", 25, 0, false, "", "seedcorn/asm", 0⟩, ⟨"data", 4, 2, false, "", "seedcorn/asm", 32⟩, ⟨"places", 37, 3, false, "", "seedcorn/asm", 40⟩, ⟨"uses", 38, 4, false, "", "seedcorn/asm", 48⟩], 5, 72, [.nsl, .int .i64 0, .bool false, .nilm, .nsl]⟩ := Eq.trans rfl rfl
@[go_sem] theorem okSl_40 : okSl Tt 40 = false := Eq.trans rfl rfl
@[go_sem] theorem okSt_40 : okSt Tt 40 = true := Eq.trans rfl rfl
@[go_sem] theorem Tt_41 : Tt 41 = ⟨.func #[9, 9] #[32] false, 1, 8, [.nilf]⟩ := Eq.trans rfl rfl
@[go_sem] theorem okSl_41 : okSl Tt 41 = false := Eq.trans rfl rfl
@[go_sem] theorem Tt_42 : Tt 42 = ⟨.func #[3, 9] #[26] false, 1, 8, [.nilf]⟩ := Eq.trans rfl rfl
@[go_sem] theorem okSl_42 : okSl Tt 42 = false := Eq.trans rfl rfl
@[go_sem] theorem Tt_43 : Tt 43 = ⟨.struct #[⟨"line", 3, 0, false, "", "seedcorn/asm", 0⟩, ⟨"at", 3, 1, false, "", "seedcorn/asm", 8⟩, ⟨"label", 9, 2, false, "", "seedcorn/asm", 16⟩], 3, 32, [.int .i64 0, .int .i64 0, .str []]⟩ := Eq.trans rfl rfl
@[go_sem] theorem okSl_43 : okSl Tt 43 = false := Eq.trans rfl rfl
@[go_sem] theorem okSt_43 : okSt Tt 43 = true := Eq.trans rfl rfl
@[go_sem] theorem Tt_44 : Tt 44 = ⟨.struct #[⟨"line", 3, 0, false, "", "seedcorn/asm", 0⟩, ⟨"at", 3, 1, false, "", "seedcorn/asm", 8⟩, ⟨"label", 9, 2, false, "", "seedcorn/asm", 16⟩], 3, 32, [.int .i64 0, .int .i64 0, .str []]⟩ := Eq.trans rfl rfl
@[go_sem] theorem okSl_44 : okSl Tt 44 = false := Eq.trans rfl rfl
@[go_sem] theorem okSt_44 : okSt Tt 44 = true := Eq.trans rfl rfl
@[go_sem] theorem Tt_46 : Tt 46 = ⟨.pointer 50, 1, 8, [.nilp]⟩ := Eq.trans rfl rfl
@[go_sem] theorem okSl_46 : okSl Tt 46 = false := Eq.trans rfl rfl
@[go_sem] theorem Tt_47 : Tt 47 = ⟨.slice 3, 1, 24, [.nsl]⟩ := Eq.trans rfl rfl
@[go_sem] theorem elem_47 : elemTI Tt 47 = ⟨.int .i64, 1, 8, [.int .i64 0]⟩ := Eq.trans rfl rfl
@[go_sem] theorem okSl_47 : okSl Tt 47 = true := Eq.trans rfl rfl
@[go_sem] theorem Tt_48 : Tt 48 = ⟨.slice 55, 1, 24, [.nsl]⟩ := Eq.trans rfl rfl
@[go_sem] theorem elem_48 : elemTI Tt 48 = ⟨.struct #[⟨"label", 9, 0, false, "", "seedcorn/seedcornref12", 0⟩, ⟨"line", 3, 1, false, "", "seedcorn/seedcornref12", 16⟩, ⟨"word", 3, 2, false, "", "seedcorn/seedcornref12", 24⟩], 3, 32, [.str [], .int .i64 0, .int .i64 0]⟩ := Eq.trans rfl rfl
@[go_sem] theorem okSl_48 : okSl Tt 48 = true := Eq.trans rfl rfl
@[go_sem] theorem Tt_49 : Tt 49 = ⟨.struct #[⟨"image", 25, 0, false, "", "seedcorn/seedcornref12", 0⟩, ⟨"labels", 32, 2, false, "", "seedcorn/seedcornref12", 32⟩, ⟨"places", 47, 3, false, "", "seedcorn/seedcornref12", 56⟩, ⟨"uses", 48, 4, false, "", "seedcorn/seedcornref12", 80⟩, ⟨"data", 4, 5, false, "", "seedcorn/seedcornref12", 104⟩], 6, 112, [.nsl, .int .i64 0, .nsl, .nsl, .nsl, .bool false]⟩ := Eq.trans rfl rfl
@[go_sem] theorem okSl_49 : okSl Tt 49 = false := Eq.trans rfl rfl
@[go_sem] theorem okSt_49 : okSt Tt 49 = true := Eq.trans rfl rfl
@[go_sem] theorem Tt_50 : Tt 50 = ⟨.struct #[⟨"image", 25, 0, false, "", "seedcorn/seedcornref12", 0⟩, ⟨"labels", 32, 2, false, "", "seedcorn/seedcornref12", 32⟩, ⟨"places", 47, 3, false, "", "seedcorn/seedcornref12", 56⟩, ⟨"uses", 48, 4, false, "", "seedcorn/seedcornref12", 80⟩, ⟨"data", 4, 5, false, "", "seedcorn/seedcornref12", 104⟩], 6, 112, [.nsl, .int .i64 0, .nsl, .nsl, .nsl, .bool false]⟩ := Eq.trans rfl rfl
@[go_sem] theorem okSl_50 : okSl Tt 50 = false := Eq.trans rfl rfl
@[go_sem] theorem okSt_50 : okSt Tt 50 = true := Eq.trans rfl rfl
@[go_sem] theorem Tt_51 : Tt 51 = ⟨.func #[9] #[32] false, 1, 8, [.nilf]⟩ := Eq.trans rfl rfl
@[go_sem] theorem okSl_51 : okSl Tt 51 = false := Eq.trans rfl rfl
@[go_sem] theorem Tt_52 : Tt 52 = ⟨.func #[9] #[3] false, 1, 8, [.nilf]⟩ := Eq.trans rfl rfl
@[go_sem] theorem okSl_52 : okSl Tt 52 = false := Eq.trans rfl rfl
@[go_sem] theorem Tt_53 : Tt 53 = ⟨.func #[9, 32, 3] #[26] false, 1, 8, [.nilf]⟩ := Eq.trans rfl rfl
@[go_sem] theorem okSl_53 : okSl Tt 53 = false := Eq.trans rfl rfl
@[go_sem] theorem Tt_54 : Tt 54 = ⟨.struct #[⟨"label", 9, 0, false, "", "seedcorn/seedcornref12", 0⟩, ⟨"line", 3, 1, false, "", "seedcorn/seedcornref12", 16⟩, ⟨"word", 3, 2, false, "", "seedcorn/seedcornref12", 24⟩], 3, 32, [.str [], .int .i64 0, .int .i64 0]⟩ := Eq.trans rfl rfl
@[go_sem] theorem okSl_54 : okSl Tt 54 = false := Eq.trans rfl rfl
@[go_sem] theorem okSt_54 : okSt Tt 54 = true := Eq.trans rfl rfl
@[go_sem] theorem Tt_55 : Tt 55 = ⟨.struct #[⟨"label", 9, 0, false, "", "seedcorn/seedcornref12", 0⟩, ⟨"line", 3, 1, false, "", "seedcorn/seedcornref12", 16⟩, ⟨"word", 3, 2, false, "", "seedcorn/seedcornref12", 24⟩], 3, 32, [.str [], .int .i64 0, .int .i64 0]⟩ := Eq.trans rfl rfl
@[go_sem] theorem okSl_55 : okSl Tt 55 = false := Eq.trans rfl rfl
@[go_sem] theorem okSt_55 : okSt Tt 55 = true := Eq.trans rfl rfl
@[go_sem] theorem Tt_57 : Tt 57 = ⟨.func #[9, 9] #[9, 9, 4] false, 1, 8, [.nilf]⟩ := Eq.trans rfl rfl
@[go_sem] theorem okSl_57 : okSl Tt 57 = false := Eq.trans rfl rfl
@[go_sem] theorem Tt_58 : Tt 58 = ⟨.func #[9, 9] #[9] false, 1, 8, [.nilf]⟩ := Eq.trans rfl rfl
@[go_sem] theorem okSl_58 : okSl Tt 58 = false := Eq.trans rfl rfl
@[go_sem] theorem Tt_59 : Tt 59 = ⟨.func #[9, 9] #[3] false, 1, 8, [.nilf]⟩ := Eq.trans rfl rfl
@[go_sem] theorem okSl_59 : okSl Tt 59 = false := Eq.trans rfl rfl
@[go_sem] theorem Tt_60 : Tt 60 = ⟨.func #[9, 9, 3, 3] #[32] false, 1, 8, [.nilf]⟩ := Eq.trans rfl rfl
@[go_sem] theorem okSl_60 : okSl Tt 60 = false := Eq.trans rfl rfl
@[go_sem] theorem Tt_61 : Tt 61 = ⟨.pointer 40, 1, 8, [.nilp]⟩ := Eq.trans rfl rfl
@[go_sem] theorem okSl_61 : okSl Tt 61 = false := Eq.trans rfl rfl
@[go_sem] theorem Tt_62 : Tt 62 = ⟨.func #[9, 32] #[26] false, 1, 8, [.nilf]⟩ := Eq.trans rfl rfl
@[go_sem] theorem okSl_62 : okSl Tt 62 = false := Eq.trans rfl rfl
@[go_sem] theorem Tt_63 : Tt 63 = ⟨.func #[3, 3, 32] #[26] false, 1, 8, [.nilf]⟩ := Eq.trans rfl rfl
@[go_sem] theorem okSl_63 : okSl Tt 63 = false := Eq.trans rfl rfl
@[go_sem] theorem Tt_64 : Tt 64 = ⟨.func #[9, 5] #[3] false, 1, 8, [.nilf]⟩ := Eq.trans rfl rfl
@[go_sem] theorem okSl_64 : okSl Tt 64 = false := Eq.trans rfl rfl
@[go_sem] theorem Tt_65 : Tt 65 = ⟨.func #[9] #[9] false, 1, 8, [.nilf]⟩ := Eq.trans rfl rfl
@[go_sem] theorem okSl_65 : okSl Tt 65 = false := Eq.trans rfl rfl
@[go_sem] theorem Tt_66 : Tt 66 = ⟨.func #[5] #[4] false, 1, 8, [.nilf]⟩ := Eq.trans rfl rfl
@[go_sem] theorem okSl_66 : okSl Tt 66 = false := Eq.trans rfl rfl
@[go_sem] theorem Tt_67 : Tt 67 = ⟨.array 3 3, 3, 24, [.int .i64 0, .int .i64 0, .int .i64 0]⟩ := Eq.trans rfl rfl
@[go_sem] theorem okSl_67 : okSl Tt 67 = false := Eq.trans rfl rfl
@[go_sem] theorem Tt_69 : Tt 69 = ⟨.func #[9] #[35, 3] false, 1, 8, [.nilf]⟩ := Eq.trans rfl rfl
@[go_sem] theorem okSl_69 : okSl Tt 69 = false := Eq.trans rfl rfl
@[go_sem] theorem Tt_70 : Tt 70 = ⟨.struct #[⟨"Op", 3, 0, false, "", "", 0⟩, ⟨"A", 3, 1, false, "", "", 8⟩, ⟨"B", 3, 2, false, "", "", 16⟩, ⟨"C", 3, 3, false, "", "", 24⟩], 4, 32, [.int .i64 0, .int .i64 0, .int .i64 0, .int .i64 0]⟩ := Eq.trans rfl rfl
@[go_sem] theorem okSl_70 : okSl Tt 70 = false := Eq.trans rfl rfl
@[go_sem] theorem okSt_70 : okSt Tt 70 = true := Eq.trans rfl rfl
@[go_sem] theorem Tt_71 : Tt 71 = ⟨.struct #[⟨"Op", 3, 0, false, "", "", 0⟩, ⟨"A", 3, 1, false, "", "", 8⟩, ⟨"B", 3, 2, false, "", "", 16⟩, ⟨"C", 3, 3, false, "", "", 24⟩], 4, 32, [.int .i64 0, .int .i64 0, .int .i64 0, .int .i64 0]⟩ := Eq.trans rfl rfl
@[go_sem] theorem okSl_71 : okSl Tt 71 = false := Eq.trans rfl rfl
@[go_sem] theorem okSt_71 : okSt Tt 71 = true := Eq.trans rfl rfl
@[go_sem] theorem Tt_73 : Tt 73 = ⟨.func #[71] #[35, 26] false, 1, 8, [.nilf]⟩ := Eq.trans rfl rfl
@[go_sem] theorem okSl_73 : okSl Tt 73 = false := Eq.trans rfl rfl
@[go_sem] theorem Tt_74 : Tt 74 = ⟨.func #[9, 5] #[9] false, 1, 8, [.nilf]⟩ := Eq.trans rfl rfl
@[go_sem] theorem okSl_74 : okSl Tt 74 = false := Eq.trans rfl rfl
@[go_sem] theorem Tt_78 : Tt 78 = ⟨.func #[9] #[76, 4] false, 1, 8, [.nilf]⟩ := Eq.trans rfl rfl
@[go_sem] theorem okSl_78 : okSl Tt 78 = false := Eq.trans rfl rfl
@[go_sem] theorem Tt_79 : Tt 79 = ⟨.func #[9, 80] #[9] false, 1, 8, [.nilf]⟩ := Eq.trans rfl rfl
@[go_sem] theorem okSl_79 : okSl Tt 79 = false := Eq.trans rfl rfl
@[go_sem] theorem Tt_80 : Tt 80 = ⟨.pointer 76, 1, 8, [.nilp]⟩ := Eq.trans rfl rfl
@[go_sem] theorem okSl_80 : okSl Tt 80 = false := Eq.trans rfl rfl
@[go_sem] theorem Tt_81 : Tt 81 = ⟨.func #[9, 21] #[3] false, 1, 8, [.nilf]⟩ := Eq.trans rfl rfl
@[go_sem] theorem okSl_81 : okSl Tt 81 = false := Eq.trans rfl rfl
@[go_sem] theorem Tt_82 : Tt 82 = ⟨.func #[3] #[4] false, 1, 8, [.nilf]⟩ := Eq.trans rfl rfl
@[go_sem] theorem okSl_82 : okSl Tt 82 = false := Eq.trans rfl rfl
@[go_sem] theorem Tt_83 : Tt 83 = ⟨.func #[9, 3] #[32] false, 1, 8, [.nilf]⟩ := Eq.trans rfl rfl
@[go_sem] theorem okSl_83 : okSl Tt 83 = false := Eq.trans rfl rfl
@[go_sem] theorem Tt_84 : Tt 84 = ⟨.struct #[⟨"kind", 3, 0, false, "", "seedcorn/asm", 0⟩, ⟨"n", 35, 1, false, "", "seedcorn/asm", 8⟩, ⟨"great", 4, 2, false, "", "seedcorn/asm", 12⟩], 3, 16, [.int .i64 0, .int .u32 0, .bool false]⟩ := Eq.trans rfl rfl
@[go_sem] theorem okSl_84 : okSl Tt 84 = false := Eq.trans rfl rfl
@[go_sem] theorem okSt_84 : okSt Tt 84 = true := Eq.trans rfl rfl
@[go_sem] theorem Tt_85 : Tt 85 = ⟨.struct #[⟨"kind", 3, 0, false, "", "seedcorn/asm", 0⟩, ⟨"n", 35, 1, false, "", "seedcorn/asm", 8⟩, ⟨"great", 4, 2, false, "", "seedcorn/asm", 12⟩], 3, 16, [.int .i64 0, .int .u32 0, .bool false]⟩ := Eq.trans rfl rfl
@[go_sem] theorem okSl_85 : okSl Tt 85 = false := Eq.trans rfl rfl
@[go_sem] theorem okSt_85 : okSt Tt 85 = true := Eq.trans rfl rfl
@[go_sem] theorem Tt_86 : Tt 86 = ⟨.func #[9] #[85] false, 1, 8, [.nilf]⟩ := Eq.trans rfl rfl
@[go_sem] theorem okSl_86 : okSl Tt 86 = false := Eq.trans rfl rfl
@[go_sem] theorem Tt_87 : Tt 87 = ⟨.func #[35] #[26] false, 1, 8, [.nilf]⟩ := Eq.trans rfl rfl
@[go_sem] theorem okSl_87 : okSl Tt 87 = false := Eq.trans rfl rfl
@[go_sem] theorem Tt_88 : Tt 88 = ⟨.struct #[⟨"name", 9, 0, false, "", "seedcorn/inst", 0⟩, ⟨"a", 4, 1, false, "", "seedcorn/inst", 16⟩, ⟨"b", 4, 2, false, "", "seedcorn/inst", 17⟩, ⟨"c", 3, 3, false, "", "seedcorn/inst", 24⟩], 4, 32, [.str [], .bool false, .bool false, .int .i64 0]⟩ := Eq.trans rfl rfl
@[go_sem] theorem okSl_88 : okSl Tt 88 = false := Eq.trans rfl rfl
@[go_sem] theorem okSt_88 : okSt Tt 88 = true := Eq.trans rfl rfl
@[go_sem] theorem Tt_89 : Tt 89 = ⟨.struct #[⟨"name", 9, 0, false, "", "seedcorn/inst", 0⟩, ⟨"a", 4, 1, false, "", "seedcorn/inst", 16⟩, ⟨"b", 4, 2, false, "", "seedcorn/inst", 17⟩, ⟨"c", 3, 3, false, "", "seedcorn/inst", 24⟩], 4, 32, [.str [], .bool false, .bool false, .int .i64 0]⟩ := Eq.trans rfl rfl
@[go_sem] theorem okSl_89 : okSl Tt 89 = false := Eq.trans rfl rfl
@[go_sem] theorem okSt_89 : okSt Tt 89 = true := Eq.trans rfl rfl
@[go_sem] theorem Tt_90 : Tt 90 = ⟨.func #[3] #[89] false, 1, 8, [.nilf]⟩ := Eq.trans rfl rfl
@[go_sem] theorem okSl_90 : okSl Tt 90 = false := Eq.trans rfl rfl
@[go_sem] theorem Tt_92 : Tt 92 = ⟨.func #[3] #[4, 4, 3] false, 1, 8, [.nilf]⟩ := Eq.trans rfl rfl
@[go_sem] theorem okSl_92 : okSl Tt 92 = false := Eq.trans rfl rfl
@[go_sem] theorem Tt_93 : Tt 93 = ⟨.slice 94, 1, 24, [.nsl]⟩ := Eq.trans rfl rfl
@[go_sem] theorem elem_93 : elemTI Tt 93 = ⟨.pointer 3, 1, 8, [.nilp]⟩ := Eq.trans rfl rfl
@[go_sem] theorem okSl_93 : okSl Tt 93 = true := Eq.trans rfl rfl
@[go_sem] theorem Tt_94 : Tt 94 = ⟨.pointer 3, 1, 8, [.nilp]⟩ := Eq.trans rfl rfl
@[go_sem] theorem okSl_94 : okSl Tt 94 = false := Eq.trans rfl rfl
@[go_sem] theorem Tt_95 : Tt 95 = ⟨.func #[3, 71, 9] #[26] false, 1, 8, [.nilf]⟩ := Eq.trans rfl rfl
@[go_sem] theorem okSl_95 : okSl Tt 95 = false := Eq.trans rfl rfl
@[go_sem] theorem Tt_96 : Tt 96 = ⟨.func #[71] #[26] false, 1, 8, [.nilf]⟩ := Eq.trans rfl rfl
@[go_sem] theorem okSl_96 : okSl Tt 96 = false := Eq.trans rfl rfl
@[go_sem] theorem Tt_97 : Tt 97 = ⟨.func #[9] #[35, 26] false, 1, 8, [.nilf]⟩ := Eq.trans rfl rfl
@[go_sem] theorem okSl_97 : okSl Tt 97 = false := Eq.trans rfl rfl
@[go_sem] theorem Tt_98 : Tt 98 = ⟨.func #[5] #[35] false, 1, 8, [.nilf]⟩ := Eq.trans rfl rfl
@[go_sem] theorem okSl_98 : okSl Tt 98 = false := Eq.trans rfl rfl
@[go_sem] theorem Tt_99 : Tt 99 = ⟨.func #[3] #[9] false, 1, 8, [.nilf]⟩ := Eq.trans rfl rfl
@[go_sem] theorem okSl_99 : okSl Tt 99 = false := Eq.trans rfl rfl
@[go_sem] theorem Tt_100 : Tt 100 = ⟨.func #[71] #[4] false, 1, 8, [.nilf]⟩ := Eq.trans rfl rfl
@[go_sem] theorem okSl_100 : okSl Tt 100 = false := Eq.trans rfl rfl
@[go_sem] theorem Tt_102 : Tt 102 = ⟨.func #[9] #[21, 3] false, 1, 8, [.nilf]⟩ := Eq.trans rfl rfl
@[go_sem] theorem okSl_102 : okSl Tt 102 = false := Eq.trans rfl rfl
@[go_sem] theorem Tt_103 : Tt 103 = ⟨.func #[9, 21] #[4] false, 1, 8, [.nilf]⟩ := Eq.trans rfl rfl
@[go_sem] theorem okSl_103 : okSl Tt 103 = false := Eq.trans rfl rfl
@[go_sem] theorem Tt_104 : Tt 104 = ⟨.func #[21] #[4] false, 1, 8, [.nilf]⟩ := Eq.trans rfl rfl
@[go_sem] theorem okSl_104 : okSl Tt 104 = false := Eq.trans rfl rfl
@[go_sem] theorem Tt_105 : Tt 105 = ⟨.func #[3] #[3] false, 1, 8, [.nilf]⟩ := Eq.trans rfl rfl
@[go_sem] theorem okSl_105 : okSl Tt 105 = false := Eq.trans rfl rfl
@[go_sem] theorem Tt_106 : Tt 106 = ⟨.int .u64, 1, 8, [.int .u64 0]⟩ := Eq.trans rfl rfl
@[go_sem] theorem okSl_106 : okSl Tt 106 = false := Eq.trans rfl rfl
@[go_sem] theorem Tt_108 : Tt 108 = ⟨.func #[9, 9] #[9, 4] false, 1, 8, [.nilf]⟩ := Eq.trans rfl rfl
@[go_sem] theorem okSl_108 : okSl Tt 108 = false := Eq.trans rfl rfl
@[go_sem] theorem Tt_109 : Tt 109 = ⟨.int .u64, 1, 8, [.int .u64 0]⟩ := Eq.trans rfl rfl
@[go_sem] theorem okSl_109 : okSl Tt 109 = false := Eq.trans rfl rfl
@[go_sem] theorem Tt_110 : Tt 110 = ⟨.func #[9, 5] #[4] false, 1, 8, [.nilf]⟩ := Eq.trans rfl rfl
@[go_sem] theorem okSl_110 : okSl Tt 110 = false := Eq.trans rfl rfl
@[go_sem] theorem Tt_111 : Tt 111 = ⟨.func #[4, 3, 3] #[4] false, 1, 8, [.nilf]⟩ := Eq.trans rfl rfl
@[go_sem] theorem okSl_111 : okSl Tt 111 = false := Eq.trans rfl rfl
@[go_sem] theorem Tt_112 : Tt 112 = ⟨.func #[9, 9] #[4] false, 1, 8, [.nilf]⟩ := Eq.trans rfl rfl
@[go_sem] theorem okSl_112 : okSl Tt 112 = false := Eq.trans rfl rfl
@[go_sem] theorem Tt_114 : Tt 114 = ⟨.func #[9] #[9, 3, 26] false, 1, 8, [.nilf]⟩ := Eq.trans rfl rfl
@[go_sem] theorem okSl_114 : okSl Tt 114 = false := Eq.trans rfl rfl
@[go_sem] theorem Tt_115 : Tt 115 = ⟨.func #[9, 3] #[9] false, 1, 8, [.nilf]⟩ := Eq.trans rfl rfl
@[go_sem] theorem okSl_115 : okSl Tt 115 = false := Eq.trans rfl rfl
@[go_sem] theorem Tt_117 : Tt 117 = ⟨.func #[9] #[35, 35] false, 1, 8, [.nilf]⟩ := Eq.trans rfl rfl
@[go_sem] theorem okSl_117 : okSl Tt 117 = false := Eq.trans rfl rfl
@[go_sem] theorem Tt_119 : Tt 119 = ⟨.struct #[⟨"lo", 5, 0, false, "", "unicode/utf8", 0⟩, ⟨"hi", 5, 1, false, "", "unicode/utf8", 1⟩], 2, 2, [.int .u8 0, .int .u8 0]⟩ := Eq.trans rfl rfl
@[go_sem] theorem okSl_119 : okSl Tt 119 = false := Eq.trans rfl rfl
@[go_sem] theorem okSt_119 : okSt Tt 119 = true := Eq.trans rfl rfl
@[go_sem] theorem Tt_120 : Tt 120 = ⟨.struct #[⟨"lo", 5, 0, false, "", "unicode/utf8", 0⟩, ⟨"hi", 5, 1, false, "", "unicode/utf8", 1⟩], 2, 2, [.int .u8 0, .int .u8 0]⟩ := Eq.trans rfl rfl
@[go_sem] theorem okSl_120 : okSl Tt 120 = false := Eq.trans rfl rfl
@[go_sem] theorem okSt_120 : okSt Tt 120 = true := Eq.trans rfl rfl
@[go_sem] theorem Tt_121 : Tt 121 = ⟨.array 16 120, 32, 32, [.int .u8 0, .int .u8 0, .int .u8 0, .int .u8 0, .int .u8 0, .int .u8 0, .int .u8 0, .int .u8 0, .int .u8 0, .int .u8 0, .int .u8 0, .int .u8 0, .int .u8 0, .int .u8 0, .int .u8 0, .int .u8 0, .int .u8 0, .int .u8 0, .int .u8 0, .int .u8 0, .int .u8 0, .int .u8 0, .int .u8 0, .int .u8 0, .int .u8 0, .int .u8 0, .int .u8 0, .int .u8 0, .int .u8 0, .int .u8 0, .int .u8 0, .int .u8 0]⟩ := Eq.trans rfl rfl
@[go_sem] theorem okSl_121 : okSl Tt 121 = false := Eq.trans rfl rfl
@[go_sem] theorem Tt_122 : Tt 122 = ⟨.slice 5, 1, 24, [.nsl]⟩ := Eq.trans rfl rfl
@[go_sem] theorem elem_122 : elemTI Tt 122 = ⟨.int .u8, 1, 1, [.int .u8 0]⟩ := Eq.trans rfl rfl
@[go_sem] theorem okSl_122 : okSl Tt 122 = true := Eq.trans rfl rfl
@[go_sem] theorem Tt_123 : Tt 123 = ⟨.func #[5] #[3] false, 1, 8, [.nilf]⟩ := Eq.trans rfl rfl
@[go_sem] theorem okSl_123 : okSl Tt 123 = false := Eq.trans rfl rfl
@[go_sem] theorem Tt_125 : Tt 125 = ⟨.func #[106, 106] #[106, 106] false, 1, 8, [.nilf]⟩ := Eq.trans rfl rfl
@[go_sem] theorem okSl_125 : okSl Tt 125 = false := Eq.trans rfl rfl
@[go_sem] theorem Tt_126 : Tt 126 = ⟨.pointer 128, 1, 8, [.nilp]⟩ := Eq.trans rfl rfl
@[go_sem] theorem okSl_126 : okSl Tt 126 = false := Eq.trans rfl rfl
@[go_sem] theorem Tt_127 : Tt 127 = ⟨.struct #[⟨"addr", 126, 0, false, "", "strings", 0⟩, ⟨"buf", 122, 1, false, "", "strings", 8⟩], 2, 32, [.nilp, .nsl]⟩ := Eq.trans rfl rfl
@[go_sem] theorem okSl_127 : okSl Tt 127 = false := Eq.trans rfl rfl
@[go_sem] theorem okSt_127 : okSt Tt 127 = true := Eq.trans rfl rfl
@[go_sem] theorem Tt_128 : Tt 128 = ⟨.struct #[⟨"addr", 126, 0, false, "", "strings", 0⟩, ⟨"buf", 122, 1, false, "", "strings", 8⟩], 2, 32, [.nilp, .nsl]⟩ := Eq.trans rfl rfl
@[go_sem] theorem okSl_128 : okSl Tt 128 = false := Eq.trans rfl rfl
@[go_sem] theorem okSt_128 : okSt Tt 128 = true := Eq.trans rfl rfl
@[go_sem] theorem Tt_129 : Tt 129 = ⟨.func #[3] #[] false, 1, 8, [.nilf]⟩ := Eq.trans rfl rfl
@[go_sem] theorem okSl_129 : okSl Tt 129 = false := Eq.trans rfl rfl
@[go_sem] theorem Tt_130 : Tt 130 = ⟨.interface #[("Error", 135)], 1, 16, [.nili]⟩ := Eq.trans rfl rfl
@[go_sem] theorem okSl_130 : okSl Tt 130 = false := Eq.trans rfl rfl
@[go_sem] theorem Tt_131 : Tt 131 = ⟨.interface #[("Error", 135)], 1, 16, [.nili]⟩ := Eq.trans rfl rfl
@[go_sem] theorem okSl_131 : okSl Tt 131 = false := Eq.trans rfl rfl
@[go_sem] theorem Tt_133 : Tt 133 = ⟨.func #[9] #[3, 131] false, 1, 8, [.nilf]⟩ := Eq.trans rfl rfl
@[go_sem] theorem okSl_133 : okSl Tt 133 = false := Eq.trans rfl rfl
@[go_sem] theorem Tt_134 : Tt 134 = ⟨.func #[] #[3] false, 1, 8, [.nilf]⟩ := Eq.trans rfl rfl
@[go_sem] theorem okSl_134 : okSl Tt 134 = false := Eq.trans rfl rfl
@[go_sem] theorem Tt_135 : Tt 135 = ⟨.func #[] #[9] false, 1, 8, [.nilf]⟩ := Eq.trans rfl rfl
@[go_sem] theorem okSl_135 : okSl Tt 135 = false := Eq.trans rfl rfl
@[go_sem] theorem Tt_136 : Tt 136 = ⟨.func #[3, 3, 4] #[4] false, 1, 8, [.nilf]⟩ := Eq.trans rfl rfl
@[go_sem] theorem okSl_136 : okSl Tt 136 = false := Eq.trans rfl rfl
@[go_sem] theorem Tt_137 : Tt 137 = ⟨.array 16 5, 16, 16, [.int .u8 0, .int .u8 0, .int .u8 0, .int .u8 0, .int .u8 0, .int .u8 0, .int .u8 0, .int .u8 0, .int .u8 0, .int .u8 0, .int .u8 0, .int .u8 0, .int .u8 0, .int .u8 0, .int .u8 0, .int .u8 0]⟩ := Eq.trans rfl rfl
@[go_sem] theorem okSl_137 : okSl Tt 137 = false := Eq.trans rfl rfl
@[go_sem] theorem Tt_138 : Tt 138 = ⟨.func #[35, 35] #[35, 35] false, 1, 8, [.nilf]⟩ := Eq.trans rfl rfl
@[go_sem] theorem okSl_138 : okSl Tt 138 = false := Eq.trans rfl rfl
@[go_sem] theorem Tt_140 : Tt 140 = ⟨.func #[109, 109] #[109, 109] false, 1, 8, [.nilf]⟩ := Eq.trans rfl rfl
@[go_sem] theorem okSl_140 : okSl Tt 140 = false := Eq.trans rfl rfl
@[go_sem] theorem Tt_141 : Tt 141 = ⟨.pointer 5, 1, 8, [.nilp]⟩ := Eq.trans rfl rfl
@[go_sem] theorem okSl_141 : okSl Tt 141 = false := Eq.trans rfl rfl
@[go_sem] theorem Tt_142 : Tt 142 = ⟨.unsafePointer, 1, 8, [.nilp]⟩ := Eq.trans rfl rfl
@[go_sem] theorem okSl_142 : okSl Tt 142 = false := Eq.trans rfl rfl
@[go_sem] theorem Tt_143 : Tt 143 = ⟨.func #[142] #[142] false, 1, 8, [.nilf]⟩ := Eq.trans rfl rfl
@[go_sem] theorem okSl_143 : okSl Tt 143 = false := Eq.trans rfl rfl
@[go_sem] theorem Tt_144 : Tt 144 = ⟨.func #[3] #[122] false, 1, 8, [.nilf]⟩ := Eq.trans rfl rfl
@[go_sem] theorem okSl_144 : okSl Tt 144 = false := Eq.trans rfl rfl
@[go_sem] theorem Tt_145 : Tt 145 = ⟨.struct #[⟨"_interface", 17, 0, false, "", "runtime", 0⟩, ⟨"concrete", 17, 1, false, "", "runtime", 8⟩, ⟨"asserted", 17, 2, false, "", "runtime", 16⟩, ⟨"missingMethod", 9, 3, false, "", "runtime", 24⟩], 4, 40, [.nilp, .nilp, .nilp, .str []]⟩ := Eq.trans rfl rfl
@[go_sem] theorem okSl_145 : okSl Tt 145 = false := Eq.trans rfl rfl
@[go_sem] theorem okSt_145 : okSt Tt 145 = true := Eq.trans rfl rfl
@[go_sem] theorem Tt_146 : Tt 146 = ⟨.struct #[⟨"_interface", 17, 0, false, "", "runtime", 0⟩, ⟨"concrete", 17, 1, false, "", "runtime", 8⟩, ⟨"asserted", 17, 2, false, "", "runtime", 16⟩, ⟨"missingMethod", 9, 3, false, "", "runtime", 24⟩], 4, 40, [.nilp, .nilp, .nilp, .str []]⟩ := Eq.trans rfl rfl
@[go_sem] theorem okSl_146 : okSl Tt 146 = false := Eq.trans rfl rfl
@[go_sem] theorem okSt_146 : okSt Tt 146 = true := Eq.trans rfl rfl
@[go_sem] theorem Tt_147 : Tt 147 = ⟨.array 0 16, 0, 0, []⟩ := Eq.trans rfl rfl
@[go_sem] theorem okSl_147 : okSl Tt 147 = false := Eq.trans rfl rfl
@[go_sem] theorem Tt_148 : Tt 148 = ⟨.struct #[⟨"_", 147, 0, false, "", "runtime", 0⟩], 0, 0, []⟩ := Eq.trans rfl rfl
@[go_sem] theorem okSl_148 : okSl Tt 148 = false := Eq.trans rfl rfl
@[go_sem] theorem okSt_148 : okSt Tt 148 = true := Eq.trans rfl rfl
@[go_sem] theorem Tt_149 : Tt 149 = ⟨.struct #[⟨"_", 147, 0, false, "", "runtime", 0⟩], 0, 0, []⟩ := Eq.trans rfl rfl
@[go_sem] theorem okSl_149 : okSl Tt 149 = false := Eq.trans rfl rfl
@[go_sem] theorem okSt_149 : okSt Tt 149 = true := Eq.trans rfl rfl
@[go_sem] theorem Tt_150 : Tt 150 = ⟨.int .u8, 1, 1, [.int .u8 0]⟩ := Eq.trans rfl rfl
@[go_sem] theorem okSl_150 : okSl Tt 150 = false := Eq.trans rfl rfl
@[go_sem] theorem Tt_151 : Tt 151 = ⟨.int .u8, 1, 1, [.int .u8 0]⟩ := Eq.trans rfl rfl
@[go_sem] theorem okSl_151 : okSl Tt 151 = false := Eq.trans rfl rfl
@[go_sem] theorem Tt_152 : Tt 152 = ⟨.func #[142, 142] #[4] false, 1, 8, [.nilf]⟩ := Eq.trans rfl rfl
@[go_sem] theorem okSl_152 : okSl Tt 152 = false := Eq.trans rfl rfl
@[go_sem] theorem Tt_153 : Tt 153 = ⟨.int .i32, 1, 4, [.int .i32 0]⟩ := Eq.trans rfl rfl
@[go_sem] theorem okSl_153 : okSl Tt 153 = false := Eq.trans rfl rfl
@[go_sem] theorem Tt_154 : Tt 154 = ⟨.int .i32, 1, 4, [.int .i32 0]⟩ := Eq.trans rfl rfl
@[go_sem] theorem okSl_154 : okSl Tt 154 = false := Eq.trans rfl rfl
@[go_sem] theorem Tt_155 : Tt 155 = ⟨.struct #[⟨"Size_", 12, 0, false, "", "", 0⟩, ⟨"PtrBytes", 12, 1, false, "", "", 8⟩, ⟨"Hash", 35, 2, false, "", "", 16⟩, ⟨"TFlag", 150, 3, false, "", "", 20⟩, ⟨"Align_", 5, 4, false, "", "", 21⟩, ⟨"FieldAlign_", 5, 5, false, "", "", 22⟩, ⟨"Kind_", 151, 6, false, "", "", 23⟩, ⟨"Equal", 152, 7, false, "", "", 24⟩, ⟨"GCData", 141, 8, false, "", "", 32⟩, ⟨"Str", 153, 9, false, "", "", 40⟩, ⟨"PtrToThis", 154, 10, false, "", "", 44⟩], 11, 48, [.int .u64 0, .int .u64 0, .int .u32 0, .int .u8 0, .int .u8 0, .int .u8 0, .int .u8 0, .nilf, .nilp, .int .i32 0, .int .i32 0]⟩ := Eq.trans rfl rfl
@[go_sem] theorem okSl_155 : okSl Tt 155 = false := Eq.trans rfl rfl
@[go_sem] theorem okSt_155 : okSt Tt 155 = true := Eq.trans rfl rfl
@[go_sem] theorem Tt_156 : Tt 156 = ⟨.struct #[⟨"Size_", 12, 0, false, "", "", 0⟩, ⟨"PtrBytes", 12, 1, false, "", "", 8⟩, ⟨"Hash", 35, 2, false, "", "", 16⟩, ⟨"TFlag", 150, 3, false, "", "", 20⟩, ⟨"Align_", 5, 4, false, "", "", 21⟩, ⟨"FieldAlign_", 5, 5, false, "", "", 22⟩, ⟨"Kind_", 151, 6, false, "", "", 23⟩, ⟨"Equal", 152, 7, false, "", "", 24⟩, ⟨"GCData", 141, 8, false, "", "", 32⟩, ⟨"Str", 153, 9, false, "", "", 40⟩, ⟨"PtrToThis", 154, 10, false, "", "", 44⟩], 11, 48, [.int .u64 0, .int .u64 0, .int .u32 0, .int .u8 0, .int .u8 0, .int .u8 0, .int .u8 0, .nilf, .nilp, .int .i32 0, .int .i32 0]⟩ := Eq.trans rfl rfl
@[go_sem] theorem okSl_156 : okSl Tt 156 = false := Eq.trans rfl rfl
@[go_sem] theorem okSt_156 : okSt Tt 156 = true := Eq.trans rfl rfl
end Go.Proofs.YtifciocionlciaaGreatDoor

/- The assembler, plain: a line's parts. -/
namespace Go.Asm

abbrev Str := List UInt8

/-! ### Blanks -/
def wht (c : UInt8) : Bool := c == 32 || c == 9
def trimL (s : Str) : Str := s.dropWhile wht
def trimR (s : Str) : Str := (s.reverse.dropWhile wht).reverse
def trimW (s : Str) : Str := trimL (trimR s)

theorem trimL_cons_w {c : UInt8} {s : Str} (h : wht c = true) : trimL (c :: s) = trimL s := by simp [trimL, h]
theorem trimL_cons {c : UInt8} {s : Str} (h : wht c = false) : trimL (c :: s) = c :: s := by simp [trimL, h]
theorem trimR_snoc_w {c : UInt8} {s : Str} (h : wht c = true) : trimR (s ++ [c]) = trimR s := by simp [trimR, h]
theorem trimR_snoc {c : UInt8} {s : Str} (h : wht c = false) : trimR (s ++ [c]) = s ++ [c] := by simp [trimR, h]
theorem trimL_nil : trimL [] = [] := rfl
theorem trimR_nil : trimR [] = [] := rfl

theorem trimL_app {s t : Str} : trimL (s ++ t) = if trimL s = [] then trimL t else trimL s ++ t := by
  induction s with
  | nil => simp [trimL]
  | cons c s ih =>
    cases hc : wht c
    · rw [List.cons_append, trimL_cons hc, trimL_cons hc]; simp
    · rw [List.cons_append, trimL_cons_w hc, trimL_cons_w hc, ih]
theorem trimL_white {s : Str} (h : s.all wht = true) : trimL s = [] := by
  induction s with
  | nil => rfl
  | cons c s ih =>
    simp only [List.all_cons, Bool.and_eq_true] at h
    rw [trimL_cons_w h.1, ih h.2]
theorem trimL_none {s : Str} : trimL s = [] ↔ s.all wht = true := by
  induction s with
  | nil => simp [trimL]
  | cons c s ih =>
    cases hc : wht c
    · rw [trimL_cons hc]; simp [hc]
    · rw [trimL_cons_w hc, ih]; simp [hc]
theorem trimL_head {s r : Str} {c : UInt8} (h : trimL s = c :: r) : wht c = false := by
  have := List.head?_dropWhile_not wht s
  unfold trimL at h
  rw [h] at this
  simpa using this
theorem trimL_idem (s : Str) : trimL (trimL s) = trimL s := by
  cases h : trimL s with
  | nil => rfl
  | cons c r => rw [trimL_cons (trimL_head h)]

theorem trimR_eq (s : Str) : (trimR s).reverse = trimL s.reverse := by simp [trimR, trimL]
theorem trimR_rev (s : Str) : trimR s.reverse = (trimL s).reverse := by simp [trimR, trimL]
theorem trimR_idem (s : Str) : trimR (trimR s) = trimR s := by
  have h := trimL_idem s.reverse
  rw [← trimR_eq, ← trimR_eq] at h
  exact List.reverse_inj.1 h
theorem trimR_app {s t : Str} : trimR (s ++ t) = if trimR t = [] then trimR s else s ++ trimR t := by
  apply List.reverse_inj.1
  rw [trimR_eq, List.reverse_append, trimL_app, ← trimR_eq, ← trimR_eq]
  by_cases h : trimR t = []
  · rw [if_pos h, if_pos (by rw [h]; rfl)]
  · rw [if_neg h, if_neg (by simpa using h)]; simp
theorem trimR_none {s : Str} : trimR s = [] ↔ s.all wht = true := by
  rw [← List.reverse_eq_nil_iff, trimR_eq, trimL_none, List.all_reverse]

/-- From both ends: in either order. -/
theorem trim_comm (s : Str) : trimL (trimR s) = trimR (trimL s) := by
  induction s with
  | nil => rfl
  | cons c s ih =>
    have e : c :: s = [c] ++ s := rfl
    cases hc : wht c
    · rw [trimL_cons hc, e, trimR_app]
      by_cases h : trimR s = []
      · rw [if_pos h, show trimR [c] = [c] from by simp [trimR, hc]]
        exact trimL_cons hc
      · rw [if_neg h]
        exact trimL_cons hc
    · rw [trimL_cons_w hc, ← ih]
      rw [e, trimR_app]
      by_cases h : trimR s = []
      · rw [if_pos h, h, show trimR [c] = [] from by simp [trimR, hc]]
      · rw [if_neg h]
        exact trimL_cons_w hc
theorem trimW_idem (s : Str) : trimW (trimW s) = trimW s := by
  unfold trimW
  rw [← trim_comm (trimR s), trimR_idem, trimL_idem]
theorem trimW_white_app {s t : Str} (h : s.all wht = true) : trimW (s ++ t) = trimW t := by
  unfold trimW
  rw [trim_comm, trim_comm, trimL_app, if_pos (trimL_none.2 h)]
theorem trimW_app_white {s t : Str} (h : t.all wht = true) : trimW (s ++ t) = trimW s := by
  unfold trimW
  rw [trimR_app, if_pos (trimR_none.2 h)]
theorem trimW_none {s : Str} : trimW s = [] ↔ s.all wht = true := by
  constructor
  · intro h
    unfold trimW at h
    have h1 := trimL_none.1 h
    have h2 : trimR s = trimR (trimR s) := (trimR_idem s).symm
    rw [trimR_none.2 h1] at h2
    exact trimR_none.1 h2
  · intro h
    unfold trimW
    rw [trimR_none.2 h]; rfl
theorem trimL_le (s : Str) : (trimL s).length ≤ s.length := (List.dropWhile_suffix _).length_le
theorem trimR_le (s : Str) : (trimR s).length ≤ s.length := by
  have := trimL_le s.reverse
  rw [← trimR_eq, List.length_reverse, List.length_reverse] at this; exact this
theorem trimW_le (s : Str) : (trimW s).length ≤ s.length := Nat.le_trans (trimL_le _) (trimR_le _)

/-! ### Bytes -/
def small (c : UInt8) : Bool := decide (97 ≤ c.toNat) && decide (c.toNat ≤ 122)
def letter (c : UInt8) : Bool := small c || (decide (65 ≤ c.toNat) && decide (c.toNat ≤ 90))
def digit (c : UInt8) : Bool := decide (48 ≤ c.toNat) && decide (c.toNat ≤ 57)
def nameC (c : UInt8) : Bool := letter c || digit c || c == 95

def isLabel (s : Str) : Bool := decide (s.length ≤ 20) && (match s with | [] => false | c :: _ => letter c) && s.all nameC
/-- Without a point ahead. -/
def bareWord (s : Str) : Str := if s.head? = some 46 then s.drop 1 else s
def isWord (s : Str) : Bool := decide (0 < (bareWord s).length) && (bareWord s).all small

/-! ### Cutting -/
/-- What stands ahead of the first byte c. -/
def upto (c : UInt8) (s : Str) : Str := s.takeWhile (· != c)
theorem upto_none {c : UInt8} : ∀ {s : Str}, c ∉ s → upto c s = s
  | [], _ => rfl
  | b :: s, h => by
    simp only [List.mem_cons, not_or] at h
    have : (b != c) = true := by simpa using fun e => h.1 e.symm
    unfold upto; rw [List.takeWhile_cons, if_pos this]
    rw [show s.takeWhile (· != c) = upto c s from rfl, upto_none h.2]
theorem upto_app {c : UInt8} : ∀ {s : Str} (t : Str), c ∉ s → upto c (s ++ c :: t) = s
  | [], t, _ => by simp [upto]
  | b :: s, t, h => by
    simp only [List.mem_cons, not_or] at h
    have : (b != c) = true := by simpa using fun e => h.1 e.symm
    unfold upto; rw [List.cons_append, List.takeWhile_cons, if_pos this]
    rw [show (s ++ c :: t).takeWhile (· != c) = upto c (s ++ c :: t) from rfl, upto_app t h.2]
theorem upto_free (c : UInt8) : ∀ s : Str, c ∉ upto c s
  | [] => by simp [upto]
  | b :: s => by
    unfold upto
    rw [List.takeWhile_cons]
    split
    · rename_i h
      simp only [List.mem_cons, not_or]
      exact ⟨fun e => by simp [e] at h, upto_free c s⟩
    · simp
theorem upto_split {c : UInt8} : ∀ {s : Str}, c ∈ s → ∃ t, s = upto c s ++ c :: t
  | [], h => by simp at h
  | b :: s, h => by
    by_cases hb : b = c
    · exact ⟨s, by simp [upto, hb]⟩
    · obtain ⟨t, ht⟩ := upto_split (c := c) (s := s) (by simpa [Ne.symm hb, eq_comm, hb] using h)
      have : (b != c) = true := by simpa using hb
      refine ⟨t, ?_⟩
      have e : upto c (b :: s) = b :: upto c s := by unfold upto; rw [List.takeWhile_cons, if_pos this]
      rw [e, List.cons_append, ← ht]

/-- A text, cut at the byte c. -/
def splitC (c : UInt8) : Str → List Str
  | [] => [[]]
  | b :: l => if b = c then [] :: splitC c l else
    match splitC c l with
    | [] => [[b]]
    | x :: xs => (b :: x) :: xs
theorem splitC_cons (c b : UInt8) (l : Str) : splitC c (b :: l) = if b = c then [] :: splitC c l else match splitC c l with | [] => [[b]] | x :: xs => (b :: x) :: xs := rfl
theorem splitC_ne (c : UInt8) (l : Str) : splitC c l ≠ [] := by
  cases l with
  | nil => simp [splitC]
  | cons b l => rw [splitC_cons]; split; simp; split <;> simp
theorem splitC_none {c : UInt8} : ∀ {s : Str}, c ∉ s → splitC c s = [s]
  | [], _ => rfl
  | b :: l, h => by
    simp only [List.mem_cons, not_or] at h
    rw [splitC_cons, if_neg (fun e => h.1 e.symm), splitC_none h.2]
theorem splitC_join {c : UInt8} : ∀ (a b : Str), splitC c (a ++ c :: b) = splitC c a ++ splitC c b
  | [], b => by rw [List.nil_append, splitC_cons]; simp [splitC]
  | d :: a, b => by
    rw [List.cons_append, splitC_cons, splitC_cons, splitC_join a b]
    by_cases hc : d = c
    · simp [hc]
    · simp only [hc, if_false]
      have := splitC_ne c a
      cases hs : splitC c a with
      | nil => exact absurd hs this
      | cons x xs => rfl
theorem splitC_free {c : UInt8} : ∀ (s : Str), ∀ x ∈ splitC c s, c ∉ x
  | [], x, h => by simp [splitC] at h; simp [h]
  | b :: l, x, h => by
    have ih := splitC_free (c := c) l
    rw [splitC_cons] at h
    split at h
    · rcases List.mem_cons.1 h with rfl | h
      · simp
      · exact ih x h
    · rename_i hb
      split at h
      · simp at h; subst h; simp; exact fun e => hb e.symm
      · rename_i y ys hy
        rcases List.mem_cons.1 h with rfl | h
        · simp only [List.mem_cons, not_or]
          exact ⟨fun e => hb e.symm, ih y (by rw [hy]; simp)⟩
        · exact ih x (by rw [hy]; simp [h])
theorem splitC_len {c : UInt8} : ∀ s : Str, (splitC c s).length ≤ s.length + 1
  | [] => by simp [splitC]
  | b :: l => by
    have ih := splitC_len (c := c) l
    rw [splitC_cons]
    split
    · simp only [List.length_cons]; omega
    · split
      · simp
      · rename_i h; rw [h] at ih; simp only [List.length_cons] at ih ⊢; omega
theorem splitC_text {c : UInt8} : ∀ s : Str, ∀ x ∈ splitC c s, x.length ≤ s.length
  | [], x, h => by simp [splitC] at h; simp [h]
  | b :: l, x, h => by
    have ih := splitC_text (c := c) l
    rw [splitC_cons] at h
    split at h
    · rcases List.mem_cons.1 h with rfl | h
      · simp
      · have := ih x h; simp only [List.length_cons]; omega
    · split at h
      · simp at h; simp [h]
      · rename_i y ys hy
        rcases List.mem_cons.1 h with rfl | h
        · have := ih y (by rw [hy]; simp); simp only [List.length_cons]; omega
        · have := ih x (by rw [hy]; simp [h]); simp only [List.length_cons]; omega

/-! ### A line -/
def argsOf (rest : Str) : Option (List Str) :=
  if rest = [] then some [] else if ((splitC 44 rest).map trimW).all (fun x => decide (x ≠ [])) = true then some ((splitC 44 rest).map trimW) else none
/-- A line's label (none: empty), and what stands behind it. -/
def labelOf (s : Str) : Option (Str × Str) :=
  if 58 ∈ s then (if isLabel (upto 58 s) = true then some (upto 58 s, trimW (s.drop ((upto 58 s).length + 1))) else none) else some ([], s)
def opOf (s : Str) : Str := s.takeWhile (fun c => !wht c)
/-- A line's label, its word, its operands; none: it is no line. -/
def lineA (s : Str) : Option (Str × Str × List Str) :=
  (labelOf (trimW (upto 35 s))).bind fun x =>
    if x.2 = [] then some (x.1, [], []) else
    if isWord (opOf x.2) = true then (argsOf (trimW (x.2.drop (opOf x.2).length))).map fun a => (x.1, opOf x.2, a) else none

end Go.Asm

namespace Go.Asm

/-! ### Numbers -/
inductive PR where
  | ok (n : Nat)
  | syn
  | rng
  deriving DecidableEq
def decF (n : Nat) (c : UInt8) : Nat := 10 * n + (c.toNat - 48)
def decN (s : Str) : Nat := s.foldl decF 0
def parseN (s : Str) : PR :=
  if s = [] ∨ (1 < s.length ∧ s.head? = some 48) then .syn else if s.all digit = true then (if 4294967295 < decN s then .rng else .ok (decN s)) else .syn

def hexV (c : UInt8) : Option Nat :=
  if digit c = true then some (c.toNat - 48) else if 97 ≤ c.toNat ∧ c.toNat ≤ 102 then some (c.toNat - 87) else if 65 ≤ c.toNat ∧ c.toNat ≤ 70 then some (c.toNat - 55) else none
def hexGo : Nat → Str → Option Nat
  | n, [] => some n
  | n, c :: s => (hexV c).bind fun v => hexGo (16 * n + v) s
def hexN (s : Str) : Option Nat := if 1 ≤ s.length ∧ s.length ≤ 8 then hexGo 0 s else none

def charOk (c : UInt8) : Bool := decide (33 ≤ c.toNat) && decide (c.toNat ≤ 126) && decide (c ≠ 39) && decide (c ≠ 35) && decide (c ≠ 44) && decide (c ≠ 58)
def charOf : Str → Option Nat
  | [a, c, b] => if a = 39 ∧ b = 39 ∧ charOk c = true then some c.toNat else none
  | _ => none
def regOf (s : Str) : Option Nat :=
  match s with
  | 114 :: d => match parseN d with
    | .ok n => if n ≤ 15 then some n else none
    | _ => none
  | _ => none

inductive Opd where
  | reg (n : Nat)
  | num (n : Nat)
  | great
  | lab
  | other
  deriving DecidableEq
def restOpd (s : Str) : Opd :=
  match s with
  | 48 :: 120 :: d => match hexN d with
    | some n => .num n
    | none => .other
  | s => match charOf s with
    | some n => .num n
    | none => if isLabel s = true then .lab else .other
def operandA (s : Str) : Opd :=
  match regOf s with
  | some n => .reg n
  | none => match parseN s with
    | .ok n => .num n
    | .rng => .great
    | .syn => restOpd s

/-! ### Instructions -/
def names : List Str := [[108, 105], [108, 117, 105], [109, 111, 118], [97, 100, 100], [115, 117, 98], [109, 117, 108], [100, 105, 118], [109, 111, 100], [97, 110, 100], [111, 114], [120, 111, 114], [115, 104, 108], [115, 104, 114], [108, 116], [101, 113], [108, 100], [115, 116],
  [106, 109, 112], [106, 122], [106, 110, 122], [99, 97, 108, 108], [114, 101, 116], [103, 101, 116], [112, 117, 116], [99, 104, 107], [104, 97, 108, 116], [108, 100, 99]]
/-- An operation's number; 0: there is none of that name. -/
def opNum (s : Str) : Nat := match names.idxOf? s with | some i => i + 1 | none => 0
/-- Has it A, has it B, what is C (0: nothing, 1: a number, 2: a register)? -/
def shape (op : Nat) : Bool × Bool × Nat :=
  if op = 1 ∨ op = 2 ∨ op = 19 ∨ op = 20 ∨ op = 21 ∨ op = 25 then (true, false, 1)
  else if op = 3 then (true, true, 0)
  else if 4 ≤ op ∧ op ≤ 15 then (true, true, 2)
  else if op = 16 ∨ op = 17 ∨ op = 27 then (true, true, 1)
  else if op = 18 then (false, false, 1)
  else if op = 22 ∨ op = 23 ∨ op = 24 then (true, false, 0)
  else (false, false, 0)
def nRegs (op : Nat) : Nat := (if (shape op).1 then 1 else 0) + (if (shape op).2.1 then 1 else 0) + (if (shape op).2.2 = 2 then 1 else 0)
def nArgs (op : Nat) : Nat := nRegs op + (if (shape op).2.2 = 1 then 1 else 0)
def word (op a b c : Nat) : Nat := op * 16777216 + a * 1048576 + b * 65536 + c

structure Sta where
  code : List Nat
  data : Nat
  hasD : Bool
  labs : List (Str × Nat)
  uses : List (Nat × Nat × Str)

inductive Res (α : Type) where
  | ok (x : α)
  | err (e : Nat)

def regOf? (s : Str) : Option Nat := match operandA s with | .reg n => some n | _ => none
/-- The registers, in order; none: one of them is none. -/
def regsOf : List Str → Option (List Nat)
  | [] => some []
  | a :: l => (regOf? a).bind fun n => (regsOf l).map (n :: ·)
/-- A word is added. -/
def addW (st : Sta) (w : Nat) : Res Sta := if 16384 ≤ st.code.length then .err 2 else .ok { st with code := st.code ++ [w] }
def wordR (op : Nat) (rs : List Nat) (c : Nat) : Nat :=
  match (shape op).1, (shape op).2.1, (shape op).2.2 with
  | true, true, 2 => word op (rs.getD 0 0) (rs.getD 1 0) (rs.getD 2 0)
  | true, true, _ => word op (rs.getD 0 0) (rs.getD 1 0) c
  | true, false, _ => word op (rs.getD 0 0) 0 c
  | false, _, _ => word op 0 0 c
def insA (n : Nat) (st : Sta) (op : Nat) (args : List Str) : Res Sta :=
  if args.length ≠ nArgs op then .err 1 else
  match regsOf (args.take (nRegs op)) with
  | none => .err 1
  | some rs =>
    if (shape op).2.2 = 1 then
      match operandA (args.getD (nRegs op) []) with
      | .lab => addW { st with uses := st.uses ++ [(n, st.code.length, args.getD (nRegs op) [])] } (wordR op rs 0)
      | .num v => if 65535 < v then .err 2 else addW st (wordR op rs v)
      | .great => .err 2
      | _ => .err 1
    else addW st (wordR op rs 0)
def wordW : Str := [46, 119, 111, 114, 100]
def dataW : Str := [46, 100, 97, 116, 97]
def dirA (st : Sta) (isData : Bool) (args : List Str) : Res Sta :=
  match args with
  | [a] =>
    if isData = true ∧ st.hasD = true then .err 1 else
    match operandA a with
    | .num v => if isData = true then (if 32768 < v then .err 2 else .ok { st with data := v, hasD := true }) else addW st v
    | .great => .err 2
    | _ => .err 1
  | _ => .err 1
def placeOf (labs : List (Str × Nat)) (s : Str) : Option Nat := (labs.find? (fun p => p.1 = s)).map (·.2)
def opA (n : Nat) (st : Sta) (op : Str) (args : List Str) : Res Sta :=
  if op = [] then .ok st else if op = wordW then dirA st false args else if op = dataW then dirA st true args
  else if opNum op = 0 then .err 4 else insA n st (opNum op) args
/-- The line of the number n. -/
def stepA (n : Nat) (st : Sta) (s : Str) : Res Sta :=
  match lineA s with
  | none => .err 3
  | some (l, op, args) =>
    if l = [] then opA n st op args else
    if (placeOf st.labs l).isSome = true then .err 4 else opA n { st with labs := st.labs ++ [(l, st.code.length)] } op args
/-- Lines, from the number n + 1 on: what comes of them, or the wrong one's number and the error. -/
def linesA : Nat → Sta → List Str → Sta ⊕ (Nat × Nat)
  | _, st, [] => .inl st
  | n, st, s :: ls => match stepA (n + 1) st s with
    | .ok st' => linesA (n + 1) st' ls
    | .err e => .inr (n + 1, e)
def addAt (code : List Nat) (i v : Nat) : List Nat := code.set i (code.getD i 0 + v)
def usesA (labs : List (Str × Nat)) : List Nat → List (Nat × Nat × Str) → List Nat ⊕ (Nat × Nat)
  | code, [] => .inl code
  | code, u :: us => match placeOf labs u.2.2 with
    | none => .inr (u.1, 4)
    | some p => usesA labs (addAt code u.2.1 p) us
def st0 : Sta := ⟨[], 0, false, [], []⟩
/-- A text's image (its code, its data), the wrong line's number, the error. -/
def readA (t : Str) : (List Nat × Nat) × Nat × Nat :=
  if 20000 < t.length then (([], 0), 0, 2) else
  match linesA 0 st0 (splitC 10 t) with
  | .inr (n, e) => (([], 0), n, e)
  | .inl st => match usesA st.labs st.code st.uses with
    | .inr (n, e) => (([], 0), n, e)
    | .inl code => ((code, st.data), 0, 0)

end Go.Asm

namespace Go.Asm

/-- The pieces of a text, without blanks at their ends, if none is empty. -/
def argsP (rest : Str) : Option (List Str) := if ((splitC 44 rest).map trimW).all (fun x => decide (x ≠ [])) = true then some ((splitC 44 rest).map trimW) else none

theorem argsOf_P {rest : Str} (h : rest ≠ []) : argsOf rest = argsP rest := by unfold argsOf argsP; rw [if_neg h]

theorem splitC_pre {c : UInt8} : ∀ (w : Str) {s : Str} {x : Str} {xs : List Str}, c ∉ w → splitC c s = x :: xs → splitC c (w ++ s) = (w ++ x) :: xs
  | [], s, x, xs, _, h => h
  | b :: w, s, x, xs, hw, h => by
    simp only [List.mem_cons, not_or] at hw
    rw [List.cons_append, splitC_cons, if_neg (fun e => hw.1 e.symm), splitC_pre w hw.2 h]
    rfl
theorem splitC_post {c : UInt8} : ∀ (s : Str) {t : Str}, c ∉ t → ∃ xs x, splitC c s = xs ++ [x] ∧ splitC c (s ++ t) = xs ++ [x ++ t]
  | [], t, h => ⟨[], [], rfl, by rw [List.nil_append, splitC_none h]; rfl⟩
  | b :: l, t, h => by
    obtain ⟨xs, x, h1, h2⟩ := splitC_post l h
    rw [List.cons_append, splitC_cons, splitC_cons, h1, h2]
    by_cases hb : b = c
    · exact ⟨[] :: xs, x, by simp [hb], by simp [hb]⟩
    · simp only [hb, if_false]
      cases xs with
      | nil => exact ⟨[], b :: x, rfl, rfl⟩
      | cons y ys => exact ⟨(b :: y) :: ys, x, rfl, rfl⟩

theorem wht_free {s : Str} (h : s.all wht = true) {c : UInt8} (hc : wht c = false) : c ∉ s := by
  intro hm
  rw [List.all_eq_true.1 h c hm] at hc; cases hc
theorem trim_parts (s : Str) : ∃ a b, a.all wht = true ∧ b.all wht = true ∧ s = a ++ (trimW s ++ b) := by
  have hl : ∀ s : Str, ∃ a, a.all wht = true ∧ s = a ++ trimL s := by
    intro s
    refine ⟨s.takeWhile wht, List.all_takeWhile, ?_⟩
    unfold trimL; exact (List.takeWhile_append_dropWhile).symm
  have hr : ∀ s : Str, ∃ b, b.all wht = true ∧ s = trimR s ++ b := by
    intro s
    obtain ⟨a, h1, h2⟩ := hl s.reverse
    refine ⟨a.reverse, by rw [List.all_reverse]; exact h1, ?_⟩
    have := congrArg List.reverse h2
    rw [List.reverse_reverse, List.reverse_append, ← trimR_eq, List.reverse_reverse] at this
    exact this
  obtain ⟨b, hb1, hb2⟩ := hr s
  obtain ⟨a, ha1, ha2⟩ := hl (trimR s)
  refine ⟨a, b, ha1, hb1, ?_⟩
  rw [← List.append_assoc]
  unfold trimW
  rw [← ha2]; exact hb2

/-- Blanks at the ends play no part in the pieces. -/
theorem splitC_trim (s : Str) : (splitC 44 (trimW s)).map trimW = (splitC 44 s).map trimW := by
  obtain ⟨a, b, ha, hb, e⟩ := trim_parts s
  have h44 : wht 44 = false := by decide
  obtain ⟨xs, x, h1, h2⟩ := splitC_post (trimW s) (wht_free hb h44)
  conv => rhs; rw [e]
  cases xs with
  | nil =>
    rw [splitC_pre a (wht_free ha h44) (x := x ++ b) (xs := []) (by rw [h2]; rfl), h1]
    simp only [List.nil_append, List.map_cons, List.map_nil]
    rw [trimW_white_app ha, trimW_app_white hb]
  | cons y ys =>
    rw [splitC_pre a (wht_free ha h44) (x := y) (xs := ys ++ [x ++ b]) (by rw [h2]; rfl), h1]
    simp only [List.cons_append, List.map_cons, List.map_append, List.map_nil]
    rw [trimW_white_app ha, trimW_app_white hb]
theorem argsP_trim (s : Str) : argsP (trimW s) = argsP s := by unfold argsP; rw [splitC_trim]

/-- One piece, and the others. -/
theorem argsP_one {s : Str} (h : 44 ∉ s) : argsP s = if trimW s = [] then none else some [trimW s] := by
  unfold argsP
  rw [splitC_none h]
  by_cases ht : trimW s = []
  · simp [ht]
  · simp [ht]
theorem argsP_cons {p q : Str} (h : 44 ∉ p) : argsP (p ++ 44 :: q) = if trimW p = [] then none else (argsP q).map (trimW p :: ·) := by
  unfold argsP
  rw [splitC_join, splitC_none h]
  by_cases ht : trimW p = []
  · simp [ht]
  · by_cases hq : ((splitC 44 q).map trimW).all (fun x => decide (x ≠ [])) = true
    · rw [if_neg ht, if_pos hq, if_pos (by simp only [List.map_append, List.map_cons, List.map_nil, List.all_append, List.all_cons, List.all_nil, hq]; simp [ht])]
      rfl
    · rw [if_neg ht, if_neg hq, if_neg (by
        simp only [List.map_append, List.all_append, Bool.and_eq_true]; exact fun e => hq e.2)]
      rfl
theorem argsP_white {s : Str} (h : trimW s = []) : argsP s = none := by
  rw [← argsP_trim, h]; rfl

end Go.Asm

namespace Go.Proofs.YtifciocionlciaaGreatDoor
open Go Go.Am Go.Asm

theorem getq {α : Type} {l : List α} {k : Nat} (h : k < l.length) : ∃ x, l[k]? = some x := ⟨_, List.getElem?_eq_getElem h⟩
theorem all_take {α : Type} {l : List α} {k : Nat} {p : α → Bool} {x : α} (hx : l[k]? = some x) (h : (l.take k).all p = true) (hp : p x = true) : (l.take (k + 1)).all p = true := by
  rw [List.take_add_one, hx, List.all_append, h]; simpa using hp
theorem u8_eq {c d : UInt8} (h : (c.toNat : Int) = (d.toNat : Int)) : c = d := UInt8.toNat_inj.1 (by omega)
theorem u8_ne {c d : UInt8} (h : c ≠ d) : ¬ (c.toNat : Int) = (d.toNat : Int) := fun e => h (u8_eq e)
theorem drop_cons {α : Type} {l : List α} {k : Nat} {x : α} (h : l[k]? = some x) : l.drop k = x :: l.drop (k + 1) := by
  obtain ⟨hk, rfl⟩ := List.getElem?_eq_some_iff.1 h
  exact List.drop_eq_getElem_cons hk

theorem small_iff {c : UInt8} : small c = true ↔ 97 ≤ c.toNat ∧ c.toNat ≤ 122 := by simp [small]
theorem letter_iff {c : UInt8} : letter c = true ↔ (97 ≤ c.toNat ∧ c.toNat ≤ 122) ∨ (65 ≤ c.toNat ∧ c.toNat ≤ 90) := by simp [letter, small]
theorem digit_iff {c : UInt8} : digit c = true ↔ 48 ≤ c.toNat ∧ c.toNat ≤ 57 := by simp [digit]
theorem wht_iff {c : UInt8} : wht c = true ↔ c.toNat = 32 ∨ c.toNat = 9 := by
  simp only [wht, Bool.or_eq_true, beq_iff_eq]
  constructor
  · rintro (rfl | rfl) <;> simp
  · rintro (h | h)
    · exact .inl (UInt8.toNat_inj.1 h)
    · exact .inr (UInt8.toNat_inj.1 h)

theorem small_A (c : UInt8) : PureR Tryz.prog 61 [iv .u8 c.toNat] (· = bv (small c)) := by
  refine pure_of_wp Tt_ok mixed Tryz.func61 rfl (by rfl) [2] rfl (by kernel_rfl) (by simp [Tryz.ntmps61]) fun g => ?_
  simp (config := { maxSteps := 1000000 }) only [go_sem,↓reduceIte]
  have e := @small_iff c
  cases hs : small c <;> rw [hs] at e <;> simp at e <;> ((repeat' (first | refine ⟨?_, ?_⟩ | intro _)) <;> (first | rfl | (exfalso; omega) | (simp; omega)))
theorem digit_A (c : UInt8) : PureR Tryz.prog 60 [iv .u8 c.toNat] (· = bv (digit c)) := by
  refine pure_of_wp Tt_ok mixed Tryz.func60 rfl (by rfl) [2] rfl (by kernel_rfl) (by simp [Tryz.ntmps60]) fun g => ?_
  simp (config := { maxSteps := 1000000 }) only [go_sem,↓reduceIte]
  have e := @digit_iff c
  cases hs : digit c <;> rw [hs] at e <;> simp at e <;> ((repeat' (first | refine ⟨?_, ?_⟩ | intro _)) <;> (first | rfl | (exfalso; omega) | (simp; omega)))
theorem blank_A (c : UInt8) : PureR Tryz.prog 29 [iv .u8 c.toNat] (· = bv (wht c)) := by
  refine pure_of_wp Tt_ok mixed Tryz.func29 rfl (by rfl) [2] rfl (by kernel_rfl) (by simp [Tryz.ntmps29]) fun g => ?_
  simp (config := { maxSteps := 1000000 }) only [go_sem,↓reduceIte]
  have e := @wht_iff c
  cases hs : wht c <;> rw [hs] at e <;> simp at e <;> ((repeat' (first | refine ⟨?_, ?_⟩ | intro _)) <;> (first | rfl | (exfalso; omega) | (simp; omega)))
theorem letter_A (c : UInt8) : PureR Tryz.prog 44 [iv .u8 c.toNat] (· = bv (letter c)) := by
  refine pure_of_wp Tt_ok mixed Tryz.func44 rfl (by rfl) [2] rfl (by kernel_rfl) (by simp [Tryz.ntmps44]) fun g => ?_
  simp (config := { maxSteps := 1000000 }) only [go_sem,↓reduceIte]
  have e := @letter_iff c
  cases hs : letter c <;> rw [hs] at e <;> simp at e <;> ((repeat' (first | refine ⟨?_, ?_⟩ | intro _)) <;> (first | rfl | (exfalso; omega) | (simp; omega)))
theorem letterR_A (c : UInt8) : PureR Tryz.prog 59 [iv .u8 c.toNat] (· = bv (letter c)) := by
  refine pure_of_wp Tt_ok mixed Tryz.func59 rfl (by rfl) [2] rfl (by kernel_rfl) (by simp [Tryz.ntmps59]) fun g => ?_
  simp (config := { maxSteps := 1000000 }) only [go_sem,↓reduceIte]
  refine hook_call rfl (by simp (config := { maxSteps := 1000000 }) only [go_sem,↓reduceIte]; exact small_A c) (by simp (config := { maxSteps := 1000000 }) only [go_sem,↓reduceIte]; rfl) ?_
  rintro _ rfl
  have e := @letter_iff c
  have e2 := @small_iff c
  cases hsm : small c <;> rw [hsm] at e2 <;> simp at e2 <;> simp (config := { maxSteps := 1000000 }) only [go_sem,↓reduceIte] <;> (cases hs : letter c <;> rw [hs] at e <;> simp at e <;> ((repeat' (first | refine ⟨?_, ?_⟩ | intro _)) <;> (first | rfl | (exfalso; omega) | (simp; omega))))

set_option maxHeartbeats 2000000 in
theorem isLabelR_A (s : Str) (hl : s.length ≤ 4000000000000000000) : PureR Tryz.prog 28 [sv s] (· = bv (isLabel s)) := by
  refine pure_of_wp Tt_ok mixed Tryz.func28 rfl (by rfl) [2] rfl (by kernel_rfl) (by simp [Tryz.ntmps28]) fun g => ?_
  simp (config := { maxSteps := 1000000 }) only [go_sem,↓reduceIte]
  refine ⟨fun h => ?_, fun h => ⟨fun h2 => ?_, fun h2 => ?_⟩⟩
  · have : s = [] := List.eq_nil_of_length_eq_zero (by omega)
    simp [this, isLabel]
  · have : ¬ s.length ≤ 20 := by omega
    simp [isLabel, this]
  obtain ⟨a, ha0⟩ := getq (l := s) (k := 0) (by omega)
  have hsd : s = a :: s.drop 1 := by have := drop_cons ha0; simpa using this
  have h20 : s.length ≤ 20 := by omega
  have hlab : isLabel s = (letter a && s.all nameC) := by
    rw [hsd] at h20 ⊢
    simp only [isLabel, h20, decide_true, Bool.true_and]
  simp (config := { maxSteps := 1000000 }) only [go_sem,↓reduceIte,ha0]
  refine hook_call rfl (by simp (config := { maxSteps := 1000000 }) only [go_sem,↓reduceIte]; exact letterR_A a) (by simp (config := { maxSteps := 1000000 }) only [go_sem,↓reduceIte]; rfl) ?_
  rintro _ rfl
  cases hla : letter a
  · simp (config := { maxSteps := 1000000 }) only [go_sem,↓reduceIte]
    simp [hlab, hla]
  · simp (config := { maxSteps := 1000000 }) only [go_sem,↓reduceIte]
    have hgoal : isLabel s = s.all nameC := by rw [hlab, hla, Bool.true_and]
    refine loop_intro (fun n st => ∃ k : Nat, n + k = s.length ∧ st.f 0 = sv s ∧ st.f 3 = iv .i64 k ∧ (s.take k).all nameC = true) s.length ?_ ?_
    · refine ⟨0, by omega, ?_⟩
      simp (config := { maxSteps := 1000000 }) only [go_sem,↓reduceIte]
      simp
    rintro n f g ob ⟨k, hk, h0, h3, hall⟩
    simp only at h0 h3
    have hw := wrap_succ (k := k) (by omega)
    by_cases hlt : k < s.length
    · obtain ⟨c, hc⟩ := getq hlt
      have hno : nameC c = false → isLabel s = false := fun h => by rw [hgoal, List.all_eq_false]; exact ⟨c, List.mem_of_getElem? hc, by simp [h]⟩
      simp (config := { maxSteps := 1000000 }) only [go_sem,↓reduceIte,h0, h3, hc, hlt]
      refine hook_call rfl (by simp (config := { maxSteps := 1000000 }) only [go_sem,↓reduceIte]; exact letterR_A c) (by simp (config := { maxSteps := 1000000 }) only [go_sem,↓reduceIte]; rfl) ?_
      rintro _ rfl
      cases hl1 : letter c
      · simp (config := { maxSteps := 1000000 }) only [go_sem,↓reduceIte,h0, h3, hc]
        refine hook_call rfl (by simp (config := { maxSteps := 1000000 }) only [go_sem,↓reduceIte]; exact digit_A c) (by simp (config := { maxSteps := 1000000 }) only [go_sem,↓reduceIte]; rfl) ?_
        rintro _ rfl
        cases hd : digit c
        · simp (config := { maxSteps := 1000000 }) only [go_sem,↓reduceIte,h0, h3, hc]
          refine ⟨fun e => ?_, fun e => ?_⟩
          · rw [hno (by
              have : (c == 95) = false := by rw [beq_eq_false_iff_ne]; intro h; exact e (by rw [h]; rfl)
              simp [nameC, hl1, hd, this])]
          · have hc95 : c = 95 := u8_eq (d := 95) (Classical.not_not.1 e)
            simp (config := { maxSteps := 1000000 }) only [go_sem,↓reduceIte,h3, hw]
            refine round_end (n - 1) (by omega) ⟨k + 1, by omega, ?_⟩
            simp (config := { maxSteps := 1000000 }) only [go_sem,↓reduceIte,h0]
            exact all_take hc hall (by simp [nameC, hc95])
        · simp (config := { maxSteps := 1000000 }) only [go_sem,↓reduceIte,h0, h3, hc, hw]
          refine round_end (n - 1) (by omega) ⟨k + 1, by omega, ?_⟩
          simp (config := { maxSteps := 1000000 }) only [go_sem,↓reduceIte,h0]
          exact all_take hc hall (by simp [nameC, hd])
      · simp (config := { maxSteps := 1000000 }) only [go_sem,↓reduceIte,h0, h3, hc, hw]
        refine round_end (n - 1) (by omega) ⟨k + 1, by omega, ?_⟩
        simp (config := { maxSteps := 1000000 }) only [go_sem,↓reduceIte,h0]
        exact all_take hc hall (by simp [nameC, hl1])
    · simp (config := { maxSteps := 1000000 }) only [go_sem,↓reduceIte,h0, h3, hlt]
      rw [List.take_of_length_le (by omega)] at hall
      rw [hgoal, hall]

set_option maxHeartbeats 2000000 in
theorem isLabel_A (s : Str) (hl : s.length ≤ 4000000000000000000) : PureR Tryz.prog 19 [sv s] (· = bv (isLabel s)) := by
  refine pure_of_wp Tt_ok mixed Tryz.func19 rfl (by rfl) [2] rfl (by kernel_rfl) (by simp [Tryz.ntmps19]) fun g => ?_
  simp (config := { maxSteps := 1000000 }) only [go_sem,↓reduceIte]
  refine ⟨fun h => ?_, fun h => ⟨fun h2 => ?_, fun h2 => ?_⟩⟩
  · simp [h, isLabel]
  · have : ¬ s.length ≤ 20 := by omega
    simp [isLabel, this]
  have hlen : 1 ≤ s.length := by
    cases s with
    | nil => exact absurd rfl h
    | cons a r => simp
  obtain ⟨a, ha0⟩ := getq (l := s) (k := 0) (by omega)
  have hsd : s = a :: s.drop 1 := by have := drop_cons ha0; simpa using this
  have h20 : s.length ≤ 20 := by omega
  have hlab : isLabel s = (letter a && s.all nameC) := by
    rw [hsd] at h20 ⊢
    simp only [isLabel, h20, decide_true, Bool.true_and]
  simp (config := { maxSteps := 1000000 }) only [go_sem,↓reduceIte,ha0]
  refine hook_call rfl (by simp (config := { maxSteps := 1000000 }) only [go_sem,↓reduceIte]; exact letter_A a) (by simp (config := { maxSteps := 1000000 }) only [go_sem,↓reduceIte]; rfl) ?_
  rintro _ rfl
  cases hla : letter a
  · simp (config := { maxSteps := 1000000 }) only [go_sem,↓reduceIte]
    simp [hlab, hla]
  · simp (config := { maxSteps := 1000000 }) only [go_sem,↓reduceIte]
    have hgoal : isLabel s = s.all nameC := by rw [hlab, hla, Bool.true_and]
    have hs1 : (s.take 1).all nameC = true := by rw [hsd]; simp [nameC, hla]
    refine loop_intro (fun n st => ∃ k : Nat, n + k = s.length ∧ st.f 0 = sv s ∧ st.f 3 = iv .i64 k ∧ (s.take k).all nameC = true) (s.length - 1) ?_ ?_
    · refine ⟨1, by omega, ?_⟩
      simp (config := { maxSteps := 1000000 }) only [go_sem,↓reduceIte]
      exact hs1
    rintro n f g ob ⟨k, hk, h0, h3, hall⟩
    simp only at h0 h3
    have hw := wrap_succ (k := k) (by omega)
    by_cases hlt : k < s.length
    · obtain ⟨c, hc⟩ := getq hlt
      have hno : nameC c = false → isLabel s = false := fun h => by rw [hgoal, List.all_eq_false]; exact ⟨c, List.mem_of_getElem? hc, by simp [h]⟩
      have hdi := @digit_iff c
      simp (config := { maxSteps := 1000000 }) only [go_sem,↓reduceIte,h0, h3, hc, hlt]
      refine hook_call rfl (by simp (config := { maxSteps := 1000000 }) only [go_sem,↓reduceIte]; exact letter_A c) (by simp (config := { maxSteps := 1000000 }) only [go_sem,↓reduceIte]; rfl) ?_
      rintro _ rfl
      cases hl1 : letter c
      · by_cases hc95 : c = 95
        · have hz : ((c.toNat : Nat) : Int) = 95 := by rw [hc95]; rfl
          simp (config := { maxSteps := 1000000 }) only [go_sem,↓reduceIte,h0, h3, hc, hz, hw]
          refine round_end (n - 1) (by omega) ⟨k + 1, by omega, ?_⟩
          simp (config := { maxSteps := 1000000 }) only [go_sem,↓reduceIte,h0]
          exact all_take hc hall (by simp [nameC, hc95])
        · have hz : ¬ ((c.toNat : Nat) : Int) = 95 := u8_ne (d := 95) hc95
          have hz' : (c == 95) = false := by rw [beq_eq_false_iff_ne]; exact hc95
          simp (config := { maxSteps := 1000000 }) only [go_sem,↓reduceIte,h0, h3, hc, hz, hw]
          refine ⟨fun e => ?_, fun e => ⟨fun e2 => ?_, fun e2 => ?_⟩⟩
          · have hd : digit c = false := by rw [← Bool.not_eq_true, hdi]; omega
            rw [hno (by simp [nameC, hl1, hd, hz'])]
          · have hd : digit c = false := by rw [← Bool.not_eq_true, hdi]; omega
            rw [hno (by simp [nameC, hl1, hd, hz'])]
          · have hd : digit c = true := hdi.2 (by omega)
            refine round_end (n - 1) (by omega) ⟨k + 1, by omega, ?_⟩
            simp (config := { maxSteps := 1000000 }) only [go_sem,↓reduceIte,h0]
            exact all_take hc hall (by simp [nameC, hd])
      · simp (config := { maxSteps := 1000000 }) only [go_sem,↓reduceIte,h0, h3, hc, hw]
        refine round_end (n - 1) (by omega) ⟨k + 1, by omega, ?_⟩
        simp (config := { maxSteps := 1000000 }) only [go_sem,↓reduceIte,h0]
        exact all_take hc hall (by simp [nameC, hl1])
    · simp (config := { maxSteps := 1000000 }) only [go_sem,↓reduceIte,h0, h3, hlt]
      rw [List.take_of_length_le (by omega)] at hall
      rw [hgoal, hall]

end Go.Proofs.YtifciocionlciaaGreatDoor

namespace Go.Proofs.YtifciocionlciaaGreatDoor
open Go Go.Am Go.Asm

def preB (p s : Str) : Bool := decide (s.take p.length = p)
theorem HasPrefix_A (s p : Str) : PureR Tryz.prog 88 [sv s, sv p] (· = bv (preB p s)) := by
  refine pure_of_wp Tt_ok mixed Tryz.func88 rfl (by rfl) [4] rfl (by kernel_rfl) (by simp [Tryz.ntmps88]) fun g => ?_
  simp (config := { maxSteps := 1000000 }) only [go_sem,↓reduceIte]
  refine ⟨fun h => ?_, fun h => ?_⟩
  · exact ⟨Nat.zero_le _, by omega, rfl⟩
  · have : ¬ s.take p.length = p := fun e => by
      have := congrArg List.length e
      simp only [List.length_take] at this; omega
    simp [preB, this]
theorem TrimPrefixL_A (s p : Str) : PureR Tryz.prog 74 [sv s, sv p] (· = sv (if preB p s = true then s.drop p.length else s)) := by
  refine pure_of_wp Tt_ok mixed Tryz.func74 rfl (by rfl) [4] rfl (by kernel_rfl) (by simp [Tryz.ntmps74]) fun g => ?_
  simp (config := { maxSteps := 1000000 }) only [go_sem,↓reduceIte]
  refine hook_call rfl (by simp (config := { maxSteps := 1000000 }) only [go_sem,↓reduceIte]; exact HasPrefix_A s p) (by simp (config := { maxSteps := 1000000 }) only [go_sem,↓reduceIte]; rfl) ?_
  rintro _ rfl
  cases hp : preB p s
  · simp (config := { maxSteps := 1000000 }) only [go_sem,↓reduceIte]
  · simp (config := { maxSteps := 1000000 }) only [go_sem,↓reduceIte]
    have hl : p.length ≤ s.length := by
      have := congrArg List.length (of_decide_eq_true hp)
      simp only [List.length_take] at this; omega
    exact ⟨hl, Nat.le_refl _⟩
theorem TrimPrefix_A (s p : Str) : PureR Tryz.prog 48 [sv s, sv p] (· = sv (if preB p s = true then s.drop p.length else s)) := by
  refine pure_of_wp Tt_ok mixed Tryz.func48 rfl (by rfl) [4] rfl (by kernel_rfl) (by simp [Tryz.ntmps48]) fun g => ?_
  simp (config := { maxSteps := 1000000 }) only [go_sem,↓reduceIte]
  refine hook_call rfl (by simp (config := { maxSteps := 1000000 }) only [go_sem,↓reduceIte]; exact TrimPrefixL_A s p) (by simp (config := { maxSteps := 1000000 }) only [go_sem,↓reduceIte]; rfl) ?_
  rintro _ rfl
  simp (config := { maxSteps := 1000000 }) only [go_sem,↓reduceIte]
theorem bareWord_pre (s : Str) : (if preB [46] s = true then s.drop 1 else s) = bareWord s := by
  unfold bareWord
  cases s with
  | nil => rfl
  | cons c r => simp [preB]
theorem bareWord_le (s : Str) : (bareWord s).length ≤ s.length := by
  unfold bareWord; split <;> simp

set_option maxHeartbeats 2000000 in
theorem isWord_A (s : Str) (hl : s.length ≤ 4000000000000000000) : PureR Tryz.prog 21 [sv s] (· = bv (isWord s)) := by
  refine pure_of_wp Tt_ok mixed Tryz.func21 rfl (by rfl) [2] rfl (by kernel_rfl) (by simp [Tryz.ntmps21]) fun g => ?_
  simp (config := { maxSteps := 1000000 }) only [go_sem,↓reduceIte]
  refine hook_call rfl (by simp (config := { maxSteps := 1000000 }) only [go_sem,↓reduceIte]; exact TrimPrefix_A s [46]) (by simp (config := { maxSteps := 1000000 }) only [go_sem,↓reduceIte]; rfl) ?_
  rintro _ rfl
  have hbl := bareWord_le s
  rw [show (if preB [46] s = true then s.drop ([46] : Str).length else s) = bareWord s from bareWord_pre s]
  have hwd : isWord s = (decide (0 < (bareWord s).length) && (bareWord s).all small) := rfl
  obtain ⟨b, hb⟩ : ∃ b, bareWord s = b := ⟨_, rfl⟩
  rw [hb] at hbl hwd ⊢
  simp (config := { maxSteps := 1000000 }) only [go_sem,↓reduceIte]
  refine ⟨fun h => ?_, fun h => ?_⟩
  · simp [hwd, h]
  have hpos : 0 < b.length := List.length_pos_iff.2 h
  have hgoal : isWord s = b.all small := by rw [hwd]; simp only [hpos, decide_true, Bool.true_and]
  refine loop_intro (fun n st => ∃ k : Nat, n + k = b.length ∧ st.f 0 = sv b ∧ st.f 3 = iv .i64 k ∧ (b.take k).all small = true) b.length ?_ ?_
  · refine ⟨0, by omega, ?_⟩
    simp (config := { maxSteps := 1000000 }) only [go_sem,↓reduceIte]
    simp
  rintro n f g ob ⟨k, hk, h0, h3, hall⟩
  simp only at h0 h3
  have hw := wrap_succ (k := k) (by omega)
  by_cases hlt : k < b.length
  · obtain ⟨c, hc⟩ := getq hlt
    have hno : small c = false → isWord s = false := fun h => by rw [hgoal, List.all_eq_false]; exact ⟨c, List.mem_of_getElem? hc, by simp [h]⟩
    have hsi := @small_iff c
    simp (config := { maxSteps := 1000000 }) only [go_sem,↓reduceIte,h0, h3, hc, hlt]
    refine ⟨fun e => ?_, fun e => ⟨fun e2 => ?_, fun e2 => ?_⟩⟩
    · rw [hno (by rw [← Bool.not_eq_true, hsi]; omega)]
    · rw [hno (by rw [← Bool.not_eq_true, hsi]; omega)]
    · simp (config := { maxSteps := 1000000 }) only [go_sem,↓reduceIte,h3, hw]
      refine round_end (n - 1) (by omega) ⟨k + 1, by omega, ?_⟩
      simp (config := { maxSteps := 1000000 }) only [go_sem,↓reduceIte,h0]
      exact all_take hc hall (hsi.2 (by omega))
  · simp (config := { maxSteps := 1000000 }) only [go_sem,↓reduceIte,h0, h3, hlt]
    rw [List.take_of_length_le (by omega)] at hall
    rw [hgoal, hall]

set_option maxHeartbeats 2000000 in
theorem isWordR_A (s : Str) (hl : s.length ≤ 4000000000000000000) : PureR Tryz.prog 30 [sv s] (· = bv (isWord s)) := by
  refine pure_of_wp Tt_ok mixed Tryz.func30 rfl (by rfl) [2] rfl (by kernel_rfl) (by simp [Tryz.ntmps30]) fun g => ?_
  have hbl := bareWord_le s
  have hwd : isWord s = (decide (0 < (bareWord s).length) && (bareWord s).all small) := rfl
  have hcase : s.length = 0 ∧ bareWord s = s ∨ ∃ a, s[0]? = some a ∧ ¬ s.length = 0 ∧ (a = 46 ∧ bareWord s = s.drop 1 ∨ a ≠ 46 ∧ bareWord s = s) := by
    cases s with
    | nil => exact .inl ⟨rfl, rfl⟩
    | cons a r =>
      refine .inr ⟨a, rfl, by simp, ?_⟩
      by_cases h : a = 46
      · exact .inl ⟨h, by simp [bareWord, h]⟩
      · exact .inr ⟨h, by simp [bareWord, h]⟩
  obtain ⟨b, hb⟩ : ∃ b, bareWord s = b := ⟨_, rfl⟩
  rw [hb] at hbl hwd hcase
  rcases hcase with ⟨hl0, hbs⟩ | ⟨a, ha, hl0, ⟨h46, hbs⟩ | ⟨h46, hbs⟩⟩
  · have hn : ¬ (0 : Int) < (s.length : Int) := by omega
    simp (config := { maxSteps := 1000000 }) only [go_sem,↓reduceIte,hn]
    refine loop_intro (fun n st => ∃ k : Nat, n + k = b.length ∧ st.f 0 = sv b ∧ st.f 3 = iv .i64 k ∧ (b.take k).all small = true) b.length ?_ ?_
    · refine ⟨0, by omega, ?_⟩
      simp (config := { maxSteps := 1000000 }) only [go_sem,↓reduceIte,hbs]
      simp
    rintro n f g ob ⟨k, hk, h0, h3, hall⟩
    simp only at h0 h3
    have hw := wrap_succ (k := k) (by omega)
    by_cases hlt : k < b.length
    · obtain ⟨c, hc⟩ := getq hlt
      have hno : small c = false → isWord s = false := fun h => by
        have : b.all small = false := by rw [List.all_eq_false]; exact ⟨c, List.mem_of_getElem? hc, by simp [h]⟩
        rw [hwd, this, Bool.and_false]
      simp (config := { maxSteps := 1000000 }) only [go_sem,↓reduceIte,h0, h3, hc, hlt]
      refine hook_call rfl (by simp (config := { maxSteps := 1000000 }) only [go_sem,↓reduceIte]; exact small_A c) (by simp (config := { maxSteps := 1000000 }) only [go_sem,↓reduceIte]; rfl) ?_
      rintro _ rfl
      cases hsm : small c
      · simp (config := { maxSteps := 1000000 }) only [go_sem,↓reduceIte]
        rw [hno hsm]
      · simp (config := { maxSteps := 1000000 }) only [go_sem,↓reduceIte,h3, hw]
        refine round_end (n - 1) (by omega) ⟨k + 1, by omega, ?_⟩
        simp (config := { maxSteps := 1000000 }) only [go_sem,↓reduceIte,h0]
        exact all_take hc hall hsm
    · simp (config := { maxSteps := 1000000 }) only [go_sem,↓reduceIte,h0, h3, hlt]
      rw [List.take_of_length_le (by omega)] at hall
      rw [hwd, hall, Bool.and_true]
      have e : ((0 : Int) < (b.length : Int)) = (0 < b.length) := by apply propext; omega
      simp only [e]
  · have hn : (0 : Int) < (s.length : Int) := by omega
    have hz : ((a.toNat : Nat) : Int) = 46 := by rw [h46]; rfl
    simp (config := { maxSteps := 1000000 }) only [go_sem,↓reduceIte,hn, ha, hz]
    refine ⟨by omega, Nat.le_refl _, ?_⟩
    refine loop_intro (fun n st => ∃ k : Nat, n + k = b.length ∧ st.f 0 = sv b ∧ st.f 3 = iv .i64 k ∧ (b.take k).all small = true) b.length ?_ ?_
    · refine ⟨0, by omega, ?_⟩
      simp (config := { maxSteps := 1000000 }) only [go_sem,↓reduceIte,hbs]
      simp
    rintro n f g ob ⟨k, hk, h0, h3, hall⟩
    simp only at h0 h3
    have hw := wrap_succ (k := k) (by omega)
    by_cases hlt : k < b.length
    · obtain ⟨c, hc⟩ := getq hlt
      have hno : small c = false → isWord s = false := fun h => by
        have : b.all small = false := by rw [List.all_eq_false]; exact ⟨c, List.mem_of_getElem? hc, by simp [h]⟩
        rw [hwd, this, Bool.and_false]
      simp (config := { maxSteps := 1000000 }) only [go_sem,↓reduceIte,h0, h3, hc, hlt]
      refine hook_call rfl (by simp (config := { maxSteps := 1000000 }) only [go_sem,↓reduceIte]; exact small_A c) (by simp (config := { maxSteps := 1000000 }) only [go_sem,↓reduceIte]; rfl) ?_
      rintro _ rfl
      cases hsm : small c
      · simp (config := { maxSteps := 1000000 }) only [go_sem,↓reduceIte]
        rw [hno hsm]
      · simp (config := { maxSteps := 1000000 }) only [go_sem,↓reduceIte,h3, hw]
        refine round_end (n - 1) (by omega) ⟨k + 1, by omega, ?_⟩
        simp (config := { maxSteps := 1000000 }) only [go_sem,↓reduceIte,h0]
        exact all_take hc hall hsm
    · simp (config := { maxSteps := 1000000 }) only [go_sem,↓reduceIte,h0, h3, hlt]
      rw [List.take_of_length_le (by omega)] at hall
      rw [hwd, hall, Bool.and_true]
      have e : ((0 : Int) < (b.length : Int)) = (0 < b.length) := by apply propext; omega
      simp only [e]
  · have hn : (0 : Int) < (s.length : Int) := by omega
    have hz : ¬ ((a.toNat : Nat) : Int) = 46 := u8_ne (d := 46) h46
    simp (config := { maxSteps := 1000000 }) only [go_sem,↓reduceIte,hn, ha, hz]
    refine loop_intro (fun n st => ∃ k : Nat, n + k = b.length ∧ st.f 0 = sv b ∧ st.f 3 = iv .i64 k ∧ (b.take k).all small = true) b.length ?_ ?_
    · refine ⟨0, by omega, ?_⟩
      simp (config := { maxSteps := 1000000 }) only [go_sem,↓reduceIte,hbs]
      simp
    rintro n f g ob ⟨k, hk, h0, h3, hall⟩
    simp only at h0 h3
    have hw := wrap_succ (k := k) (by omega)
    by_cases hlt : k < b.length
    · obtain ⟨c, hc⟩ := getq hlt
      have hno : small c = false → isWord s = false := fun h => by
        have : b.all small = false := by rw [List.all_eq_false]; exact ⟨c, List.mem_of_getElem? hc, by simp [h]⟩
        rw [hwd, this, Bool.and_false]
      simp (config := { maxSteps := 1000000 }) only [go_sem,↓reduceIte,h0, h3, hc, hlt]
      refine hook_call rfl (by simp (config := { maxSteps := 1000000 }) only [go_sem,↓reduceIte]; exact small_A c) (by simp (config := { maxSteps := 1000000 }) only [go_sem,↓reduceIte]; rfl) ?_
      rintro _ rfl
      cases hsm : small c
      · simp (config := { maxSteps := 1000000 }) only [go_sem,↓reduceIte]
        rw [hno hsm]
      · simp (config := { maxSteps := 1000000 }) only [go_sem,↓reduceIte,h3, hw]
        refine round_end (n - 1) (by omega) ⟨k + 1, by omega, ?_⟩
        simp (config := { maxSteps := 1000000 }) only [go_sem,↓reduceIte,h0]
        exact all_take hc hall hsm
    · simp (config := { maxSteps := 1000000 }) only [go_sem,↓reduceIte,h0, h3, hlt]
      rw [List.take_of_length_le (by omega)] at hall
      rw [hwd, hall, Bool.and_true]
      have e : ((0 : Int) < (b.length : Int)) = (0 < b.length) := by apply propext; omega
      simp only [e]

theorem trim_snoc {s : Str} (h : s ≠ []) : ∃ r c, s = r ++ [c] := ⟨s.dropLast, s.getLast h, (List.dropLast_concat_getLast h).symm⟩

set_option maxHeartbeats 2000000 in
theorem trimRef_A (s : Str) (hl : s.length ≤ 4000000000000000000) : PureR Tryz.prog 27 [sv s] (· = sv (trimW s)) := by
  refine pure_of_wp Tt_ok mixed Tryz.func27 rfl (by rfl) [2] rfl (by kernel_rfl) (by simp [Tryz.ntmps27]) fun g => ?_
  simp (config := { maxSteps := 1000000 }) only [go_sem,↓reduceIte]
  refine loop_intro (fun n st => ∃ t : Str, t.length = n ∧ st.f 0 = sv t ∧ trimL t = trimL s ∧ t.length ≤ s.length) s.length ⟨s, rfl, rfl, rfl, Nat.le_refl _⟩ ?_
  rintro n f g ob ⟨t, rfl, h0, ht, htl⟩
  simp only at h0
  cases t with
  | nil =>
    simp (config := { maxSteps := 1000000 }) only [go_sem,↓reduceIte,h0]
    refine loop_intro (fun n st => n = 0 ∧ st.f 0 = sv []) 0 ⟨rfl, h0⟩ ?_
    rintro n f g ob ⟨rfl, h0⟩
    simp only at h0
    simp (config := { maxSteps := 1000000 }) only [go_sem,↓reduceIte,h0]
    have : trimW s = [] := by
      rw [trimW, trim_comm, ← ht]; rfl
    rw [this]
  | cons c r =>
    have hp : (0 : Int) < ((r.length + 1 : Nat) : Int) := by omega
    simp (config := { maxSteps := 1000000 }) only [go_sem,↓reduceIte,h0, hp]
    refine hook_call rfl (by simp (config := { maxSteps := 1000000 }) only [go_sem,↓reduceIte]; exact blank_A c) (by simp (config := { maxSteps := 1000000 }) only [go_sem,↓reduceIte]; rfl) ?_
    rintro _ rfl
    cases hc : wht c
    · rw [trimL_cons hc] at ht
      simp (config := { maxSteps := 1000000 }) only [go_sem,↓reduceIte,h0]
      refine loop_intro (fun n st => ∃ t : Str, t.length = n ∧ st.f 0 = sv t ∧ trimR t = trimR (c :: r) ∧ t.length ≤ s.length) (c :: r).length ⟨c :: r, rfl, h0, rfl, htl⟩ ?_
      clear h0
      rintro n f g ob ⟨t, rfl, h0, htr, htl⟩
      simp only at h0
      have hfin : trimW s = trimR (c :: r) := by rw [trimW, trim_comm, ← ht]
      rw [hfin, ← htr]
      by_cases htn : t = []
      · subst htn
        simp (config := { maxSteps := 1000000 }) only [go_sem,↓reduceIte,h0]
        rfl
      · obtain ⟨u, d, hud⟩ := trim_snoc htn
        have hlen : t.length = u.length + 1 := by rw [hud]; simp
        have hp2 : (0 : Int) < (t.length : Int) := by omega
        have hw2 : IntKind.i64.wrap ((t.length : Int) - 1) = ((u.length : Nat) : Int) := by rw [wrap_i64] <;> omega
        have hget : t[u.length]? = some d := by rw [hud]; simp
        simp (config := { maxSteps := 1000000 }) only [go_sem,↓reduceIte,h0, hp2, hw2, hget]
        refine hook_call rfl (by simp (config := { maxSteps := 1000000 }) only [go_sem,↓reduceIte]; exact blank_A d) (by simp (config := { maxSteps := 1000000 }) only [go_sem,↓reduceIte]; rfl) ?_
        rintro _ rfl
        cases hd : wht d
        · simp (config := { maxSteps := 1000000 }) only [go_sem,↓reduceIte,h0]
          rw [hud, trimR_snoc hd]
        · simp (config := { maxSteps := 1000000 }) only [go_sem,↓reduceIte,h0, hw2]
          refine ⟨by omega, by omega, ?_⟩
          refine round_end u.length (by omega) ⟨u, rfl, ?_⟩
          simp (config := { maxSteps := 1000000 }) only [go_sem,↓reduceIte]
          refine ⟨by rw [hud]; simp, ?_, by omega⟩
          rw [hud, trimR_snoc_w hd]
    · rw [trimL_cons_w hc] at ht
      simp (config := { maxSteps := 1000000 }) only [go_sem,↓reduceIte,h0]
      refine ⟨Nat.le_refl _, ?_⟩
      refine round_end r.length (by simp) ⟨r, rfl, ?_⟩
      simp (config := { maxSteps := 1000000 }) only [go_sem,↓reduceIte]
      exact ⟨ht, by simp only [List.length_cons] at htl; omega⟩

theorem upto_len (c : UInt8) (s : Str) : (upto c s).length ≤ s.length := (List.takeWhile_prefix _).length_le
theorem upto_at {c : UInt8} {s : Str} {k : Nat} (hk : k ≤ s.length) (h : c ∉ s.take k) (he : ∀ d, s[k]? = some d → d = c) : upto c s = s.take k := by
  by_cases hlt : k < s.length
  · obtain ⟨d, hd⟩ := getq hlt
    have e := he d hd
    have : s = s.take k ++ c :: s.drop (k + 1) := by
      conv => lhs; rw [← List.take_append_drop k s, drop_cons hd, e]
    conv => lhs; rw [this]
    exact upto_app _ h
  · have : s.take k = s := List.take_of_length_le (by omega)
    rw [this] at h ⊢
    exact upto_none h

theorem find_A (s : Str) (c : UInt8) (hl : s.length ≤ 4000000000000000000) : PureR Tryz.prog 26 [sv s, iv .u8 c.toNat] (· = iv .i64 (upto c s).length) := by
  refine pure_of_wp Tt_ok mixed Tryz.func26 rfl (by rfl) [4] rfl (by kernel_rfl) (by simp [Tryz.ntmps26]) fun g => ?_
  simp (config := { maxSteps := 1000000 }) only [go_sem,↓reduceIte]
  refine loop_intro (fun n st => ∃ k : Nat, n + k = s.length ∧ st.f 0 = sv s ∧ st.f 1 = iv .u8 c.toNat ∧ st.f 5 = iv .i64 k ∧ c ∉ s.take k) s.length ?_ ?_
  · refine ⟨0, by omega, ?_⟩
    simp (config := { maxSteps := 1000000 }) only [go_sem,↓reduceIte]
    simp
  rintro n f g ob ⟨k, hk, h0, h1, h5, hno⟩
  simp only at h0 h1 h5
  have hw := wrap_succ (k := k) (by omega)
  by_cases hlt : k < s.length
  · obtain ⟨d, hd⟩ := getq hlt
    simp (config := { maxSteps := 1000000 }) only [go_sem,↓reduceIte,h0, h1, h5, hlt, hd]
    refine ⟨fun e => ?_, fun e => ?_⟩
    · simp (config := { maxSteps := 1000000 }) only [go_sem,↓reduceIte,h5, hw]
      refine round_end (n - 1) (by omega) ⟨k + 1, by omega, ?_⟩
      simp (config := { maxSteps := 1000000 }) only [go_sem,↓reduceIte,h0, h1]
      rw [List.take_add_one, hd]
      simp only [Option.toList_some, List.mem_append, List.mem_singleton, not_or]
      exact ⟨hno, fun h => e (by rw [h])⟩
    · have hdc : d = c := u8_eq (Classical.not_not.1 e)
      rw [upto_at (by omega) hno (fun d' h => by rw [hd] at h; cases h; exact hdc), List.length_take, Nat.min_eq_left (by omega)]
  · simp (config := { maxSteps := 1000000 }) only [go_sem,↓reduceIte,h0, h1, h5, hlt]
    rw [upto_at (by omega) hno (fun d' h => by have := (List.getElem?_eq_some_iff.1 h).1; omega), List.length_take, Nat.min_eq_left (by omega)]

def strs (l : List Str) : D := .sl (l.map fun w => [.str w])
theorem strs_get {l : List Str} {k : Nat} {w : Str} (h : l[k]? = some w) : (l.map fun w => [D.str w])[k]? = some [.str w] := by rw [List.getElem?_map, h]; rfl
theorem take_next_eq {α : Type} {a b : List α} {k : Nat} {x y : α} (hx : a[k]? = some x) (hy : b[k]? = some y) (h : a.take k = b.take k) (e : x = y) : a.take (k + 1) = b.take (k + 1) := by
  rw [List.take_add_one, List.take_add_one, hx, hy, h, e]
theorem get_ne {α : Type} {a b : List α} {k : Nat} {x y : α} (hx : a[k]? = some x) (hy : b[k]? = some y) (e : x ≠ y) : a ≠ b := by
  rintro rfl; rw [hx] at hy; exact e (Option.some.inj hy)

theorem Texts_A (a b : List Str) (ha : a.length ≤ 4000000000000000000) : PureR Tryz.prog 10 [.one (.d (strs a)), .one (.d (strs b))] (· = bv (decide (a = b))) := by
  refine pure_of_wp Tt_ok mixed Tryz.func10 rfl (by rfl) [4] rfl (by kernel_rfl) (by simp [Tryz.ntmps10]) fun g => ?_
  simp (config := { maxSteps := 1000000 }) only [go_sem,↓reduceIte,strs]
  refine ⟨fun hne => ?_, fun heq => ?_⟩
  · have : a ≠ b := fun e => hne (by rw [e])
    simp [this]
  have hlen : a.length = b.length := by omega
  refine loop_intro (fun n st => ∃ k : Nat, n + k = a.length ∧ st.f 0 = .one (.d (.sl (a.map fun w => [.str w]))) ∧ st.f 1 = .one (.d (.sl (b.map fun w => [.str w]))) ∧ st.f 5 = iv .i64 k ∧ a.take k = b.take k) a.length ⟨0, by omega, rfl, rfl, rfl, rfl⟩ ?_
  rintro n f g ob ⟨k, hk, h0, h1, h5, htk⟩
  simp only at h0 h1 h5
  have hw := wrap_succ (k := k) (by omega)
  by_cases hlt : k < a.length
  · obtain ⟨x, hx⟩ := getq hlt
    obtain ⟨y, hy⟩ := getq (l := b) (k := k) (by omega)
    have hgx := strs_get hx
    have hgy := strs_get hy
    simp (config := { maxSteps := 1000000 }) only [go_sem,↓reduceIte,h0, h1, h5, hlt]
    refine draw_intro (by decide +kernel) ?_
    simp (config := { maxSteps := 1000000 }) only [go_sem,↓reduceIte,h0, h1, h5, hgx, hgy]
    refine ⟨fun hv => ?_, fun hv => ?_⟩
    · have : a ≠ b := get_ne hx hy hv
      simp [this]
    · simp (config := { maxSteps := 1000000 }) only [go_sem,↓reduceIte,h5, hw]
      refine round_end (n - 1) (by omega) ⟨k + 1, by omega, ?_⟩
      simp (config := { maxSteps := 1000000 }) only [go_sem,↓reduceIte,h0, h1]
      exact take_next_eq hx hy htk (Classical.not_not.1 hv)
  · rw [List.take_of_length_le (by omega), List.take_of_length_le (by omega)] at htk
    simp (config := { maxSteps := 1000000 }) only [go_sem,↓reduceIte,h0, h1, h5, hlt]
    simp [htk]

end Go.Proofs.YtifciocionlciaaGreatDoor

namespace Go.Proofs.YtifciocionlciaaGreatDoor
open Go Go.Am Go.Asm

def lineV : Option (Str × Str × List Str) → AV
  | some (l, o, a) => .tup [sv l, sv o, .one (.d (strs a)), iv .i64 0]
  | none => .tup [sv [], sv [], .one (.d (.sl [])), iv .i64 3]

theorem upto_take (c : UInt8) (s : Str) : s.take (upto c s).length = upto c s := by
  by_cases h : c ∈ s
  · obtain ⟨t, ht⟩ := upto_split h
    conv => lhs; arg 2; rw [ht]
    rw [List.take_left]
  · rw [upto_none h, List.take_length]
theorem upto_lt (c : UInt8) (s : Str) : (upto c s).length < s.length ↔ c ∈ s := by
  constructor
  · intro h
    by_cases hc : c ∈ s
    · exact hc
    · rw [upto_none hc] at h; omega
  · intro h
    obtain ⟨t, ht⟩ := upto_split h
    have := congrArg List.length ht
    simp only [List.length_append, List.length_cons] at this; omega
theorem opOf_le (s : Str) : (opOf s).length ≤ s.length := (List.takeWhile_prefix _).length_le
theorem opOf_take (s : Str) : s.take (opOf s).length = opOf s := by
  have := List.takeWhile_append_dropWhile (p := fun c => !wht c) (l := s)
  conv => lhs; arg 2; rw [← this]
  exact List.take_left
theorem opOf_at {s : Str} {k : Nat} (hk : k ≤ s.length) (h : (s.take k).all (fun c => !wht c) = true) (he : ∀ d, s[k]? = some d → wht d = true) : opOf s = s.take k := by
  have e : s = s.take k ++ s.drop k := (List.take_append_drop k s).symm
  unfold opOf
  conv => lhs; rw [e]
  rw [List.takeWhile_append_of_pos (by simpa [List.all_eq_true] using h)]
  have : (s.drop k).takeWhile (fun c => !wht c) = [] := by
    cases hd : s.drop k with
    | nil => rfl
    | cons d t =>
      have : s[k]? = some d := by rw [← List.head?_drop, hd]; rfl
      rw [List.takeWhile_cons, he d this]; rfl
  rw [this, List.append_nil]

theorem drop_upto {c : UInt8} {r t : Str} (h : r = upto c r ++ c :: t) : r.drop ((upto c r).length + 1) = t := by
  conv => lhs; arg 2; rw [h]
  rw [← List.drop_drop, List.drop_left]; rfl
theorem argsP_bad {r : Str} (h : trimW (upto 44 r) = []) : argsP r = none := by
  by_cases hm : 44 ∈ r
  · obtain ⟨t, ht⟩ := upto_split hm
    rw [ht, argsP_cons (upto_free 44 r), if_pos h]
  · rw [argsP_one hm, if_pos (by rw [← upto_none hm]; exact h)]
theorem argsP_last {r : Str} (hm : 44 ∉ r) (h : trimW (upto 44 r) ≠ []) : argsP r = some [trimW (upto 44 r)] := by
  rw [upto_none hm] at h ⊢
  rw [argsP_one hm, if_neg h]
theorem argsP_more {r : Str} (hm : 44 ∈ r) (h : trimW (upto 44 r) ≠ []) : argsP r = (argsP (r.drop ((upto 44 r).length + 1))).map (trimW (upto 44 r) :: ·) := by
  obtain ⟨t, ht⟩ := upto_split hm
  rw [drop_upto ht]
  conv => lhs; rw [ht]
  rw [argsP_cons (upto_free 44 r), if_neg h]

/-- The words so far: nil, or an object of the call's own. -/
def AllW (t : Nat) (ids : List Nat) (L : List Str) (st : St) : Prop := (st.f t = .one (.d .nsl) ∧ L = []) ∨ ∃ id ∈ ids, st.f t = .one (.osl id (st.gen id) 1 0 L.length) ∧ st.obj id = some (L.map fun w => .d (.str w))
theorem frz_strs {s : St} {id g n : Nat} {L : List Str} (hg : s.gen id = g) (ho : s.obj id = some (L.map fun w => .d (.str w))) (hn : n = L.length) : Frz s (.osl id g 1 0 n) (strs L) := by
  subst hn
  exact frz_map hg ho L (fun w => .str w) (fun _ => rfl) rfl (fun j a h => by simp [h]) (by simp)

@[go_sem] theorem RetQ_four {s : St} {t u v x : Nat} {R : AV → Prop} : RetQ [t, u, v, x] R .ret s = ∃ rs, FrzVs s [s.f t, s.f u, s.f v, s.f x] rs ∧ R (.tup rs) := Eq.trans rfl rfl

set_option maxHeartbeats 4000000 in
theorem LineR_A (s : Str) (hl : s.length ≤ 1000000000) : PureR Tryz.prog 14 [sv s] (· = lineV (lineA s)) := by
  refine pure_of_wp Tt_ok mixed Tryz.func14 rfl (by rfl) [2, 3, 4, 5] rfl (by kernel_rfl) (by simp [Tryz.ntmps14]) fun g => ?_
  have h1 := upto_len 35 s
  simp (config := { maxSteps := 1000000 }) only [go_sem,↓reduceIte]
  refine hook_call rfl (by simp (config := { maxSteps := 1000000 }) only [go_sem,↓reduceIte]; exact find_A s 35 (by omega)) (by simp (config := { maxSteps := 1000000 }) only [go_sem,↓reduceIte]; rfl) ?_
  rintro _ rfl
  simp (config := { maxSteps := 1000000 }) only [go_sem,↓reduceIte]
  refine ⟨by omega, by omega, ?_⟩
  rw [upto_take]
  refine hook_call rfl (by simp (config := { maxSteps := 1000000 }) only [go_sem,↓reduceIte]; exact trimRef_A (upto 35 s) (by omega)) (by simp (config := { maxSteps := 1000000 }) only [go_sem,↓reduceIte]; rfl) ?_
  rintro _ rfl
  obtain ⟨t, ht⟩ : ∃ t, trimW (upto 35 s) = t := ⟨_, rfl⟩
  have htl : t.length ≤ s.length := by rw [← ht]; exact Nat.le_trans (trimW_le _) h1
  rw [ht]
  have e : lineA s = (labelOf t).bind fun x =>
    if x.2 = [] then some (x.1, [], []) else
    if isWord (opOf x.2) = true then (argsOf (trimW (x.2.drop (opOf x.2).length))).map fun a => (x.1, opOf x.2, a) else none := by rw [lineA, ht]
  rw [e]
  clear e
  simp (config := { maxSteps := 1000000 }) only [go_sem,↓reduceIte]
  refine hook_call rfl (by simp (config := { maxSteps := 1000000 }) only [go_sem,↓reduceIte]; exact find_A t 58 (by omega)) (by simp (config := { maxSteps := 1000000 }) only [go_sem,↓reduceIte]; rfl) ?_
  rintro _ rfl
  have h2 := upto_len 58 t
  simp (config := { maxSteps := 1000000 }) only [go_sem,↓reduceIte]
  have hwp : IntKind.i64.wrap (((upto 58 t).length : Int) + 1) = (((upto 58 t).length + 1 : Nat) : Int) := wrap_succ (by omega)
  refine ⟨fun hlt => ?_, fun hlt => ?_⟩
  case' refine_1 =>
    have hm := (upto_lt 58 t).1 (by omega)
    refine ⟨by omega, by omega, ?_⟩
    rw [upto_take]
    refine hook_call rfl (by simp (config := { maxSteps := 1000000 }) only [go_sem,↓reduceIte]; exact isLabelR_A (upto 58 t) (by omega)) (by simp (config := { maxSteps := 1000000 }) only [go_sem,↓reduceIte]; rfl) ?_
    rintro _ rfl
    cases hi : isLabel (upto 58 t)
    case' false =>
      have e : labelOf t = none := by rw [labelOf, if_pos hm, if_neg (by simp [hi])]
      rw [e]
      simp (config := { maxSteps := 1000000 }) only [go_sem,↓reduceIte]
      rfl
    have e : labelOf t = some (upto 58 t, trimW (t.drop ((upto 58 t).length + 1))) := by rw [labelOf, if_pos hm, if_pos hi]
    rw [e]
    simp (config := { maxSteps := 1000000 }) only [go_sem,↓reduceIte,hwp]
    refine ⟨by omega, Nat.le_refl _, ?_⟩
    have hdl : (t.drop ((upto 58 t).length + 1)).length ≤ s.length := by rw [List.length_drop]; omega
    refine hook_call rfl (by simp (config := { maxSteps := 1000000 }) only [go_sem,↓reduceIte]; exact trimRef_A (t.drop ((upto 58 t).length + 1)) (by omega)) (by simp (config := { maxSteps := 1000000 }) only [go_sem,↓reduceIte]; rfl) ?_
    rintro _ rfl
    have hul := Nat.le_trans (trimW_le (t.drop ((upto 58 t).length + 1))) hdl
    generalize trimW (t.drop ((upto 58 t).length + 1)) = u at hul ⊢
    generalize hlab : upto 58 t = lab at hul ⊢
    simp only [Option.bind_some]
    simp (config := { maxSteps := 1000000 }) only [go_sem,↓reduceIte]
  case' refine_2 =>
    have hm : 58 ∉ t := fun h => hlt (by have := (upto_lt 58 t).2 h; omega)
    obtain ⟨lab, hlab⟩ : ∃ lab : Str, lab = [] := ⟨_, rfl⟩
    have e : labelOf t = some (lab, t) := by rw [labelOf, if_neg hm, hlab]
    rw [e]
    have hul := htl
    
    obtain ⟨u, hu⟩ : ∃ u : Str, t = u := ⟨_, rfl⟩
    rw [hu] at hul ⊢
    simp only [Option.bind_some]
  all_goals
    refine ⟨fun h0 => ?_, fun h0 => ?_⟩
    · rw [if_pos h0]
      try simp (config := { maxSteps := 1000000 }) only [go_sem,↓reduceIte]
      try simp only [hlab]
      rfl
    · rw [if_neg h0]
      refine loop_intro (fun n st => ∃ k : Nat, n + k = u.length ∧ st.f 0 = sv u ∧ st.f 6 = sv lab ∧ st.f 8 = iv .i64 k ∧ (u.take k).all (fun c => !wht c) = true) u.length ?_ ?_
      · refine ⟨0, by omega, ?_⟩
        simp (config := { maxSteps := 1000000 }) only [go_sem,↓reduceIte]
        simp [hlab]
      rintro n f g ob ⟨k, hk, q0, q6, q8, hall⟩
      simp only at q0 q6 q8
      have hw := wrap_succ (k := k) (by omega)
      by_cases hlt2 : k < u.length
      case' neg =>
        have hop := opOf_at (s := u) (k := k) (by omega) hall (fun d h => by have := (List.getElem?_eq_some_iff.1 h).1; omega)
        simp (config := { maxSteps := 1000000 }) only [go_sem,↓reduceIte,q0, q6, q8, hlt2]
      case' pos =>
        obtain ⟨d, hd⟩ := getq hlt2
        simp (config := { maxSteps := 1000000 }) only [go_sem,↓reduceIte,q0, q6, q8, hlt2, hd]
        refine hook_call rfl (by simp (config := { maxSteps := 1000000 }) only [go_sem,↓reduceIte]; exact blank_A d) (by simp (config := { maxSteps := 1000000 }) only [go_sem,↓reduceIte]; rfl) ?_
        rintro _ rfl
        cases hb : wht d
        case' false =>
          simp (config := { maxSteps := 1000000 }) only [go_sem,↓reduceIte,q8, hw]
          refine round_end (n - 1) (by omega) ⟨k + 1, by omega, ?_⟩
          simp (config := { maxSteps := 1000000 }) only [go_sem,↓reduceIte,q0, q6]
          exact all_take hd hall (by simp [hb])
        have hop := opOf_at (s := u) (k := k) (by omega) hall (fun d' h => by rw [hd] at h; cases h; exact hb)
        simp (config := { maxSteps := 1000000 }) only [go_sem,↓reduceIte,q0, q6, q8]
      all_goals
        clear hall hm hlt h2 hwp
        have hkl : k ≤ u.length := by omega
        refine draw_calls Tt_ok mixed (by decide +kernel) ?_
        simp (config := { maxSteps := 1000000 }) only [go_sem,↓reduceIte,q0, q6, q8]
        refine ⟨Nat.zero_le _, hkl, hkl, Nat.le_refl _, ?_⟩
        have hul2 : (u.drop k).length ≤ s.length := by rw [List.length_drop]; omega
        refine quiet_call rfl (trimRef_A (u.drop k) (by omega)) (by simp (config := { maxSteps := 1000000 }) only [go_sem,↓reduceIte]; exact frzVs_data rfl) rfl ?_
        simp (config := { maxSteps := 1000000 }) only [go_sem,↓reduceIte]
        refine hook_call rfl (by simp (config := { maxSteps := 1000000 }) only [go_sem,↓reduceIte]; exact isWordR_A (u.take k) (by rw [List.length_take]; omega)) (by simp (config := { maxSteps := 1000000 }) only [go_sem,↓reduceIte]; rfl) ?_
        rintro _ rfl
        rw [hop, List.length_take, Nat.min_eq_left hkl]
        have hrl := Nat.le_trans (trimW_le (u.drop k)) hul2
        generalize trimW (u.drop k) = R at hrl ⊢
        generalize u.take k = w
        cases hi : isWord w
        · simp (config := { maxSteps := 1000000 }) only [go_sem,↓reduceIte]
          simp [lineV]
        simp (config := { maxSteps := 1000000 }) only [go_sem,↓reduceIte,q6]
        refine loop_intro (fun n st => ∃ (r : Str) (done : List Str), r.length = n ∧ st.f 6 = sv lab ∧ st.f 9 = sv w ∧ st.f 10 = sv r ∧ AllW 11 [82] done st ∧ r.length ≤ s.length ∧ done.length + r.length ≤ R.length ∧ ((r = [] ∧ argsOf R = some done) ∨ (r ≠ [] ∧ argsOf R = (argsP r).map (done ++ ·)))) R.length ?_ ?_
        · refine ⟨R, [], rfl, ?_⟩
          simp (config := { maxSteps := 1000000 }) only [go_sem,↓reduceIte,q6]
          refine ⟨.inl ⟨by simp [upd], rfl⟩, hrl, Nat.le_of_eq (by simp), ?_⟩
          by_cases hR : R = []
          · exact .inl ⟨hR, by rw [hR]; rfl⟩
          · refine .inr ⟨hR, ?_⟩
            rw [argsOf_P hR]; cases argsP R <;> simp
        clear q0 q6 q8
        rintro n f g ob ⟨r, done, rfl, q6, q9, q10, hW, hrs, hdl, hst⟩
        simp only at q6 q9 q10
        have hur := upto_len 44 r
        have hwr : IntKind.i64.wrap (((upto 44 r).length : Int) + 1) = (((upto 44 r).length + 1 : Nat) : Int) := wrap_succ (by omega)
        rcases hst with ⟨hr0, hst⟩ | ⟨hr0, hst⟩
        · subst hr0
          rw [hst]
          rcases hW with ⟨q11, qL⟩ | ⟨id, hid, q11, qo⟩
          · simp only at q11
            simp (config := { maxSteps := 1000000 }) only [go_sem,↓reduceIte,q6, q9, q10, q11]
            rw [qL]; rfl
          · simp only [List.mem_singleton] at hid
            subst hid
            simp only at q11 qo
            simp (config := { maxSteps := 1000000 }) only [go_sem,↓reduceIte,q6, q9, q10, q11]
            exact ⟨_, ⟨_, frz_strs rfl qo rfl, rfl⟩, rfl⟩
        · simp (config := { maxSteps := 1000000 }) only [go_sem,↓reduceIte,q6, q9, q10, hr0]
          refine hook_call rfl (by simp (config := { maxSteps := 1000000 }) only [go_sem,↓reduceIte]; exact find_A r 44 (by omega)) (by simp (config := { maxSteps := 1000000 }) only [go_sem,↓reduceIte]; rfl) ?_
          rintro _ rfl
          simp (config := { maxSteps := 1000000 }) only [go_sem,↓reduceIte,q10]
          refine ⟨by omega, by omega, ?_⟩
          rw [upto_take]
          refine hook_call rfl (by simp (config := { maxSteps := 1000000 }) only [go_sem,↓reduceIte]; exact trimRef_A (upto 44 r) (by omega)) (by simp (config := { maxSteps := 1000000 }) only [go_sem,↓reduceIte]; rfl) ?_
          rintro _ rfl
          simp (config := { maxSteps := 1000000 }) only [go_sem,↓reduceIte,q10, hwr]
          refine ⟨fun ha => ?_, fun ha => ⟨fun hb2 => ?_, fun hb2 => ?_⟩⟩
          · rw [hst, argsP_bad ha]; rfl
          · have hm2 : 44 ∈ r := (upto_lt 44 r).1 (by omega)
            have hd0 : r.drop ((upto 44 r).length + 1) = [] := List.drop_eq_nil_of_le (by omega)
            rw [hst, argsP_more hm2 ha, hd0]; rfl
          have hlast : 44 ∉ r → argsOf R = some (done ++ [trimW (upto 44 r)]) := fun hm2 => by rw [hst, argsP_last hm2 ha]; rfl
          have hmore : 44 ∈ r → argsOf R = (argsP (trimW (r.drop ((upto 44 r).length + 1)))).map ((done ++ [trimW (upto 44 r)]) ++ ·) := fun hm2 => by
            rw [hst, argsP_more hm2 ha, argsP_trim]
            cases argsP (r.drop ((upto 44 r).length + 1)) <;> simp
          have hdl2 := Nat.le_trans (trimW_le (r.drop ((upto 44 r).length + 1))) (Nat.le_of_eq (List.length_drop ..))
          have hrp : 0 < r.length := List.length_pos_iff.2 hr0
          generalize hr2 : trimW (r.drop ((upto 44 r).length + 1)) = r2 at hmore hdl2
          generalize ha2 : trimW (upto 44 r) = a at hlast hmore ⊢
          rcases hW with ⟨q11, qL⟩ | ⟨id, hid, q11, qo⟩
          case' inl =>
            simp only at q11
            simp (config := { maxSteps := 1000000 }) only [go_sem,↓reduceIte,q11, elemTy, q10, q6, q9]
            refine ⟨⟨by decide, by decide⟩, ?_⟩
          case' inr =>
            simp only [List.mem_singleton] at hid
            subst hid
            simp only at q11 qo
            have qL := True.intro
            simp (config := { maxSteps := 1000000 }) only [go_sem,↓reduceIte,q11, qo, elemTy, q10, q6, q9]
            refine ⟨Nat.le_refl _, ⟨by decide, by omega⟩, ?_⟩
          all_goals
            refine ⟨fun he => ?_, fun he => ?_⟩
            · have hm2 : 44 ∉ r := fun h => by have := (upto_lt 44 r).2 h; omega
              refine ⟨_, ⟨_, frz_strs (L := done ++ [a]) rfl (by simp [upd, List.take_of_length_le, qL]) (by simp [qL]), rfl⟩, ?_⟩
              rw [hlast hm2]; rfl
            · have hm2 : 44 ∈ r := (upto_lt 44 r).1 (by omega)
              simp (config := { maxSteps := 1000000 }) only [go_sem,↓reduceIte,hwr]
              refine ⟨by omega, Nat.le_refl _, ?_⟩
              have hdl3 : (r.drop ((upto 44 r).length + 1)).length ≤ s.length := by rw [List.length_drop]; omega
              refine hook_call rfl (by simp (config := { maxSteps := 1000000 }) only [go_sem,↓reduceIte]; exact trimRef_A (r.drop ((upto 44 r).length + 1)) (by omega)) (by simp (config := { maxSteps := 1000000 }) only [go_sem,↓reduceIte]; rfl) ?_
              rintro _ rfl
              rw [hr2]
              simp (config := { maxSteps := 1000000 }) only [go_sem,↓reduceIte]
              refine ⟨fun hz => ?_, fun hz => ?_⟩
              · rw [hmore hm2, hz]; rfl
              · refine round_end r2.length (by omega) ⟨r2, done ++ [a], rfl, ?_⟩
                simp (config := { maxSteps := 1000000 }) only [go_sem,↓reduceIte,q6, q9]
                refine ⟨.inr ⟨82, by simp, by simp [upd, qL], by simp [upd, List.take_of_length_le, qL]⟩, by omega, by simp only [List.length_append, List.length_cons, List.length_nil]; omega, .inr ⟨hz, ?_⟩⟩
                simpa using hmore hm2

end Go.Proofs.YtifciocionlciaaGreatDoor

namespace Go.Proofs.YtifciocionlciaaGreatDoor
open Go Go.Am Go.Asm

/-- Where the byte stands: -1, where it does not. -/
def idx (s : Str) (c : UInt8) : Int := if c ∈ s then ((upto c s).length : Int) else -1

theorem indexByte_idx (s : Str) (c : UInt8) : Lib.indexByte s c = idx s c := by
  induction s with
  | nil => rfl
  | cons b l ih =>
    unfold Lib.indexByte idx
    by_cases hb : b = c
    · subst hb; simp [upto]
    · have hb' : (b == c) = false := by simpa using hb
      have e : upto c (b :: l) = b :: upto c l := by unfold upto; rw [List.takeWhile_cons, if_pos (by simpa using hb)]
      rw [ih, hb', e]
      unfold idx
      by_cases hm : c ∈ l
      · have : ¬ ((upto c l).length : Int) = -1 := by omega
        simp [hm, this]
      · have : ¬ c = b := fun h => hb h.symm
        simp [hm, this]

theorem IndexByteL_A (s : Str) (c : UInt8) : PureR Tryz.prog 84 [sv s, iv .u8 c.toNat] (· = iv .i64 (idx s c)) := by
  refine pure_of_wp Tt_ok mixed Tryz.func84 rfl (by rfl) [4] rfl (by kernel_rfl) (by simp [Tryz.ntmps84]) fun g => ?_
  simp (config := { maxSteps := 1000000 }) only [go_sem,↓reduceIte]
  refine hook_extern (B := 0) (x := .int .i64 (idx s c)) rfl (by simp (config := { maxSteps := 1000000 }) only [go_sem,↓reduceIte]; rfl) rfl (fun w => ?_) ?_
  · simp (config := { maxSteps := 1000000 }) only [go_sem,↓reduceIte,scVal, scC, scD, dV]
    rw [run_callFunc_extern Tryz.func93 (by kernel_rfl) (by kernel_rfl) (by kernel_rfl) (e := Extern.BytealgIndexByte.indexByte) (by kernel_rfl), Lib.run_indexByteString]
    simp [Result.andThen, indexByte_idx]
  · simp (config := { maxSteps := 1000000 }) only [go_sem,↓reduceIte]

theorem IndexByte_A (s : Str) (c : UInt8) : PureR Tryz.prog 70 [sv s, iv .u8 c.toNat] (· = iv .i64 (idx s c)) := by
  refine pure_of_wp Tt_ok mixed Tryz.func70 rfl (by rfl) [4] rfl (by kernel_rfl) (by simp [Tryz.ntmps70]) fun g => ?_
  simp (config := { maxSteps := 1000000 }) only [go_sem,↓reduceIte]
  refine hook_call rfl (by simp (config := { maxSteps := 1000000 }) only [go_sem,↓reduceIte]; exact IndexByteL_A s c) (by simp (config := { maxSteps := 1000000 }) only [go_sem,↓reduceIte]; rfl) ?_
  rintro _ rfl
  simp (config := { maxSteps := 1000000 }) only [go_sem,↓reduceIte]

theorem IndexL_A (s : Str) (c : UInt8) : PureR Tryz.prog 66 [sv s, sv [c]] (· = iv .i64 (idx s c)) := by
  refine pure_of_wp Tt_ok mixed Tryz.func66 rfl (by rfl) [4] rfl (by kernel_rfl) (by simp [Tryz.ntmps66]) fun g => ?_
  simp (config := { maxSteps := 1000000 }) only [go_sem,↓reduceIte]
  refine ⟨fun h => ?_, fun h => ?_⟩
  · rw [← h]; simp [idx, upto]
  · refine hook_call rfl (by simp (config := { maxSteps := 1000000 }) only [go_sem,↓reduceIte]; exact IndexByteL_A s c) (by simp (config := { maxSteps := 1000000 }) only [go_sem,↓reduceIte]; rfl) ?_
    rintro _ rfl
    simp (config := { maxSteps := 1000000 }) only [go_sem,↓reduceIte]

theorem Index_A (s : Str) (c : UInt8) : PureR Tryz.prog 51 [sv s, sv [c]] (· = iv .i64 (idx s c)) := by
  refine pure_of_wp Tt_ok mixed Tryz.func51 rfl (by rfl) [4] rfl (by kernel_rfl) (by simp [Tryz.ntmps51]) fun g => ?_
  simp (config := { maxSteps := 1000000 }) only [go_sem,↓reduceIte]
  refine hook_call rfl (by simp (config := { maxSteps := 1000000 }) only [go_sem,↓reduceIte]; exact IndexL_A s c) (by simp (config := { maxSteps := 1000000 }) only [go_sem,↓reduceIte]; rfl) ?_
  rintro _ rfl
  simp (config := { maxSteps := 1000000 }) only [go_sem,↓reduceIte]

def cutV (s : Str) (c : UInt8) : AV := if c ∈ s then .tup [sv (upto c s), sv (s.drop ((upto c s).length + 1)), bv true] else .tup [sv s, sv [], bv false]

theorem CutL_A (s : Str) (c : UInt8) (hl : s.length ≤ 4000000000000000000) : PureR Tryz.prog 36 [sv s, sv [c]] (· = cutV s c) := by
  refine pure_of_wp Tt_ok mixed Tryz.func36 rfl (by rfl) [4, 5, 6] rfl (by kernel_rfl) (by simp [Tryz.ntmps36]) fun g => ?_
  have h1 := upto_len c s
  have hw := wrap_succ (k := (upto c s).length) (by omega)
  simp (config := { maxSteps := 1000000 }) only [go_sem,↓reduceIte]
  refine hook_call rfl (by simp (config := { maxSteps := 1000000 }) only [go_sem,↓reduceIte]; exact IndexL_A s c) (by simp (config := { maxSteps := 1000000 }) only [go_sem,↓reduceIte]; rfl) ?_
  rintro _ rfl
  by_cases hm : c ∈ s
  · have hi : idx s c = ((upto c s).length : Int) := if_pos hm
    have hlt := (upto_lt c s).2 hm
    have hcv : cutV s c = .tup [sv (upto c s), sv (s.drop ((upto c s).length + 1)), bv true] := if_pos hm
    rw [hi, hcv]
    simp (config := { maxSteps := 1000000 }) only [go_sem,↓reduceIte]
    refine draw_intro (by decide +kernel) ?_
    simp (config := { maxSteps := 1000000 }) only [go_sem,↓reduceIte,hw]
    refine ⟨by omega, by omega, by omega, Nat.le_refl _, ?_⟩
    rw [upto_take]
  · have hi : idx s c = -1 := if_neg hm
    have hcv : cutV s c = .tup [sv s, sv [], bv false] := if_neg hm
    rw [hi, hcv]
    simp (config := { maxSteps := 1000000 }) only [go_sem,↓reduceIte]

theorem Cut_A (s : Str) (c : UInt8) (hl : s.length ≤ 4000000000000000000) : PureR Tryz.prog 17 [sv s, sv [c]] (· = cutV s c) := by
  refine pure_of_wp Tt_ok mixed Tryz.func17 rfl (by rfl) [4, 5, 6] rfl (by kernel_rfl) (by simp [Tryz.ntmps17]) fun g => ?_
  simp (config := { maxSteps := 1000000 }) only [go_sem,↓reduceIte]
  refine hook_call rfl (by simp (config := { maxSteps := 1000000 }) only [go_sem,↓reduceIte]; exact CutL_A s c hl) (by simp (config := { maxSteps := 1000000 }) only [go_sem,↓reduceIte]; rfl) ?_
  rintro _ rfl
  by_cases hm : c ∈ s
  · have e : cutV s c = .tup [sv (upto c s), sv (s.drop ((upto c s).length + 1)), bv true] := if_pos hm
    rw [e]
    simp (config := { maxSteps := 1000000 }) only [go_sem,↓reduceIte]
  · have e : cutV s c = .tup [sv s, sv [], bv false] := if_neg hm
    rw [e]
    simp (config := { maxSteps := 1000000 }) only [go_sem,↓reduceIte]

theorem Count_A (s : Str) (c : UInt8) : PureR Tryz.prog 50 [sv s, sv [c]] (· = iv .i64 (s.count c)) := by
  refine pure_of_wp Tt_ok mixed Tryz.func50 rfl (by rfl) [4] rfl (by kernel_rfl) (by simp [Tryz.ntmps50]) fun g => ?_
  simp (config := { maxSteps := 1000000 }) only [go_sem,↓reduceIte]
  refine hook_extern (B := 0) (x := .int .i64 (s.count c)) rfl (by simp (config := { maxSteps := 1000000 }) only [go_sem,↓reduceIte]; rfl) rfl (fun w => ?_) ?_
  · simp (config := { maxSteps := 1000000 }) only [go_sem,↓reduceIte,scVal, scC, scD, dV]
    rw [run_callFunc_extern Tryz.func76 (by kernel_rfl) (by kernel_rfl) (by kernel_rfl) (e := Extern.BytealgCount.count) (by kernel_rfl), Lib.run_countString]
    simp [Result.andThen, Lib.countByte]
  · simp (config := { maxSteps := 1000000 }) only [go_sem,↓reduceIte]

theorem splitC_count (c : UInt8) : ∀ s : Str, (splitC c s).length = s.count c + 1
  | [] => rfl
  | b :: l => by
    have ih := splitC_count c l
    rw [splitC_cons]
    by_cases hb : b = c
    · subst hb; simp [ih]
    · have : (b == c) = false := by simpa using hb
      simp only [hb, if_false, List.count_cons, this, Nat.add_zero]
      cases hs : splitC c l with
      | nil => exact absurd hs (splitC_ne c l)
      | cons x xs => rw [hs] at ih; simpa using ih
theorem splitC_upto {c : UInt8} {s : Str} (h : c ∈ s) : splitC c s = upto c s :: splitC c (s.drop ((upto c s).length + 1)) := by
  obtain ⟨t, ht⟩ := upto_split h
  rw [drop_upto ht]
  conv => lhs; rw [ht]
  rw [splitC_join, splitC_none (upto_free c s)]; rfl

theorem count_upto {c : UInt8} {s : Str} (h : c ∈ s) : s.count c = (s.drop ((upto c s).length + 1)).count c + 1 := by
  have h1 := splitC_count c s
  rw [splitC_upto h, List.length_cons, splitC_count] at h1
  omega
def cellsS (done : List Str) (k : Nat) : List C := done.map (fun w => .d (.str w)) ++ List.replicate k (.d (.str []))
theorem cellsS_len (done : List Str) (k : Nat) : (cellsS done k).length = done.length + k := by simp [cellsS]
theorem cellsS_set (done : List Str) (k : Nat) (x : Str) : (cellsS done (k + 1)).set done.length (.d (.str x)) = cellsS (done ++ [x]) k := by
  unfold cellsS
  rw [List.set_append_right _ _ (by simp)]
  simp [List.replicate_succ]
theorem cellsS_zero (done : List Str) : cellsS done 0 = done.map fun w => .d (.str w) := by simp [cellsS]

set_option maxHeartbeats 1000000 in
theorem genSplit_A (s : Str) (c : UInt8) (hl : s.length ≤ 1000000000) : PureR Tryz.prog 22 [sv s, sv [c], iv .i64 0, iv .i64 (-1)] (· = .one (.d (strs (splitC c s)))) := by
  refine pure_of_wp Tt_ok mixed Tryz.func22 rfl (by rfl) [8] rfl (by kernel_rfl) (by simp [Tryz.ntmps22]) fun g => ?_
  have hc : s.count c ≤ s.length := List.count_le_length
  have hw := wrap_succ (k := s.count c) (by omega)
  have hw2 := wrap_succ (k := s.length) (by omega)
  have hw3 : IntKind.i64.wrap (((s.count c + 1 : Nat) : Int) - 1) = ((s.count c : Nat) : Int) := by rw [wrap_i64] <;> omega
  have hmin : min ((s.count c + 1 : Nat) : Int) ((s.length + 1 : Nat) : Int) = ((s.count c + 1 : Nat) : Int) := by omega
  simp (config := { maxSteps := 1000000 }) only [go_sem,↓reduceIte]
  refine hook_call rfl (by simp (config := { maxSteps := 1000000 }) only [go_sem,↓reduceIte]; exact Count_A s c) (by simp (config := { maxSteps := 1000000 }) only [go_sem,↓reduceIte]; rfl) ?_
  rintro _ rfl
  simp (config := { maxSteps := 1000000 }) only [go_sem,↓reduceIte,hw, hw2, hmin, hw3]
  refine ⟨Nat.le_refl _, by omega, by omega, ?_⟩
  refine loop_intro (fun n st => ∃ (t : Str) (done : List Str), n = s.length - done.length ∧ st.f 0 = sv t ∧ st.f 1 = sv [c] ∧ st.f 2 = iv .i64 0 ∧ st.f 3 = iv .i64 (s.count c) ∧ st.f 9 = .one (.osl 31 (st.gen 31) 1 0 (s.count c + 1)) ∧ st.f 10 = iv .i64 done.length ∧ t.length ≤ s.length ∧ done.length + t.count c = s.count c ∧ splitC c s = done ++ splitC c t ∧ st.obj 31 = some (cellsS done (s.count c + 1 - done.length))) s.length ?_ ?_
  · refine ⟨s, [], rfl, ?_⟩
    simp (config := { maxSteps := 1000000 }) only [go_sem,↓reduceIte]
    simp [cellsS]
  rintro n f g ob ⟨t, done, rfl, q0, q1, q2, q3, q9, q10, htl, hct, hsp, ho⟩
  simp only at q0 q1 q2 q3 q9 q10 ho
  obtain ⟨m, hm1⟩ : ∃ m, s.count c + 1 - done.length = m + 1 := ⟨s.count c - done.length, by omega⟩
  rw [hm1] at ho
  have hw5 := wrap_succ (k := done.length) (by omega)
  have hset := cellsS_set done m
  have hcl := cellsS_len done (m + 1)
  by_cases hlt : done.length < s.count c
  · have hm : c ∈ t := List.count_pos_iff.1 (by omega)
    have hi : idx t c = ((upto c t).length : Int) := if_pos hm
    have hul := (upto_lt c t).2 hm
    have hw4 := wrap_succ (k := (upto c t).length) (by omega)
    have hw6 : IntKind.i64.wrap (((upto c t).length : Int) + 0) = ((upto c t).length : Int) := by rw [wrap_i64] <;> omega
    have hn : ¬ ((upto c t).length : Int) < 0 := by omega
    have hd1 : done.length < s.count c + 1 := by omega
    have hd2 : done.length + 1 ≤ done.length + (m + 1) := by omega
    simp (config := { maxSteps := 1000000 }) only [go_sem,↓reduceIte,q0, q1, q2, q3, q9, q10, hlt]
    refine hook_call rfl (by simp (config := { maxSteps := 1000000 }) only [go_sem,↓reduceIte]; exact Index_A t c) (by simp (config := { maxSteps := 1000000 }) only [go_sem,↓reduceIte]; rfl) ?_
    rintro _ rfl
    rw [hi]
    simp (config := { maxSteps := 1000000 }) only [go_sem,↓reduceIte,q0, q1, q2, q3, q9, q10, ho, hw4, hw5, hw6, hn, hset, hcl, hd1, hd2]
    refine ⟨Nat.zero_le _, by omega, by omega, Nat.le_refl _, ?_⟩
    have hcu := count_upto hm
    refine round_end (s.length - (done ++ [upto c t]).length) (by simp only [List.length_append, List.length_cons, List.length_nil]; omega) ⟨t.drop ((upto c t).length + 1), done ++ [upto c t], rfl, ?_⟩
    simp (config := { maxSteps := 1000000 }) only [go_sem,↓reduceIte,q1, q2, q3, q9]
    rw [upto_take]
    refine ⟨by simp, by rw [List.length_drop]; omega, by simp only [List.length_append, List.length_cons, List.length_nil]; omega, ?_, ?_⟩
    · rw [hsp, splitC_upto hm]; simp
    · simp only [upd, if_true, List.length_append, List.length_cons, List.length_nil]
      congr 2; omega
  · have hm : c ∉ t := List.count_eq_zero.1 (by omega)
    have hd1 : done.length < s.count c + 1 := by omega
    have hd2 : done.length + 1 ≤ done.length + (m + 1) := by omega
    simp (config := { maxSteps := 1000000 }) only [go_sem,↓reduceIte,q0, q1, q2, q3, q9, q10, hlt, ho, hset, hcl, hd1, hd2, hw5]
    have hm0 : m = 0 := by omega
    subst hm0
    refine ⟨by omega, _, ⟨_, frz_strs (L := done ++ [t]) rfl ?_ (by simp), rfl⟩, ?_⟩
    · simp [upd, cellsS]
    · rw [hsp, splitC_none hm]

theorem Split_A (s : Str) (c : UInt8) (hl : s.length ≤ 1000000000) : PureR Tryz.prog 11 [sv s, sv [c]] (· = .one (.d (strs (splitC c s)))) := by
  refine pure_of_wp Tt_ok mixed Tryz.func11 rfl (by rfl) [4] rfl (by kernel_rfl) (by simp [Tryz.ntmps11]) fun g => ?_
  simp (config := { maxSteps := 1000000 }) only [go_sem,↓reduceIte]
  refine hook_call rfl (by simp (config := { maxSteps := 1000000 }) only [go_sem,↓reduceIte]; exact genSplit_A s c hl) (by simp (config := { maxSteps := 1000000 }) only [go_sem,↓reduceIte]; rfl) ?_
  rintro _ rfl
  simp (config := { maxSteps := 1000000 }) only [go_sem,↓reduceIte,strs]

end Go.Proofs.YtifciocionlciaaGreatDoor

namespace Go.Proofs
open Go.Shelf Go.RowKit Go.Lib
variable {P : Program} {ρ : Ren}

abbrev blanks2 : ByteArray := ⟨#[32, 9]⟩

set_option maxHeartbeats 8000000 in
set_option maxRecDepth 1000000 in
theorem IndexRune_high (L : Lays.n152 P ρ) (r : Int) (w : World) (h0 : 128 ≤ r) (h1 : Utf8.valid r = true) (h2 : r ≠ 65533) :
    Calls P (ρ.f 152) #[.string blanks2, .int .i32 r] w fun e w' => e = .returned (.int .i64 (-1)) ∧ Below w.heap.size w w' := by
  have mixed := L.mixed
  have t3 := L.t3; have a3 := L.a3; have z3 := L.z3; have v3 := L.v3
  have t4 := L.t4; have a4 := L.a4; have z4 := L.z4; have v4 := L.v4
  have t5 := L.t5; have a5 := L.a5; have z5 := L.z5; have v5 := L.v5
  have t9 := L.t9; have a9 := L.a9; have z9 := L.z9; have v9 := L.v9
  have t21 := L.t21; have a21 := L.a21; have z21 := L.z21; have v21 := L.v21
  have e137 : ∀ args w, (callFunc (ρ.f 137) args).run P w = .ok (.enter (ρ.f 137) args) w := enters_of L.f137 (by kernel_rfl) rfl
  go_enter L.f152, Body.n152_ntmps ρ
  have hlt : ¬ r < 128 := by omega
  have hge : (0 : Int) ≤ r := by omega
  have e119 : ∀ args w, (callFunc (ρ.f 119) args).run P w = .ok (.enter (ρ.f 119) args) w := enters_of L.f119 (by kernel_rfl) rfl
  obtain ⟨f1, f2, f3⟩ := encode_facts r h1 h0
  have hv : Lib.validRune r = true := by simp only [Utf8.valid] at h1; simp only [Lib.validRune]; simp at h1 ⊢; omega
  generalize hE : Utf8.encode r = E at f1 f2 f3
  go_wp2_with (first
    | (go_at_fn (ρ.f 119); refine (Any.utf8_ValidRune { L with } _ _).mono ?_; rintro e w' ⟨rfl, hw⟩; rw [hw, hv]))
  have hcv := fun w => run_convert_int_string (P := P) w (ρ.t 21) (ρ.t 9) .i32 r (by rw [t21]; rfl) t9
  rw [hE] at hcv
  go_step3
  go_wp2
  have hsz : blanks2.size = 2 := rfl
  go_loopg [9] 0 (fun gk s9 wx => gk = 0 ∧ s9 = .int .i64 ((E.size : Int) - 1) ∧ wx = w)
  case atStart => exact ⟨rfl, rfl, rfl⟩
  case round =>
    obtain ⟨rfl, rfl, rfl⟩ := hrel
    by_cases h22 : E.size = 2
    · have e1 : (E.size : Int) - 1 = 1 := by omega
      simp only [e1]
      have f4 : 1 < E.size := by omega
      have f5 : 128 ≤ (E[1]'f4).toNat := by have := f3 (by omega); simpa [h22] using this
      have f6 : ((blanks2)[1]'(by decide)).toNat = 9 := rfl
      go_wp2
      go_step3
      go_wp2
      go_quiet_o (fail)
      have hw2 : IntKind.i64.wrap 2 = 2 := by decide
      have f7 : ¬ ((9 : Int) = ((E[1]'f4).toNat : Int)) := by omega
      go_wp2
      have hb : Below wr.heap.size wr (wr.drewN nq) := ⟨rfl, rfl, rfl, Nat.le_refl _, fun _ _ => rfl⟩
      generalize wr.drewN nq = w2 at hb ⊢
      go_quiet_o (first | (go_at_fn (ρ.f 137); refine Calls.quiet_of_same (Any.strings_IndexByte { L with } _ _ _)))
      simp only [Lib.indexByte]
      go_wp2
      simp only [Exit.noGoto_ret, Exit.inBlock, Exit.then]
      go_ret
      exact ⟨rfl, hb.os, hb.tape, hb.output, hb.size, hb.block⟩
    · have e1 : ¬ (E.size : Int) - 1 < 2 := by omega
      go_wp2
      go_ret
      exact ⟨rfl, Below.refl _ _⟩

set_option maxHeartbeats 8000000 in
set_option maxRecDepth 1000000 in
theorem IndexRune_error (L : Lays.n152 P ρ) (w : World) :
    Calls P (ρ.f 152) #[.string blanks2, .int .i32 65533] w fun e w' => e = .returned (.int .i64 (-1)) ∧ Below w.heap.size w w' := by
  have mixed := L.mixed
  have t3 := L.t3; have a3 := L.a3; have z3 := L.z3; have v3 := L.v3
  have t4 := L.t4; have a4 := L.a4; have z4 := L.z4; have v4 := L.v4
  have t5 := L.t5; have a5 := L.a5; have z5 := L.z5; have v5 := L.v5
  have t9 := L.t9; have a9 := L.a9; have z9 := L.z9; have v9 := L.v9
  have t21 := L.t21; have a21 := L.a21; have z21 := L.z21; have v21 := L.v21
  go_enter L.f152, Body.n152_ntmps ρ
  go_wp2
  go_loopg [5, 6] 2 (fun gk _ _ wx => ∃ i : Nat, i + gk = 2 ∧ wx = w.iter blanks2 i)
  case atStart => exact ⟨0, rfl, rfl⟩
  case round =>
    obtain ⟨i, hig, rfl⟩ := hrel
    match i, hig with
    | 0, hig =>
      obtain rfl : gk = 2 := by omega
      have hnx := fun ty => run_next_ascii (P := P) w blanks2 0 ty (by decide) (by decide)
      go_wp2
      go_roundg 1
      case measure => omega
      case rel => exact ⟨1, rfl, rfl⟩
    | 1, hig =>
      obtain rfl : gk = 1 := by omega
      have hnx := fun ty => run_next_ascii (P := P) w blanks2 1 ty (by decide) (by decide)
      go_wp2
      go_roundg 0
      case measure => omega
      case rel => exact ⟨2, rfl, rfl⟩
    | 2, hig =>
      obtain rfl : gk = 0 := by omega
      have hnx := run_next_end (P := P) w blanks2 2
      go_wp2
      go_ret
      exact ⟨rfl, (Below.refl _ _).alloc (Nat.le_refl _) _⟩
    | k + 3, hig => omega

end Go.Proofs

namespace Go.Proofs
open Go.Shelf Go.RowKit Go.Lib
variable {P : Program} {ρ : Ren}

theorem decodeN_parts (n b0 b1 b2 b3 : Nat) (hn : 1 ≤ n) : (decodeN n b0 b1 b2 b3).2 = 1 ∨ ((decodeN n b0 b1 b2 b3).2 = 2 ∧ 1 < n ∧ 128 ≤ b1) ∨ ((decodeN n b0 b1 b2 b3).2 = 3 ∧ 2 < n ∧ 128 ≤ b1 ∧ 128 ≤ b2) ∨ ((decodeN n b0 b1 b2 b3).2 = 4 ∧ 3 < n ∧ 128 ≤ b1 ∧ 128 ≤ b2 ∧ 128 ≤ b3) := by
  unfold decodeN
  repeat' split
  all_goals first
    | exact .inl rfl
    | exact .inr (.inl ⟨rfl, by omega, by omega⟩)
    | exact .inr (.inr (.inl ⟨rfl, by omega, by omega, by omega⟩))
    | exact .inr (.inr (.inr ⟨rfl, by omega, by omega, by omega, by omega⟩))

theorem get_list (s : ByteArray) (j : Nat) (b : UInt8) (h : s.data.toList[j]? = some b) : s.get! j = b := by
  have hj : j < s.data.toList.length := (List.getElem?_eq_some_iff.1 h).1
  have hsz : j < s.size := by rw [← Lib.size_eq] at hj; exact hj
  have h1 := get_at s j hsz
  rw [Nat.add_zero] at h1
  rw [h1]
  have h2 := Lib.data_getElem? s j hsz
  rw [h] at h2
  exact (Option.some.inj h2).symm

theorem decode_step (s : ByteArray) (pos : Nat) (h : pos < s.size) (hb : 128 ≤ (s.get! pos).toNat) :
    128 ≤ (Utf8.decode s pos).1 ∧ Utf8.valid ((Utf8.decode s pos).1 : Int) = true ∧ 1 ≤ (Utf8.decode s pos).2 ∧ pos + (Utf8.decode s pos).2 ≤ s.size ∧ ∀ j, pos ≤ j → j < pos + (Utf8.decode s pos).2 → 128 ≤ (s.get! j).toNat := by
  have hs : s[pos]'h = s.get! pos := by
    have := Lib.data_getElem? s pos h
    rw [get_list s pos _ this]
  have h1 := decode_high s pos h (by rw [hs]; exact hb)
  have h2 := decodeN_valid (s.size - pos) (s.get! pos).toNat (s.get! (pos + 1)).toNat (s.get! (pos + 2)).toNat (s.get! (pos + 3)).toNat (UInt8.toNat_lt _)
  have h3 := decodeN_parts (s.size - pos) (s.get! pos).toNat (s.get! (pos + 1)).toNat (s.get! (pos + 2)).toNat (s.get! (pos + 3)).toNat (by omega)
  rw [← decode_at] at h2 h3
  refine ⟨h1.1, ?_, h1.2, by omega, fun j hj1 hj2 => ?_⟩
  · simp only [Utf8.valid]; simp; omega
  · obtain ⟨d, rfl⟩ : ∃ d, j = pos + d := ⟨j - pos, by omega⟩
    match d, hj2 with
    | 0, _ => exact hb
    | 1, hj2 => omega
    | 2, hj2 => omega
    | 3, hj2 => omega
    | d + 4, hj2 => omega

theorem noAny_jump {s : ByteArray} {i k : Nat} (h : NoAny s.data.toList blanks2.data.toList i) (hk : ∀ j, i ≤ j → j < i + k → 128 ≤ (s.get! j).toNat) : NoAny s.data.toList blanks2.data.toList (i + k) := by
  intro j b hj hb
  by_cases hji : j < i
  · exact h j b hji hb
  · have := hk j (by omega) hj
    rw [get_list s j b hb] at this
    have n1 : ¬ b = 32 := fun e => by rw [e] at this; exact absurd this (by decide)
    have n2 : ¬ b = 9 := fun e => by rw [e] at this; exact absurd this (by decide)
    show [(32 : UInt8), 9].contains b = false
    simp [n1, n2]

theorem IndexRune_any (L : Lays.n152 P ρ) (r : Nat) (w : World) (h0 : 128 ≤ r) (h1 : Utf8.valid (r : Int) = true) :
    Calls P (ρ.f 152) #[.string blanks2, .int .i32 r] w fun e w' => e = .returned (.int .i64 (-1)) ∧ Below w.heap.size w w' := by
  by_cases he : r = 65533
  · subst he; exact IndexRune_error L w
  · exact IndexRune_high L r w (by omega) h1 (by omega)

set_option maxHeartbeats 8000000 in
set_option maxRecDepth 1000000 in
theorem IndexAny_blank_short (L : Lays.n153 P ρ) (s : ByteArray) (w : World) (h8 : s.size ≤ 8) :
    Calls P (ρ.f 153) #[.string s, .string blanks2] w fun e w' => e = .returned (.int .i64 (Lib.indexAny s.data.toList blanks2.data.toList)) ∧ Below w.heap.size w w' := by
  have hemp : blanks2.toList.isEmpty = false := by rw [Lib.toList_data]; rfl
  have hn1 : ((blanks2.size : Int) == 1) = false := by decide
  have h8z : decide ((8 : Int) < (s.size : Int)) = false := decide_eq_false (by omega)
  have t3 := L.t3; have a3 := L.a3; have z3 := L.z3; have v3 := L.v3
  have t4 := L.t4; have a4 := L.a4; have z4 := L.z4; have v4 := L.v4
  have t5 := L.t5; have a5 := L.a5; have z5 := L.z5; have v5 := L.v5
  have t9 := L.t9; have a9 := L.a9; have z9 := L.z9; have v9 := L.v9
  have t21 := L.t21; have a21 := L.a21; have z21 := L.z21; have v21 := L.v21
  have e152 : ∀ args w, (callFunc (ρ.f 152) args).run P w = .ok (.enter (ρ.f 152) args) w := enters_of L.f152 (by kernel_rfl) rfl
  have e226 : ∀ args w, (callFunc (ρ.f 226) args).run P w = .ok (.enter (ρ.f 226) args) w := enters_of L.f226 (by kernel_rfl) rfl
  go_enter L.f153, Body.n153_ntmps ρ
  go_wp2_with (go_at_fn (ρ.f 226); refine (Any.strings_shouldUseASCIISet { L with } _ _).mono ?_; rintro e w' ⟨rfl, hw⟩; rw [hw, h8z])
  go_loopg [9, 10] s.size (fun gk _ _ wx => ∃ i : Nat, i + gk ≤ s.size ∧ s.size ≤ i + gk ∧ wx.heap[w.heap.size]? = some (.stringIter s i) ∧ Below w.heap.size w wx ∧ Lib.NoAny s.data.toList blanks2.data.toList i)
  case atStart =>
    refine ⟨0, by omega, by omega, ?_, (Below.refl _ _).alloc (Nat.le_refl _) _, Lib.NoAny.zero _ _⟩
    have := World.iter_heap w s 0
    simpa using this
  case round =>
    obtain ⟨i, hig, hig2, hit, hbw, hno⟩ := hrel
    have HN : Aside (Lib.NoAny s.data.toList blanks2.data.toList i) := hno
    clear hno
    by_cases hi : i < s.size
    · obtain ⟨g, rfl⟩ : ∃ g, gk = g + 1 := ⟨gk - 1, by omega⟩
      obtain ⟨x, hx⟩ : ∃ x : UInt8, s[i]'hi = x := ⟨_, rfl⟩
      have hxl : s.data.toList[i]? = some x := by rw [← hx]; exact Lib.data_getElem? s i hi
      have hxg := get_list s i x hxl
      have Hx : Aside (s.data.toList[i]? = some x) := hxl
      clear hxl
      have hsz : w.heap.size < wr.heap.size := (Array.getElem?_eq_some_iff.1 hit).1
      by_cases hx128 : x.toNat < 128
      · have hnx : ∀ ty, (Instr.next (.pointer (some ⟨w.heap.size, 0, none⟩)) true ty).run P wr = _ := fun ty => Lib.run_next_ascii_at wr w.heap.size s i ty hit hi (by rw [hx]; exact hx128)
        rw [hx] at hnx
        have hit2 := Lib.iterAt_heap wr w.heap.size s i (i + 1) hit
        have hbw2 := Lib.below_iterAt hbw (Nat.le_refl _) s (i + 1)
        have hcon := Lib.contains_iff_indexByte blanks2.data.toList x
        have hback : ((x.toNat : Int)).toNat.toUInt8 = x := by simp
        cases hin : blanks2.data.toList.contains x
        · rw [hin] at hcon
          have hlt : ¬ ((0 : Int) ≤ Lib.indexByte blanks2.data.toList x) := of_decide_eq_false hcon.symm
          clear hcon
          go_wp2_with (go_at_fn (ρ.f 152); refine (Any.strings_IndexRune_ascii { L with } _ _ _ (by omega) (by omega)).mono ?_; rintro e w' ⟨rfl, hw⟩; rw [hw, hback])
          go_roundg g
          case measure => omega
          case rel => exact ⟨i + 1, by omega, by omega, hit2, hbw2, HN.out.succ Hx.out hin⟩
        · rw [hin] at hcon
          have hge : (0 : Int) ≤ Lib.indexByte blanks2.data.toList x := of_decide_eq_true hcon.symm
          clear hcon
          go_wp2_with (go_at_fn (ρ.f 152); refine (Any.strings_IndexRune_ascii { L with } _ _ _ (by omega) (by omega)).mono ?_; rintro e w' ⟨rfl, hw⟩; rw [hw, hback])
          go_ret
          exact ⟨by rw [Lib.indexAny_hit HN.out Hx.out hin]; rfl, hbw2⟩
      · have hnx : ∀ ty, (Instr.next (.pointer (some ⟨w.heap.size, 0, none⟩)) true ty).run P wr = _ := fun ty => Lib.run_next_any_at wr w.heap.size s i ty hit hi
        obtain ⟨d1, d2, d3, d4, d5⟩ := decode_step s i hi (by rw [hxg]; omega)
        have hit2 := Lib.iterAt_heap wr w.heap.size s i (i + (Utf8.decode s i).2) hit
        have hbw2 := Lib.below_iterAt hbw (Nat.le_refl _) s (i + (Utf8.decode s i).2)
        have hsz2 : w.heap.size < (wr.iterAt w.heap.size s (i + (Utf8.decode s i).2)).heap.size := by rw [Lib.iterAt_size]; exact hsz
        have HJ : Aside (Lib.NoAny s.data.toList blanks2.data.toList (i + (Utf8.decode s i).2)) := noAny_jump HN.out d5
        clear d5
        generalize (Utf8.decode s i).1 = rr at d1 d2 hnx
        generalize (Utf8.decode s i).2 = kk at d3 d4 hnx hit2 hbw2 hsz2 HJ
        go_wp2_with (go_at_fn (ρ.f 152); refine (IndexRune_any { L with } rr _ d1 d2).mono ?_; rintro e w' ⟨rfl, hw⟩)
        go_roundg (g + 1 - kk)
        case measure => omega
        case rel =>
          refine ⟨i + kk, by omega, by omega, ?_, hbw2.trans ⟨hw.os, hw.tape, hw.output, hw.size, fun b hb => hw.block b (by omega)⟩, HJ.out⟩
          rw [hw.block _ hsz2]; exact hit2
    · obtain rfl : gk = 0 := by omega
      have hnx : ∀ ty, (Instr.next (.pointer (some ⟨w.heap.size, 0, none⟩)) true ty).run P wr = _ := fun ty => Lib.run_next_end_at wr w.heap.size s i ty hit hi
      go_wp2
      go_ret
      have e : i = s.data.toList.length := by rw [← Lib.size_eq]; omega
      exact ⟨by rw [Lib.indexAny_none (by rw [← e]; exact HN.out)]; rfl, hbw⟩

theorem IndexAny_blank (L : Lays.n153 P ρ) (h116 : (P.info? (ρ.t 116)).map (fun i => (i.zero, i.size)) = some (some (.agg (Array.replicate 256 (.bool false))), 256)) (s : ByteArray) (w : World) (hs : s.size < 4294967281) :
    Calls P (ρ.f 153) #[.string s, .string blanks2] w fun e w' => e = .returned (.int .i64 (Lib.indexAny s.data.toList blanks2.data.toList)) ∧ Below w.heap.size w w' := by
  by_cases h8 : s.size ≤ 8
  · exact IndexAny_blank_short L s w h8
  · refine (Any.strings_IndexAny_long L (zero_of_info h116).1 (zero_of_info h116).2 s blanks2 w (by decide) (by omega) hs (by decide) ?_).mono fun e w' ⟨h1, h2⟩ => ⟨h1, ?_⟩
    · intro j b hb
      have hm := List.mem_of_getElem? hb
      have : b = 32 ∨ b = 9 := by simpa using hm
      rcases this with rfl | rfl <;> decide
    · rw [h2]
      exact ((Below.refl _ _).alloc (Nat.le_refl _) _).alloc (by simp) _

end Go.Proofs

namespace Go.Proofs
open Go.Shelf
def Tryz.lays153_ren : Go.Shelf.Ren := ⟨fun | 153 => 20 | 152 => 45 | 226 => 46 | 227 => 39 | 228 => 47 | 137 => 70 | 119 => 71 | 224 => 72 | 225 => 73 | 217 => 84 | 266 => 93 | n => n, fun | 9 => 9 | 3 => 3 | 4 => 4 | 5 => 5 | 21 => 21 | 117 => 77 | 116 => 76 | 0 => 0 | 46 => 106 | 124 => 80 | n => n, fun | n => n⟩
theorem Tryz.lays153 : Go.Proofs.Lays.n153 Tryz.prog Tryz.lays153_ren := {
  mixed := by kernel_rfl
  f119 := Tryz.func71.trans (congrArg some (by kernel_rfl))
  f137 := Tryz.func70.trans (congrArg some (by kernel_rfl))
  f152 := Tryz.func45.trans (congrArg some (by kernel_rfl))
  f153 := Tryz.func20.trans (congrArg some (by kernel_rfl))
  f217 := Tryz.func84.trans (congrArg some (by kernel_rfl))
  f224 := Tryz.func72.trans (congrArg some (by kernel_rfl))
  f225 := Tryz.func73.trans (congrArg some (by kernel_rfl))
  f226 := Tryz.func46.trans (congrArg some (by kernel_rfl))
  f227 := Tryz.func39.trans (congrArg some (by kernel_rfl))
  f228 := Tryz.func47.trans (congrArg some (by kernel_rfl))
  f266 := Tryz.func93.trans (congrArg some (by kernel_rfl))
  t0 := Tryz.underlying0
  a0 := Tryz.isAgg0
  z0 := Tryz.sizeOf0
  v0 := Tryz.zeroValue0
  t3 := Tryz.underlying3
  a3 := Tryz.isAgg3
  z3 := Tryz.sizeOf3
  v3 := Tryz.zeroValue3
  t4 := Tryz.underlying4
  a4 := Tryz.isAgg4
  z4 := Tryz.sizeOf4
  v4 := Tryz.zeroValue4
  t5 := Tryz.underlying5
  a5 := Tryz.isAgg5
  z5 := Tryz.sizeOf5
  v5 := Tryz.zeroValue5
  t9 := Tryz.underlying9
  a9 := Tryz.isAgg9
  z9 := Tryz.sizeOf9
  v9 := Tryz.zeroValue9
  t21 := Tryz.underlying21
  a21 := Tryz.isAgg21
  z21 := Tryz.sizeOf21
  v21 := Tryz.zeroValue21
  t46 := Tryz.underlying106
  a46 := Tryz.isAgg106
  z46 := Tryz.sizeOf106
  v46 := Tryz.zeroValue106
  t116 := Tryz.underlying76
  a116 := Tryz.isAgg76
  z116 := Tryz.sizeOf76
  t117 := Tryz.underlying77
  a117 := Tryz.isAgg77
  z117 := Tryz.sizeOf77
  v117 := Tryz.zeroValue77
  t124 := Tryz.underlying80
  a124 := Tryz.isAgg80
  z124 := Tryz.sizeOf80
  v124 := Tryz.zeroValue80 }
def Tryz.lays160_ren : Go.Shelf.Ren := ⟨fun | 160 => 18 | 232 => 38 | 231 => 37 | 227 => 39 | 234 => 41 | 233 => 40 | 236 => 43 | 235 => 42 | 228 => 47 | 271 => 69 | 151 => 68 | 197 => 67 | 120 => 87 | 152 => 45 | 260 => 86 | 137 => 70 | 119 => 71 | 224 => 72 | 225 => 73 | 217 => 84 | 266 => 93 | n => n, fun | 9 => 9 | 4 => 4 | 3 => 3 | 5 => 5 | 117 => 77 | 116 => 76 | 0 => 0 | 124 => 80 | 21 => 21 | 105 => 101 | 46 => 106 | 119 => 118 | 139 => 121 | 138 => 120 | n => n, fun | 3 => 1 | 4 => 2 | n => n⟩
theorem Tryz.lays160 : Go.Proofs.Lays.n160 Tryz.prog Tryz.lays160_ren := {
  mixed := by kernel_rfl
  f119 := Tryz.func71.trans (congrArg some (by kernel_rfl))
  f120 := Tryz.func87.trans (congrArg some (by kernel_rfl))
  f137 := Tryz.func70.trans (congrArg some (by kernel_rfl))
  f151 := Tryz.func68.trans (congrArg some (by kernel_rfl))
  f152 := Tryz.func45.trans (congrArg some (by kernel_rfl))
  f160 := Tryz.func18.trans (congrArg some (by kernel_rfl))
  f197 := Tryz.func67.trans (congrArg some (by kernel_rfl))
  f217 := Tryz.func84.trans (congrArg some (by kernel_rfl))
  f224 := Tryz.func72.trans (congrArg some (by kernel_rfl))
  f225 := Tryz.func73.trans (congrArg some (by kernel_rfl))
  f227 := Tryz.func39.trans (congrArg some (by kernel_rfl))
  f228 := Tryz.func47.trans (congrArg some (by kernel_rfl))
  f231 := Tryz.func37.trans (congrArg some (by kernel_rfl))
  f232 := Tryz.func38.trans (congrArg some (by kernel_rfl))
  f233 := Tryz.func40.trans (congrArg some (by kernel_rfl))
  f234 := Tryz.func41.trans (congrArg some (by kernel_rfl))
  f235 := Tryz.func42.trans (congrArg some (by kernel_rfl))
  f236 := Tryz.func43.trans (congrArg some (by kernel_rfl))
  f260 := Tryz.func86.trans (congrArg some (by kernel_rfl))
  f266 := Tryz.func93.trans (congrArg some (by kernel_rfl))
  f271 := Tryz.func69.trans (congrArg some (by kernel_rfl))
  t0 := Tryz.underlying0
  a0 := Tryz.isAgg0
  z0 := Tryz.sizeOf0
  v0 := Tryz.zeroValue0
  t3 := Tryz.underlying3
  a3 := Tryz.isAgg3
  z3 := Tryz.sizeOf3
  v3 := Tryz.zeroValue3
  t4 := Tryz.underlying4
  a4 := Tryz.isAgg4
  z4 := Tryz.sizeOf4
  v4 := Tryz.zeroValue4
  t5 := Tryz.underlying5
  a5 := Tryz.isAgg5
  z5 := Tryz.sizeOf5
  v5 := Tryz.zeroValue5
  t9 := Tryz.underlying9
  a9 := Tryz.isAgg9
  z9 := Tryz.sizeOf9
  v9 := Tryz.zeroValue9
  t21 := Tryz.underlying21
  a21 := Tryz.isAgg21
  z21 := Tryz.sizeOf21
  v21 := Tryz.zeroValue21
  t46 := Tryz.underlying106
  a46 := Tryz.isAgg106
  z46 := Tryz.sizeOf106
  v46 := Tryz.zeroValue106
  t105 := Tryz.underlying101
  a105 := Tryz.isAgg101
  z105 := Tryz.sizeOf101
  v105 := Tryz.zeroValue101
  t116 := Tryz.underlying76
  a116 := Tryz.isAgg76
  z116 := Tryz.sizeOf76
  t117 := Tryz.underlying77
  a117 := Tryz.isAgg77
  z117 := Tryz.sizeOf77
  v117 := Tryz.zeroValue77
  t119 := Tryz.underlying118
  a119 := Tryz.isAgg118
  z119 := Tryz.sizeOf118
  t124 := Tryz.underlying80
  a124 := Tryz.isAgg80
  z124 := Tryz.sizeOf80
  v124 := Tryz.zeroValue80
  t138 := Tryz.underlying120
  a138 := Tryz.isAgg120
  z138 := Tryz.sizeOf120
  v138 := Tryz.zeroValue120
  t139 := Tryz.underlying121
  a139 := Tryz.isAgg121
  z139 := Tryz.sizeOf121
  v139 := Tryz.zeroValue121
  g3 := by kernel_rfl
  g4 := by kernel_rfl }
def Tryz.lays151_ren : Go.Shelf.Ren := ⟨fun | 151 => 68 | 152 => 45 | 137 => 70 | 119 => 71 | 224 => 72 | 225 => 73 | 217 => 84 | 266 => 93 | n => n, fun | 9 => 9 | 21 => 21 | 4 => 4 | 3 => 3 | 5 => 5 | 0 => 0 | 46 => 106 | n => n, fun | n => n⟩
theorem Tryz.lays151 : Go.Proofs.Lays.n151 Tryz.prog Tryz.lays151_ren := {
  mixed := by kernel_rfl
  f119 := Tryz.func71.trans (congrArg some (by kernel_rfl))
  f137 := Tryz.func70.trans (congrArg some (by kernel_rfl))
  f151 := Tryz.func68.trans (congrArg some (by kernel_rfl))
  f152 := Tryz.func45.trans (congrArg some (by kernel_rfl))
  f217 := Tryz.func84.trans (congrArg some (by kernel_rfl))
  f224 := Tryz.func72.trans (congrArg some (by kernel_rfl))
  f225 := Tryz.func73.trans (congrArg some (by kernel_rfl))
  f266 := Tryz.func93.trans (congrArg some (by kernel_rfl))
  t0 := Tryz.underlying0
  a0 := Tryz.isAgg0
  z0 := Tryz.sizeOf0
  v0 := Tryz.zeroValue0
  t3 := Tryz.underlying3
  a3 := Tryz.isAgg3
  z3 := Tryz.sizeOf3
  v3 := Tryz.zeroValue3
  t4 := Tryz.underlying4
  a4 := Tryz.isAgg4
  z4 := Tryz.sizeOf4
  v4 := Tryz.zeroValue4
  t5 := Tryz.underlying5
  a5 := Tryz.isAgg5
  z5 := Tryz.sizeOf5
  v5 := Tryz.zeroValue5
  t9 := Tryz.underlying9
  a9 := Tryz.isAgg9
  z9 := Tryz.sizeOf9
  v9 := Tryz.zeroValue9
  t21 := Tryz.underlying21
  a21 := Tryz.isAgg21
  z21 := Tryz.sizeOf21
  v21 := Tryz.zeroValue21
  t46 := Tryz.underlying106
  a46 := Tryz.isAgg106
  z46 := Tryz.sizeOf106
  v46 := Tryz.zeroValue106 }
end Go.Proofs
