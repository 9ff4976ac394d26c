/- A part of the proof; no conditions. -/
import Derived.Test.YtiaalcpkhlnpcabGreatDoorPart3
set_option linter.unusedSimpArgs false
set_option linter.unusedVariables false
namespace Go.Am

def normD : D → D
  | .nsl => .sl []
  | x => x

/-- What a state's cell is as data, when it is written no more. -/
inductive Frz (s : St) : C → D → Prop where
  | d (x : D) : Frz s (.d x) (normD x)
  | osl {id g sz off len : Nat} {cells : List C} {es : List (List D)} (hg : s.gen id = g) (ho : s.obj id = some cells) (hfit : off + len * sz ≤ cells.length) (hlen : es.length = len) (hsz : ∀ e ∈ es, e.length = sz)
      (cf : Nat → C) (hc : ∀ (j : Nat) (x : D), es.flatten[j]? = some x → cells[off + j]? = some (cf j)) (hf : ∀ (j : Nat) (x : D), es.flatten[j]? = some x → Frz s (cf j) x) : Frz s (.osl id g sz off len) (.sl es)

/-- Data and its values, of the blocks J. -/
def RVc (J : Nat → Prop) (w : World) (c : C) (v : Value) : Prop := ∃ x, c = .d x ∧ RepD J w x v

mutual
def RV (J : Nat → Prop) (w : World) : AV → Value → Prop
  | .one c, v => RVc J w c v
  | .agg cs, v => ∃ vs : Array Value, v = .agg vs ∧ vs.size = cs.length ∧ ∀ (i : Nat) (c : C), cs[i]? = some c → ∃ u, vs[i]? = some u ∧ RVc J w c u
  | .tup ts, v => ∃ vs : List Value, v = .tuple vs.toArray ∧ RVs J w ts vs
  | .junk, _ => False
  | .exact _, _ => False
def RVs (J : Nat → Prop) (w : World) : List AV → List Value → Prop
  | [], vs => vs = []
  | t :: ts, vs => ∃ u us, vs = u :: us ∧ RV J w t u ∧ RVs J w ts us
end

/-- A function that can be called. -/
def Fine (P : Program) (f : FuncId) : Prop := ∃ fn, P.funcs[f]? = some fn ∧ fn.body.isNone = false ∧ (fn.name == "runtime.NumGoroutine") = false

/-- Called with this data, in whatever memory, the function returns data of which R holds, made of what it was given and of new memory; nothing that was there changes. -/
def PureR (P : Program) (f : FuncId) (args : List AV) (R : AV → Prop) : Prop :=
  Fine P f ∧ ∀ (J : Nat → Prop) (w : World) (vs : List Value), (∀ b, J b → b < w.heap.size) → RVs J w args vs →
    Calls P f vs.toArray w fun e w' => ∃ v r, e = .returned v ∧ R r ∧ w.heap.size ≤ w'.heap.size ∧ (∀ b, b < w.heap.size → w'.heap[b]? = w.heap[b]?) ∧ (w'.os = w.os ∧ w'.output = w.output) ∧ RV (fun b => b < w'.heap.size ∧ (b < w.heap.size → J b)) w' r v

theorem PureR.mono {P : Program} {f : FuncId} {args : List AV} {R R' : AV → Prop} (h : PureR P f args R) (hr : ∀ r, R r → R' r) : PureR P f args R' :=
  ⟨h.1, fun J w vs hJ hv => (h.2 J w vs hJ hv).mono fun _ _ ⟨v, r, h1, h2, h3⟩ => ⟨v, r, h1, hr r h2, h3⟩⟩

section
variable {P : Program} {T : Nat → TI} {b₀ : Bs} {β : Loc} {w : World}

theorem RVc.mono {J J' : Nat → Prop} {w w' : World} {c : C} {v : Value} (h : RVc J w c v) (hJ : ∀ b, J b → J' b ∧ w'.heap[b]? = w.heap[b]?) : RVc J' w' c v :=
  let ⟨x, h1, h2⟩ := h
  ⟨x, h1, h2.mono hJ⟩

mutual
theorem RV.mono {J J' : Nat → Prop} {w w' : World} (hJ : ∀ b, J b → J' b ∧ w'.heap[b]? = w.heap[b]?) : (x : AV) → {v : Value} → RV J w x v → RV J' w' x v
  | .one _, _, h => by simp only [RV] at h ⊢; exact RVc.mono h hJ
  | .agg _, _, h => by
    simp only [RV] at h ⊢
    obtain ⟨vs, h1, h2, h3⟩ := h
    exact ⟨vs, h1, h2, fun i c hc => let ⟨u, hu, hr⟩ := h3 i c hc; ⟨u, hu, hr.mono hJ⟩⟩
  | .tup ts, _, h => by simp only [RV] at h ⊢; obtain ⟨vs, h1, h2⟩ := h; exact ⟨vs, h1, RVs.mono hJ ts h2⟩
  | .junk, _, h => by simp only [RV] at h
  | .exact _, _, h => by simp only [RV] at h
theorem RVs.mono {J J' : Nat → Prop} {w w' : World} (hJ : ∀ b, J b → J' b ∧ w'.heap[b]? = w.heap[b]?) : (x : List AV) → {v : List Value} → RVs J w x v → RVs J' w' x v
  | [], _, h => by simp only [RVs] at h ⊢; exact h
  | t :: ts, _, h => by simp only [RVs] at h ⊢; obtain ⟨u, us, h1, h2, h3⟩ := h; exact ⟨u, us, h1, RV.mono hJ t h2, RVs.mono hJ ts h3⟩
end

theorem RVc.rep {g : Nat → Nat} {ob : Obs} {c : C} {v : Value} (h : RVc (Imm b₀ β ob w) w c v) : RepC b₀ β g ob w c v := by
  obtain ⟨x, rfl, hx⟩ := h; exact hx

mutual
theorem RV.rep {g : Nat → Nat} {ob : Obs} : (x : AV) → {v : Value} → RV (Imm b₀ β ob w) w x v → RepV b₀ β g ob w x v
  | .one _, _, h => by simp only [RV] at h; simp only [RepV]; exact RVc.rep h
  | .agg _, _, h => by
    simp only [RV] at h; simp only [RepV]
    obtain ⟨vs, h1, h2, h3⟩ := h
    exact ⟨vs, h1, h2, fun i c hc => let ⟨u, hu, hr⟩ := h3 i c hc; ⟨u, hu, hr.rep⟩⟩
  | .tup ts, _, h => by simp only [RV] at h; simp only [RepV]; obtain ⟨vs, h1, h2⟩ := h; exact ⟨vs, h1, RVs.rep ts h2⟩
  | .junk, _, h => by simp only [RV] at h
  | .exact _, _, h => by simp only [RV] at h
theorem RVs.rep {g : Nat → Nat} {ob : Obs} : (x : List AV) → {v : List Value} → RVs (Imm b₀ β ob w) w x v → RepVs b₀ β g ob w x v
  | [], _, h => by simp only [RVs] at h; simp only [RepVs]; exact h
  | t :: ts, _, h => by simp only [RVs] at h; simp only [RepVs]; obtain ⟨u, us, h1, h2, h3⟩ := h; exact ⟨u, us, h1, RV.rep t h2, RVs.rep ts h3⟩
end

/-- Memory that has only grown. -/
theorem Rel.grow {N : Nat} {s : St} {a : Act} (hr : Rel b₀ N s β a w) {w' : World} (hs : w.heap.size ≤ w'.heap.size) (hh : ∀ b, b < w.heap.size → w'.heap[b]? = w.heap[b]?) (hos : w'.os = w.os ∧ w'.output = w.output) : Rel b₀ N s β a w' ∧ Tr b₀ β s w β s w' := by
  have hkeep : Keep b₀ β s.gen s.obj w β s.gen s.obj w' := ⟨fun b hb => ⟨⟨by have := hb.1; omega, hb.2.1, hb.2.2⟩, hh b hb.1⟩, fun _ => Nat.le_refl _, fun id _ ho => ⟨ho, rfl, fun a' ha' arr el fr h1 => by
    rw [hh _ (obj_lt hr ho ha')] at h1
    exact ⟨arr, el, fr, h1, Nat.le_refl _⟩⟩⟩
  exact ⟨⟨hr.defers, hr.size, fun i => RepV.keep hkeep _ (hr.f i), fun id cells ho => (hr.obj id cells ho).keep hkeep (fun a' ha' => hh _ (obj_lt hr (by rw [ho]; rfl) ha')), hr.inj, by have := hr.base; omega⟩,
    hs, fun b hb => hh b (by have := hr.base; omega), hkeep, hos⟩

/-- What is made anew is nobody's object. -/
theorem imm_new {N : Nat} {s : St} {a : Act} (hr : Rel b₀ N s β a w) {w' : World} {J : Nat → Prop} (hJ : ∀ b, J b → Imm b₀ β s.obj w b) {b : Nat} (hb : b < w'.heap.size ∧ (b < w.heap.size → J b)) : Imm b₀ β s.obj w' b := by
  by_cases h : b < w.heap.size
  · obtain ⟨h1, h2, h3⟩ := hJ b (hb.2 h)
    exact ⟨hb.1, h2, h3⟩
  · refine ⟨hb.1, fun hB => absurd hr.base (by omega), fun id a' ho hβ he => ?_⟩
    have := obj_lt hr ho hβ
    omega

/-- The data that is behind a state's value as it is now. -/
inductive ViewC (s : St) : C → C → Prop where
  | d (x : D) : ViewC s (.d x) (.d x)
  | nil : ViewC s (.d .nsl) (.d (.sl []))

/-- The arguments of a call, each of them data. -/
def dataC : C → Bool
  | .d _ => true
  | _ => false

def dataAV : AV → Bool
  | .one c => dataC c
  | .agg cs => cs.all dataC
  | _ => false

theorem RepC.data {g : Nat → Nat} {ob : Obs} {c : C} {v : Value} (hd : dataC c = true) (h : RepC b₀ β g ob w c v) : RVc (Imm b₀ β ob w) w c v := by
  cases c <;> simp [dataC] at hd
  exact ⟨_, rfl, h⟩

theorem RepV.data {g : Nat → Nat} {ob : Obs} {x : AV} {v : Value} (hd : dataAV x = true) (h : RepV b₀ β g ob w x v) : RV (Imm b₀ β ob w) w x v := by
  cases x with
  | one c => simp only [RepV] at h; simp only [RV]; exact RepC.data hd h
  | agg cs =>
    simp only [RepV] at h; simp only [RV]
    obtain ⟨vs, h1, h2, h3⟩ := h
    refine ⟨vs, h1, h2, fun i c hc => ?_⟩
    obtain ⟨u, hu, hr⟩ := h3 i c hc
    simp only [dataAV, List.all_eq_true] at hd
    exact ⟨u, hu, hr.data (hd c (List.mem_of_getElem? hc))⟩
  | tup => simp [dataAV] at hd
  | junk => simp [dataAV] at hd
  | exact => simp [dataAV] at hd

theorem run_call {o : Oper} {a : Act} {f : FuncId} {args : Array Operand} {tys : Array TypeId} (ho : o.op = .call ⟨.value (.func f), args, tys⟩) (hf : Fine P f) (w : World) :
    (execOp a.eval o).run P w = .ok (.enter f (args.map a.eval)) w := by
  obtain ⟨fn, h1, h2, h3⟩ := hf
  have h2 : ¬ fn.body = none := by intro h; rw [h] at h2; simp at h2
  have h3 : ¬ fn.name = "runtime.NumGoroutine" := by simpa using h3
  simp [execOp, ho, resolve, Act.eval, Deferred.ofValue, invoke, callFunc, h1, h2, h3]

/-- A call, by its contract. -/
theorem call_pure {o : Oper} {s : St} {f : FuncId} {args : Array Operand} {tys : Array TypeId} (ho : o.op = .call ⟨.value (.func f), args, tys⟩) {R : AV → Prop}
    (hp : PureR P f (args.toList.map s.ev) R) (hd : (args.toList.map s.ev).all dataAV = true) : SemOp P o s (fun s' => ∃ r, R r ∧ s' = s.put o.dst r) := by
  intro b₀ N β a w hr hdst next Q hn
  unfold Oper.wp
  rw [run_call ho hp.1 w]
  simp only [Oper.upon]
  have hargs : ∀ l : List Operand, (l.map s.ev).all dataAV = true → RVs (Imm b₀ β s.obj w) w (l.map s.ev) (l.map a.eval) := by
    intro l
    induction l with
    | nil => intro _; simp only [List.map_nil, RVs]
    | cons x l ih =>
      intro h
      simp only [List.map_cons, List.all_cons, Bool.and_eq_true] at h
      simp only [List.map_cons, RVs]
      exact ⟨_, _, rfl, RepV.data h.1 (hr.ev x), ih h.2⟩
  have := hp.2 (Imm b₀ β s.obj w) w (args.toList.map a.eval) (fun _ h => h.1) (hargs _ hd)
  rw [show (args.toList.map a.eval).toArray = args.map a.eval from Array.ext' (by simp)] at this
  refine this.mono fun e w' ⟨v, r, he, hR, hs, hh, hos, hv⟩ => ?_
  subst he
  obtain ⟨g1, g2⟩ := hr.grow hs hh hos
  refine hn _ β _ w' ⟨r, hR, rfl⟩ (g1.put hdst (RV.rep r (RV.mono (fun b hb => ⟨imm_new hr (fun _ h => h) hb, rfl⟩) r hv))) (g2.trans (Tr.same (St.put_gen _ _ _) (St.put_obj _ _ _) rfl))

/-! ### A function's body -/

def initF (args : List AV) (i : Nat) : AV := (args[i]?).getD uv

/-- Results, as data. -/
def FrzV (s : St) : AV → AV → Prop
  | .one c, r => ∃ x, Frz s c x ∧ r = .one (.d x)
  | .agg cs, r => ∃ xs : List D, xs.length = cs.length ∧ (∀ (i : Nat) (c : C), cs[i]? = some c → ∃ x, xs[i]? = some x ∧ Frz s c x) ∧ r = .agg (xs.map .d)
  | _, _ => False

def FrzVs (s : St) : List AV → List AV → Prop
  | [], rs => rs = []
  | t :: ts, rs => ∃ r rs', rs = r :: rs' ∧ FrzV s t r ∧ FrzVs s ts rs'

/-- At a function's end: R of its results. -/
def RetQ (res : List Nat) (R : AV → Prop) : Exit → St → Prop
  | .normal, s | .ret, s =>
    match res with
    | [t] => ∃ r, FrzV s (s.f t) r ∧ R r
    | ts => ∃ rs, FrzVs s (ts.map s.f) rs ∧ R (.tup rs)
  | _, _ => False

/-- The blocks of a call's own, and those that it was given. -/
def Own (b₀ : Bs) (w : World) (b : Nat) : Prop := b < w.heap.size ∧ (b < b₀.B → b₀.I b)

theorem Frz.rep {N : Nat} {s : St} {a : Act} (hr : Rel b₀ N s β a w) {c : C} {x : D} (h : Frz s c x) : ∀ {v : Value}, RepC b₀ β s.gen s.obj w c v → RepD (Own b₀ w) w x v := by
  induction h with
  | d x =>
    intro v hv
    have hv : RepD (Imm b₀ β s.obj w) w x v := hv
    have h1 : RepD (Own b₀ w) w x v := hv.mono fun b hb => ⟨⟨hb.1, hb.2.1⟩, rfl⟩
    cases x <;> simp only [normD] <;> first | exact h1 | skip
    cases h1
    exact .sl0
  | osl hg ho hfit hlen hsz cf hc hf ih =>
    rename_i id g sz off len cells es
    intro v hv
    have hat := osl_live hv hg (by rw [ho]; rfl)
    have hob := hr.obj id cells ho
    cases hβ : β id with
    | none =>
      rw [hβ] at hat
      obtain ⟨rfl, rfl⟩ := hat
      have : es = [] := List.eq_nil_of_length_eq_zero hlen
      subst this
      exact .sl0
    | some ad =>
      rw [hβ] at hat hob
      obtain ⟨hsp, hat⟩ := hat
      obtain ⟨hB, arr, el, lo, hi, hblk, hfr, hal, hcells⟩ := hob.cells hsp
      rcases hat with ⟨cap, rfl, hcap, _⟩ | ⟨hl0, o, rfl⟩
      · rw [← hlen]
        have hval : ∀ i e, es[i]? = some e → ∀ j x, e[j]? = some x → es.flatten[i * sz + j]? = some x := fun i e he j x hx => by
          have : ∀ (es : List (List D)) (_ : ∀ e ∈ es, e.length = sz) i, es[i]? = some e → es.flatten[i * sz + j]? = some x := by
            intro es
            induction es with
            | nil => intro _ i h; simp at h
            | cons e' es ihe =>
              intro hs i h
              have hl := hs e' (by simp)
              cases i with
              | zero =>
                simp at h
                subst h
                rw [List.flatten_cons, List.getElem?_append_left (by simpa using (List.getElem?_eq_some_iff.1 hx).1)]
                simpa using hx
              | succ i =>
                rw [List.flatten_cons, List.getElem?_append_right (by rw [hl, Nat.add_mul]; omega), hl, show (i + 1) * sz + j - sz = i * sz + j by rw [Nat.add_mul]; omega]
                exact ihe (fun e h => hs e (by simp [h])) i (by simpa using h)
          exact this es hsz i he
        have hcell : ∀ m x, es.flatten[m]? = some x → ∃ u, w.cell? ⟨ad.block, ad.off + off + m, none⟩ = some u ∧ RepD (Own b₀ w) w x u := fun m x hx => by
          obtain ⟨u, hu, hru⟩ := hcells _ _ (hc m x hx)
          exact ⟨u, by rw [cell?_of_arr hblk, Nat.add_assoc]; exact hu, ih m x hx hru⟩
        refine .sl (b := ad.block) (off := ad.off + off) (sz := sz) (fun i j => (w.cell? ⟨ad.block, ad.off + off + (i * sz + j), none⟩).getD undef) (by omega) (fun _ => ⟨(Array.getElem?_eq_some_iff.1 hblk).1, fun h => absurd hB (by omega)⟩) hsz (fun i e he j x hx => ?_) (fun i e he j x hx => ?_)
        · obtain ⟨u, hu, _⟩ := hcell _ x (hval i e he j x hx)
          rw [Nat.add_assoc, hu]; rfl
        · obtain ⟨u, hu, hru⟩ := hcell _ x (hval i e he j x hx)
          rw [hu]; exact hru
      · subst hl0
        have : es = [] := List.eq_nil_of_length_eq_zero hlen
        subst this
        exact .sl (sz := sz) (fun _ _ => undef) (by simp) (fun h => absurd rfl h) (fun _ h => by cases h) (fun _ _ h => by cases h) (fun _ _ h => by cases h)

theorem FrzV.rep {N : Nat} {s : St} {a : Act} (hr : Rel b₀ N s β a w) {x r : AV} (h : FrzV s x r) {v : Value} (hv : RepV b₀ β s.gen s.obj w x v) : RV (Own b₀ w) w r v := by
  cases x with
  | one c =>
    obtain ⟨y, hy, rfl⟩ := h
    simp only [RepV] at hv; simp only [RV]
    exact ⟨y, rfl, Frz.rep hr hy hv⟩
  | agg cs =>
    obtain ⟨xs, hl, hx, rfl⟩ := h
    simp only [RepV] at hv; simp only [RV]
    obtain ⟨vs, h1, h2, h3⟩ := hv
    refine ⟨vs, h1, by rw [h2, List.length_map, hl], fun i c hc => ?_⟩
    rw [List.getElem?_map] at hc
    cases hq : xs[i]? with
    | none => rw [hq] at hc; cases hc
    | some y =>
      rw [hq] at hc
      simp only [Option.map_some, Option.some.injEq] at hc
      subst hc
      have hlt : i < cs.length := by rw [← hl]; exact (List.getElem?_eq_some_iff.1 hq).1
      obtain ⟨u, hu, hru⟩ := h3 i _ (List.getElem?_eq_getElem hlt)
      obtain ⟨y', hy', hf⟩ := hx i _ (List.getElem?_eq_getElem hlt)
      have : y' = y := by simpa [hy'] using hq
      subst this
      exact ⟨u, hu, y', rfl, Frz.rep hr hf hru⟩
  | tup => exact h.elim
  | junk => exact h.elim
  | exact => exact h.elim

theorem FrzVs.rep {N : Nat} {s : St} {a : Act} (hr : Rel b₀ N s β a w) : ∀ (ts : List Nat) {rs : List AV}, FrzVs s (ts.map s.f) rs → RVs (Own b₀ w) w rs (ts.map fun t => a.tmps.getD t undef)
  | [], rs, h => by simp only [List.map_nil, FrzVs] at h; subst h; simp only [List.map_nil, RVs]
  | t :: ts, rs, h => by
    simp only [List.map_cons, FrzVs] at h
    obtain ⟨r, rs', rfl, h1, h2⟩ := h
    simp only [List.map_cons, RVs]
    exact ⟨_, _, rfl, h1.rep hr (hr.f t), FrzVs.rep hr ts h2⟩

def resVal (tmps : Array Value) : List Nat → Value
  | [t] => tmps.getD t undef
  | ts => .tuple (ts.map fun t => tmps.getD t undef).toArray

theorem run_results {fn : Func} (res : List Nat) (hres : fn.results = (res.map ResultVar.tmp).toArray) (tmps : Array Value) : (results fn tmps).run P w = .ok (resVal tmps res) w := by
  have h : ∀ (g : ResultVar → Sem Value) (hg : ∀ t, g (.tmp t) = pure (tmps.getD t undef)) (l : List Nat), ((l.map ResultVar.tmp).mapM g).run P w = .ok (l.map fun t => tmps.getD t undef) w := by
    intro g hg l
    induction l with
    | nil => simp
    | cons t l ih => simp only [List.map_cons, List.mapM_cons, Sem.run_bind, hg, Sem.run_pure, Result.andThen_ok, ih]
  unfold results
  simp only [hres, List.mapM_toArray, Sem.run_bind, Sem.run_map]
  rw [h _ (fun _ => rfl) res]
  simp only [Result.andThen_ok, Sem.run_pure]
  match res with
  | [] => simp [resVal]
  | [t] => simp [resVal]
  | t :: t' :: ts => simp [resVal]

/-- A function, by its body's abstract code. -/
theorem pure_of_wp (hT : TabOk P T) (hm : P.follows .mixedOrders = true) {f : FuncId} {fn : Func} {c : Code} (hf : P.funcs[f]? = some fn) (hb : fn.body = some c) (hn : (fn.name == "runtime.NumGoroutine") = false)
    (res : List Nat) (hres : fn.results = (res.map ResultVar.tmp).toArray) (hok : codeOk fn.ntmps c = true) {args : List AV} (hargs : args.length ≤ fn.ntmps) {R : AV → Prop}
    (h : ∀ g, wpC (sp P) T c (bx (RetQ res R)) ⟨initF args, g, fun _ => none⟩) : PureR P f args R := by
  refine ⟨⟨fn, hf, by rw [hb]; rfl, hn⟩, fun J w vs hJ hv => ?_⟩
  refine calls_of_wp hf hb ?_
  have hlen : ∀ (l : List AV) (vs : List Value), RVs J w l vs → vs.length = l.length := by
    intro l
    induction l with
    | nil => intro vs h; simp only [RVs] at h; subst h; rfl
    | cons x l ih => intro vs h; simp only [RVs] at h; obtain ⟨u, us, rfl, _, h⟩ := h; simp [ih us h]
  have hl := hlen _ _ hv
  let J' : Nat → Prop := J
  have hr : Rel ⟨w.heap.size, J'⟩ fn.ntmps ⟨initF args, fun _ => 0, fun _ => none⟩ (fun _ => none) { tmps := vs.toArray ++ Array.replicate (fn.ntmps - vs.toArray.size) undef, defers := [] } w := by
    refine ⟨rfl, by simp; omega, fun i => ?_, fun id cells ho => (by cases ho), fun id id' a a' ho => (by cases ho), Nat.le_refl _⟩
    have hget : ∀ (l : List AV) (vs : List Value), RVs J w l vs → ∀ (i : Nat) (x : AV), l[i]? = some x → ∃ v, vs[i]? = some v ∧ RV J w x v := by
      intro l
      induction l with
      | nil => intro vs _ i x h; simp at h
      | cons y l ih =>
        intro vs h i x hx
        simp only [RVs] at h
        obtain ⟨u, us, rfl, h1, h2⟩ := h
        cases i with
        | zero => simp at hx; subst hx; exact ⟨u, rfl, h1⟩
        | succ i => simpa using ih us h2 i x (by simpa using hx)
    simp only [initF]
    cases hx : args[i]? with
    | some x =>
      obtain ⟨v, h1, h2⟩ := hget _ _ hv i x hx
      have hlt : i < vs.length := (List.getElem?_eq_some_iff.1 h1).1
      have : (vs.toArray ++ Array.replicate (fn.ntmps - vs.toArray.size) undef).getD i undef = v := by
        rw [Array.getD_eq_getD_getElem?, Array.getElem?_append_left (by simpa using hlt)]
        simp [h1]
      rw [this]
      simp only [Option.getD_some]
      exact RV.rep x (RV.mono (fun b hb => ⟨⟨hJ b hb, fun _ => hb, fun id a ho => by cases ho⟩, rfl⟩) x h2)
    | none =>
      have hge : args.length ≤ i := by simpa using hx
      have : (vs.toArray ++ Array.replicate (fn.ntmps - vs.toArray.size) undef).getD i undef = undef := by
        rw [Array.getD_eq_getD_getElem?, Array.getElem?_append_right (by simp; omega)]
        simp [Array.getElem?_replicate]
        split <;> rfl
      rw [this]
      exact undefRep
  refine wp_mono (wpC_sound hT hm c hok hr (h _)) (fun e a' w' hp => ?_)
  obtain ⟨s', β', hQ, hr', ht⟩ := hp
  have hres' : ∀ {e}, RetQ res R e s' → (e = .normal ∨ e = .ret) → ∃ v, (results fn a'.tmps).run P w' = .ok v w' ∧ ∃ r, R r ∧ RV (Own ⟨w.heap.size, J'⟩ w') w' r v := by
    intro e hQ he
    refine ⟨_, run_results res hres a'.tmps, ?_⟩
    have hQ' : RetQ res R .ret s' := by rcases he with rfl | rfl <;> exact hQ
    unfold RetQ at hQ'
    match res, hQ' with
    | [t], ⟨r, h1, h2⟩ => exact ⟨r, h2, h1.rep hr' (hr'.f t)⟩
    | [], ⟨rs, h1, h2⟩ => exact ⟨_, h2, by simp only [RV]; exact ⟨_, rfl, FrzVs.rep hr' [] h1⟩⟩
    | t :: t' :: ts, ⟨rs, h1, h2⟩ => exact ⟨_, h2, by simp only [RV]; exact ⟨_, rfl, FrzVs.rep hr' (t :: t' :: ts) h1⟩⟩
  cases e with
  | normal =>
    obtain ⟨v, h1, r, h2, h3⟩ := hres' hQ (.inl rfl)
    exact ⟨hr'.defers, v, h1, v, r, rfl, h2, ht.size, fun b hb => ht.old b hb, ht.os, h3⟩
  | ret =>
    obtain ⟨v, h1, r, h2, h3⟩ := hres' hQ (.inr rfl)
    exact ⟨hr'.defers, v, h1, v, r, rfl, h2, ht.size, fun b hb => ht.old b hb, ht.os, h3⟩
  | exit id => exact hQ.elim
  | goto l => exact hQ.elim
  | panic ch => exact hQ.elim
  | outgrown => exact hQ.elim

end
end Go.Am
