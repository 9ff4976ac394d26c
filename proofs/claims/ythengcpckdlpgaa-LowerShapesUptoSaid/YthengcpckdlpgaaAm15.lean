/- Contracts of functions that work on objects of the caller's: what they do to them. -/
import Derived.Test.YthengcpckdlpgaaAm14
set_option linter.unusedSimpArgs false
set_option linter.unusedVariables false
namespace Go.Am

/-- Called in a state with these objects, the function returns what R says of, in a state of which R says how its objects are. -/
def FunR (P : Program) (f : FuncId) (xs : List AV) (g : Nat → Nat) (ob : Obs) (R : AV → (Nat → Nat) → Obs → Prop) : Prop :=
  Fine P f ∧ ∀ (b₀ : Bs) (N : Nat) (β : Loc) (a : Act) (fa : Nat → AV) (w : World) (vs : List Value), Rel b₀ N ⟨fa, g, ob⟩ β a w → RepVs b₀ β g ob w xs vs →
    Calls P f vs.toArray w fun e w' => ∃ v r g' ob' β', e = .returned v ∧ R r g' ob' ∧ RepV b₀ β' g' ob' w' r v ∧
      (∀ id cells, ob' id = some cells → ObjAt b₀ β' g' ob' w' cells (β' id)) ∧ (∀ id id' a a', (ob' id).isSome = true → (ob' id').isSome = true → β' id = some a → β' id' = some a' → a.block = a'.block → id = id') ∧
      Tr b₀ β ⟨fa, g, ob⟩ w β' ⟨fa, g', ob'⟩ w'

theorem FunR.mono {P : Program} {f : FuncId} {xs : List AV} {g : Nat → Nat} {ob : Obs} {R R' : AV → (Nat → Nat) → Obs → Prop} (h : FunR P f xs g ob R) (hr : ∀ r g' ob', R r g' ob' → R' r g' ob') : FunR P f xs g ob R' :=
  ⟨h.1, fun b₀ N β a fa w vs h1 h2 => (h.2 b₀ N β a fa w vs h1 h2).mono fun _ _ ⟨v, r, g', ob', β', q1, q2, q3⟩ => ⟨v, r, g', ob', β', q1, hr _ _ _ q2, q3⟩⟩

section
variable {P : Program} {T : Nat → TI} {b₀ : Bs} {β : Loc} {w : World}

/-- The results' slots, together. -/
def resAV (f : Nat → AV) : List Nat → AV
  | [t] => f t
  | ts => .tup (ts.map f)

/-- At a function's end: R of its results and its objects, perhaps told anew. -/
def RetF (res : List Nat) (R : AV → (Nat → Nat) → Obs → Prop) : Exit → St → Prop
  | .normal, s | .ret, s => ∃ s', SemVs s s' ∧ R (resAV s'.f res) s'.gen s'.obj
  | _, _ => False

theorem RepVs.of_slots {N : Nat} {s : St} {a : Act} (hr : Rel b₀ N s β a w) : ∀ ts : List Nat, RepVs b₀ β s.gen s.obj w (ts.map s.f) (ts.map fun t => a.tmps.getD t undef)
  | [] => by simp only [List.map_nil, RepVs]
  | t :: ts => by simp only [List.map_cons, RepVs]; exact ⟨_, _, rfl, hr.f t, RepVs.of_slots hr ts⟩

theorem resAV_rep {N : Nat} {s : St} {a : Act} (hr : Rel b₀ N s β a w) : ∀ res : List Nat, RepV b₀ β s.gen s.obj w (resAV s.f res) (resVal a.tmps res)
  | [] => by simp only [resAV, resVal, List.map_nil, RepV, RepVs]; exact ⟨[], rfl, rfl⟩
  | [t] => hr.f t
  | t :: t' :: ts => by simp only [resAV, resVal, RepV]; exact ⟨_, rfl, RepVs.of_slots hr (t :: t' :: ts)⟩

theorem RepVs.len {g : Nat → Nat} {ob : Obs} : ∀ {ts : List AV} {vs : List Value}, RepVs b₀ β g ob w ts vs → vs.length = ts.length
  | [], vs, h => by simp only [RepVs] at h; rw [h]; rfl
  | t :: ts, vs, h => by simp only [RepVs] at h; obtain ⟨u, us, rfl, _, h⟩ := h; simp [RepVs.len h]

/-- A function, by its body's abstract code. -/
theorem fun_of_wp (B : Nat) (hT : TabOk P T) (hm : P.follows .mixedOrders = true) {f : FuncId} {fn : Func} {c : Code} (hf : P.funcs[f]? = some fn) (hb : fn.body = some c) (hn : (fn.name == "runtime.NumGoroutine") = false)
    (res : List Nat) (hres : fn.results = (res.map ResultVar.tmp).toArray) (hok : codeOk fn.ntmps c = true) {xs : List AV} (hargs : xs.length ≤ fn.ntmps) {g : Nat → Nat} {ob : Obs} {R : AV → (Nat → Nat) → Obs → Prop}
    (h : wpC (spB P B) T c (bx (RetF res R)) ⟨initF xs, g, ob⟩) : FunR P f xs g ob R := by
  refine ⟨⟨fn, hf, by rw [hb]; rfl, hn⟩, fun b₀ N β a fa w vs hr0 hv => ?_⟩
  refine calls_of_wp hf hb ?_
  have hl := hv.len
  have hr : Rel b₀ fn.ntmps ⟨initF xs, g, ob⟩ β { tmps := vs.toArray ++ Array.replicate (fn.ntmps - vs.toArray.size) undef, defers := [] } w := by
    refine ⟨rfl, by simp; omega, fun i => ?_, hr0.obj, hr0.inj, hr0.base⟩
    simp only [initF]
    cases hx : xs[i]? with
    | some x =>
      obtain ⟨v, h1, h2⟩ := hv.get hx
      have hlt : i < vs.length := (List.getElem?_eq_some_iff.1 h1).1
      have : (vs.toArray ++ Array.replicate (fn.ntmps - vs.toArray.size) undef).getD i undef = v := by
        rw [Array.getD_eq_getD_getElem?, Array.getElem?_append_left (by simpa using hlt)]
        simp [h1]
      rw [this]
      simpa only [Option.getD_some] using h2
    | none =>
      have hge : xs.length ≤ i := by simpa using hx
      have : (vs.toArray ++ Array.replicate (fn.ntmps - vs.toArray.size) undef).getD i undef = undef := by
        rw [Array.getD_eq_getD_getElem?, Array.getElem?_append_right (by simp; omega)]
        simp [Array.getElem?_replicate]
        split <;> rfl
      rw [this]
      exact undefRep
  refine wp_mono (wpC_sound (B := B) hT hm c hok hr h) (fun e a' w' hp => ?_)
  obtain ⟨s', β', hQ, hr', ht⟩ := hp
  have hres' : RetF res R .ret s' → ∃ v, (results fn a'.tmps).run P w' = .ok v w' ∧ ∃ v' r g' ob' β', Ending.returned v = .returned v' ∧ R r g' ob' ∧ RepV b₀ β' g' ob' w' r v' ∧
      (∀ id cells, ob' id = some cells → ObjAt b₀ β' g' ob' w' cells (β' id)) ∧ (∀ id id' a a', (ob' id).isSome = true → (ob' id').isSome = true → β' id = some a → β' id' = some a' → a.block = a'.block → id = id') ∧
      Tr b₀ β ⟨fa, g, ob⟩ w β' ⟨fa, g', ob'⟩ w' := by
    rintro ⟨s2, hvs, hR⟩
    obtain ⟨β2, hr2, ht2⟩ := hvs b₀ fn.ntmps β' a' w' hr'
    have hta := ht.trans ht2
    exact ⟨_, run_results res hres a'.tmps, _, _, _, _, β2, rfl, hR, resAV_rep hr2 res, hr2.obj, hr2.inj, ⟨hta.size, hta.old, hta.keep, hta.os⟩⟩
  cases e with
  | normal => exact ⟨hr'.defers, hres' hQ⟩
  | ret => exact ⟨hr'.defers, hres' hQ⟩
  | exit id => exact hQ.elim
  | goto l => exact hQ.elim
  | panic ch => exact hQ.elim
  | outgrown => exact hQ.elim

theorem args_rep {N : Nat} {s : St} {a : Act} (hr : Rel b₀ N s β a w) : ∀ l : List Operand, RepVs b₀ β s.gen s.obj w (l.map s.ev) (l.map a.eval)
  | [] => by simp only [List.map_nil, RepVs]
  | x :: l => by simp only [List.map_cons, RepVs]; exact ⟨_, _, rfl, hr.ev x, args_rep hr l⟩

/-- What a call's end makes of the caller's state. -/
theorem call_back {N : Nat} {s : St} {a : Act} (hr : Rel b₀ N s β a w) {dst : Option Nat} (hdst : ∀ d, dst = some d → d < N) {r : AV} {v : Value} {g' : Nat → Nat} {ob' : Obs} {β' : Loc} {w' : World} {fa : Nat → AV}
    (hv : RepV b₀ β' g' ob' w' r v) (ho : ∀ id cells, ob' id = some cells → ObjAt b₀ β' g' ob' w' cells (β' id)) (hi : ∀ id id' a a', (ob' id).isSome = true → (ob' id').isSome = true → β' id = some a → β' id' = some a' → a.block = a'.block → id = id')
    (ht : Tr b₀ β ⟨fa, s.gen, s.obj⟩ w β' ⟨fa, g', ob'⟩ w') : Rel b₀ N (St.put ⟨s.f, g', ob'⟩ dst r) β' (a.put dst v) w' ∧ Tr b₀ β s w β' (St.put ⟨s.f, g', ob'⟩ dst r) w' := by
  have hk : Keep b₀ β s.gen s.obj w β' g' ob' w' := ht.keep
  have h1 : Rel b₀ N ⟨s.f, g', ob'⟩ β' a w' := ⟨hr.defers, hr.size, fun i => RepV.keep hk _ (hr.f i), ho, hi, Nat.le_trans hr.base ht.size⟩
  exact ⟨h1.put hdst hv, ⟨ht.size, ht.old, by rw [St.put_gen, St.put_obj]; exact hk, ht.os⟩⟩

/-- A call, by its contract. -/
theorem call_fun {o : Oper} {s : St} {f : FuncId} {args : Array Operand} {tys : Array TypeId} (ho : o.op = .call ⟨.value (.func f), args, tys⟩) {R : AV → (Nat → Nat) → Obs → Prop}
    (hp : FunR P f (args.toList.map s.ev) s.gen s.obj R) : SemOp P o s (fun s' => ∃ r g' ob', R r g' ob' ∧ s' = St.put ⟨s.f, g', ob'⟩ o.dst r) := by
  intro b₀ N β a w hr hdst next Q hn
  unfold Oper.wp
  rw [run_call ho hp.1 w]
  simp only [Oper.upon]
  have := hp.2 b₀ N β a s.f w (args.toList.map a.eval) hr (args_rep hr _)
  rw [show (args.toList.map a.eval).toArray = args.map a.eval from Array.ext' (by simp)] at this
  refine this.mono fun e w' ⟨v, r, g', ob', β', he, hR, hv, h1, h2, h3⟩ => ?_
  subst he
  obtain ⟨k1, k2⟩ := call_back hr hdst hv h1 h2 h3
  exact hn _ β' _ w' ⟨r, g', ob', hR, rfl⟩ k1 k2

/-- .. as the walk meets it. -/
theorem hook_fun {o : Oper} {s : St} {K : St → Prop} {k : Box K} {B : Nat} {f : FuncId} {args : Array Operand} {tys : Array TypeId} (ho : o.op = .call ⟨.value (.func f), args, tys⟩) {R : AV → (Nat → Nat) → Obs → Prop}
    (hp : FunR P f (args.toList.map s.ev) s.gen s.obj R) (hk : ∀ r g' ob', R r g' ob' → K (St.put ⟨s.f, g', ob'⟩ o.dst r)) : hookA (spB P B) o s k :=
  ⟨_, call_fun ho hp, fun _ ⟨r, g', ob', hr, e⟩ => e ▸ hk r g' ob' hr⟩

def pcAV : PC → AV
  | .d x => .one (.d x)
  | .ptr id g off => .one (.ptr id g off)

theorem RepPC.av {g : Nat → Nat} {ob : Obs} {p : PC} {v : Value} (h : RepPC b₀ β g ob w p v) : RepV b₀ β g ob w (pcAV p) v := by
  cases p <;> simpa only [pcAV, RepV, RepC, RepPC] using h

theorem RepVs.append {g : Nat → Nat} {ob : Obs} : ∀ {xs ys : List AV} {vs us : List Value}, RepVs b₀ β g ob w xs vs → RepVs b₀ β g ob w ys us → RepVs b₀ β g ob w (xs ++ ys) (vs ++ us)
  | [], ys, vs, us, h, h' => by simp only [RepVs] at h; subst h; exact h'
  | x :: xs, ys, vs, us, h, h' => by
    simp only [RepVs] at h
    obtain ⟨u, us', rfl, h1, h2⟩ := h
    simp only [List.cons_append, RepVs]
    exact ⟨_, _, rfl, h1, RepVs.append h2 h'⟩

theorem caps_rep {g : Nat → Nat} {ob : Obs} : ∀ {caps : List PC} {vs : List Value}, vs.length = caps.length → (∀ (i : Nat) (pc : PC), caps[i]? = some pc → ∃ u, vs[i]? = some u ∧ RepPC b₀ β g ob w pc u) → RepVs b₀ β g ob w (caps.map pcAV) vs
  | [], vs, hl, _ => by simp only [List.map_nil, RepVs]; exact List.eq_nil_of_length_eq_zero hl
  | p :: caps, vs, hl, h => by
    match vs, hl with
    | u :: us, hl =>
      simp only [List.map_cons, RepVs]
      obtain ⟨u', hu, hr⟩ := h 0 p rfl
      simp at hu
      subst hu
      exact ⟨_, _, rfl, hr.av, caps_rep (by simpa using hl) (fun i pc hi => by simpa using h (i + 1) pc (by simpa using hi))⟩

/-- A call of a closure. -/
theorem call_clo {o : Oper} {s : St} {t : Nat} {args : Array Operand} {tys : Array TypeId} (ho : o.op = .call ⟨.value (.tmp t), args, tys⟩) {f : FuncId} {caps : List PC} (hf : s.f t = .one (.clo f caps)) {R : AV → (Nat → Nat) → Obs → Prop}
    (hp : FunR P f (args.toList.map s.ev ++ caps.map pcAV) s.gen s.obj R) : SemOp P o s (fun s' => ∃ r g' ob', R r g' ob' ∧ s' = St.put ⟨s.f, g', ob'⟩ o.dst r) := by
  intro b₀ N β a w hr hdst next Q hn
  have hv := hr.f t
  rw [hf] at hv
  simp only [RepV, RepC] at hv
  obtain ⟨vs, hv1, hv2, hv3⟩ := hv
  have hrun : (execOp a.eval o).run P w = .ok (.enter f (args.map a.eval ++ vs)) w := by
    obtain ⟨fn, h1, h2, h3⟩ := hp.1
    have h2 : ¬ fn.body = none := by intro h; rw [h] at h2; simp at h2
    have h3 : ¬ fn.name = "runtime.NumGoroutine" := by simpa using h3
    simp [execOp, ho, resolve, Act.eval, hv1, Deferred.ofValue, invoke, callFunc, h1, h2, h3]
  unfold Oper.wp
  rw [hrun]
  simp only [Oper.upon]
  have hc : RepVs b₀ β s.gen s.obj w (caps.map pcAV) vs.toList := caps_rep (by simpa using hv2) (fun i pc hi => let ⟨u, h1, h2⟩ := hv3 i pc hi; ⟨u, by simpa using h1, h2⟩)
  have := hp.2 b₀ N β a s.f w (args.toList.map a.eval ++ vs.toList) hr ((args_rep hr _).append hc)
  rw [show (args.toList.map a.eval ++ vs.toList).toArray = args.map a.eval ++ vs from Array.ext' (by simp)] at this
  refine this.mono fun e w' ⟨v, r, g', ob', β', he, hR, hv, h1, h2, h3⟩ => ?_
  subst he
  obtain ⟨k1, k2⟩ := call_back hr hdst hv h1 h2 h3
  exact hn _ β' _ w' ⟨r, g', ob', hR, rfl⟩ k1 k2

theorem hook_clo {o : Oper} {s : St} {K : St → Prop} {k : Box K} {B : Nat} {t : Nat} {args : Array Operand} {tys : Array TypeId} (ho : o.op = .call ⟨.value (.tmp t), args, tys⟩) {f : FuncId} {caps : List PC} (hf : s.f t = .one (.clo f caps))
    {R : AV → (Nat → Nat) → Obs → Prop} (hp : FunR P f (args.toList.map s.ev ++ caps.map pcAV) s.gen s.obj R) (hk : ∀ r g' ob', R r g' ob' → K (St.put ⟨s.f, g', ob'⟩ o.dst r)) : hookA (spB P B) o s k :=
  ⟨_, call_clo ho hf hp, fun _ ⟨r, g', ob', hr, e⟩ => e ▸ hk r g' ob' hr⟩

end
end Go.Am
