/- A part of the proof; no conditions. -/
import Derived.Test.YtiaalcpkhlnpcabGreatDoorPart6
import Derived.RangeFuncSeq
set_option linter.unusedSimpArgs false
set_option linter.unusedVariables false
namespace Go.Am
section
variable {P : Program} {T : Nat → TI} {b₀ : Bs} {w : World} {rd : Option Nat} {Φ : St → Loc → List Deferred → World → Prop} {Ψ : PanF}

theorem wpAny_ofF {hT : TabOk P T} (hΦ : KeptTr b₀ Φ) {B N : Nat} {ops : Array Oper} {ds : List Deferred} {Q : Exit → Act → World → Prop} (hnd : ops.toList.all noDefer = true) (hg : ops.toList.all (fun o => o.guard.isNone) = true) (hds : dstsOk N ops.toList = true) (I : (Nat → Bool) → St → Prop)
    (hstep : ∀ (L : Nat → Bool) (s : St) (i : Nat) (o : Oper), I L s → ops[i]? = some o → L i = false → (∀ e ∈ o.after.toList, Region.binds .any e = true → L e.on = true) →
      (∀ j o', L j = true → ops[j]? = some o' → ∀ e ∈ o'.after.toList, Region.binds .any e = true → L e.on = true) → opA (spB P B) T o s (bx fun s' => I (upd L i true) s')) :
    ∀ (fuel : Nat) (listed : Array Bool) {s : St} {β : Loc} {a : Act} {w : World}, listed.size = ops.size → listed.toList.count false ≤ fuel → Rel b₀ N s β a w → Φ s β ds w → I (fun i => listed.getD i false) s →
      (∀ j o', listed.getD j false = true → ops[j]? = some o' → ∀ e ∈ o'.after.toList, Region.binds .any e = true → listed.getD e.on false = true) →
      (∀ L s' β' a' w', I L s' → Rel b₀ N s' β' a' w' → Φ s' β' ds w' → (∃ listed', L = (fun i => listed'.getD i false) ∧ listed'.size = ops.size ∧ Region.ready .any ops listed' = []) → Q .normal { a' with defers := ds } w') →
      wpAnyIn (fen rd) 0 P .any ops Q fuel listed { a with defers := ds } w
  | 0, listed, s, β, a, w, hsz, hc, hr, hφ, hI, hid, hQ => by
    have hall : ∀ i, i < ops.size → listed.getD i true = true := fun i hi => by
      have hnf : false ∉ listed.toList := fun h => by
        have := List.count_pos_iff.2 h; omega
      rw [Array.getD_eq_getD_getElem?, Array.getElem?_eq_getElem (by omega)]
      simp only [Option.getD_some]
      cases hq : listed[i]'(by omega) with
      | true => rfl
      | false => exact absurd (hq ▸ Array.mem_toList_iff.2 (Array.getElem_mem (by omega))) hnf
    have hrd : Region.ready .any ops listed = [] := by
      unfold Region.ready
      rw [List.filter_eq_nil_iff]
      intro i hi
      simp [hall i (List.mem_range.1 hi)]
    exact ⟨hrd, hQ _ s β a w hI hr hφ ⟨listed, rfl, hsz, hrd⟩⟩
  | fuel + 1, listed, s, β, a, w, hsz, hc, hr, hφ, hI, hid, hQ => by
    refine ⟨fun hrd => hQ _ s β a w hI hr hφ ⟨listed, rfl, hsz, hrd⟩, fun i hi => ?_⟩
    unfold Region.ready at hi
    simp only [List.mem_filter, List.mem_range, Bool.and_eq_true, Bool.not_eq_true'] at hi
    obtain ⟨hi1, hi2, hi3⟩ := hi
    have ho : ops[i]? = some ops[i] := Array.getElem?_eq_getElem hi1
    rw [ho] at hi3
    simp only [Option.map_some, Option.getD_some, Array.all_eq_true', Bool.or_eq_true, Bool.not_eq_true'] at hi3
    have hli : listed[i]? = some false := by
      rw [Array.getD_eq_getD_getElem?, Array.getElem?_eq_getElem (by omega)] at hi2
      rw [Array.getElem?_eq_getElem (by omega)]
      simpa using hi2
    have hL : listed.getD i false = false := by rw [Array.getD_eq_getD_getElem?, hli]; rfl
    have hedge : ∀ e ∈ ops[i].after.toList, Region.binds .any e = true → listed.getD e.on false = true := fun e he hb => by
      rcases hi3 e (by simpa using he) with h | h
      · rw [hb] at h; cases h
      · exact h
    have hgi : (ops[i]).guard = none := by
      have := List.all_eq_true.1 hg ops[i] (Array.getElem_mem_toList hi1)
      simpa using this
    have hdi : ∀ d, (ops[i]).dst = some d → d < N := fun d hd => by
      have := List.all_eq_true.1 hds ops[i] (Array.getElem_mem_toList hi1)
      rw [hd] at this
      simpa using this
    have hni : noDefer ops[i] = true := List.all_eq_true.1 hnd ops[i] (Array.getElem_mem_toList hi1)
    unfold wpOpIn
    rw [ho]
    simp only
    rw [if_pos (by simp [Region.wanted, hgi])]
    have hset : (fun j => (listed.setIfInBounds i true).getD j false) = upd (fun j => listed.getD j false) i true := by
      funext j
      simp only [upd, Array.getD_eq_getD_getElem?, Array.getElem?_setIfInBounds]
      by_cases hj : i = j
      · subst hj; simp [hsz, hi1]
      · have : ¬ j = i := fun e => hj e.symm
        simp [hj, this]
    refine wp_fen hni (opA_sound hT hr hdi (hstep _ s i ops[i] hI ho hL hedge hid) (fun s' β' a' w' hI' hr' ht' => ⟨hr'.defers, ?_⟩))
    refine wpAny_ofF (hT := hT) hΦ hnd hg hds I hstep fuel (listed.setIfInBounds i true) (by simpa using hsz) (by have := count_set hli; omega) hr' (hΦ _ _ _ _ _ _ _ hφ ht') (by rw [hset]; exact hI') (fun j o' hj hoj e he hb => ?_) hQ
    have e1 := congrFun hset
    simp only [upd] at e1
    rw [e1] at hj ⊢
    by_cases hej : e.on = i
    · rw [if_pos hej]
    · rw [if_neg hej]
      by_cases hji : j = i
      · subst hji
        rw [ho] at hoj
        cases hoj
        exact hedge e he hb
      · rw [if_neg hji] at hj
        exact hid j o' hj hoj e he hb

theorem draw_anyF (hT : TabOk P T) (hm : P.follows .mixedOrders = true) (hΦ : KeptTr b₀ Φ) {B B' id : Nat} {ops : Array Oper} {s : St} {Q : Exit → St → Prop} {q : Box Q} (hnd : ops.toList.all noDefer = true) (hok : (ops.toList.all (fun o => o.guard.isNone) && backB ops) = true) (I : (Nat → Bool) → St → Prop) (h0 : I (fun _ => false) s)
    (hstep : ∀ (L : Nat → Bool) (s : St) (i : Nat) (o : Oper), I L s → ops[i]? = some o → L i = false → (∀ e ∈ o.after.toList, Region.binds .any e = true → L e.on = true) →
      (∀ j o', L j = true → ops[j]? = some o' → ∀ e ∈ o'.after.toList, Region.binds .any e = true → L e.on = true) → opA (spB P B) T o s (bx fun s' => I (upd L i true) s'))
    (hend : ∀ L s', I L s' → (∀ i, i < ops.size → L i = true) → Q .normal s') : DrawA (spF P rd b₀ Φ B' Ψ) T id ops s q := by
  rw [Bool.and_eq_true] at hok
  obtain ⟨hg, hbk⟩ := hok
  refine .inr ⟨fun e s' => e = .normal ∧ Q .normal s', fun N β a ds w hc hr hφ => ?_, fun e s' ⟨h1, h2⟩ => h1 ▸ h2⟩
  have hr1 : Rel b₀ N s β a { w with drawn := w.drawn + 1 } := hr.of_heap rfl
  have hφ1 : Φ s β ds { w with drawn := w.drawn + 1 } := hΦ _ _ _ _ _ _ _ hφ (Tr.same rfl rfl rfl)
  refine wpIn_region_any hm (wpAny_ofF (hT := hT) hΦ hnd hg hc I hstep ops.size (Array.replicate ops.size false) (by simp) (by simp) hr1 hφ1 ?_ (fun j o' hj => ?_) (fun L s' β' a' w' h2 h4 h5 h6 => ⟨s', β', a', ds, rfl, .inl ⟨rfl, hend L s' h2 (by obtain ⟨listed, rfl, e1, e2⟩ := h6; exact ready_all hbk e1 e2)⟩, h4, h5⟩))
  · have : (fun i => (Array.replicate ops.size false).getD i false) = fun _ => false := by
      funext i
      rw [Array.getD_eq_getD_getElem?, Array.getElem?_replicate]
      split <;> rfl
    rw [this]; exact h0
  · rw [Array.getD_eq_getD_getElem?, Array.getElem?_replicate] at hj
    split at hj <;> simp at hj

theorem draw_detF (hT : TabOk P T) (hm : P.follows .mixedOrders = true) (hΦ : KeptTr b₀ Φ) {B B' id : Nat} {ops : Array Oper} {s : St} {Q : Exit → St → Prop} {q : Box Q} (ids : List Nat) (tb : List (List Nat × List Nat × List Nat × Bool)) (nid : Nat) (hnd0 : ops.toList.all noDefer = true) (hok : okDet ops tb nid = true) (hnid : ids.length = nid) (hnd : ids.Nodup)
    (h : wpDet (spB P B) T ids (zipE ops.toList tb) s (bx fun s' => Q .normal s')) : DrawA (spF P rd b₀ Φ B' Ψ) T id ops s q := by
  obtain ⟨h1, I, h2, h3, h4⟩ := det_inv (Q := Q) ids tb nid hok hnid hnd h
  exact draw_anyF hT hm hΦ hnd0 h1 I h2 h3 h4

end
end Go.Am

namespace Go.Am

/-- What a call of yield of the loop l comes to, at these objects. -/
def YieldF (P : Program) (b₀ : Bs) (Φ : (Nat → Nat) → Obs → Loc → World → Prop) (l : Nat) (xs : List AV) (g : Nat → Nat) (ob : Obs) (R : AV → (Nat → Nat) → Obs → Prop) : Prop :=
  ∀ (N : Nat) (β : Loc) (a : Act) (fa : Nat → AV) (w : World) (vs : List Value), Rel b₀ N ⟨fa, g, ob⟩ β a w → Φ g ob β w → RepVs b₀ β g ob w xs vs →
    YieldAt (fen none) 0 P l vs.toArray w fun e w' => ∃ v r g' ob' β', e = .returned v ∧ R r g' ob' ∧ RepV b₀ β' g' ob' w' r v ∧
      (∀ id cells, ob' id = some cells → ObjAt b₀ β' g' ob' w' (g' id) cells (β' id)) ∧ (∀ id id' a a', (ob' id).isSome = true → (ob' id').isSome = true → β' id = some a → β' id' = some a' → a.block = a'.block → id = id') ∧
      Tr b₀ β ⟨fa, g, ob⟩ w β' ⟨fa, g', ob'⟩ w'

/-- What holds of objects and memory alone. -/
def onObj (Φ : (Nat → Nat) → Obs → Loc → World → Prop) : St → Loc → List Deferred → World → Prop := fun s β ds w => ds = [] ∧ Φ s.gen s.obj β w

section
variable {P : Program} {T : Nat → TI} {b₀ : Bs} {w : World}

theorem hook_yield {o : Oper} {s : St} {K : St → Prop} {k : Box K} {B : Nat} {t : Nat} {args : Array Operand} {tys : Array TypeId} (ho : o.op = .call ⟨.value (.tmp t), args, tys⟩) {l : Nat} (hf : s.f t = .one (.d (.yld l)))
    {Φ : (Nat → Nat) → Obs → Loc → World → Prop} (hΦ : KeptTr b₀ (onObj Φ)) {R : AV → (Nat → Nat) → Obs → Prop} (hY : YieldF P b₀ Φ l (args.toList.map s.ev) s.gen s.obj R) (hk : ∀ r g' ob', R r g' ob' → K (St.put ⟨s.f, g', ob'⟩ o.dst r)) :
    hookA (spF P none b₀ (onObj Φ) B noPan) o s k := by
  refine ⟨fun s' => ∃ r g' ob', R r g' ob' ∧ s' = St.put ⟨s.f, g', ob'⟩ o.dst r, fun N β a ds w hr hφ hd next Q hn _ => ?_, fun _ ⟨r, g', ob', hr, e⟩ => e ▸ hk r g' ob' hr⟩
  have hv := hr.f t
  rw [hf] at hv
  simp only [RepV, RepC] at hv
  have hv : a.tmps.getD t undef = .func (.yield l) #[] #[] := by generalize a.tmps.getD t undef = v at hv; cases hv; rfl
  obtain ⟨fn, tmps, assign, body, hy, hR⟩ := hY N β a s.f w (args.toList.map a.eval) hr hφ.2 (args_rep hr _)
  rw [show (args.toList.map a.eval).toArray = args.map a.eval from Array.ext' (by simp)] at hy
  refine ⟨fun _ _ => trivial, ?_⟩
  have hrun : (o.semAt (fen none).round ({ a with defers := ds } : Act).eval).run P w = .ok (.round l fn tmps assign body) w := by
    show (execOp a.eval o).run P w = _
    simp [execOp, ho, resolve, Act.eval, hv, Deferred.ofValue, invoke]
    exact hy
  rw [hrun]
  simp only [Oper.uponIn]
  refine ⟨fun h => (by cases h), hR.mono ?_⟩
  rintro e w' ⟨v, r, g', ob', β', rfl, hR', hrep, h1, h2, h3⟩
  obtain ⟨k1, k2⟩ := call_back hr hd hrep h1 h2 h3
  simp only
  rw [put_ds]
  exact hn _ β' _ w' ⟨r, g', ob', hR', rfl⟩ k1 (hΦ _ _ _ _ _ _ _ hφ k2)


/-- What an iterator owes: called with yield, it hands over xs one by one; 'own': the objects that it may turn; enc: an element's values. -/
def IterR {α : Type} (P : Program) (f : FuncId) (caps : List AV) (own : Nat → Prop) (enc : α → List AV) (g0 : Nat → Nat) (ob0 : Obs) (xs : List α) (Fin : (Nat → Nat) → Obs → Prop) : Prop :=
  Fine P f ∧ ∀ (b₀ : Bs) (Φ : (Nat → Nat) → Obs → Loc → World → Prop) (l : Nat) (J : Nat → (Nat → Nat) → Obs → Prop) (Jx : (Nat → Nat) → Obs → Prop), KeptTr b₀ (onObj Φ) →
    (∀ k g ob g' ob', J k g ob → (∀ id, ¬ own id → g' id = g id ∧ ob' id = ob id) → J k g' ob') → (∀ g ob g' ob', Jx g ob → (∀ id, ¬ own id → g' id = g id ∧ ob' id = ob id) → Jx g' ob') →
    (∀ k x g ob, xs[k]? = some x → J k g ob → YieldF P b₀ Φ l (enc x) g ob (fun r g' ob' => (∀ id, own id → g' id = g id ∧ ob' id = ob id) ∧ ((r = bv true ∧ J (k + 1) g' ob') ∨ (r = bv false ∧ Jx g' ob')))) →
    J 0 g0 ob0 → ∀ (N : Nat) (β : Loc) (a : Act) (fa : Nat → AV) (w : World) (vs : List Value), Rel b₀ N ⟨fa, g0, ob0⟩ β a w → Φ g0 ob0 β w → RepVs b₀ β g0 ob0 w caps vs →
      CallsIn (fen none) 0 P f (#[.func (.yield l) #[] #[]] ++ vs.toArray) w fun e w' => ∃ v g' ob' β', e = .returned v ∧ ((J xs.length g' ob' ∧ Fin g' ob') ∨ Jx g' ob') ∧
        (∀ id cells, ob' id = some cells → ObjAt b₀ β' g' ob' w' (g' id) cells (β' id)) ∧ (∀ id id' a a', (ob' id).isSome = true → (ob' id').isSome = true → β' id = some a → β' id' = some a' → a.block = a'.block → id = id') ∧ b₀.B ≤ w'.heap.size ∧ Φ g' ob' β' w'

/-- At an iterator's end. -/
def RetI (J : (Nat → Nat) → Obs → Prop) (Jx : (Nat → Nat) → Obs → Prop) : Exit → St → Prop
  | .normal, s | .ret, s => ∃ s', SemVs s s' ∧ (J s'.gen s'.obj ∨ Jx s'.gen s'.obj)
  | _, _ => False

theorem rel_init {N : Nat} {xs : List AV} {vs : List Value} {g : Nat → Nat} {ob : Obs} {β : Loc} {fa : Nat → AV} {M : Nat} {a : Act} (hargs : xs.length ≤ N) (hr0 : Rel b₀ M ⟨fa, g, ob⟩ β a w) (hv : RepVs b₀ β g ob w xs vs) :
    Rel b₀ N ⟨initF xs, g, ob⟩ β { tmps := vs.toArray ++ Array.replicate (N - vs.toArray.size) undef, defers := [] } w := by
  have hl := hv.len
  refine ⟨rfl, by simp; omega, fun i => ?_, hr0.obj, hr0.inj, hr0.base⟩
  simp only [initF]
  cases hx : xs[i]? with
  | some x =>
    obtain ⟨v, h1, h2⟩ := hv.get hx
    have hlt : i < vs.length := (List.getElem?_eq_some_iff.1 h1).1
    have : (vs.toArray ++ Array.replicate (N - vs.toArray.size) undef).getD i undef = v := by
      rw [Array.getD_eq_getD_getElem?, Array.getElem?_append_left (by simpa using hlt)]
      simp [h1]
    rw [this]
    simpa only [Option.getD_some] using h2
  | none =>
    have hge : xs.length ≤ i := by simpa using hx
    have : (vs.toArray ++ Array.replicate (N - vs.toArray.size) undef).getD i undef = undef := by
      rw [Array.getD_eq_getD_getElem?, Array.getElem?_append_right (by simp; omega)]
      simp [Array.getElem?_replicate]
      split <;> rfl
    rw [this]
    exact undefRep

/-- An iterator, by its body's abstract code. -/
theorem iter_of_wp {α : Type} (B : Nat) (hT : TabOk P T) {f : FuncId} {fn : Func} {c : Code} (hf : P.funcs[f]? = some fn) (hb : fn.body = some c) (hn : (fn.name == "runtime.NumGoroutine") = false)
    (hres : fn.results = #[]) (hcm : calm c = true) (hok : codeOk fn.ntmps c = true) {caps : List AV} (hargs : caps.length + 1 ≤ fn.ntmps) {own : Nat → Prop} {enc : α → List AV} {g0 : Nat → Nat} {ob0 : Obs} {xs : List α} {Fin : (Nat → Nat) → Obs → Prop}
    (h : ∀ (b₀ : Bs) (Φ : (Nat → Nat) → Obs → Loc → World → Prop) (l : Nat) (J : Nat → (Nat → Nat) → Obs → Prop) (Jx : (Nat → Nat) → Obs → Prop), KeptTr b₀ (onObj Φ) →
      (∀ k g ob g' ob', J k g ob → (∀ id, ¬ own id → g' id = g id ∧ ob' id = ob id) → J k g' ob') → (∀ g ob g' ob', Jx g ob → (∀ id, ¬ own id → g' id = g id ∧ ob' id = ob id) → Jx g' ob') →
      (∀ k x g ob, xs[k]? = some x → J k g ob → YieldF P b₀ Φ l (enc x) g ob (fun r g' ob' => (∀ id, own id → g' id = g id ∧ ob' id = ob id) ∧ ((r = bv true ∧ J (k + 1) g' ob') ∨ (r = bv false ∧ Jx g' ob')))) →
      J 0 g0 ob0 → wpC (spF P none b₀ (onObj Φ) B noPan) T c (bx (RetI (fun g ob => J xs.length g ob ∧ Fin g ob) Jx)) ⟨initF (.one (.d (.yld l)) :: caps), g0, ob0⟩) : IterR P f caps own enc g0 ob0 xs Fin := by
  refine ⟨⟨fn, hf, by rw [hb]; rfl, hn⟩, fun b₀ Φ l J Jx hΦ hJ hJx hY h0 N β a fa w vs hr0 hφ hv => ?_⟩
  refine callsIn_of_wp hf hb trivial ?_
  have hv' : RepVs b₀ β g0 ob0 w (.one (.d (.yld l)) :: caps) (.func (.yield l) #[] #[] :: vs) := by
    simp only [RepVs]
    exact ⟨_, _, rfl, by simp only [RepV, RepC]; exact .yld l, hv⟩
  have hr := rel_init (N := fn.ntmps) (by simpa using hargs) hr0 hv'
  rw [show (Value.func (.yield l) #[] #[] :: vs).toArray = #[.func (.yield l) #[] #[]] ++ vs.toArray from Array.ext' (by simp)] at hr
  refine wpIn_mono (wpC_soundF (rd := none) (B := B) (ds := []) hT hΦ c hcm hok hr ⟨rfl, hφ⟩ (h b₀ Φ l J Jx hΦ hJ hJx hY h0)) (fun e a' w' hp => ?_)
  obtain ⟨s', β', a0, ds', rfl, hQ, hr', rfl, hφ'⟩ := hp.plain
  have hres' : RetI (fun g ob => J xs.length g ob ∧ Fin g ob) Jx .ret s' → ∃ v, (results fn a0.tmps).run P w' = .ok v w' ∧ ∃ v' g' ob' β', Ending.returned v = .returned v' ∧ ((J xs.length g' ob' ∧ Fin g' ob') ∨ Jx g' ob') ∧
      (∀ id cells, ob' id = some cells → ObjAt b₀ β' g' ob' w' (g' id) cells (β' id)) ∧ (∀ id id' a a', (ob' id).isSome = true → (ob' id').isSome = true → β' id = some a → β' id' = some a' → a.block = a'.block → id = id') ∧ b₀.B ≤ w'.heap.size ∧ Φ g' ob' β' w' := by
    rintro ⟨s2, hvs, hR⟩
    obtain ⟨β2, hr2, ht2⟩ := hvs b₀ fn.ntmps β' a0 w' hr'
    exact ⟨_, run_results [] hres a0.tmps, _, _, _, β2, rfl, hR, hr2.obj, hr2.inj, hr2.base, (hΦ _ _ [] _ _ _ _ ⟨rfl, hφ'⟩ ht2).2⟩
  cases e with
  | normal => exact ⟨rfl, hres' hQ⟩
  | ret => exact ⟨rfl, hres' hQ⟩
  | exit id => exact hQ.elim
  | goto l => exact hQ.elim
  | panic ch => exact hQ.elim
  | outgrown => exact hQ.elim

end
end Go.Am

namespace Go.Am

/-- Marks among an activation's deferred calls: empty blocks, each its own. -/
def Mk (b₀ : Bs) (β : Loc) (ob : Obs) (w : World) (n₀ : Nat) : List Deferred → Prop
  | [] => True
  | d :: ds => (∃ D, d = { target := .collected D, args := #[] } ∧ n₀ ≤ D ∧ Imm b₀ β ob w D ∧ w.heap[D]? = some (.deferred (some [])) ∧ ∀ d' ∈ ds, d' ≠ d) ∧ Mk b₀ β ob w n₀ ds

/-- What holds of an activation that may hold marks. -/
def PhiC (b₀ : Bs) (β0 : Loc) (s0 : St) (w0 : World) : St → Loc → List Deferred → World → Prop := fun s β ds w => Tr b₀ β0 s0 w0 β s w ∧ Mk b₀ β s.obj w w0.heap.size ds

theorem Mk.keep {b₀ : Bs} {β β' : Loc} {s s' : St} {w w' : World} (h : Tr b₀ β s w β' s' w') {n₀ : Nat} : ∀ {ds : List Deferred}, Mk b₀ β s.obj w n₀ ds → Mk b₀ β' s'.obj w' n₀ ds
  | [], _ => trivial
  | d :: ds, hm => by
    obtain ⟨⟨D, h1, h2, h3, h4, h5⟩, hr⟩ := hm
    exact ⟨⟨D, h1, h2, (h.imm D h3).1, by rw [(h.imm D h3).2]; exact h4, h5⟩, Mk.keep h hr⟩

theorem kept_phiC {b₀ : Bs} {β0 : Loc} {s0 : St} {w0 : World} : KeptTr b₀ (PhiC b₀ β0 s0 w0) := fun _ _ _ _ _ _ _ h ht => ⟨h.1.trans ht, h.2.keep ht⟩

/-- Slots are set. -/
def setPs (f : Nat → AV) : List Nat → List AV → Nat → AV
  | p :: ps, v :: vs => setPs (upd f p v) ps vs
  | _, _ => f
@[go_sem] theorem setPs_cons {f : Nat → AV} {p : Nat} {ps : List Nat} {v : AV} {vs : List AV} : setPs f (p :: ps) (v :: vs) = setPs (upd f p v) ps vs := Eq.trans rfl rfl
@[go_sem] theorem setPs_nil {f : Nat → AV} {vs : List AV} : setPs f [] vs = f := Eq.trans rfl rfl

/-- At the end of a round's body. -/
def BodQ (Pr : Nat → Prop) (J1 Jx : (Nat → Nat) → Obs → Prop) (g : Nat → Nat) (ob : Obs) : Exit → St → Prop
  | .normal, s => (∀ id, Pr id → s.gen id = g id ∧ s.obj id = ob id) ∧ J1 s.gen s.obj
  | .ret, s => (∀ id, Pr id → s.gen id = g id ∧ s.obj id = ob id) ∧ Jx s.gen s.obj
  | _, _ => False
@[go_sem] theorem BodQ_normal {Pr : Nat → Prop} {J1 Jx : (Nat → Nat) → Obs → Prop} {g : Nat → Nat} {ob : Obs} {s : St} : BodQ Pr J1 Jx g ob .normal s = ((∀ id, Pr id → s.gen id = g id ∧ s.obj id = ob id) ∧ J1 s.gen s.obj) := Eq.trans rfl rfl
@[go_sem] theorem BodQ_ret {Pr : Nat → Prop} {J1 Jx : (Nat → Nat) → Obs → Prop} {g : Nat → Nat} {ob : Obs} {s : St} : BodQ Pr J1 Jx g ob .ret s = ((∀ id, Pr id → s.gen id = g id ∧ s.obj id = ob id) ∧ Jx s.gen s.obj) := Eq.trans rfl rfl

/-- At the end of the assignments at a round's head: the body. -/
def AsgQ (P : Program) (T : Nat → TI) (b₀ : Bs) (B lam l : Nat) (Pr : Nat → Prop) (body : Code) (J1 Jx : (Nat → Nat) → Obs → Prop) (g : Nat → Nat) (ob : Obs) : Exit → St → Prop
  | .normal, s => (∀ id, Pr id → s.gen id = g id ∧ s.obj id = ob id) ∧ ∀ (o : Obj) (Φ : St → Loc → List Deferred → World → Prop), KeptTr b₀ Φ →
      wpC (spF P (some l) b₀ Φ B noPan) T body (bx (BodQ Pr J1 Jx s.gen (upd s.obj lam (some [.raw o])))) ⟨s.f, s.gen, upd s.obj lam (some [.raw o])⟩
  | _, _ => False
@[go_sem] theorem AsgQ_normal {P : Program} {T : Nat → TI} {b₀ : Bs} {B lam l : Nat} {Pr : Nat → Prop} {body : Code} {J1 Jx : (Nat → Nat) → Obs → Prop} {g : Nat → Nat} {ob : Obs} {s : St} :
    AsgQ P T b₀ B lam l Pr body J1 Jx g ob .normal s = ((∀ id, Pr id → s.gen id = g id ∧ s.obj id = ob id) ∧ ∀ (o : Obj) (Φ : St → Loc → List Deferred → World → Prop), KeptTr b₀ Φ →
      wpC (spF P (some l) b₀ Φ B noPan) T body (bx (BodQ Pr J1 Jx s.gen (upd s.obj lam (some [.raw o])))) ⟨s.f, s.gen, upd s.obj lam (some [.raw o])⟩) := Eq.trans rfl rfl

section
variable {P : Program} {T : Nat → TI} {b₀ : Bs} {β : Loc} {w : World}

theorem raw_at {N : Nat} {s : St} {a : Act} (hr : Rel b₀ N s β a w) {lam l : Nat} {o : Obj} (ho : s.obj lam = some [.raw o]) (hβ : β lam = some ⟨l, 0, some 100⟩) : w.heap[l]? = some o := by
  have h := hr.obj lam _ ho
  rw [hβ] at h
  obtain ⟨_, ⟨es, clock, _, h2⟩ | ⟨_, o', h1, h2⟩⟩ := h.map rfl
  · generalize es.toList = el at h2
    cases h2
  · simp only [List.cons.injEq, C.raw.injEq, and_true] at h1
    subst h1; exact h2

theorem rel_setRaw {N : Nat} {f : Nat → AV} {g : Nat → Nat} {ob : Obs} {a : Act} (hr : Rel b₀ N ⟨f, g, ob⟩ β a w) {lam l : Nat} {o : Obj} (ho : ob lam = some [.raw o]) (hβ : β lam = some ⟨l, 0, some 100⟩) (o' : Obj) (hno : ∀ arr el fr, o' ≠ .cells arr el fr) :
    Rel b₀ N ⟨f, g, upd ob lam (some [.raw o'])⟩ β a (w.putObj l o') ∧ Tr b₀ β ⟨f, g, ob⟩ w β ⟨f, g, upd ob lam (some [.raw o'])⟩ (w.putObj l o') := by
  have hB : b₀.B ≤ l := by
    have h := hr.obj lam _ ho
    rw [hβ] at h
    exact h.block.1
  have hlt : l < w.heap.size := (Array.getElem?_eq_some_iff.1 (raw_at hr ho hβ)).1
  have hother : ∀ b, b ≠ l → (w.putObj l o').heap[b]? = w.heap[b]? := fun b hb => World.putObj_heap_other hb
  have hsome : ∀ i, (upd ob lam (some [.raw o']) i).isSome = (ob i).isSome := fun i => by
    simp only [upd]
    split
    · rename_i he; rw [he, ho]; rfl
    · rfl
  have hkeep : Keep b₀ β g ob w β g (upd ob lam (some [.raw o'])) (w.putObj l o') := by
    refine ⟨fun b hb => ?_, fun _ => Nat.le_refl _, fun i _ hi' => ?_⟩
    · have hne : b ≠ l := fun he => hb.2.2 lam _ (by simp [ho]) hβ he.symm
      exact ⟨⟨by simpa using hb.1, hb.2.1, fun i a' hi' => hb.2.2 i a' (by rw [← hsome i]; exact hi')⟩, hother b hne⟩
    · rw [hsome i] at hi'
      refine ⟨hi', rfl, fun a' ha' arr1 el1 fr1 h1 => ?_⟩
      by_cases hb : a'.block = l
      · rw [hb, World.putObj_heap_same hlt] at h1
        exact absurd (Option.some.inj h1) (hno _ _ _)
      · simp only [hother _ hb] at h1
        exact ⟨arr1, el1, fr1, h1, Nat.le_refl _⟩
  refine ⟨⟨hr.defers, hr.size, fun i => RepV.keep hkeep _ (hr.f i), fun i cells' hc' => ?_, fun i i' a1 a2 h1 h2 => hr.inj i i' a1 a2 (by rw [← hsome i]; exact h1) (by rw [← hsome i']; exact h2), by simpa using hr.base⟩,
    by simp, fun b hb => hother b (by omega), hkeep, rfl, rfl⟩
  by_cases hid : i = lam
  · subst hid
    simp only [upd, if_true, Option.some.injEq] at hc'
    subst hc'
    rw [hβ]
    exact .ofMap (kd := 100) rfl ⟨hB, .inr ⟨rfl, o', rfl, World.putObj_heap_same hlt⟩⟩
  · have hc'' : ob i = some cells' := by simpa [upd, hid] using hc'
    exact (hr.obj i cells' hc'').keep hkeep (fun a' ha' => hother _ (fun hb => hid (hr.inj i lam a' ⟨l, 0, some 100⟩ (by simp [hc'']) (by simp [ho]) ha' hβ hb)))

theorem setPs_rep {g : Nat → Nat} {ob : Obs} : ∀ {ps : List Nat} {xs : List AV} {vs : List Value} {f : Nat → AV} {t : Array Value}, (∀ p ∈ ps, p < t.size) → (∀ i, RepV b₀ β g ob w (f i) (t.getD i undef)) → RepVs b₀ β g ob w xs vs →
    (∀ i, RepV b₀ β g ob w (setPs f ps xs i) (((ps.zip vs).foldl (fun t (p : Nat × Value) => t.setIfInBounds p.1 p.2) t).getD i undef)) ∧ ((ps.zip vs).foldl (fun t (p : Nat × Value) => t.setIfInBounds p.1 p.2) t).size = t.size
  | [], xs, vs, f, t, _, h, _ => ⟨by simpa [setPs] using h, rfl⟩
  | p :: ps, [], vs, f, t, hp, h, hv => by
    simp only [RepVs] at hv
    subst hv
    exact ⟨by simpa [setPs] using h, rfl⟩
  | p :: ps, x :: xs, vs, f, t, hp, h, hv => by
    simp only [RepVs] at hv
    obtain ⟨u, us, rfl, h1, h2⟩ := hv
    simp only [List.zip_cons_cons, List.foldl_cons, setPs]
    have := setPs_rep (ps := ps) (xs := xs) (vs := us) (f := upd f p x) (t := t.setIfInBounds p u) (fun q hq => by simpa using hp q (by simp [hq])) (fun i => by
      simp only [upd]
      have hlt := hp p (by simp)
      by_cases hi : i = p
      · subst hi
        simpa [Array.getD, hlt] using h1
      · have hf := h i
        simp only [hi, if_false]
        simpa [Array.getD_eq_getD_getElem?, Array.getElem?_setIfInBounds_ne (Ne.symm hi)] using hf) h2
    refine ⟨this.1, by rw [this.2]; simp⟩

end
end Go.Am
