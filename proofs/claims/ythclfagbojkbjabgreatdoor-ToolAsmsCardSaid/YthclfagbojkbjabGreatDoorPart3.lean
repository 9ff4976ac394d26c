/- A part of the proof; no conditions. -/
import Derived.Test.YthclfagbojkbjabGreatDoorPart2
import Derived.RangeFuncSeq
import Derived.Below
import Derived.Lib.UnsafeStr
import Derived.Laws.Externs
import Derived.Handed
import Derived.Lay
import Derived.LaidMore
import Derived.SevenTiedAt
import Derived.Stop.Joined
import Derived.Lib.Bytealg
import Derived.Shelf.Strings.IndexAnyAll
import Derived.Laws.RangeAny
import Derived.WalkMore
import Derived.Shelf.RegionOpenPlain
import Derived.BigQuiet
import Derived.Laws.Runes
import Derived.Shelf.Small.Utf8
set_option linter.unusedSimpArgs false
set_option linter.unusedVariables false
namespace Go.Am

/-- What a call of yield of the loop l comes to, at these objects. -/
def YieldF (P : Program) (b₀ : Bs) (Φ : (Nat → Nat) → Obs → Loc → World → Prop) (l : Nat) (xs : List AV) (g : Nat → Nat) (ob : Obs) (R : AV → (Nat → Nat) → Obs → Prop) : Prop :=
  ∀ (N : Nat) (β : Loc) (a : Act) (fa : Nat → AV) (w : World) (vs : List Value), Rel b₀ N ⟨fa, g, ob⟩ β a w → Φ g ob β w → RepVs b₀ β g ob w xs vs →
    YieldAt (fen none) 0 P l vs.toArray w fun e w' => ∃ v r g' ob' β', e = .returned v ∧ R r g' ob' ∧ RepV b₀ β' g' ob' w' r v ∧
      (∀ id cells, ob' id = some cells → ObjAt b₀ β' g' ob' w' (g' id) cells (β' id)) ∧ (∀ id id' a a', (ob' id).isSome = true → (ob' id').isSome = true → β' id = some a → β' id' = some a' → a.block = a'.block → id = id') ∧
      Tr b₀ β ⟨fa, g, ob⟩ w β' ⟨fa, g', ob'⟩ w'

/-- What holds of objects and memory alone. -/
def onObj (Φ : (Nat → Nat) → Obs → Loc → World → Prop) : St → Loc → List Deferred → World → Prop := fun s β ds w => ds = [] ∧ Φ s.gen s.obj β w

section
variable {P : Program} {T : Nat → TI} {b₀ : Bs} {w : World}

theorem hook_yield {o : Oper} {s : St} {K : St → Prop} {k : Box K} {B : Nat} {t : Nat} {args : Array Operand} {tys : Array TypeId} (ho : o.op = .call ⟨.value (.tmp t), args, tys⟩) {l : Nat} (hf : s.f t = .one (.d (.yld l)))
    {Φ : (Nat → Nat) → Obs → Loc → World → Prop} (hΦ : KeptTr b₀ (onObj Φ)) {R : AV → (Nat → Nat) → Obs → Prop} (hY : YieldF P b₀ Φ l (args.toList.map s.ev) s.gen s.obj R) (hk : ∀ r g' ob', R r g' ob' → K (St.put ⟨s.f, g', ob'⟩ o.dst r)) :
    hookA (spF P none b₀ (onObj Φ) B noPan) o s k := by
  refine ⟨fun s' => ∃ r g' ob', R r g' ob' ∧ s' = St.put ⟨s.f, g', ob'⟩ o.dst r, fun N β a ds w hr hφ hd next Q hn _ => ?_, fun _ ⟨r, g', ob', hr, e⟩ => e ▸ hk r g' ob' hr⟩
  have hv := hr.f t
  rw [hf] at hv
  simp only [RepV, RepC] at hv
  have hv : a.tmps.getD t undef = .func (.yield l) #[] #[] := by generalize a.tmps.getD t undef = v at hv; cases hv; rfl
  obtain ⟨fn, tmps, assign, body, hy, hR⟩ := hY N β a s.f w (args.toList.map a.eval) hr hφ.2 (args_rep hr _)
  rw [show (args.toList.map a.eval).toArray = args.map a.eval from Array.ext' (by simp)] at hy
  refine ⟨fun _ _ => trivial, ?_⟩
  have hrun : (o.semAt (fen none).round ({ a with defers := ds } : Act).eval).run P w = .ok (.round l fn tmps assign body) w := by
    show (execOp a.eval o).run P w = _
    simp [execOp, ho, resolve, Act.eval, hv, Deferred.ofValue, invoke]
    exact hy
  rw [hrun]
  simp only [Oper.uponIn]
  refine ⟨fun h => (by cases h), hR.mono ?_⟩
  rintro e w' ⟨v, r, g', ob', β', rfl, hR', hrep, h1, h2, h3⟩
  obtain ⟨k1, k2⟩ := call_back hr hd hrep h1 h2 h3
  simp only
  rw [put_ds]
  exact hn _ β' _ w' ⟨r, g', ob', hR', rfl⟩ k1 (hΦ _ _ _ _ _ _ _ hφ k2)


/-- What an iterator owes: called with yield, it hands over xs one by one; 'own': the objects that it may turn; enc: an element's values. -/
def IterR {α : Type} (P : Program) (f : FuncId) (caps : List AV) (own : Nat → Prop) (enc : α → List AV) (g0 : Nat → Nat) (ob0 : Obs) (xs : List α) (Fin : (Nat → Nat) → Obs → Prop) : Prop :=
  Fine P f ∧ ∀ (b₀ : Bs) (Φ : (Nat → Nat) → Obs → Loc → World → Prop) (l : Nat) (J : Nat → (Nat → Nat) → Obs → Prop) (Jx : (Nat → Nat) → Obs → Prop), KeptTr b₀ (onObj Φ) →
    (∀ k g ob g' ob', J k g ob → (∀ id, ¬ own id → g' id = g id ∧ ob' id = ob id) → J k g' ob') → (∀ g ob g' ob', Jx g ob → (∀ id, ¬ own id → g' id = g id ∧ ob' id = ob id) → Jx g' ob') →
    (∀ k x g ob, xs[k]? = some x → J k g ob → YieldF P b₀ Φ l (enc x) g ob (fun r g' ob' => (∀ id, own id → g' id = g id ∧ ob' id = ob id) ∧ ((r = bv true ∧ J (k + 1) g' ob') ∨ (r = bv false ∧ Jx g' ob')))) →
    J 0 g0 ob0 → ∀ (N : Nat) (β : Loc) (a : Act) (fa : Nat → AV) (w : World) (vs : List Value), Rel b₀ N ⟨fa, g0, ob0⟩ β a w → Φ g0 ob0 β w → RepVs b₀ β g0 ob0 w caps vs →
      CallsIn (fen none) 0 P f (#[.func (.yield l) #[] #[]] ++ vs.toArray) w fun e w' => ∃ v g' ob' β', e = .returned v ∧ ((J xs.length g' ob' ∧ Fin g' ob') ∨ Jx g' ob') ∧
        (∀ id cells, ob' id = some cells → ObjAt b₀ β' g' ob' w' (g' id) cells (β' id)) ∧ (∀ id id' a a', (ob' id).isSome = true → (ob' id').isSome = true → β' id = some a → β' id' = some a' → a.block = a'.block → id = id') ∧ b₀.B ≤ w'.heap.size ∧ Φ g' ob' β' w'

/-- At an iterator's end. -/
def RetI (J : (Nat → Nat) → Obs → Prop) (Jx : (Nat → Nat) → Obs → Prop) : Exit → St → Prop
  | .normal, s | .ret, s => ∃ s', SemVs s s' ∧ (J s'.gen s'.obj ∨ Jx s'.gen s'.obj)
  | _, _ => False

theorem rel_init {N : Nat} {xs : List AV} {vs : List Value} {g : Nat → Nat} {ob : Obs} {β : Loc} {fa : Nat → AV} {M : Nat} {a : Act} (hargs : xs.length ≤ N) (hr0 : Rel b₀ M ⟨fa, g, ob⟩ β a w) (hv : RepVs b₀ β g ob w xs vs) :
    Rel b₀ N ⟨initF xs, g, ob⟩ β { tmps := vs.toArray ++ Array.replicate (N - vs.toArray.size) undef, defers := [] } w := by
  have hl := hv.len
  refine ⟨rfl, by simp; omega, fun i => ?_, hr0.obj, hr0.inj, hr0.base⟩
  simp only [initF]
  cases hx : xs[i]? with
  | some x =>
    obtain ⟨v, h1, h2⟩ := hv.get hx
    have hlt : i < vs.length := (List.getElem?_eq_some_iff.1 h1).1
    have : (vs.toArray ++ Array.replicate (N - vs.toArray.size) undef).getD i undef = v := by
      rw [Array.getD_eq_getD_getElem?, Array.getElem?_append_left (by simpa using hlt)]
      simp [h1]
    rw [this]
    simpa only [Option.getD_some] using h2
  | none =>
    have hge : xs.length ≤ i := by simpa using hx
    have : (vs.toArray ++ Array.replicate (N - vs.toArray.size) undef).getD i undef = undef := by
      rw [Array.getD_eq_getD_getElem?, Array.getElem?_append_right (by simp; omega)]
      simp [Array.getElem?_replicate]
      split <;> rfl
    rw [this]
    exact undefRep

/-- An iterator, by its body's abstract code. -/
theorem iter_of_wp {α : Type} (B : Nat) (hT : TabOk P T) {f : FuncId} {fn : Func} {c : Code} (hf : P.funcs[f]? = some fn) (hb : fn.body = some c) (hn : (fn.name == "runtime.NumGoroutine") = false)
    (hres : fn.results = #[]) (hcm : calm c = true) (hok : codeOk fn.ntmps c = true) {caps : List AV} (hargs : caps.length + 1 ≤ fn.ntmps) {own : Nat → Prop} {enc : α → List AV} {g0 : Nat → Nat} {ob0 : Obs} {xs : List α} {Fin : (Nat → Nat) → Obs → Prop}
    (h : ∀ (b₀ : Bs) (Φ : (Nat → Nat) → Obs → Loc → World → Prop) (l : Nat) (J : Nat → (Nat → Nat) → Obs → Prop) (Jx : (Nat → Nat) → Obs → Prop), KeptTr b₀ (onObj Φ) →
      (∀ k g ob g' ob', J k g ob → (∀ id, ¬ own id → g' id = g id ∧ ob' id = ob id) → J k g' ob') → (∀ g ob g' ob', Jx g ob → (∀ id, ¬ own id → g' id = g id ∧ ob' id = ob id) → Jx g' ob') →
      (∀ k x g ob, xs[k]? = some x → J k g ob → YieldF P b₀ Φ l (enc x) g ob (fun r g' ob' => (∀ id, own id → g' id = g id ∧ ob' id = ob id) ∧ ((r = bv true ∧ J (k + 1) g' ob') ∨ (r = bv false ∧ Jx g' ob')))) →
      J 0 g0 ob0 → wpC (spF P none b₀ (onObj Φ) B noPan) T c (bx (RetI (fun g ob => J xs.length g ob ∧ Fin g ob) Jx)) ⟨initF (.one (.d (.yld l)) :: caps), g0, ob0⟩) : IterR P f caps own enc g0 ob0 xs Fin := by
  refine ⟨⟨fn, hf, by rw [hb]; rfl, hn⟩, fun b₀ Φ l J Jx hΦ hJ hJx hY h0 N β a fa w vs hr0 hφ hv => ?_⟩
  refine callsIn_of_wp hf hb trivial ?_
  have hv' : RepVs b₀ β g0 ob0 w (.one (.d (.yld l)) :: caps) (.func (.yield l) #[] #[] :: vs) := by
    simp only [RepVs]
    exact ⟨_, _, rfl, by simp only [RepV, RepC]; exact .yld l, hv⟩
  have hr := rel_init (N := fn.ntmps) (by simpa using hargs) hr0 hv'
  rw [show (Value.func (.yield l) #[] #[] :: vs).toArray = #[.func (.yield l) #[] #[]] ++ vs.toArray from Array.ext' (by simp)] at hr
  refine wpIn_mono (wpC_soundF (rd := none) (B := B) (ds := []) hT hΦ c hcm hok hr ⟨rfl, hφ⟩ (h b₀ Φ l J Jx hΦ hJ hJx hY h0)) (fun e a' w' hp => ?_)
  obtain ⟨s', β', a0, ds', rfl, hQ, hr', rfl, hφ'⟩ := hp.plain
  have hres' : RetI (fun g ob => J xs.length g ob ∧ Fin g ob) Jx .ret s' → ∃ v, (results fn a0.tmps).run P w' = .ok v w' ∧ ∃ v' g' ob' β', Ending.returned v = .returned v' ∧ ((J xs.length g' ob' ∧ Fin g' ob') ∨ Jx g' ob') ∧
      (∀ id cells, ob' id = some cells → ObjAt b₀ β' g' ob' w' (g' id) cells (β' id)) ∧ (∀ id id' a a', (ob' id).isSome = true → (ob' id').isSome = true → β' id = some a → β' id' = some a' → a.block = a'.block → id = id') ∧ b₀.B ≤ w'.heap.size ∧ Φ g' ob' β' w' := by
    rintro ⟨s2, hvs, hR⟩
    obtain ⟨β2, hr2, ht2⟩ := hvs b₀ fn.ntmps β' a0 w' hr'
    exact ⟨_, run_results [] hres a0.tmps, _, _, _, β2, rfl, hR, hr2.obj, hr2.inj, hr2.base, (hΦ _ _ [] _ _ _ _ ⟨rfl, hφ'⟩ ht2).2⟩
  cases e with
  | normal => exact ⟨rfl, hres' hQ⟩
  | ret => exact ⟨rfl, hres' hQ⟩
  | exit id => exact hQ.elim
  | goto l => exact hQ.elim
  | panic ch => exact hQ.elim
  | outgrown => exact hQ.elim

end
end Go.Am

namespace Go.Am

/-- Marks among an activation's deferred calls: empty blocks, each its own. -/
def Mk (b₀ : Bs) (β : Loc) (ob : Obs) (w : World) (n₀ : Nat) : List Deferred → Prop
  | [] => True
  | d :: ds => (∃ D, d = { target := .collected D, args := #[] } ∧ n₀ ≤ D ∧ Imm b₀ β ob w D ∧ w.heap[D]? = some (.deferred (some [])) ∧ ∀ d' ∈ ds, d' ≠ d) ∧ Mk b₀ β ob w n₀ ds

/-- What holds of an activation that may hold marks. -/
def PhiC (b₀ : Bs) (β0 : Loc) (s0 : St) (w0 : World) : St → Loc → List Deferred → World → Prop := fun s β ds w => Tr b₀ β0 s0 w0 β s w ∧ Mk b₀ β s.obj w w0.heap.size ds

theorem Mk.keep {b₀ : Bs} {β β' : Loc} {s s' : St} {w w' : World} (h : Tr b₀ β s w β' s' w') {n₀ : Nat} : ∀ {ds : List Deferred}, Mk b₀ β s.obj w n₀ ds → Mk b₀ β' s'.obj w' n₀ ds
  | [], _ => trivial
  | d :: ds, hm => by
    obtain ⟨⟨D, h1, h2, h3, h4, h5⟩, hr⟩ := hm
    exact ⟨⟨D, h1, h2, (h.imm D h3).1, by rw [(h.imm D h3).2]; exact h4, h5⟩, Mk.keep h hr⟩

theorem kept_phiC {b₀ : Bs} {β0 : Loc} {s0 : St} {w0 : World} : KeptTr b₀ (PhiC b₀ β0 s0 w0) := fun _ _ _ _ _ _ _ h ht => ⟨h.1.trans ht, h.2.keep ht⟩

/-- Slots are set. -/
def setPs (f : Nat → AV) : List Nat → List AV → Nat → AV
  | p :: ps, v :: vs => setPs (upd f p v) ps vs
  | _, _ => f
@[go_sem] theorem setPs_cons {f : Nat → AV} {p : Nat} {ps : List Nat} {v : AV} {vs : List AV} : setPs f (p :: ps) (v :: vs) = setPs (upd f p v) ps vs := Eq.trans rfl rfl
@[go_sem] theorem setPs_nil {f : Nat → AV} {vs : List AV} : setPs f [] vs = f := Eq.trans rfl rfl

/-- At the end of a round's body. -/
def BodQ (Pr : Nat → Prop) (J1 Jx : (Nat → Nat) → Obs → Prop) (g : Nat → Nat) (ob : Obs) : Exit → St → Prop
  | .normal, s => (∀ id, Pr id → s.gen id = g id ∧ s.obj id = ob id) ∧ J1 s.gen s.obj
  | .ret, s => (∀ id, Pr id → s.gen id = g id ∧ s.obj id = ob id) ∧ Jx s.gen s.obj
  | _, _ => False
@[go_sem] theorem BodQ_normal {Pr : Nat → Prop} {J1 Jx : (Nat → Nat) → Obs → Prop} {g : Nat → Nat} {ob : Obs} {s : St} : BodQ Pr J1 Jx g ob .normal s = ((∀ id, Pr id → s.gen id = g id ∧ s.obj id = ob id) ∧ J1 s.gen s.obj) := Eq.trans rfl rfl
@[go_sem] theorem BodQ_ret {Pr : Nat → Prop} {J1 Jx : (Nat → Nat) → Obs → Prop} {g : Nat → Nat} {ob : Obs} {s : St} : BodQ Pr J1 Jx g ob .ret s = ((∀ id, Pr id → s.gen id = g id ∧ s.obj id = ob id) ∧ Jx s.gen s.obj) := Eq.trans rfl rfl

/-- At the end of the assignments at a round's head: the body. -/
def AsgQ (P : Program) (T : Nat → TI) (b₀ : Bs) (B lam l : Nat) (Pr : Nat → Prop) (body : Code) (J1 Jx : (Nat → Nat) → Obs → Prop) (g : Nat → Nat) (ob : Obs) : Exit → St → Prop
  | .normal, s => (∀ id, Pr id → s.gen id = g id ∧ s.obj id = ob id) ∧ ∀ (o : Obj) (Φ : St → Loc → List Deferred → World → Prop), KeptTr b₀ Φ →
      wpC (spF P (some l) b₀ Φ B noPan) T body (bx (BodQ Pr J1 Jx s.gen (upd s.obj lam (some [.raw o])))) ⟨s.f, s.gen, upd s.obj lam (some [.raw o])⟩
  | _, _ => False
@[go_sem] theorem AsgQ_normal {P : Program} {T : Nat → TI} {b₀ : Bs} {B lam l : Nat} {Pr : Nat → Prop} {body : Code} {J1 Jx : (Nat → Nat) → Obs → Prop} {g : Nat → Nat} {ob : Obs} {s : St} :
    AsgQ P T b₀ B lam l Pr body J1 Jx g ob .normal s = ((∀ id, Pr id → s.gen id = g id ∧ s.obj id = ob id) ∧ ∀ (o : Obj) (Φ : St → Loc → List Deferred → World → Prop), KeptTr b₀ Φ →
      wpC (spF P (some l) b₀ Φ B noPan) T body (bx (BodQ Pr J1 Jx s.gen (upd s.obj lam (some [.raw o])))) ⟨s.f, s.gen, upd s.obj lam (some [.raw o])⟩) := Eq.trans rfl rfl

section
variable {P : Program} {T : Nat → TI} {b₀ : Bs} {β : Loc} {w : World}

theorem raw_at {N : Nat} {s : St} {a : Act} (hr : Rel b₀ N s β a w) {lam l : Nat} {o : Obj} (ho : s.obj lam = some [.raw o]) (hβ : β lam = some ⟨l, 0, some 100⟩) : w.heap[l]? = some o := by
  have h := hr.obj lam _ ho
  rw [hβ] at h
  obtain ⟨_, ⟨es, clock, _, h2⟩ | ⟨_, o', h1, h2⟩⟩ := h.map rfl
  · generalize es.toList = el at h2
    cases h2
  · simp only [List.cons.injEq, C.raw.injEq, and_true] at h1
    subst h1; exact h2

theorem rel_setRaw {N : Nat} {f : Nat → AV} {g : Nat → Nat} {ob : Obs} {a : Act} (hr : Rel b₀ N ⟨f, g, ob⟩ β a w) {lam l : Nat} {o : Obj} (ho : ob lam = some [.raw o]) (hβ : β lam = some ⟨l, 0, some 100⟩) (o' : Obj) (hno : ∀ arr el fr, o' ≠ .cells arr el fr) :
    Rel b₀ N ⟨f, g, upd ob lam (some [.raw o'])⟩ β a (w.putObj l o') ∧ Tr b₀ β ⟨f, g, ob⟩ w β ⟨f, g, upd ob lam (some [.raw o'])⟩ (w.putObj l o') := by
  have hB : b₀.B ≤ l := by
    have h := hr.obj lam _ ho
    rw [hβ] at h
    exact h.block.1
  have hlt : l < w.heap.size := (Array.getElem?_eq_some_iff.1 (raw_at hr ho hβ)).1
  have hother : ∀ b, b ≠ l → (w.putObj l o').heap[b]? = w.heap[b]? := fun b hb => World.putObj_heap_other hb
  have hsome : ∀ i, (upd ob lam (some [.raw o']) i).isSome = (ob i).isSome := fun i => by
    simp only [upd]
    split
    · rename_i he; rw [he, ho]; rfl
    · rfl
  have hkeep : Keep b₀ β g ob w β g (upd ob lam (some [.raw o'])) (w.putObj l o') := by
    refine ⟨fun b hb => ?_, fun _ => Nat.le_refl _, fun i _ hi' => ?_⟩
    · have hne : b ≠ l := fun he => hb.2.2 lam _ (by simp [ho]) hβ he.symm
      exact ⟨⟨by simpa using hb.1, hb.2.1, fun i a' hi' => hb.2.2 i a' (by rw [← hsome i]; exact hi')⟩, hother b hne⟩
    · rw [hsome i] at hi'
      refine ⟨hi', rfl, fun a' ha' arr1 el1 fr1 h1 => ?_⟩
      by_cases hb : a'.block = l
      · rw [hb, World.putObj_heap_same hlt] at h1
        exact absurd (Option.some.inj h1) (hno _ _ _)
      · simp only [hother _ hb] at h1
        exact ⟨arr1, el1, fr1, h1, Nat.le_refl _⟩
  refine ⟨⟨hr.defers, hr.size, fun i => RepV.keep hkeep _ (hr.f i), fun i cells' hc' => ?_, fun i i' a1 a2 h1 h2 => hr.inj i i' a1 a2 (by rw [← hsome i]; exact h1) (by rw [← hsome i']; exact h2), by simpa using hr.base⟩,
    by simp, fun b hb => hother b (by omega), hkeep, rfl, rfl⟩
  by_cases hid : i = lam
  · subst hid
    simp only [upd, if_true, Option.some.injEq] at hc'
    subst hc'
    rw [hβ]
    exact .ofMap (kd := 100) rfl ⟨hB, .inr ⟨rfl, o', rfl, World.putObj_heap_same hlt⟩⟩
  · have hc'' : ob i = some cells' := by simpa [upd, hid] using hc'
    exact (hr.obj i cells' hc'').keep hkeep (fun a' ha' => hother _ (fun hb => hid (hr.inj i lam a' ⟨l, 0, some 100⟩ (by simp [hc'']) (by simp [ho]) ha' hβ hb)))

theorem setPs_rep {g : Nat → Nat} {ob : Obs} : ∀ {ps : List Nat} {xs : List AV} {vs : List Value} {f : Nat → AV} {t : Array Value}, (∀ p ∈ ps, p < t.size) → (∀ i, RepV b₀ β g ob w (f i) (t.getD i undef)) → RepVs b₀ β g ob w xs vs →
    (∀ i, RepV b₀ β g ob w (setPs f ps xs i) (((ps.zip vs).foldl (fun t (p : Nat × Value) => t.setIfInBounds p.1 p.2) t).getD i undef)) ∧ ((ps.zip vs).foldl (fun t (p : Nat × Value) => t.setIfInBounds p.1 p.2) t).size = t.size
  | [], xs, vs, f, t, _, h, _ => ⟨by simpa [setPs] using h, rfl⟩
  | p :: ps, [], vs, f, t, hp, h, hv => by
    simp only [RepVs] at hv
    subst hv
    exact ⟨by simpa [setPs] using h, rfl⟩
  | p :: ps, x :: xs, vs, f, t, hp, h, hv => by
    simp only [RepVs] at hv
    obtain ⟨u, us, rfl, h1, h2⟩ := hv
    simp only [List.zip_cons_cons, List.foldl_cons, setPs]
    have := setPs_rep (ps := ps) (xs := xs) (vs := us) (f := upd f p x) (t := t.setIfInBounds p u) (fun q hq => by simpa using hp q (by simp [hq])) (fun i => by
      simp only [upd]
      have hlt := hp p (by simp)
      by_cases hi : i = p
      · subst hi
        simpa [Array.getD, hlt] using h1
      · have hf := h i
        simp only [hi, if_false]
        simpa [Array.getD_eq_getD_getElem?, Array.getElem?_setIfInBounds_ne (Ne.symm hi)] using hf) h2
    refine ⟨this.1, by rw [this.2]; simp⟩

end
end Go.Am

namespace Go.Am
section
variable {P : Program} {T : Nat → TI} {b₀ : Bs} {β : Loc} {w : World}

theorem mk_fresh {β : Loc} {ob : Obs} {n₀ : Nat} : ∀ {ds : List Deferred}, Mk b₀ β ob w n₀ ds → ∀ d ∈ ds, d ≠ { target := .collected w.heap.size, args := #[] }
  | [], _, d, hd, _ => by cases hd
  | d0 :: ds, hm, d, hd, he => by
    obtain ⟨⟨D, h1, _, h3, _, _⟩, hr⟩ := hm
    rcases List.mem_cons.1 hd with rfl | hd
    · rw [h1] at he
      simp only [Deferred.mk.injEq, Target.collected.injEq, and_true] at he
      have := h3.1
      omega
    · exact mk_fresh hr d hd he

theorem hook_range {α : Type} {Fin : (Nat → Nat) → Obs → Prop} (hT : TabOk P T) {gop : Operand} {ps : Array Tmp} {assign body : Code} {s : St} {Q : Exit → St → Prop} {q : Box Q} {B : Nat} {β0 : Loc} {s0 : St} {w0 : World} {fid : FuncId} {caps : List PC} (hg : s.ev gop = .one (.clo fid caps))
    (lam : Nat) (Pr own : Nat → Prop) (hPl : Pr lam) (hol : ¬ own lam) (hop : ∀ id, own id → Pr id) (enc : α → List AV) (xs : List α) (henc : ∀ x, (enc x).length = ps.size)
    (hcm : calm assign = true) (hcm2 : calm body = true)
    (hit : ∀ g ob, (∀ id, id ≠ lam → g id = s.gen id ∧ ob id = s.obj id) → IterR P fid (caps.map pcAV) own enc g ob xs Fin)
    (hFin : ∀ g ob g' ob', Fin g ob → (∀ id, id ≠ lam → g' id = g id ∧ ob' id = ob id) → Fin g' ob')
    (J : Nat → (Nat → Nat) → Obs → Prop) (Jx : (Nat → Nat) → Obs → Prop) (hJ : ∀ k g ob g' ob', J k g ob → (∀ id, ¬ Pr id → g' id = g id ∧ ob' id = ob id) → J k g' ob') (hJx : ∀ g ob g' ob', Jx g ob → (∀ id, ¬ Pr id → g' id = g id ∧ ob' id = ob id) → Jx g' ob')
    (h0 : J 0 s.gen s.obj)
    (hround : ∀ (k : Nat) (x : α) (g : Nat → Nat) (ob : Obs), xs[k]? = some x → J k g ob → ∀ (l : Nat) (Φ : St → Loc → List Deferred → World → Prop), KeptTr b₀ Φ →
      wpC (spF P (some l) b₀ Φ B noPan) T assign (bx (AsgQ P T b₀ B lam l Pr body (J (k + 1)) Jx g ob)) ⟨setPs s.f ps.toList (enc x), g, ob⟩)
    (hdone : ∀ g' ob', J xs.length g' ob' → Fin g' ob' → Q .normal ⟨s.f, g', ob'⟩) (hret : ∀ g' ob', Jx g' ob' → Q .ret ⟨s.f, g', ob'⟩) :
    hookC (spF P none b₀ (PhiC b₀ β0 s0 w0) B noPan) (.rangeFunc gop ps assign body) s q := by
  refine ⟨Q, fun N β a ds w hc hr hφ => ?_, fun _ _ h => h⟩
  simp only [codeOk, Bool.and_eq_true] at hc
  have hsl : ∀ p ∈ ps.toList, p < N := fun p hp => of_decide_eq_true (List.all_eq_true.1 hc.1.1 p hp)
  have hc : codeOk N assign = true ∧ codeOk N body = true := ⟨hc.1.2, hc.2⟩
  refine wpIn_rangeFunc fun fn _ => ?_
  obtain ⟨rec, hrec⟩ : ∃ rec : LoopState → Option Code → Loop, rec = fun st pe => { state := st, pending := pe, fn, tmps := a.tmps, params := ps, assign, body, defers := w.heap.size } := ⟨_, rfl⟩
  obtain ⟨f, g, ob⟩ := s
  -- the two blocks
  obtain ⟨hrD, htD⟩ := hr.grow (w' := w.alloc (.deferred (some []))) (by simp) (fun b hb => RowKit.Below.heap_alloc w _ b hb) ⟨rfl, rfl⟩
  have hD0 : (w.alloc (.deferred (some []))).heap[w.heap.size]? = some (.deferred (some [])) := World.alloc_heap_new w _
  have himD : Imm b₀ β ob (w.alloc (.deferred (some []))) w.heap.size := by
    refine ⟨by simp, fun h => absurd hr.base (by omega), fun id a' ho hβ he => ?_⟩
    obtain ⟨cells, hcells⟩ := Option.isSome_iff_exists.1 ho
    have := hr.obj id cells hcells
    rw [hβ] at this
    have := this.block.2
    omega
  obtain ⟨W1, hW1⟩ : ∃ W1, (w.alloc (.deferred (some []))).alloc (.loop (rec .ready none)) = W1 := ⟨_, rfl⟩
  have hsz1 : (w.alloc (.deferred (some []))).heap.size = w.heap.size + 1 := by simp
  obtain ⟨hr1, ht1⟩ := hrD.newAny (c := 0) lam (w' := (w.alloc (.deferred (some []))).alloc (.loop (rec .ready none))) (o := .loop (rec .ready none)) (ad := ⟨w.heap.size + 1, 0, some 100⟩) (cs := [.raw (.loop (rec .ready none))]) (by simp) rfl ⟨rfl, rfl⟩
    (fun _ => .ofMap (kd := 100) rfl ⟨by have := hrD.base; simp at this ⊢; omega, .inr ⟨rfl, _, rfl, by have := World.alloc_heap_new (w.alloc (.deferred (some []))) (.loop (rec .ready none)); rwa [hsz1] at this⟩⟩)
  rw [hW1] at hr1 ht1
  obtain ⟨l, hl⟩ : ∃ l, w.heap.size + 1 = l := ⟨_, rfl⟩
  rw [hl] at hr1 ht1
  obtain ⟨g1, hg1⟩ : ∃ g1, upd g lam (nxC 0 (g lam)) = g1 := ⟨_, rfl⟩
  obtain ⟨ob1, hob1⟩ : ∃ ob1, upd ob lam (some [C.raw (.loop (rec .ready none))]) = ob1 := ⟨_, rfl⟩
  obtain ⟨β1, hβ1⟩ : ∃ β1, upd β lam (some (⟨l, 0, some 100⟩ : Addr)) = β1 := ⟨_, rfl⟩
  have hr1 : Rel b₀ N ⟨f, g1, ob1⟩ β1 a W1 := by rw [← hg1, ← hob1, ← hβ1]; exact hr1
  have ht1 : Tr b₀ β ⟨f, g, ob⟩ (w.alloc (.deferred (some []))) β1 ⟨f, g1, ob1⟩ W1 := by rw [← hg1, ← hob1, ← hβ1]; exact ht1
  have htW : Tr b₀ β ⟨f, g, ob⟩ w β1 ⟨f, g1, ob1⟩ W1 := htD.trans ht1
  have hob1l : ob1 lam = some [C.raw (.loop (rec .ready none))] := by rw [← hob1]; simp [upd]
  have hβ1l : β1 lam = some ⟨l, 0, some 100⟩ := by rw [← hβ1]; simp [upd]
  have hagree : ∀ id, id ≠ lam → g1 id = g id ∧ ob1 id = ob id := fun id hid => by rw [← hg1, ← hob1]; simp [upd, hid]
  -- the iterator
  obtain ⟨hfine, hiter⟩ := hit g1 ob1 hagree
  have hvg := hr.ev gop
  rw [hg] at hvg
  simp only [RepV, RepC] at hvg
  obtain ⟨vs, hv1, hv2, hv3⟩ := hvg
  have hcv : RepVs b₀ β g ob w (caps.map pcAV) vs.toList := caps_rep (by simpa using hv2) (fun i pc hi => let ⟨u, h1, h2⟩ := hv3 i pc hi; ⟨u, by simpa using h1, h2⟩)
  have hcv1 : RepVs b₀ β1 g1 ob1 W1 (caps.map pcAV) vs.toList := RepVs.keep htW.keep _ hcv
  obtain ⟨Φ, hΦd⟩ : ∃ Φ : (Nat → Nat) → Obs → Loc → World → Prop, Φ = fun g' ob' β' w' => Tr b₀ β1 ⟨f, g1, ob1⟩ W1 β' ⟨f, g', ob'⟩ w' := ⟨_, rfl⟩
  have hΦ : KeptTr b₀ (onObj Φ) := fun s β ds w s' β' w' h ht => ⟨h.1, by
    have h2 := h.2
    rw [hΦd] at h2 ⊢
    have ht' : Tr b₀ β ⟨f, s.gen, s.obj⟩ w β' ⟨f, s'.gen, s'.obj⟩ w' := ⟨ht.size, ht.old, ht.keep, ht.os⟩
    exact h2.trans ht'⟩
  -- the record's place stays
  have hplace : ∀ {g' : Nat → Nat} {ob' : Obs} {β' : Loc} {w' : World} {o : Obj}, Φ g' ob' β' w' → g' lam = g1 lam → ob' lam = some [.raw o] → β' lam = some ⟨l, 0, some 100⟩ := fun h h1 h2 => by
    rw [hΦd] at h
    obtain ⟨_, h3, _⟩ := h.keep.live lam h1 (by simp [h2])
    rw [h3]; exact hβ1l
  have hcalls := hiter b₀ Φ l (fun k g' ob' => J k g' ob' ∧ g' lam = g1 lam ∧ ob' lam = some [.raw (.loop (rec .ready none))]) (fun g' ob' => Jx g' ob' ∧ g' lam = g1 lam ∧ ob' lam = some [.raw (.loop (rec .done (some .ret)))]) hΦ
    (fun k g2 ob2 g' ob' h hs => ⟨hJ _ _ _ _ _ h.1 (fun id hid => hs id (fun ho => hid (hop id ho))), by rw [(hs lam hol).1]; exact h.2.1, by rw [(hs lam hol).2]; exact h.2.2⟩)
    (fun g2 ob2 g' ob' h hs => ⟨hJx _ _ _ _ h.1 (fun id hid => hs id (fun ho => hid (hop id ho))), by rw [(hs lam hol).1]; exact h.2.1, by rw [(hs lam hol).2]; exact h.2.2⟩)
    ?round ⟨hJ 0 g ob g1 ob1 h0 (fun id hid => hagree id (fun h => hid (h ▸ hPl))), by rfl, hob1l⟩ N β1 a f W1 vs.toList hr1 (by rw [hΦd]; exact Tr.refl) hcv1
  case round =>
    rintro k x g2 ob2 hx ⟨hJk, hgl, hol2⟩ N2 β2 a2 fa w2 us hr2 hφ2 hus
    have hβ2 := hplace hφ2 hgl hol2
    have hl2 := raw_at hr2 hol2 hβ2
    have ht2 : Tr b₀ β1 ⟨f, g1, ob1⟩ W1 β2 ⟨f, g2, ob2⟩ w2 := by rw [hΦd] at hφ2; exact hφ2
    have hlen : us.length = ps.size := by rw [hus.len, henc]
    have hy := run_yield (P := P) (args := us.toArray) hl2 (by rw [hrec]; simpa using hlen)
    obtain ⟨hset, hsize⟩ := setPs_rep (ps := ps.toList) (xs := enc x) (vs := us) (f := f) (t := a.tmps) (fun p hp => by rw [hr.size]; exact hsl p hp) (fun i => RepV.keep ht2.keep _ (hr1.f i)) hus
    obtain ⟨T0, hT0⟩ : ∃ T0, (ps.toList.zip us).foldl (fun t (p : Nat × Value) => t.setIfInBounds p.1 p.2) a.tmps = T0 := ⟨_, rfl⟩
    rw [hT0] at hset hsize
    have hfold : ((ps.zip us.toArray).foldl (fun tmps (t, v) => tmps.setIfInBounds t v) a.tmps) = T0 := by
      rw [← hT0, ← Array.foldl_toList]
      simp
    have hy : (Instr.yield l us.toArray).run P w2 = .ok (.round l fn T0 assign body) w2 := by rw [hy, hrec]; simp only; rw [hfold]
    refine ⟨fn, T0, assign, body, hy, roundIn_of_wpIn trivial ?_⟩
    show Code.wpIn (fen (some l)) 0 P assign _ _ _
    have hrR : Rel b₀ N ⟨setPs f ps.toList (enc x), g2, ob2⟩ β2 { tmps := T0, defers := [] } w2 := ⟨rfl, by simp only; rw [hsize, hr.size], hset, hr2.obj, hr2.inj, hr2.base⟩
    obtain ⟨ΦR, hΦRd⟩ : ∃ ΦR : (Nat → Nat) → Obs → Loc → World → Prop, ΦR = fun g' ob' β' w' => Tr b₀ β2 ⟨fa, g2, ob2⟩ w2 β' ⟨fa, g', ob'⟩ w' := ⟨_, rfl⟩
    have hΦR : KeptTr b₀ (onObj ΦR) := fun s β ds w s' β' w' h ht => ⟨h.1, by
      have h2 := h.2
      rw [hΦRd] at h2 ⊢
      have ht' : Tr b₀ β ⟨fa, s.gen, s.obj⟩ w β' ⟨fa, s'.gen, s'.obj⟩ w' := ⟨ht.size, ht.old, ht.keep, ht.os⟩
      exact h2.trans ht'⟩
    refine wpIn_mono (wpC_soundF (rd := some l) (B := B) (ds := []) hT hΦR assign hcm hc.1 hrR ⟨rfl, by rw [hΦRd]; exact Tr.refl⟩ (hround k x g2 ob2 hx hJk l _ hΦR)) (fun e a' w3 hp => ?_)
    obtain ⟨s3, β3, a3, ds3, rfl, hQ, hr3, rfl, hφ3⟩ := hp.plain
    cases e with
    | normal =>
      obtain ⟨hsame, hbody⟩ := hQ
      obtain ⟨f3, g3, ob3⟩ := s3
      have ht3 : Tr b₀ β2 ⟨fa, g2, ob2⟩ w2 β3 ⟨fa, g3, ob3⟩ w3 := by rw [hΦRd] at hφ3; exact hφ3
      have hs3 := hsame lam hPl
      simp only at hs3
      have hol3 : ob3 lam = some [C.raw (.loop (rec .ready none))] := by rw [hs3.2]; exact hol2
      have hβ3 : β3 lam = some ⟨l, 0, some 100⟩ := by rw [(ht3.keep.live lam hs3.1 (by simp [hol3])).2.1]; exact hβ2
      have hl3 := raw_at hr3 hol3 hβ3
      have hbeg := run_beginRound (P := P) hl3 (by rw [hrec])
      obtain ⟨o4, ho4, hno4⟩ : ∃ o4, Obj.loop { rec .ready none with state := .busy } = o4 ∧ ∀ arr el fr, o4 ≠ .cells arr el fr := ⟨_, rfl, by intro _ _ _ h; cases h⟩
      rw [ho4] at hbeg
      obtain ⟨hr4, t4⟩ := rel_setRaw hr3 hol3 hβ3 o4 hno4
      have t4' : Tr b₀ β3 ⟨fa, g3, ob3⟩ w3 β3 ⟨fa, g3, upd ob3 lam (some [.raw o4])⟩ (w3.putObj l o4) := ⟨t4.size, t4.old, t4.keep, t4.os⟩
      refine ⟨_, hbeg, ?_⟩
      show Code.wpIn (fen (some l)) 0 P body _ _ _
      refine wpIn_mono (wpC_soundF (rd := some l) (B := B) (ds := []) hT hΦR body hcm2 hc.2 hr4 ⟨rfl, by rw [hΦRd]; exact ht3.trans t4'⟩ (hbody o4 _ hΦR)) (fun e a' w5 hp => ?_)
      obtain ⟨s5, β5, a5, ds5, rfl, hQ, hr5, rfl, hφ5⟩ := hp.plain
      obtain ⟨f5, g5, ob5⟩ := s5
      have ht5 : Tr b₀ β2 ⟨fa, g2, ob2⟩ w2 β5 ⟨fa, g5, ob5⟩ w5 := by rw [hΦRd] at hφ5; exact hφ5
      have fin : (∀ id, Pr id → g5 id = g3 id ∧ ob5 id = upd ob3 lam (some [C.raw o4]) id) → ∀ (jump : Option Code) (st : LoopState), (if jump.isNone then LoopState.ready else .done) = st →
          ∃ w6, (Instr.endRound l jump).run P w5 = .ok (.bool jump.isNone) w6 ∧ Rel b₀ N ⟨f5, g5, upd ob5 lam (some [.raw (.loop (rec st jump))])⟩ β5 a5 w6 ∧ Tr b₀ β2 ⟨fa, g2, ob2⟩ w2 β5 ⟨fa, g5, upd ob5 lam (some [.raw (.loop (rec st jump))])⟩ w6 ∧
            (∀ id, own id → g5 id = g2 id ∧ upd ob5 lam (some [.raw (.loop (rec st jump))]) id = ob2 id) ∧ g5 lam = g1 lam := by
        intro hs jump st hst
        have h5 := hs lam hPl
        have hol5 : ob5 lam = some [C.raw o4] := by rw [h5.2]; simp [upd]
        have hβ5 : β5 lam = some ⟨l, 0, some 100⟩ := by rw [(ht5.keep.live lam (by simp only; rw [h5.1, hs3.1]) (by simp [hol5])).2.1]; exact hβ2
        have hl5 := raw_at hr5 hol5 hβ5
        rw [← ho4] at hl5
        have hend := run_endRound (P := P) jump hl5
        have ho6 : Obj.loop { ({ rec .ready none with state := .busy } : Loop) with state := if jump.isNone then .ready else .done, pending := jump } = .loop (rec st jump) := by rw [hst, hrec]
        rw [ho6] at hend
        obtain ⟨r6, t6⟩ := rel_setRaw hr5 hol5 hβ5 (.loop (rec st jump)) (by intro _ _ _ h; cases h)
        have t6' : Tr b₀ β5 ⟨fa, g5, ob5⟩ w5 β5 ⟨fa, g5, upd ob5 lam (some [.raw (.loop (rec st jump))])⟩ (w5.putObj l (.loop (rec st jump))) := ⟨t6.size, t6.old, t6.keep, t6.os⟩
        refine ⟨_, hend, r6, ht5.trans t6', fun id ho => ?_, by rw [h5.1, hs3.1, hgl]⟩
        have hne : id ≠ lam := fun he => hol (he ▸ ho)
        have e5 := hs id (hop id ho)
        have e3 := hsame id (hop id ho)
        simp only [upd, hne, if_false] at e5 ⊢
        exact ⟨e5.1.trans e3.1, e5.2.trans e3.2⟩
      cases e with
      | normal =>
        obtain ⟨hs, hJ1⟩ := hQ
        obtain ⟨w6, e1, e2, e3, e4, e5⟩ := fin hs none .ready rfl
        refine ⟨_, w6, e1, _, bv true, g5, _, β5, rfl, ⟨e4, .inl ⟨rfl, hJ _ _ _ _ _ hJ1 (fun id hid => ⟨rfl, ?_⟩), e5, by simp [upd]⟩⟩, by simp only [RepV, RepC]; exact .bool _, e2.obj, e2.inj, e3⟩
        simp only [upd]; rw [if_neg (fun he => hid (by rw [he]; exact hPl))]
      | ret =>
        obtain ⟨hs, hJ1⟩ := hQ
        obtain ⟨w6, e1, e2, e3, e4, e5⟩ := fin hs (some .ret) .done rfl
        refine ⟨_, w6, e1, _, bv false, g5, _, β5, rfl, ⟨e4, .inr ⟨rfl, hJx _ _ _ _ hJ1 (fun id hid => ⟨rfl, ?_⟩), e5, by simp [upd]⟩⟩, by simp only [RepV, RepC]; exact .bool _, e2.obj, e2.inj, e3⟩
        simp only [upd]; rw [if_neg (fun he => hid (by rw [he]; exact hPl))]
      | exit id => exact hQ.elim
      | goto t => exact hQ.elim
      | panic ch => exact hQ.elim
      | outgrown => exact hQ.elim
    | exit id => exact hQ.elim
    | goto t => exact hQ.elim
    | ret => exact hQ.elim
    | panic ch => exact hQ.elim
    | outgrown => exact hQ.elim
  have henter := run_enterLoop_outer (P := P) (w := w) fn a.tmps ps assign body
  rw [show ((w.alloc (.deferred (some []))).alloc (.loop { state := .ready, pending := none, fn, tmps := a.tmps, params := ps, assign, body, defers := w.heap.size })) = W1 from by rw [← hW1, hrec], hl] at henter
  refine ⟨l, [{ target := .collected w.heap.size, args := #[] }], W1, { target := .fn (.func fid) vs, args := #[.func (.yield l) #[] #[]] }, W1, fid, #[.func (.yield l) #[] #[]] ++ vs, W1, henter, ?_, fun _ _ => trivial, ?_, fun h => (by cases h), ?_⟩
  · have : ({ a with defers := ds } : Act).eval gop = a.eval gop := rfl
    simp only [resolve, this, hv1]
    simp [go_sem]
  · obtain ⟨fn', h1, h2, h3⟩ := hfine
    have h2 : ¬ fn'.body = none := by intro h; rw [h] at h2; simp at h2
    have h3 : ¬ fn'.name = "runtime.NumGoroutine" := by simpa using h3
    simp [invoke, callFunc, h1, h2, h3]
  · rw [show vs.toList.toArray = vs from Array.ext' (by simp)] at hcalls
    refine hcalls.mono ?_
    rintro e W3 ⟨v, g3, ob3, β3, rfl, hout, hob3, hin3, hB3, hφ3⟩
    have ht3 : Tr b₀ β1 ⟨f, g1, ob1⟩ W1 β3 ⟨f, g3, ob3⟩ W3 := by rw [hΦd] at hφ3; exact hφ3
    have hr3 : Rel b₀ N ⟨f, g3, ob3⟩ β3 a W3 := ⟨hr.defers, hr.size, fun i => RepV.keep ht3.keep _ (hr1.f i), hob3, hin3, hB3⟩
    have fin : ∀ (st : LoopState) (pe : Option Code), st ≠ .busy → g3 lam = g1 lam → ob3 lam = some [C.raw (.loop (rec st pe))] →
        ∃ w4 o4, (Instr.endLoop l).run P W3 = .ok pe w4 ∧ Rel b₀ N ⟨f, g3, upd ob3 lam (some [.raw o4])⟩ β3 a w4 ∧
          PhiC b₀ β0 s0 w0 ⟨f, g3, upd ob3 lam (some [.raw o4])⟩ β3 ([{ target := .collected w.heap.size, args := #[] }] ++ ds) w4 := by
      intro st pe hst h1 h2
      have hβ3 := hplace hφ3 h1 h2
      have hl3 := raw_at hr3 h2 hβ3
      have hend := run_endLoop (P := P) hl3 (by rw [hrec]; exact hst)
      have hpe : (rec st pe).pending = pe := by rw [hrec]
      obtain ⟨o4, ho4, hno⟩ : ∃ o4, Obj.loop { rec st pe with state := .exhausted } = o4 ∧ ∀ arr el fr, o4 ≠ .cells arr el fr := ⟨_, rfl, by intro _ _ _ h; cases h⟩
      rw [ho4, hpe] at hend
      obtain ⟨r4, t4⟩ := rel_setRaw hr3 h2 hβ3 o4 hno
      refine ⟨_, o4, hend, r4, hφ.1.trans (htW.trans (ht3.trans t4)), ⟨w.heap.size, rfl, hφ.1.size, ?_, ?_, fun d' hd' he => ?_⟩, hφ.2.keep (htW.trans (ht3.trans t4))⟩
      · exact ((ht1.trans (ht3.trans t4)).imm _ himD).1
      · rw [((ht1.trans (ht3.trans t4)).imm _ himD).2]; exact hD0
      · exact mk_fresh hφ.2 d' hd' he
    rcases hout with ⟨⟨hJn, h1, h2⟩, hFn⟩ | ⟨hJxn, h1, h2⟩
    · obtain ⟨w4, o4, e1, e2, e3⟩ := fin _ _ (by simp) h1 h2
      refine ⟨none, w4, e1, _, β3, a, _, rfl, .inl <| hdone _ _ (hJ _ _ _ _ _ hJn (fun id hid => ⟨rfl, ?_⟩)) (hFin _ _ _ _ hFn (fun id hid => ⟨rfl, by simp [upd, hid]⟩)), e2, e3⟩
      simp only [upd]; rw [if_neg (fun he => hid (by rw [he]; exact hPl))]
    · obtain ⟨w4, o4, e1, e2, e3⟩ := fin _ _ (by simp) h1 h2
      refine ⟨some .ret, w4, e1, wpIn_ret ⟨_, β3, a, _, rfl, .inl <| hret _ _ (hJx _ _ _ _ hJxn (fun id hid => ⟨rfl, ?_⟩)), e2, e3⟩⟩
      simp only [upd]; rw [if_neg (fun he => hid (by rw [he]; exact hPl))]
end
end Go.Am

namespace Go.Am

section
variable {P : Program} {T : Nat → TI} {b₀ : Bs} {β : Loc} {w : World}

def St.claimAt (s : St) (o b j sz : Nat) (cells : List C) : St := ⟨s.f, upd s.gen b (s.gen b + 1), upd (upd s.obj o (some (cells.set j (.osl b (s.gen b + 1) sz 0 0)))) b (some [])⟩

theorem vs_claimAt' {s : St} {t o b j sz : Nat} {cells : List C} (ht : (∃ off, s.f t = .one (.ptr o (s.gen o) off)) ∨ ∃ sz off len, s.f t = .one (.osl o (s.gen o) sz off len)) (ho : s.obj o = some cells) (hj : cells[j]? = some (.d .nsl)) (n1 : o ≠ b) : SemVs s (s.claimAt o b j sz cells) := by
  intro b₀ N β a w hr
  let β' : Loc := fun i => if i = b then none else β i
  have hlive : ∀ i, i ≠ b → ((s.claimAt o b j sz cells).obj i).isSome = true → (s.obj i).isSome = true := fun i hib hi => by
    simp only [St.claimAt, upd, if_neg hib] at hi
    by_cases e2 : i = o
    · subst e2; rw [ho]; rfl
    · rwa [if_neg e2] at hi
  have hkeep : Keep b₀ β s.gen s.obj w β' (s.claimAt o b j sz cells).gen (s.claimAt o b j sz cells).obj w := by
    refine ⟨fun x hx => ⟨⟨hx.1, hx.2.1, fun i a' hi hβ => ?_⟩, rfl⟩, fun i => ?_, fun i hg hi => ?_⟩
    · by_cases hib : i = b
      · simp [β', hib] at hβ
      · simp only [β', if_neg hib] at hβ
        exact hx.2.2 i a' (hlive i hib hi) hβ
    · simp only [St.claimAt, upd]; split
      · rename_i e; subst e; omega
      · omega
    · by_cases hib : i = b
      · subst hib; simp [St.claimAt, upd] at hg
      · exact ⟨hlive i hib hi, by simp [β', hib], fun a' _ arr el fr h => ⟨arr, el, fr, h, Nat.le_refl _⟩⟩
  have hspot : ∀ ad, β o = some ad → ad.spot = none := fun ad hβ => by
    have hv := hr.f t
    rcases ht with ⟨off, ht⟩ | ⟨sz, off, len, ht⟩
    · rw [ht] at hv
      simp only [RepV, RepC] at hv
      obtain ⟨a', h1, h2, _⟩ := hv.2.2 trivial (by rw [ho]; rfl)
      rw [hβ] at h1; cases h1; exact h2
    · rw [ht] at hv
      simp only [RepV] at hv
      exact (osl_live hv rfl (by rw [ho]; rfl)).spot ad hβ
  refine ⟨β', ⟨hr.defers, hr.size, fun i => RepV.keep hkeep _ (hr.f i), fun i cells' hc' => ?_, fun i1 i2 a1 a2 l1 l2 b1 b2 hb => ?_, hr.base⟩, Nat.le_refl _, fun _ _ => rfl, hkeep, rfl, rfl⟩
  · by_cases hib : i = b
    · subst hib
      simp only [St.claimAt, upd, if_true, Option.some.injEq] at hc'
      subst hc'
      simp only [β', if_true]
      rfl
    · by_cases e2 : i = o
      · subst e2
        simp only [St.claimAt, upd, if_neg hib, if_true, Option.some.injEq] at hc'
        subst hc'
        have hob := hr.obj i cells ho
        have hβ' : β' i = β i := by simp [β', n1]
        rw [hβ']
        cases hβ : β i with
        | none => rw [hβ] at hob; have : cells = [] := hob; subst this; simp at hj
        | some ad =>
          rw [hβ] at hob
          obtain ⟨g1, arr, el, lo, hi, g2, g3, g4, g5⟩ := hob.cells (hspot ad hβ)
          refine .ofCells (hspot ad hβ) ⟨g1, arr, el, lo, hi, g2, by simpa [St.claimAt, upd, hib] using g3, by simpa using g4, fun k c hk => ?_⟩
          by_cases hkj : k = j
          · subst hkj
            have hlt := (List.getElem?_eq_some_iff.1 hj).1
            rw [List.getElem?_set_self hlt] at hk
            cases hk
            obtain ⟨v, hv, hrv⟩ := g5 k _ hj
            simp only [RepC] at hrv
            obtain rfl := hrv.inv_nsl
            refine ⟨_, hv, rfl, by simp [St.claimAt, upd], fun _ _ => ?_⟩
            simp only [β', if_true]
            exact ⟨rfl, rfl⟩
          · rw [List.getElem?_set_ne (Ne.symm hkj)] at hk
            obtain ⟨v, hv, hrv⟩ := g5 k c hk
            exact ⟨v, hv, hrv.keep hkeep⟩
      · simp only [St.claimAt, upd, if_neg hib, if_neg e2] at hc'
        have := (hr.obj i cells' hc').keep hkeep (fun _ _ => rfl)
        simpa [β', hib, St.claimAt, upd] using this
  · have h1 : i1 ≠ b := fun e => by simp [β', e] at b1
    have h2 : i2 ≠ b := fun e => by simp [β', e] at b2
    simp only [β', if_neg h1] at b1
    simp only [β', if_neg h2] at b2
    exact hr.inj i1 i2 a1 a2 (hlive i1 h1 l1) (hlive i2 h2 l2) b1 b2 hb

theorem vs_claimAt {s : St} {t o b j sz off : Nat} {cells : List C} (ht : s.f t = .one (.ptr o (s.gen o) off)) (ho : s.obj o = some cells) (hj : cells[j]? = some (.d .nsl)) (n1 : o ≠ b) : SemVs s (s.claimAt o b j sz cells) :=
  vs_claimAt' (.inl ⟨off, ht⟩) ho hj n1

end
end Go.Am

namespace Go.Am

section
variable {P : Program} {T : Nat → TI} {b₀ : Bs} {β : Loc} {w : World}

/-- The results' values. -/
def evalR (T : Nat → TI) (s : St) : List ResultVar → {K : List AV → Prop} → Box K → Prop
  | [], K, _ => K []
  | .tmp t :: r, K, _ => evalR T s r (bx fun vs => K (s.f t :: vs))
  | .cell a ty :: r, K, _ => loadA (T ty) s (s.f a) (bx fun v => evalR T s r (bx fun vs => K (v :: vs)))

theorem evalR_sound (hT : TabOk P T) {N : Nat} {s : St} {a : Act} (hr : Rel b₀ N s β a w) :
    ∀ (rs : List ResultVar) {K : List AV → Prop} {k : Box K}, evalR T s rs k → ∃ vs avs, (∀ g : ResultVar → Sem Value, (∀ t, g (.tmp t) = pure (a.tmps.getD t undef)) → (∀ x t, g (.cell x t) = do loadVar t (← asAddr (a.tmps.getD x undef))) → (rs.mapM g).run P w = .ok vs w) ∧ K avs ∧ RepVs b₀ β s.gen s.obj w avs vs
  | [], K, k, h => ⟨[], [], fun _ _ _ => by simp, h, by simp only [RepVs]⟩
  | .tmp t :: r, K, k, h => by
    obtain ⟨vs, avs, h1, h2, h3⟩ := evalR_sound hT hr r h
    refine ⟨_ :: vs, _ :: avs, fun g hg hg2 => ?_, h2, by simp only [RepVs]; exact ⟨_, _, rfl, hr.f t, h3⟩⟩
    simp only [List.mapM_cons, Sem.run_bind, hg, Sem.run_pure, Result.andThen_ok, h1 g hg hg2]
  | .cell x ty :: r, K, k, h => by
    unfold evalR at h
    obtain ⟨y, cv, hK, hrun, hrep⟩ := loadA_sound hT hr h (hr.f x)
    obtain ⟨vs, avs, h1, h2, h3⟩ := evalR_sound hT hr r hK
    refine ⟨cv :: vs, y :: avs, fun g hg hg2 => ?_, h2, by simp only [RepVs]; exact ⟨_, _, rfl, hrep, h3⟩⟩
    have hl := hrun w .refl
    have hcell : (g (.cell x ty)).run P w = .ok cv w := by
      rw [hg2]
      unfold Instr.loadAt at hl
      cases hv : a.tmps.getD x undef with
      | pointer p =>
        rw [hv] at hl
        cases p with
        | some p => simpa [Instr.sureAddr, asAddr] using hl
        | none => simp [Instr.sureAddr] at hl
      | _ => rw [hv] at hl; simp [Instr.sureAddr] at hl
    simp only [List.mapM_cons, Sem.run_bind, hcell, Sem.run_pure, Result.andThen_ok, h1 g hg hg2]

def pack : List AV → AV
  | [t] => t
  | ts => .tup ts
def packV : List Value → Value
  | [v] => v
  | vs => .tuple vs.toArray

theorem pack_rep {g : Nat → Nat} {ob : Obs} : ∀ {avs : List AV} {vs : List Value}, RepVs b₀ β g ob w avs vs → RepV b₀ β g ob w (pack avs) (packV vs)
  | [], vs, h => by simp only [RepVs] at h; subst h; simp only [pack, packV, RepV, RepVs]; exact ⟨[], rfl, rfl⟩
  | [t], vs, h => by simp only [RepVs] at h; obtain ⟨u, us, rfl, h1, rfl⟩ := h; exact h1
  | t :: t' :: ts, vs, h => by
    have h0 := h
    simp only [RepVs] at h
    obtain ⟨u, us, rfl, h1, u', us', rfl, h2, h3⟩ := h
    simp only [pack, packV, RepV]
    exact ⟨_, rfl, h0⟩

theorem evalR_results (hT : TabOk P T) {N : Nat} {s : St} {a : Act} (hr : Rel b₀ N s β a w) {fn : Func} {rs : List ResultVar} (hres : fn.results = rs.toArray) {K : List AV → Prop} {k : Box K} (h : evalR T s rs k) :
    ∃ v avs, (results fn a.tmps).run P w = .ok v w ∧ K avs ∧ RepV b₀ β s.gen s.obj w (pack avs) v ∧ ∃ vs, v = packV vs ∧ RepVs b₀ β s.gen s.obj w avs vs := by
  obtain ⟨vs, avs, h1, h2, h3⟩ := evalR_sound hT hr rs h
  refine ⟨packV vs, avs, ?_, h2, pack_rep h3, vs, rfl, h3⟩
  unfold results
  simp only [hres, List.mapM_toArray, Sem.run_bind, Sem.run_map]
  rw [h1 _ (fun _ => rfl) (fun _ _ => rfl)]
  simp only [Result.andThen_ok, Sem.run_pure]
  match vs with
  | [] => simp [packV]
  | [t] => simp [packV]
  | t :: t' :: ts => simp [packV]

/-- At a function's end: R of its results and its objects, perhaps told anew. -/
def RetFR (T : Nat → TI) (rs : List ResultVar) (R : AV → (Nat → Nat) → Obs → Prop) : Exit → St → Prop
  | .normal, s | .ret, s => ∃ s', SemVs s s' ∧ evalR T s' rs (bx fun avs => R (pack avs) s'.gen s'.obj)
  | _, _ => False

/-- A function, by its body's abstract code. -/
theorem fun_of_wpR (B : Nat) (hT : TabOk P T) (hm : P.follows .mixedOrders = true) {f : FuncId} {fn : Func} {c : Code} (hf : P.funcs[f]? = some fn) (hb : fn.body = some c) (hn : (fn.name == "runtime.NumGoroutine") = false)
    (rs : List ResultVar) (hres : fn.results = rs.toArray) (hok : codeOk fn.ntmps c = true) {xs : List AV} (hargs : xs.length ≤ fn.ntmps) {g : Nat → Nat} {ob : Obs} {R : AV → (Nat → Nat) → Obs → Prop}
    (h : wpC (spB P B) T c (bx (RetFR T rs R)) ⟨initF xs, g, ob⟩) : FunR P f xs g ob R := by
  refine ⟨⟨fn, hf, by rw [hb]; rfl, hn⟩, fun b₀ N β a fa w vs hr0 hv => ?_⟩
  refine calls_of_wp hf hb ?_
  have hl := hv.len
  have hr : Rel b₀ fn.ntmps ⟨initF xs, g, ob⟩ β { tmps := vs.toArray ++ Array.replicate (fn.ntmps - vs.toArray.size) undef, defers := [] } w := by
    refine ⟨rfl, by simp; omega, fun i => ?_, hr0.obj, hr0.inj, hr0.base⟩
    simp only [initF]
    cases hx : xs[i]? with
    | some x =>
      obtain ⟨v, h1, h2⟩ := hv.get hx
      have hlt : i < vs.length := (List.getElem?_eq_some_iff.1 h1).1
      have : (vs.toArray ++ Array.replicate (fn.ntmps - vs.toArray.size) undef).getD i undef = v := by
        rw [Array.getD_eq_getD_getElem?, Array.getElem?_append_left (by simpa using hlt)]
        simp [h1]
      rw [this]
      simpa only [Option.getD_some] using h2
    | none =>
      have hge : xs.length ≤ i := by simpa using hx
      have : (vs.toArray ++ Array.replicate (fn.ntmps - vs.toArray.size) undef).getD i undef = undef := by
        rw [Array.getD_eq_getD_getElem?, Array.getElem?_append_right (by simp; omega)]
        simp [Array.getElem?_replicate]
        split <;> rfl
      rw [this]
      exact undefRep
  refine wp_mono (wpC_sound (B := B) hT hm c hok hr h) (fun e a' w' hp => ?_)
  obtain ⟨s', β', hQ, hr', ht⟩ := hp
  have hres' : RetFR T rs R .ret s' → ∃ v, (results fn a'.tmps).run P w' = .ok v w' ∧ ∃ v' r g' ob' β', Ending.returned v = .returned v' ∧ R r g' ob' ∧ RepV b₀ β' g' ob' w' r v' ∧
      (∀ id cells, ob' id = some cells → ObjAt b₀ β' g' ob' w' (g' id) cells (β' id)) ∧ (∀ id id' a a', (ob' id).isSome = true → (ob' id').isSome = true → β' id = some a → β' id' = some a' → a.block = a'.block → id = id') ∧
      Tr b₀ β ⟨fa, g, ob⟩ w β' ⟨fa, g', ob'⟩ w' := by
    rintro ⟨s2, hvs, hR⟩
    obtain ⟨β2, hr2, ht2⟩ := hvs b₀ fn.ntmps β' a' w' hr'
    have hta := ht.trans ht2
    obtain ⟨v, avs, h1, h2, h3, _⟩ := evalR_results hT hr2 hres hR
    exact ⟨v, h1, v, _, _, _, β2, rfl, h2, h3, hr2.obj, hr2.inj, ⟨hta.size, hta.old, hta.keep, hta.os⟩⟩
  cases e with
  | normal => exact ⟨hr'.defers, hres' hQ⟩
  | ret => exact ⟨hr'.defers, hres' hQ⟩
  | exit id => exact hQ.elim
  | goto l => exact hQ.elim
  | panic ch => exact hQ.elim
  | outgrown => exact hQ.elim

/-- Frozen results. -/
def FrzR (s : St) : List AV → AV → Prop
  | [t], r => FrzV s t r
  | ts, r => ∃ rs, FrzVs s ts rs ∧ r = .tup rs

theorem FrzR.rep {N : Nat} {s : St} {a : Act} (hr : Rel b₀ N s β a w) : ∀ {ts : List AV} {r : AV} {vs : List Value}, FrzR s ts r → RepVs b₀ β s.gen s.obj w ts vs → RV (Own b₀ w) w r (packV vs) := by
  have hmany : ∀ (ts rs : List AV) (vs : List Value), FrzVs s ts rs → RepVs b₀ β s.gen s.obj w ts vs → RVs (Own b₀ w) w rs vs := by
    intro ts
    induction ts with
    | nil => intro rs vs h hv; simp only [FrzVs] at h; simp only [RepVs] at hv; subst h hv; simp only [RVs]
    | cons t ts ih =>
      intro rs vs h hv
      simp only [FrzVs] at h
      simp only [RepVs] at hv
      obtain ⟨r, rs', rfl, h1, h2⟩ := h
      obtain ⟨u, us, rfl, h3, h4⟩ := hv
      simp only [RVs]
      exact ⟨_, _, rfl, h1.rep hr h3, ih _ _ h2 h4⟩
  intro ts r vs h hv
  match ts, h with
  | [], ⟨rs, h1, h2⟩ =>
    subst h2
    have := hmany _ _ _ h1 hv
    simp only [RepVs] at hv
    subst hv
    simp only [RV, packV]; exact ⟨_, rfl, this⟩
  | [t], h =>
    simp only [RepVs] at hv
    obtain ⟨u, us, rfl, h1, rfl⟩ := hv
    exact FrzV.rep hr h h1
  | t :: t' :: ts, ⟨rs, h1, h2⟩ =>
    subst h2
    have := hmany _ _ _ h1 hv
    simp only [RepVs] at hv
    obtain ⟨u, us, rfl, _, u', us', rfl, _, _⟩ := hv
    simp only [RV, packV]; exact ⟨_, rfl, this⟩

/-- At a function's end: R of its results. -/
def RetQR (T : Nat → TI) (rs : List ResultVar) (R : AV → Prop) : Exit → St → Prop
  | .normal, s | .ret, s => evalR T s rs (bx fun avs => ∃ r, FrzR s avs r ∧ R r)
  | _, _ => False

theorem pure_of_wpR (hT : TabOk P T) (hm : P.follows .mixedOrders = true) {f : FuncId} {fn : Func} {c : Code} (hf : P.funcs[f]? = some fn) (hb : fn.body = some c) (hn : (fn.name == "runtime.NumGoroutine") = false)
    (rs : List ResultVar) (hres : fn.results = rs.toArray) (hok : codeOk fn.ntmps c = true) {args : List AV} (hargs : args.length ≤ fn.ntmps) {R : AV → Prop}
    (h : ∀ g, wpC (sp P) T c (bx (RetQR T rs R)) ⟨initF args, g, fun _ => none⟩) : PureR P f args R := by
  refine ⟨⟨fn, hf, by rw [hb]; rfl, hn⟩, fun J w vs hJ hv => ?_⟩
  refine calls_of_wp hf hb ?_
  have hlen : ∀ (l : List AV) (vs : List Value), RVs J w l vs → vs.length = l.length := by
    intro l
    induction l with
    | nil => intro vs h; simp only [RVs] at h; subst h; rfl
    | cons x l ih => intro vs h; simp only [RVs] at h; obtain ⟨u, us, rfl, _, h⟩ := h; simp [ih us h]
  have hl := hlen _ _ hv
  let J' : Nat → Prop := J
  have hr : Rel ⟨w.heap.size, J'⟩ fn.ntmps ⟨initF args, fun _ => 0, fun _ => none⟩ (fun _ => none) { tmps := vs.toArray ++ Array.replicate (fn.ntmps - vs.toArray.size) undef, defers := [] } w := by
    refine ⟨rfl, by simp; omega, fun i => ?_, fun id cells ho => (by cases ho), fun id id' a a' ho => (by cases ho), Nat.le_refl _⟩
    have hget : ∀ (l : List AV) (vs : List Value), RVs J w l vs → ∀ (i : Nat) (x : AV), l[i]? = some x → ∃ v, vs[i]? = some v ∧ RV J w x v := by
      intro l
      induction l with
      | nil => intro vs _ i x h; simp at h
      | cons y l ih =>
        intro vs h i x hx
        simp only [RVs] at h
        obtain ⟨u, us, rfl, h1, h2⟩ := h
        cases i with
        | zero => simp at hx; subst hx; exact ⟨u, rfl, h1⟩
        | succ i => simpa using ih us h2 i x (by simpa using hx)
    simp only [initF]
    cases hx : args[i]? with
    | some x =>
      obtain ⟨v, h1, h2⟩ := hget _ _ hv i x hx
      have hlt : i < vs.length := (List.getElem?_eq_some_iff.1 h1).1
      have : (vs.toArray ++ Array.replicate (fn.ntmps - vs.toArray.size) undef).getD i undef = v := by
        rw [Array.getD_eq_getD_getElem?, Array.getElem?_append_left (by simpa using hlt)]
        simp [h1]
      rw [this]
      simp only [Option.getD_some]
      exact RV.rep x (RV.mono (fun b hb => ⟨⟨hJ b hb, fun _ => hb, fun id a ho => by cases ho⟩, rfl⟩) x h2)
    | none =>
      have hge : args.length ≤ i := by simpa using hx
      have : (vs.toArray ++ Array.replicate (fn.ntmps - vs.toArray.size) undef).getD i undef = undef := by
        rw [Array.getD_eq_getD_getElem?, Array.getElem?_append_right (by simp; omega)]
        simp [Array.getElem?_replicate]
        split <;> rfl
      rw [this]
      exact undefRep
  refine wp_mono (wpC_sound hT hm c hok hr (h _)) (fun e a' w' hp => ?_)
  obtain ⟨s', β', hQ, hr', ht⟩ := hp
  have hres' : RetQR T rs R .ret s' → ∃ v, (results fn a'.tmps).run P w' = .ok v w' ∧ ∃ r, R r ∧ RV (Own ⟨w.heap.size, J'⟩ w') w' r v := by
    intro hQ
    obtain ⟨v, avs, h1, ⟨r, h2, h3⟩, _, vs', rfl, h4⟩ := evalR_results hT hr' hres hQ
    exact ⟨_, h1, r, h3, h2.rep hr' h4⟩
  cases e with
  | normal =>
    obtain ⟨v, h1, r, h2, h3⟩ := hres' hQ
    exact ⟨hr'.defers, v, h1, v, r, rfl, h2, ht.size, fun b hb => ht.old b hb, ht.os, h3⟩
  | ret =>
    obtain ⟨v, h1, r, h2, h3⟩ := hres' hQ
    exact ⟨hr'.defers, v, h1, v, r, rfl, h2, ht.size, fun b hb => ht.old b hb, ht.os, h3⟩
  | exit id => exact hQ.elim
  | goto l => exact hQ.elim
  | panic ch => exact hQ.elim
  | outgrown => exact hQ.elim

end

@[go_sem] theorem evalR_nil {T : Nat → TI} {s : St} {K : List AV → Prop} {k : Box K} : evalR T s [] k = K [] := Eq.trans rfl rfl
@[go_sem] theorem evalR_tmp {T : Nat → TI} {s : St} {t : Nat} {r : List ResultVar} {K : List AV → Prop} {k : Box K} : evalR T s (.tmp t :: r) k = evalR T s r (bx fun vs => K (s.f t :: vs)) := Eq.trans rfl rfl
@[go_sem] theorem evalR_cell {T : Nat → TI} {s : St} {a ty : Nat} {r : List ResultVar} {K : List AV → Prop} {k : Box K} : evalR T s (.cell a ty :: r) k = loadA (T ty) s (s.f a) (bx fun v => evalR T s r (bx fun vs => K (v :: vs))) := Eq.trans rfl rfl
@[go_sem] theorem RetQR_ret {T : Nat → TI} {rs : List ResultVar} {R : AV → Prop} {s : St} : RetQR T rs R .ret s = evalR T s rs (bx fun avs => ∃ r, FrzR s avs r ∧ R r) := Eq.trans rfl rfl
@[go_sem] theorem RetQR_normal {T : Nat → TI} {rs : List ResultVar} {R : AV → Prop} {s : St} : RetQR T rs R .normal s = evalR T s rs (bx fun avs => ∃ r, FrzR s avs r ∧ R r) := Eq.trans rfl rfl
@[go_sem] theorem frzR_one {s : St} {t r : AV} : FrzR s [t] r = FrzV s t r := Eq.trans rfl rfl

/-- Rows of plain data. -/
theorem frz_rows {α : Type} {s : St} {id g sz n : Nat} {cells : List C} (hg : s.gen id = g) (l : List α) (enc : α → List D) (ho : s.obj id = some cells) (hc : cells = l.flatMap (fun a => (enc a).map .d)) (hn : ∀ a ∈ l, ∀ x ∈ enc a, normD x = x) (hs : ∀ a ∈ l, (enc a).length = sz) (hl : l.length = n) :
    Frz s (.osl id g sz 0 n) (.sl (l.map enc)) := by
  have hfl : cells = (l.map enc).flatten.map .d := by rw [hc]; clear hn hs hl hc ho; induction l with | nil => rfl | cons a l ih => simp [ih]
  have hlen : cells.length = n * sz := by
    rw [hfl, List.length_map]
    clear hfl hc hn ho
    subst hl
    induction l with
    | nil => simp
    | cons a l ih =>
      simp only [List.map_cons, List.flatten_cons, List.length_append, List.length_cons, hs a (by simp), ih (fun b hb => hs b (by simp [hb]))]
      rw [Nat.add_mul]; omega
  refine .osl hg ho (by omega) (by simpa using hl) (fun e he => by obtain ⟨a, ha, rfl⟩ := List.mem_map.1 he; exact hs a ha) (fun j => (cells[0 + j]?).getD (.d .nsl)) (fun j x hx => ?_) (fun j x hx => ?_)
  · rw [hfl, Nat.zero_add, List.getElem?_map, hx]; rfl
  · rw [hfl, Nat.zero_add, List.getElem?_map, hx]
    simp only [Option.map_some, Option.getD_some]
    have hxn : normD x = x := by
      have hm := List.mem_of_getElem? hx
      obtain ⟨e, he, hxe⟩ := List.mem_flatten.1 hm
      obtain ⟨a, ha, rfl⟩ := List.mem_map.1 he
      exact hn a ha x hxe
    have := Frz.d (s := s) x
    rwa [hxn] at this

end Go.Am

namespace Go.Am

/-- The same memory, but for blocks of deferred calls that no object lies in. -/
structure Shut (b₀ : Bs) (β : Loc) (ob : Obs) (n₀ : Nat) (w w' : World) : Prop where
  size : w'.heap.size = w.heap.size
  os : w'.os = w.os ∧ w'.output = w.output
  same : ∀ b, w'.heap[b]? = w.heap[b]? ∨ (n₀ ≤ b ∧ Imm b₀ β ob w b ∧ (∃ x, w.heap[b]? = some (.deferred x)) ∧ ∃ x, w'.heap[b]? = some (.deferred x))

section
variable {P : Program} {T : Nat → TI} {b₀ : Bs} {β : Loc} {g : Nat → Nat} {ob : Obs} {n₀ : Nat} {w w' : World}

theorem Shut.refl : Shut b₀ β ob n₀ w w := ⟨rfl, ⟨rfl, rfl⟩, fun _ => .inl rfl⟩
theorem Shut.trans {w'' : World} (h : Shut b₀ β ob n₀ w w') (h' : Shut b₀ β ob n₀ w' w'') : Shut b₀ β ob n₀ w w'' := by
  refine ⟨h'.size.trans h.size, ⟨h'.os.1.trans h.os.1, h'.os.2.trans h.os.2⟩, fun b => ?_⟩
  rcases h.same b with e | ⟨e1, e2, e3, e4⟩
  · rcases h'.same b with e' | ⟨e1', e2', e3', e4'⟩
    · exact .inl (e'.trans e)
    · exact .inr ⟨e1', by unfold Imm at *; rw [h.size] at e2'; exact e2', by rw [← e]; exact e3', e4'⟩
  · rcases h'.same b with e' | ⟨e1', e2', e3', e4'⟩
    · exact .inr ⟨e1, e2, e3, by rw [e']; exact e4⟩
    · exact .inr ⟨e1, e2, e3, e4'⟩

theorem Shut.cell (h : Shut b₀ β ob n₀ w w') {a : Addr} {v : Value} (hc : w.cell? a = some v) : w'.cell? a = some v := by
  rcases h.same a.block with e | ⟨_, _, ⟨x, e⟩, _⟩
  · rw [cell?_of_heap e]; exact hc
  · simp [World.cell?, e] at hc

theorem Shut.imm (h : Shut b₀ β ob n₀ w w') {b : Nat} (hb : Imm b₀ β ob w b) : Imm b₀ β ob w' b := by unfold Imm at *; rw [h.size]; exact hb

theorem RepD.shut {J J' : Nat → Prop} {x : D} {v : Value} (h : RepD J w x v) (hJ : ∀ b, J b → J' b) (hc : ∀ a v, w.cell? a = some v → w'.cell? a = some v) : RepD J' w' x v := by
  induction h with
  | bool b => exact .bool b
  | int k n => exact .int k n
  | str s => exact .str s
  | nsl => exact .nsl
  | nilp => exact .nilp
  | nilf => exact .nilf
  | nili => exact .nili
  | nilm => exact .nilm
  | fn f => exact .fn f
  | yld l => exact .yld l
  | sl0 => exact .sl0
  | sl vals hcap hj hsz hcl hr ih => exact .sl vals hcap (fun h => hJ _ (hj h)) hsz (fun i e he j x hx => hc _ _ (hcl i e he j x hx)) ih
  | iptr vals hj hcl hr ih => exact .iptr vals (fun h => hJ _ (hj h)) (fun j x hx => hc _ _ (hcl j x hx)) ih

theorem RepPC.shut (h : Shut b₀ β ob n₀ w w') {c : PC} {v : Value} (hr : RepPC b₀ β g ob w c v) : RepPC b₀ β g ob w' c v := by
  cases c with
  | d x => exact RepD.shut hr (fun _ => h.imm) (fun _ _ => h.cell)
  | ptr id g1 off => exact hr

theorem RepC.shut (h : Shut b₀ β ob n₀ w w') {c : C} {v : Value} (hr : RepC b₀ β g ob w c v) : RepC b₀ β g ob w' c v := by
  cases c with
  | d x => exact RepD.shut hr (fun _ => h.imm) (fun _ _ => h.cell)
  | osl id g1 sz off len =>
    obtain ⟨h1, h2, h3⟩ := hr
    refine ⟨h1, h2, fun hg ho => ?_⟩
    have h4 := h3 hg ho
    cases hβ : β id with
    | none => rw [hβ] at h4; exact h4
    | some a =>
      rw [hβ] at h4
      obtain ⟨h5, h6⟩ := h4
      refine ⟨h5, ?_⟩
      rcases h6 with ⟨cap, q1, q2, q3⟩ | h6
      · refine .inl ⟨cap, q1, q2, fun arr el fr hh => ?_⟩
        rcases h.same a.block with e | ⟨_, _, _, ⟨x, e⟩⟩
        · exact q3 arr el fr (by rw [← e]; exact hh)
        · rw [e] at hh; cases hh
      · exact .inr h6
  | ptr id g1 off => exact hr
  | clo f caps =>
    obtain ⟨vs, h1, h2, h3⟩ := hr
    exact ⟨vs, h1, h2, fun i pc hp => let ⟨u, hu, hr⟩ := h3 i pc hp; ⟨u, hu, hr.shut h⟩⟩
  | mp id g1 kd => exact hr
  | lsl n => exact hr
  | raw o => exact hr

theorem RepCs.shut (h : Shut b₀ β ob n₀ w w') {cs : List C} {vs : Array Value} (hr : RepCs b₀ β g ob w cs vs) : RepCs b₀ β g ob w' cs vs :=
  ⟨hr.1, fun i c hc => let ⟨u, hu, hr⟩ := hr.2 i c hc; ⟨u, hu, hr.shut h⟩⟩

mutual
theorem RepV.shut (h : Shut b₀ β ob n₀ w w') : (x : AV) → {v : Value} → RepV b₀ β g ob w x v → RepV b₀ β g ob w' x v
  | .one _, _, hr => by simp only [RepV] at hr ⊢; exact RepC.shut h hr
  | .agg _, _, hr => by simp only [RepV] at hr ⊢; obtain ⟨vs, h1, h2⟩ := hr; exact ⟨vs, h1, h2.shut h⟩
  | .tup ts, _, hr => by simp only [RepV] at hr ⊢; obtain ⟨vs, h1, h2⟩ := hr; exact ⟨vs, h1, RepVs.shut h ts h2⟩
  | .junk, _, _ => by simp only [RepV]
theorem RepVs.shut (h : Shut b₀ β ob n₀ w w') : (x : List AV) → {v : List Value} → RepVs b₀ β g ob w x v → RepVs b₀ β g ob w' x v
  | [], _, hr => by simp only [RepVs] at hr ⊢; exact hr
  | t :: ts, _, hr => by simp only [RepVs] at hr ⊢; obtain ⟨u, us, h1, h2, h3⟩ := hr; exact ⟨u, us, h1, RepV.shut h t h2, RepVs.shut h ts h3⟩
end

theorem Rel.shut {N : Nat} {s : St} {a : Act} (hr : Rel b₀ N s β a w) (h : Shut b₀ β s.obj n₀ w w') : Rel b₀ N s β a w' := by
  refine ⟨hr.defers, hr.size, fun i => RepV.shut h _ (hr.f i), fun id cells ho => ?_, hr.inj, by rw [h.size]; exact hr.base⟩
  have h1 := hr.obj id cells ho
  cases hβ : β id with
  | none => rw [hβ] at h1; exact h1
  | some ad =>
    rw [hβ] at h1
    have he : w'.heap[ad.block]? = w.heap[ad.block]? := by
      rcases h.same ad.block with e | ⟨_, e, _⟩
      · exact e
      · exact absurd rfl (e.2.2 id ad (by simp [ho]) hβ)
    cases hs : ad.spot with
    | none =>
      obtain ⟨h2, arr, el, lo, hi, h3, h4, h5, h6⟩ := h1.cells hs
      exact .ofCells hs ⟨h2, arr, el, lo, hi, by rw [he]; exact h3, h4, h5, fun j c hc => let ⟨v, hv, hr⟩ := h6 j c hc; ⟨v, hv, hr.shut h⟩⟩
    | some kd =>
      obtain ⟨h2, ⟨es, clock, h3, h4⟩ | ⟨hk100, o, h3, h4⟩⟩ := h1.map hs
      · exact .ofMap hs ⟨h2, .inl ⟨es, clock, by rw [he]; exact h3, h4.mono fun _ _ => RepC.shut h⟩⟩
      · exact .ofMap hs ⟨h2, .inr ⟨hk100, o, h3, by rw [he]; exact h4⟩⟩

theorem Mk.put {D : Nat} {o : Obj} : ∀ {ds : List Deferred}, Mk b₀ β ob w n₀ ds → (∀ d' ∈ ds, d' ≠ { target := .collected D, args := #[] }) → Mk b₀ β ob (w.putObj D o) n₀ ds
  | [], _, _ => trivial
  | d :: ds, hm, hne => by
    obtain ⟨⟨E, h1, h2, h3, h4, h5⟩, hr⟩ := hm
    have hE : E ≠ D := fun he => hne d (by simp) (by rw [h1, he])
    exact ⟨⟨E, h1, h2, by unfold Imm at *; simpa using h3, by rw [World.putObj_heap_other hE]; exact h4, h5⟩, hr.put (fun d' hd' => hne d' (by simp [hd']))⟩

/-- An activation's marks are taken up. -/
theorem leaves_marks {fn : Func} {tmps : Array Value} {R : Ending → World → Prop} : ∀ {ds : List Deferred} {w : World}, Mk b₀ β ob w n₀ ds →
    (∀ w5, Shut b₀ β ob n₀ w w5 → ∃ v, (results fn tmps).run P w5 = .ok v w5 ∧ R (.returned v) w5) → LeavesInM (fen none) 0 P fn tmps R ds .returning w
  | [], w, _, h => h w .refl
  | d :: ds, w, hm, h => by
    obtain ⟨⟨D, h1, h2, h3, h4, h5⟩, hr⟩ := hm
    refine ⟨by simp, .inl ⟨D, _, by rw [h1], run_takeDeferred h4, ?_⟩⟩
    have hlt : D < w.heap.size := h3.1
    have hsh : Shut b₀ β ob n₀ w (w.putObj D (.deferred none)) := ⟨by simp, ⟨rfl, rfl⟩, fun b => by
      by_cases hb : b = D
      · subst hb
        exact .inr ⟨h2, h3, ⟨_, h4⟩, ⟨none, World.putObj_heap_same hlt⟩⟩
      · exact .inl (World.putObj_heap_other hb)⟩
    exact leaves_marks (hr.put (fun d' hd' => by rw [← h1]; exact h5 d' hd')) (fun w5 h6 => h w5 (hsh.trans h6))

/-- A function that hands back data, and may hold loops over functions. -/
theorem pure_of_wpRF (B : Nat) (hT : TabOk P T) {f : FuncId} {fn : Func} {c : Code} (hf : P.funcs[f]? = some fn) (hb : fn.body = some c) (hn : (fn.name == "runtime.NumGoroutine") = false)
    (rs : List ResultVar) (hres : fn.results = rs.toArray) (hcm : calm c = true) (hok : codeOk fn.ntmps c = true) {args : List AV} (hargs : args.length ≤ fn.ntmps) {R : AV → Prop}
    (h : ∀ b₀ β0 s0 w0 g, wpC (spF P none b₀ (PhiC b₀ β0 s0 w0) B noPan) T c (bx (RetQR T rs R)) ⟨initF args, g, fun _ => none⟩) : PureR P f args R := by
  refine ⟨⟨fn, hf, by rw [hb]; rfl, hn⟩, fun J w vs hJ hv => ?_⟩
  refine calls_of_fen (n := 0) (callsIn_of_wp_marks hf hb trivial ?_)
  have hlen : ∀ (l : List AV) (vs : List Value), RVs J w l vs → vs.length = l.length := by
    intro l
    induction l with
    | nil => intro vs h; simp only [RVs] at h; subst h; rfl
    | cons x l ih => intro vs h; simp only [RVs] at h; obtain ⟨u, us, rfl, _, h⟩ := h; simp [ih us h]
  have hl := hlen _ _ hv
  let J' : Nat → Prop := J
  have hr : Rel ⟨w.heap.size, J'⟩ fn.ntmps ⟨initF args, fun _ => 0, fun _ => none⟩ (fun _ => none) { tmps := vs.toArray ++ Array.replicate (fn.ntmps - vs.toArray.size) undef, defers := [] } w := by
    refine ⟨rfl, by simp; omega, fun i => ?_, fun id cells ho => (by cases ho), fun id id' a a' ho => (by cases ho), Nat.le_refl _⟩
    have hget : ∀ (l : List AV) (vs : List Value), RVs J w l vs → ∀ (i : Nat) (x : AV), l[i]? = some x → ∃ v, vs[i]? = some v ∧ RV J w x v := by
      intro l
      induction l with
      | nil => intro vs _ i x h; simp at h
      | cons y l ih =>
        intro vs h i x hx
        simp only [RVs] at h
        obtain ⟨u, us, rfl, h1, h2⟩ := h
        cases i with
        | zero => simp at hx; subst hx; exact ⟨u, rfl, h1⟩
        | succ i => simpa using ih us h2 i x (by simpa using hx)
    simp only [initF]
    cases hx : args[i]? with
    | some x =>
      obtain ⟨v, h1, h2⟩ := hget _ _ hv i x hx
      have hlt : i < vs.length := (List.getElem?_eq_some_iff.1 h1).1
      have : (vs.toArray ++ Array.replicate (fn.ntmps - vs.toArray.size) undef).getD i undef = v := by
        rw [Array.getD_eq_getD_getElem?, Array.getElem?_append_left (by simpa using hlt)]
        simp [h1]
      rw [this]
      simp only [Option.getD_some]
      exact RV.rep x (RV.mono (fun b hb => ⟨⟨hJ b hb, fun _ => hb, fun id a ho => by cases ho⟩, rfl⟩) x h2)
    | none =>
      have hge : args.length ≤ i := by simpa using hx
      have : (vs.toArray ++ Array.replicate (fn.ntmps - vs.toArray.size) undef).getD i undef = undef := by
        rw [Array.getD_eq_getD_getElem?, Array.getElem?_append_right (by simp; omega)]
        simp [Array.getElem?_replicate]
        split <;> rfl
      rw [this]
      exact undefRep
  refine wpIn_mono (wpC_soundF (rd := none) (B := B) (ds := []) hT kept_phiC c hcm hok hr ⟨Tr.refl, trivial⟩ (h _ _ _ w _)) (fun e a' w' hp => ?_)
  obtain ⟨s', β', a0, ds', rfl, hQ, hr', ht, hmk⟩ := hp.plain
  have hres' : RetQR T rs R .ret s' → bodyPostM (fen none) 0 P fn (fun e w' => ∃ v r, e = .returned v ∧ R r ∧ w.heap.size ≤ w'.heap.size ∧ (∀ b, b < w.heap.size → w'.heap[b]? = w.heap[b]?) ∧ (w'.os = w.os ∧ w'.output = w.output) ∧ RV (Own ⟨w.heap.size, J'⟩ w') w' r v) .ret { a0 with defers := ds' } w' := by
    intro hQ
    refine leaves_marks hmk (fun w5 h5 => ?_)
    obtain ⟨v, avs, h1, ⟨r, h2, h3⟩, _, vs', rfl, h4⟩ := evalR_results hT (hr'.shut h5) hres hQ
    refine ⟨_, h1, _, r, rfl, h3, by rw [h5.size]; exact ht.size, fun b hb => ?_, ⟨h5.os.1.trans ht.os.1, h5.os.2.trans ht.os.2⟩, h2.rep (hr'.shut h5) h4⟩
    rcases h5.same b with e | ⟨e, _⟩
    · rw [e]; exact ht.old b hb
    · omega
  cases e with
  | normal => exact hres' hQ
  | ret => exact hres' hQ
  | exit id => exact hQ.elim
  | goto l => exact hQ.elim
  | panic ch => exact hQ.elim
  | outgrown => exact hQ.elim

end
end Go.Am

namespace Go.Am
section
variable {P : Program} {T : Nat → TI} {b₀ : Bs} {β : Loc} {w : World}

theorem scArgs_eq {g : Nat → Nat} {ob : Obs} : ∀ {xs : List AV} {vs : List Value}, (xs.all fun x => match x with | .one c => scalarC c | _ => false) = true → RepVs b₀ β g ob w xs vs → vs = xs.map scVal
  | [], vs, _, h => by simp only [RepVs] at h; exact h
  | x :: xs, vs, hs, h => by
    simp only [RepVs] at h
    obtain ⟨u, us, rfl, h1, h2⟩ := h
    simp only [List.all_cons, Bool.and_eq_true] at hs
    rw [List.map_cons, ← scArgs_eq hs.2 h2]
    congr 1
    cases x with
    | one c =>
      simp only [RepV] at h1
      simp only [scVal]
      cases c with
      | d x => simp only [RepC] at h1; exact RepD.scalar hs.1 h1
      | _ => simp [scalarC] at hs
    | _ => simp at hs

/-- A call of a function without a body, that reads no memory. -/
theorem hook_extern {o : Oper} {s : St} {K : St → Prop} {k : Box K} {B : Nat} {f : FuncId} {args : Array Operand} {tys : Array TypeId} (ho : o.op = .call ⟨.value (.func f), args, tys⟩)
    (hs : ((args.toList.map s.ev).all fun x => match x with | .one c => scalarC c | _ => false) = true) {x : D} (hx : scalarD x = true)
    (hrun : ∀ w : World, (callFunc f ((args.toList.map s.ev).map scVal).toArray).run P w = .ok (.value (scD x)) w) (hk : K (s.put o.dst (.one (.d x)))) : hookA (spB P B) o s k := by
  refine ⟨fun s' => s' = s.put o.dst (.one (.d x)), fun b₀ N β a w hr hd next Q hn => ?_, fun _ e => e ▸ hk⟩
  have hv := scArgs_eq hs (args_rep hr args.toList)
  have h := hrun w
  rw [← hv, show (args.toList.map a.eval).toArray = args.map a.eval from Array.ext' (by simp)] at h
  have hex : (execOp a.eval o).run P w = .ok (.value (scD x)) w := by
    simp [execOp, ho, resolve, Act.eval, Deferred.ofValue, invoke]
    exact h
  exact wp_value hex (hn _ β _ w rfl (hr.put hd (by simp only [RepV, RepC]; exact scD_rep hx)) (Tr.same (St.put_gen _ _ _) (St.put_obj _ _ _) rfl))

theorem hook_usd_nil {o : Oper} {s : St} {K : St → Prop} {k : Box K} {B : Nat} {x : Operand} {tys : Array TypeId} (ho : o.op = .call ⟨.builtin .unsafeSliceData, #[x], tys⟩) (hx : s.ev x = .one (.d .nsl)) (hk : K (s.put o.dst (.one (.d .nilp)))) : hookA (spB P B) o s k := by
  refine ⟨fun s' => s' = s.put o.dst (.one (.d .nilp)), fun b₀ N β a w hr hd next Q hn => ?_, fun _ e => e ▸ hk⟩
  have hv := hr.ev x
  rw [hx] at hv
  simp only [RepV, RepC] at hv
  have hv := hv.inv_nsl
  have hex : (execOp a.eval o).run P w = .ok (.value (.pointer none)) w := by
    simp [execOp, ho, resolve, invoke, hv, builtin, Lib.run_unsafeSliceData_nil]
  exact wp_value hex (hn _ β _ w rfl (hr.put hd (by simp only [RepV, RepC]; exact .nilp)) (Tr.same (St.put_gen _ _ _) (St.put_obj _ _ _) rfl))

theorem hook_usd {o : Oper} {s : St} {K : St → Prop} {k : Box K} {B : Nat} {x : Operand} {tys : Array TypeId} (ho : o.op = .call ⟨.builtin .unsafeSliceData, #[x], tys⟩) {id g off len : Nat} (hx : s.ev x = .one (.osl id g 1 off len)) (hg : s.gen id = g) (hob : (s.obj id).isSome = true) (hl : 0 < len)
    (hk : K (s.put o.dst (.one (.ptr id g off)))) : hookA (spB P B) o s k := by
  refine ⟨fun s' => s' = s.put o.dst (.one (.ptr id g off)), fun b₀ N β a w hr hd next Q hn => ?_, fun _ e => e ▸ hk⟩
  have hv := hr.ev x
  rw [hx] at hv
  simp only [RepV, RepC] at hv
  obtain ⟨_, hle, hat⟩ := hv
  have hat := hat hg hob
  cases hβ : β id with
  | none => rw [hβ] at hat; have := hat.1; omega
  | some ad =>
    rw [hβ] at hat
    obtain ⟨hsp, ⟨cap, hv, hc, _⟩ | ⟨h0, _⟩⟩ := hat
    · have hex : (execOp a.eval o).run P w = .ok (.value (.pointer (some ⟨ad.block, ad.off + off, none⟩))) w := by
        have := Lib.run_unsafeSliceData_row (P := P) (w := w) tys o.type ⟨ad.block, ad.off + off, none⟩ len cap (by omega)
        simp [execOp, ho, resolve, invoke, hv, builtin, this]
      refine wp_value hex (hn _ β _ w rfl (hr.put hd ?_) (Tr.same (St.put_gen _ _ _) (St.put_obj _ _ _) rfl))
      simp only [RepV, RepC]
      exact ⟨rfl, hle, fun _ _ => ⟨ad, hβ, hsp, rfl⟩⟩
    · omega

theorem hook_ustr_nil {o : Oper} {s : St} {K : St → Prop} {k : Box K} {B : Nat} {p n : Operand} {t1 t2 : TypeId} (ho : o.op = .call ⟨.builtin .unsafeString, #[p, n], #[t1, t2]⟩) (hp : s.ev p = .one (.d .nilp)) (hn0 : s.ev n = iv .i64 0) (hk : K (s.put o.dst (sv []))) : hookA (spB P B) o s k := by
  refine ⟨fun s' => s' = s.put o.dst (sv []), fun b₀ N β a w hr hd next Q hn => ?_, fun _ e => e ▸ hk⟩
  have hv := hr.ev p
  have hw := hr.ev n
  rw [hp] at hv
  rw [hn0] at hw
  simp only [RepV, RepC] at hv hw
  have hw := hw.inv_int
  have hv : a.eval p = .pointer none := by generalize a.eval p = v at hv; cases hv; rfl
  have hex : (execOp a.eval o).run P w = .ok (.value (.string .empty)) w := by
    simp [execOp, ho, resolve, invoke, hv, hw, builtin, Lib.run_unsafeString_none]
  refine wp_value hex (hn _ β _ w rfl (hr.put hd ?_) (Tr.same (St.put_gen _ _ _) (St.put_obj _ _ _) rfl))
  simp only [RepV, RepC]
  exact .str []

theorem freeze_size (w : World) (a : Addr) (n : Nat) : (w.freeze a n).heap.size = w.heap.size := by unfold World.freeze; split <;> simp
theorem freeze_os (w : World) (a : Addr) (n : Nat) : (w.freeze a n).os = w.os ∧ (w.freeze a n).output = w.output := by unfold World.freeze; split <;> exact ⟨rfl, rfl⟩
theorem freeze_other (w : World) (a : Addr) (n : Nat) {b : Nat} (hb : b ≠ a.block) : (w.freeze a n).heap[b]? = w.heap[b]? := by
  unfold World.freeze
  split
  · rfl
  · simp only [Array.getElem?_modify]
    rw [if_neg (fun e => hb e.symm)]

/-- An object is given up, and its block turns. -/
theorem rel_gone {N : Nat} {s : St} {a : Act} (hr : Rel b₀ N s β a w) {id : Nat} {ad : Addr} (ho : (s.obj id).isSome = true) (hβ : β id = some ad) {w' : World} (hsz : w'.heap.size = w.heap.size) (hos : w'.os = w.os ∧ w'.output = w.output) (hoth : ∀ b, b ≠ ad.block → w'.heap[b]? = w.heap[b]?) :
    Rel b₀ N { s with obj := upd s.obj id none } β a w' ∧ Tr b₀ β s w β { s with obj := upd s.obj id none } w' := by
  have hB : b₀.B ≤ ad.block := by
    obtain ⟨cells, hc⟩ := Option.isSome_iff_exists.1 ho
    have := hr.obj id cells hc
    rw [hβ] at this
    exact this.block.1
  have hlive : ∀ i, (upd s.obj id none i).isSome = true → i ≠ id ∧ (s.obj i).isSome = true := fun i hi => by
    simp only [upd] at hi
    by_cases hid : i = id
    · simp [hid] at hi
    · rw [if_neg hid] at hi; exact ⟨hid, hi⟩
  have hne : ∀ i a', (upd s.obj id none i).isSome = true → β i = some a' → a'.block ≠ ad.block := fun i a' hi ha' hb => (hlive i hi).1 (hr.inj i id a' ad (hlive i hi).2 ho ha' hβ hb)
  have hkeep : Keep b₀ β s.gen s.obj w β s.gen (upd s.obj id none) w' := by
    refine ⟨fun b hb => ?_, fun _ => Nat.le_refl _, fun i _ hi => ?_⟩
    · have hnb : b ≠ ad.block := fun he => hb.2.2 id ad ho hβ he.symm
      exact ⟨⟨by rw [hsz]; exact hb.1, hb.2.1, fun i a' hi => hb.2.2 i a' (hlive i hi).2⟩, hoth b hnb⟩
    · refine ⟨(hlive i hi).2, rfl, fun a' ha' arr1 el1 fr1 h1 => ?_⟩
      rw [hoth _ (hne i a' hi ha')] at h1
      exact ⟨arr1, el1, fr1, h1, Nat.le_refl _⟩
  refine ⟨⟨hr.defers, hr.size, fun i => RepV.keep hkeep _ (hr.f i), fun i cells' hc' => ?_, fun i i' a1 a2 h1 h2 => hr.inj i i' a1 a2 (hlive i h1).2 (hlive i' h2).2, by rw [hsz]; exact hr.base⟩, by rw [hsz]; exact Nat.le_refl _, fun b hb => hoth b (by omega), hkeep, hos⟩
  have hi : (upd s.obj id none i).isSome = true := by
    have : upd s.obj id none i = some cells' := hc'
    rw [this]; rfl
  have hc'' : s.obj i = some cells' := by
    have h := hc'
    simp only [upd, if_neg (hlive i hi).1] at h
    exact h
  exact (hr.obj i cells' hc'').keep hkeep (fun a' ha' => hoth _ (hne i a' hi ha'))

theorem hook_ustr {o : Oper} {s : St} {K : St → Prop} {k : Box K} {B : Nat} {p n : Operand} {t1 t2 e : TypeId} (ho : o.op = .call ⟨.builtin .unsafeString, #[p, n], #[t1, t2]⟩) (ht : P.underlying t1 = some (.pointer e)) (hce : P.cellsOf e = 1) {id g : Nat} {l : List UInt8}
    (hp : s.ev p = .one (.ptr id g 0)) (hn0 : s.ev n = iv .i64 l.length) (hg : s.gen id = g) (hcode : code g = e + 1) {cells : List C} (hob : s.obj id = some cells) (hfit : cells.take l.length = l.map fun b => .d (byteD b)) (hl : l ≠ []) (h63 : l.length ≤ 9223372036854775807)
    (hk : K (St.put { s with obj := upd s.obj id none } o.dst (sv l))) : hookA (spB P B) o s k := by
  refine ⟨fun s' => s' = St.put { s with obj := upd s.obj id none } o.dst (sv l), fun b₀ N β a w hr hd next Q hn => ?_, fun _ e => e ▸ hk⟩
  have hv := hr.ev p
  have hw := hr.ev n
  rw [hp] at hv
  rw [hn0] at hw
  simp only [RepV, RepC] at hv hw
  have hw := hw.inv_int
  obtain ⟨ad, hβ, hsp, hv⟩ := hv.2.2 hg (by rw [hob]; rfl)
  have hobj := hr.obj id cells hob
  rw [hβ] at hobj
  obtain ⟨_, arr, el, lo, hi, hblk, ⟨_, hcl⟩, hlen, hcells⟩ := hobj.cells hsp
  rw [hg, hcode] at hcl
  obtain ⟨hel, hoff⟩ := hcl (by omega)
  have hel : el = e := Nat.add_right_cancel hel
  subst hel
  have hll : l.length ≤ cells.length := by
    have := congrArg List.length hfit
    simp at this
    omega
  have hrun := Lib.run_unsafeString_row (P := P) (w := w) t1 t2 o.type el ht hce ad.block (arr.size) (by simp [World.shape?, hblk]) l hl (by omega) h63 (fun j x hx => by
    have hjl := (List.getElem?_eq_some_iff.1 hx).1
    have hcj : cells[j]? = some (.d (byteD x)) := by
      have := congrArg (fun m : List C => m[j]?) hfit
      simp only [List.getElem?_take, hjl, if_true, List.getElem?_map, hx, Option.map_some] at this
      exact this
    obtain ⟨u, hu, hru⟩ := hcells j _ hcj
    simp only [RepC, byteD] at hru
    have hru := hru.inv_int
    rw [hoff, Nat.zero_add] at hu
    rw [addr_add, Nat.zero_add, cell?_of_arr hblk, hu, hru])
  have hex : (execOp a.eval o).run P w = .ok (.value (.string ⟨l.toArray⟩)) (w.freeze ⟨ad.block, 0, none⟩ l.length) := by
    rw [hoff] at hv
    simp [execOp, ho, resolve, invoke, hv, hw, builtin, hrun]
  obtain ⟨r1, t1⟩ := rel_gone hr (by rw [hob]; rfl) hβ (freeze_size w ⟨ad.block, 0, none⟩ l.length) (freeze_os _ _ _) (fun b hb => freeze_other w ⟨ad.block, 0, none⟩ l.length hb)
  refine wp_value hex (hn _ β _ _ rfl (r1.put hd ?_) (t1.trans (Tr.same (St.put_gen _ _ _) (St.put_obj _ _ _) rfl)))
  simp only [RepV, RepC]
  exact .str l

end
end Go.Am

namespace Go.Am

/-- Objects are given up, to which nothing that is wanted points. -/
theorem vs_drops {s : St} (p : Nat → Bool) : SemVs s ⟨s.f, s.gen, fun i => if p i = true then none else s.obj i⟩ := by
  refine vs_freeze (fun i => p i = true) rfl (fun i => .inl rfl) (fun i cells' hc => ?_)
  simp only at hc
  by_cases h : p i = true
  · rw [if_pos h] at hc; cases hc
  · rw [if_neg h] at hc
    exact ⟨h, cells', hc, rfl, fun j c c' e1 e2 => .inl (by rw [e1] at e2; exact (Option.some.inj e2).symm)⟩

theorem retF_drops {res : List Nat} {R : AV → (Nat → Nat) → Obs → Prop} {s : St} (p : Nat → Bool) (h : R (resAV s.f res) s.gen (fun i => if p i = true then none else s.obj i)) : RetF res R .normal s := ⟨_, vs_drops p, h⟩
theorem retF_dropsR {res : List Nat} {R : AV → (Nat → Nat) → Obs → Prop} {s : St} (p : Nat → Bool) (h : R (resAV s.f res) s.gen (fun i => if p i = true then none else s.obj i)) : RetF res R .ret s := ⟨_, vs_drops p, h⟩

@[go_sem] theorem absV_nili : absV .nilIface = .one (.d .nili) := Eq.trans rfl rfl
@[go_sem] theorem absV_nilf : absV .nilFunc = .one (.d .nilf) := Eq.trans rfl rfl

end Go.Am

namespace Go.Am
section
variable {P : Program} {T : Nat → TI} {b₀ : Bs} {rd : Option Nat} {Φ : St → Loc → List Deferred → World → Prop} {Ψ : PanF} {B0 : Nat}

theorem loop_introF {B : (Exit → St → Prop) → St → Prop} {b : Box B} {Q : Exit → St → Prop} {q : Box Q} {s : St} (I : Nat → St → Prop) (n : Nat) (h0 : I n s)
    (hr : ∀ n f g ob, I n ⟨f, g, ob⟩ → B (thenA (bx fun s' => ∃ n' s₁, n' < n ∧ (spF P rd b₀ Φ B0 Ψ).vs s' s₁ ∧ I n' s₁) q) ⟨f, g, ob⟩) : LoopA (spF P rd b₀ Φ B0 Ψ) b q s :=
  ⟨I, ⟨n, s, SemVs.refl s, h0⟩, fun n s hs => hr n s.f s.gen s.obj hs⟩
theorem round_endF {I : Nat → St → Prop} {n : Nat} {s : St} (n' : Nat) (h : n' < n) (hI : I n' s) : ∃ n' s₁, n' < n ∧ (spF P rd b₀ Φ B0 Ψ).vs s s₁ ∧ I n' s₁ := ⟨n', s, h, SemVs.refl s, hI⟩

theorem hook_callF (hΦ : KeptTr b₀ Φ) {o : Oper} {s : St} {K : St → Prop} {k : Box K} {f : FuncId} {args : Array Operand} {tys : Array TypeId} (ho : o.op = .call ⟨.value (.func f), args, tys⟩) {R : AV → Prop}
    (hp : PureR P f (args.toList.map s.ev) R) (hd : (args.toList.map s.ev).all dataAV = true) (hk : ∀ r, R r → K (s.put o.dst r)) : hookA (spF P rd b₀ Φ B0 Ψ) o s k :=
  hookF hΦ (by simp [noDefer, ho]) (hook_pure (B := 0) (k := k) ho hp hd hk)

theorem hook_funF (hΦ : KeptTr b₀ Φ) {o : Oper} {s : St} {K : St → Prop} {k : Box K} {f : FuncId} {args : Array Operand} {tys : Array TypeId} (ho : o.op = .call ⟨.value (.func f), args, tys⟩) {R : AV → (Nat → Nat) → Obs → Prop}
    (hp : FunR P f (args.toList.map s.ev) s.gen s.obj R) (hk : ∀ r g' ob', R r g' ob' → K (St.put ⟨s.f, g', ob'⟩ o.dst r)) : hookA (spF P rd b₀ Φ B0 Ψ) o s k :=
  hookF hΦ (by simp [noDefer, ho]) (hook_fun (B := 0) (k := k) ho hp hk)

/-- A call of a function value that holds no variables. -/
theorem hook_fnv {o : Oper} {s : St} {K : St → Prop} {k : Box K} {B : Nat} {t : Nat} {args : Array Operand} {tys : Array TypeId} (ho : o.op = .call ⟨.value (.tmp t), args, tys⟩) {f : FuncId} (hf : s.f t = .one (.d (.fn f))) {R : AV → Prop}
    (hp : PureR P f (args.toList.map s.ev) R) (hd : (args.toList.map s.ev).all dataAV = true) (hk : ∀ r, R r → K (s.put o.dst r)) : hookA (spB P B) o s k := by
  refine ⟨fun s' => ∃ r, R r ∧ s' = s.put o.dst r, ?_, fun _ ⟨r, hr, e⟩ => e ▸ hk r hr⟩
  intro b₀ N β a w hr hdst next Q hn
  have hv := hr.f t
  rw [hf] at hv
  simp only [RepV, RepC] at hv
  have hv : a.tmps.getD t undef = .func (.func f) #[] #[] := by generalize a.tmps.getD t undef = v at hv; cases hv; rfl
  have hrun : (execOp a.eval o).run P w = .ok (.enter f (args.map a.eval)) w := by
    obtain ⟨fn, h1, h2, h3⟩ := hp.1
    have h2 : ¬ fn.body = none := by intro h; rw [h] at h2; simp at h2
    have h3 : ¬ fn.name = "runtime.NumGoroutine" := by simpa using h3
    simp [execOp, ho, resolve, Act.eval, hv, Deferred.ofValue, invoke, callFunc, h1, h2, h3]
  unfold Oper.wp
  rw [hrun]
  simp only [Oper.upon]
  have hargs : ∀ l : List Operand, (l.map s.ev).all dataAV = true → RVs (Imm b₀ β s.obj w) w (l.map s.ev) (l.map a.eval) := by
    intro l
    induction l with
    | nil => intro _; simp only [List.map_nil, RVs]
    | cons x l ih =>
      intro h
      simp only [List.map_cons, List.all_cons, Bool.and_eq_true] at h
      simp only [List.map_cons, RVs]
      exact ⟨_, _, rfl, RepV.data h.1 (hr.ev x), ih h.2⟩
  have := hp.2 (Imm b₀ β s.obj w) w (args.toList.map a.eval) (fun _ h => h.1) (hargs _ hd)
  rw [show (args.toList.map a.eval).toArray = args.map a.eval from Array.ext' (by simp)] at this
  refine this.mono fun e w' ⟨v, r, he, hR, hs, hh, hos, hv⟩ => ?_
  subst he
  obtain ⟨g1, g2⟩ := hr.grow hs hh hos
  refine hn _ β _ w' ⟨r, hR, rfl⟩ (g1.put hdst (RV.rep r (RV.mono (fun b hb => ⟨imm_new hr (fun _ h => h) hb, rfl⟩) r hv))) (g2.trans (Tr.same (St.put_gen _ _ _) (St.put_obj _ _ _) rfl))

theorem hook_fnvF (hΦ : KeptTr b₀ Φ) {o : Oper} {s : St} {K : St → Prop} {k : Box K} {t : Nat} {args : Array Operand} {tys : Array TypeId} (ho : o.op = .call ⟨.value (.tmp t), args, tys⟩) {f : FuncId} (hf : s.f t = .one (.d (.fn f))) {R : AV → Prop}
    (hp : PureR P f (args.toList.map s.ev) R) (hd : (args.toList.map s.ev).all dataAV = true) (hk : ∀ r, R r → K (s.put o.dst r)) : hookA (spF P rd b₀ Φ B0 Ψ) o s k :=
  hookF hΦ (by simp [noDefer, ho]) (hook_fnv (B := 0) (k := k) ho hf hp hd hk)

theorem hook_viewF (hΦ : KeptTr b₀ Φ) {o : Oper} {s : St} {K : St → Prop} {k : Box K} {f : FuncId} {args : Array Operand} {tys : Array TypeId} (ho : o.op = .call ⟨.value (.func f), args, tys⟩) {R : AV → Prop} {xs : List AV}
    (hx : FrzVs s (args.toList.map s.ev) xs) (hp : PureR P f xs R) (hd : ∀ r, R r → scalarAV r = true) (hk : ∀ r, R r → K (s.put o.dst r)) : hookA (spF P rd b₀ Φ B0 Ψ) o s k :=
  hookF hΦ (by simp [noDefer, ho]) (hook_view (k := k) ho hx hp hd hk)
end
section
variable {S : Sp} {T : Nat → TI}
@[go_sem] theorem wpC_rangeFunc {fo : Operand} {ps : Array Tmp} {x y : Code} {f : Nat → AV} {g : Nat → Nat} {ob : Nat → Option (List C)} {Q : Exit → St → Prop} {q : Box Q} : wpC S T (.rangeFunc fo ps x y) q ⟨f, g, ob⟩ = hookC S (.rangeFunc fo ps x y) ⟨f, g, ob⟩ q := Eq.trans rfl rfl
end
end Go.Am

namespace Go.Am
open Go.ChangeShapes Go.WideShapes Go.ChangeAt Go.RowKit
variable {H : Type} {enc : TypeId × Value → H}

theorem returns_of_law_laid {C : Checked} {os : Os} {f : FuncId} {fn : Func} {s : ChangeSpec} {conds : List PathCond} {laid : List (String × DataW Unit)} (own : ownKnob C.prog.godebug = none) (started : os.Started) (noInit : C.prog.inits.idxOf? f = none) (hfn : C.prog.funcs[f]? = some fn)
    (witness : ∃ (w : World) (tape : Tape) (i : Input), w.os = os ∧ (w.forCall tape i).Shaped C.prog ∧ i.vars = [] ∧ Input.okWide C.prog (w.forCall tape i) .any w.heap.size f i ∧
      ((s.pre enc C.prog fn conds false (w.forCall tape i).memory i.args ∧ laidMetH C.prog laid (w.forCall tape i).memory) ∧ sizedMet enc C.prog fn (OpenSpec.ofChange s) false (w.forCall tape i).memory i.args) ∧ Assume.holds {} C.prog (lone (Frame.enter C.prog f i.args .normal) [] (w.forCall tape i)))
    (hvars : s.vars = []) (hl : laidOutB C.prog = true) (hts : fn.params.toList.all (fun t => C.prog.readableRec t && decide (t < C.prog.types.size)) = true) {tb : TypeId} (hres : fn.resultTypes = #[tb]) (htb : C.prog.underlying tb = some .bool)
    (hspec : ∀ ds : List (DataW H), ds.length = fn.params.toList.length → s.fn H ds = { results := [.lit (.bool true)], args := ds })
    (hcall : ∀ (W : World) (base : Nat) (args : Array Value) (ds : List (DataW H)) (ps : List MemPlace), (∀ (j : Nat) t v, fn.params[j]? = some t → args[j]? = some v → Value.okWide C.prog W .any base t v) → DataW.TrodAll enc C.prog W 0 (fun _ => true) true fn.params.toList args.toList ds ps → (DataW.weightsEach C.prog fn.params.toList ds).all (· ≤ reachBytes) = true → SaysTrue C.prog f args W) :
    ReturnsInHanded {} C os f .any (fun w args => (s.pre enc C.prog fn conds false w args ∧ laidMetH C.prog laid w) ∧ sizedMet enc C.prog fn (OpenSpec.ofChange s) false w args) (s.post enc C.prog fn false true false false) := by
  refine returnsInHanded_of_change_and (X := fun w _ => laidMetH C.prog laid w) (fun _ _ _ hh h => h.of_heap hh) own started noInit hfn witness ?_
  intro W base args ds gs before hval hW hcnd hsz _ _
  have hW' := hW
  obtain ⟨p, q, hA, hV, rfl, hfz, hnd⟩ := hW
  rw [hvars] at hV
  obtain ⟨rfl, rfl⟩ := trodVars_none hV
  have hvt : s.plain.varTypes C.prog = [] := by simp [ChangeSpec.plain, DataSpec.varTypes, hvars]
  rw [hvt, List.append_nil, List.append_nil] at hsz
  refine (hcall W base args ds p hval hA hsz).mono fun e W' ⟨he, hs, hb, ho⟩ => ⟨_, he, ?_⟩
  have hlt : ∀ x ∈ p, x.block < W.heap.size := fun x hx => hW'.lt x (by simp [hx])
  have hsp : s.fn H (ds ++ []) = { results := [.lit (.bool true)], args := ds } := by rw [List.append_nil]; exact hspec ds (trodAll_len _ _ _ _ hA)
  refine ⟨ds, [], p ++ [], [], p, [], hW', ?_, ?_, ?_, kept_of hb ho _, fun h => by cases h⟩
  · rw [hsp, hres]
    exact trodAll_mk1 ⟨1, by simp [DataW.trod, htb, Value.cells]⟩
  · rw [hsp]
    exact trodAll_stays hl hb _ _ _ _ hts hlt hA
  · rw [hsp, hvars]
    exact rfl

end Go.Am

namespace Go.Am

/-- The blocks up to a number are as they were told. -/
abbrev Hold := Nat → Option Obj
def Held (gb : Nat) (o : Hold) (w : World) : Prop := gb < w.heap.size ∧ ∀ b, b ≤ gb → w.heap[b]? = o b
theorem Held.lt {gb : Nat} {o : Hold} {w : World} (h : Held gb o w) : gb < w.heap.size := h.1
theorem Held.down {gb gb' : Nat} {o : Hold} {w : World} (hl : gb ≤ gb') (h : Held gb' o w) : Held gb o w := ⟨Nat.lt_of_le_of_lt hl h.1, fun b hb => h.2 b (Nat.le_trans hb hl)⟩

/-- .. and such blocks as data may refer to. -/
def HeldI (b₀ : Bs) (gb : Nat) (o : Hold) (w : World) : Prop := (gb < b₀.B ∧ ∀ b, b ≤ gb → b₀.I b) ∧ Held gb o w

/-- PureR, where an old block holds o. -/
def PureG (P : Program) (gb : Nat) (o : Hold) (f : FuncId) (args : List AV) (R : AV → Prop) : Prop :=
  Fine P f ∧ ∀ (J : Nat → Prop) (w : World) (vs : List Value), Held gb o w → (∀ b, J b → b < w.heap.size) → RVs J w args vs →
    Calls P f vs.toArray w fun e w' => ∃ v r, e = .returned v ∧ R r ∧ w.heap.size ≤ w'.heap.size ∧ (∀ b, b < w.heap.size → w'.heap[b]? = w.heap[b]?) ∧ (w'.os = w.os ∧ w'.output = w.output) ∧ RV (fun b => b < w'.heap.size ∧ (b < w.heap.size → J b ∨ b ≤ gb)) w' r v

theorem PureR.toG {P : Program} {gb : Nat} {o : Hold} {f : FuncId} {args : List AV} {R : AV → Prop} (h : PureR P f args R) : PureG P gb o f args R :=
  ⟨h.1, fun J w vs _ h1 h2 => (h.2 J w vs h1 h2).mono fun _ _ ⟨v, r, q1, q2, q3, q4, q5, q6⟩ => ⟨v, r, q1, q2, q3, q4, q5, RV.mono (fun _ hb => ⟨⟨hb.1, fun hl => .inl (hb.2 hl)⟩, rfl⟩) r q6⟩⟩

/-- FunR, where a block that is older than the caller's own objects holds o. -/
def FunG (P : Program) (gb : Nat) (o : Hold) (f : FuncId) (xs : List AV) (g : Nat → Nat) (ob : Obs) (R : AV → (Nat → Nat) → Obs → Prop) : Prop :=
  Fine P f ∧ ∀ (b₀ : Bs) (N : Nat) (β : Loc) (a : Act) (fa : Nat → AV) (w : World) (vs : List Value), gb < b₀.B → HeldI b₀ gb o w → Rel b₀ N ⟨fa, g, ob⟩ β a w → RepVs b₀ β g ob w xs vs →
    Calls P f vs.toArray w fun e w' => ∃ v r g' ob' β', e = .returned v ∧ R r g' ob' ∧ RepV b₀ β' g' ob' w' r v ∧
      (∀ id cells, ob' id = some cells → ObjAt b₀ β' g' ob' w' (g' id) cells (β' id)) ∧ (∀ id id' a a', (ob' id).isSome = true → (ob' id').isSome = true → β' id = some a → β' id' = some a' → a.block = a'.block → id = id') ∧
      Tr b₀ β ⟨fa, g, ob⟩ w β' ⟨fa, g', ob'⟩ w'

theorem FunR.toG {P : Program} {gb : Nat} {o : Hold} {f : FuncId} {xs : List AV} {g : Nat → Nat} {ob : Obs} {R : AV → (Nat → Nat) → Obs → Prop} (h : FunR P f xs g ob R) : FunG P gb o f xs g ob R := ⟨h.1, fun b₀ N β a fa w vs _ _ => h.2 b₀ N β a fa w vs⟩

/-- What holds along in a frame of such a function. -/
def PhiG (gb : Nat) (o : Hold) (b₀ : Bs) (β0 : Loc) (s0 : St) (w0 : World) : St → Loc → List Deferred → World → Prop := fun s β ds w => (gb < b₀.B ∧ HeldI b₀ gb o w) ∧ PhiC b₀ β0 s0 w0 s β ds w

section
variable {P : Program} {T : Nat → TI} {b₀ : Bs} {rd : Option Nat} {gb : Nat} {o : Hold} {Ψ : PanF} {B0 : Nat} {β0 : Loc} {s0 : St} {w0 : World}

theorem kept_phiG : KeptTr b₀ (PhiG gb o b₀ β0 s0 w0) := fun _ _ _ _ _ _ _ h ht => ⟨⟨h.1.1, h.1.2.1, Nat.lt_of_lt_of_le h.1.2.2.1 ht.size, fun b hb => by rw [ht.old b (Nat.lt_of_le_of_lt hb h.1.1)]; exact h.1.2.2.2 b hb⟩, kept_phiC _ _ _ _ _ _ _ h.2 ht⟩

theorem imm_held {N : Nat} {s : St} {β : Loc} {a : Act} {w : World} (hr : Rel b₀ N s β a w) (hG : HeldI b₀ gb o w) {b : Nat} (hb : b ≤ gb) : Imm b₀ β s.obj w b := by
  refine ⟨Nat.lt_of_le_of_lt hb hG.2.1, fun _ => hG.1.2 b hb, fun id a' ho hβ he => ?_⟩
  obtain ⟨cells, hc⟩ := Option.isSome_iff_exists.1 ho
  have h := hr.obj id cells hc
  rw [hβ] at h
  have h1 := h.block.1
  have h2 := hG.1.1
  omega

theorem hook_callG {Φ : St → Loc → List Deferred → World → Prop} (hΦ : KeptTr b₀ Φ) (hG : ∀ s β ds w, Φ s β ds w → HeldI b₀ gb o w) {op : Oper} {s : St} {K : St → Prop} {k : Box K} {f : FuncId} {args : Array Operand} {tys : Array TypeId} (ho : op.op = .call ⟨.value (.func f), args, tys⟩) {R : AV → Prop}
    (hp : PureG P gb o f (args.toList.map s.ev) R) (hd : (args.toList.map s.ev).all dataAV = true) (hk : ∀ r, R r → K (s.put op.dst r)) : hookA (spF P rd b₀ Φ B0 Ψ) op s k := by
  refine ⟨fun s' => ∃ r, R r ∧ s' = s.put op.dst r, ?_, fun _ ⟨r, hr, e⟩ => e ▸ hk r hr⟩
  intro N β a ds w hr hφ hdst next Q hn _
  have hnd : noDefer op = true := by simp [noDefer, ho]
  refine wp_fen hnd ?_
  unfold Oper.wp
  rw [run_call ho hp.1 w]
  simp only [Oper.upon]
  have hargs : ∀ l : List Operand, (l.map s.ev).all dataAV = true → RVs (Imm b₀ β s.obj w) w (l.map s.ev) (l.map a.eval) := by
    intro l
    induction l with
    | nil => intro _; simp only [List.map_nil, RVs]
    | cons x l ih =>
      intro h
      simp only [List.map_cons, List.all_cons, Bool.and_eq_true] at h
      simp only [List.map_cons, RVs]
      exact ⟨_, _, rfl, RepV.data h.1 (hr.ev x), ih h.2⟩
  have := hp.2 (Imm b₀ β s.obj w) w (args.toList.map a.eval) (hG _ _ _ _ hφ).2 (fun _ h => h.1) (hargs _ hd)
  rw [show (args.toList.map a.eval).toArray = args.map a.eval from Array.ext' (by simp)] at this
  refine this.mono fun e w' ⟨v, r, he, hR, hs, hh, hos, hv⟩ => ?_
  subst he
  obtain ⟨g1, g2⟩ := hr.grow hs hh hos
  have g3 := g2.trans (Tr.same (St.put_gen s op.dst r) (St.put_obj s op.dst r) rfl)
  have h1 := g1.put hdst (RV.rep r (RV.mono (fun b hb => ⟨imm_new hr (J := fun b => Imm b₀ β s.obj w b ∨ b ≤ gb) (fun b h => h.elim id (imm_held hr (hG _ _ _ _ hφ))) hb, rfl⟩) r hv))
  exact ⟨h1.defers, hn _ β _ w' ⟨r, hR, rfl⟩ h1 (hΦ _ _ _ _ _ _ _ hφ g3)⟩

/-- An element of a package's table, which is held: its address tells what is there. -/
theorem hook_gidx {Φ : St → Loc → List Deferred → World → Prop} (hΦ : KeptTr b₀ Φ) (hG : ∀ s β ds w, Φ s β ds w → HeldI b₀ gb o w) (hT : TabOk P T) {dst : Option Tmp} {t n e gi : Nat} {ix : Operand} {ty : TypeId} {ps : String} {af : Array Edge} {gd : Option (Nat × Bool)} {s : St} {K : St → Prop} {k : Box K}
    (ht : (T t).desc = .array n e) (he : okD (T e).desc = true) (hgi : gi ≤ gb) {kd : IntKind} {i : Nat} (hix : s.ev ix = iv kd i) (hi : i < n) {cs : List D} (hcs : ∀ (j : Nat) (x : D), cs[j]? = some x → plainD x = true)
    (hrow : ∀ w : World, Held gb o w → ∀ (j : Nat) (x : D), cs[j]? = some x → w.cell? ⟨gi, i * (T e).size + j, none⟩ = some (dV x)) (hk : K (s.put dst (.one (.d (.iptr cs))))) :
    hookA (spF P rd b₀ Φ B0 Ψ) ⟨dst, .indexAddr t (.global gi) ix, ty, ps, af, gd⟩ s k := by
  refine ⟨fun s' => s' = s.put dst (.one (.d (.iptr cs))), fun N β a ds w hr hφ hd next Q hn _ => ?_, fun _ e => e ▸ hk⟩
  refine wp_fen rfl ?_
  have hH := hG _ _ _ _ hφ
  have hvi := hr.ev ix
  rw [hix] at hvi
  simp only [RepV, RepC] at hvi
  have hvi := hvi.inv_int
  have hu := (hT t (by rw [ht]; rfl)).desc
  rw [ht] at hu
  have hte := hT e he
  have hex : (execOp a.eval ⟨dst, .indexAddr t (.global gi) ix, ty, ps, af, gd⟩).run P w = .ok (.value (.pointer (some ⟨gi, i * (T e).size, none⟩))) w := by
    simp [execOp, hvi, show a.eval (.global gi) = .pointer (some ⟨gi, 0, none⟩) from rfl, Instr.indexAt, asIntOf, run_underlying hu, hi, run_sizeOf' hte, addr_add, Instr.sureAddr]
  have hr' := hr.put hd (x := .one (.d (.iptr cs))) (v := .pointer (some ⟨gi, i * (T e).size, none⟩)) (by
    simp only [RepV, RepC]
    refine .iptr (fun j => dV (cs.getD j .nsl)) (fun _ => imm_held hr hH hgi) (fun j x hx => ?_) (fun j x hx => ?_)
    · rw [hrow w hH.2 j x hx]; simp [List.getD_eq_getElem?_getD, hx]
    · rw [show cs.getD j .nsl = x by simp [List.getD_eq_getElem?_getD, hx]]; exact RepD.of_plain (hcs j x hx))
  exact wp_value hex ⟨hr'.defers, hn _ β _ w rfl hr' (hΦ _ _ _ _ _ _ _ hφ (Tr.same (St.put_gen _ _ _) (St.put_obj _ _ _) rfl))⟩

theorem hook_funG {Φ : St → Loc → List Deferred → World → Prop} (hΦ : KeptTr b₀ Φ) (hG : ∀ s β ds w, Φ s β ds w → gb < b₀.B ∧ HeldI b₀ gb o w) {op : Oper} {s : St} {K : St → Prop} {k : Box K} {f : FuncId} {args : Array Operand} {tys : Array TypeId} (ho : op.op = .call ⟨.value (.func f), args, tys⟩) {R : AV → (Nat → Nat) → Obs → Prop}
    (hp : FunG P gb o f (args.toList.map s.ev) s.gen s.obj R) (hk : ∀ r g' ob', R r g' ob' → K (St.put ⟨s.f, g', ob'⟩ op.dst r)) : hookA (spF P rd b₀ Φ B0 Ψ) op s k := by
  refine ⟨fun s' => ∃ r g' ob', R r g' ob' ∧ s' = St.put ⟨s.f, g', ob'⟩ op.dst r, ?_, fun _ ⟨r, g', ob', hr, e⟩ => e ▸ hk r g' ob' hr⟩
  intro N β a ds w hr hφ hdst next Q hn _
  have hnd : noDefer op = true := by simp [noDefer, ho]
  refine wp_fen hnd ?_
  unfold Oper.wp
  rw [run_call ho hp.1 w]
  simp only [Oper.upon]
  obtain ⟨hg1, hg2⟩ := hG _ _ _ _ hφ
  have := hp.2 b₀ N β a s.f w (args.toList.map a.eval) hg1 hg2 hr (args_rep hr _)
  rw [show (args.toList.map a.eval).toArray = args.map a.eval from Array.ext' (by simp)] at this
  refine this.mono fun e w' ⟨v, r, g', ob', β', he, hR, hv, h1, h2, h3⟩ => ?_
  subst he
  obtain ⟨k1, k2⟩ := call_back hr hdst hv h1 h2 h3
  exact ⟨k1.defers, hn _ β' _ w' ⟨r, g', ob', hR, rfl⟩ k1 (hΦ _ _ _ _ _ _ _ hφ k2)⟩
end

/-- What holds along in a frame that bears no marks. -/
def PhiN (gb : Nat) (o : Hold) (b₀ : Bs) (β0 : Loc) (s0 : St) (w0 : World) : St → Loc → List Deferred → World → Prop := fun s β ds w => (gb < b₀.B ∧ HeldI b₀ gb o w) ∧ ds = [] ∧ Tr b₀ β0 s0 w0 β s w

section
variable {P : Program} {T : Nat → TI} {gb : Nat} {o : Hold}
theorem kept_phiN {b₀ : Bs} {β0 : Loc} {s0 : St} {w0 : World} : KeptTr b₀ (PhiN gb o b₀ β0 s0 w0) := fun _ _ _ _ _ _ _ h ht => ⟨⟨h.1.1, h.1.2.1, Nat.lt_of_lt_of_le h.1.2.2.1 ht.size, fun b hb => by rw [ht.old b (Nat.lt_of_le_of_lt hb h.1.1)]; exact h.1.2.2.2 b hb⟩, h.2.1, h.2.2.trans ht⟩

end

theorem PureG.up {P : Program} {gb gb' : Nat} {o : Hold} {f : FuncId} {args : List AV} {R : AV → Prop} (hl : gb ≤ gb') (h : PureG P gb o f args R) : PureG P gb' o f args R := 
  ⟨h.1, fun J w vs hG h1 h2 => (h.2 J w vs (hG.down hl) h1 h2).mono fun _ _ ⟨v, r, q1, q2, q3, q4, q5, q6⟩ => ⟨v, r, q1, q2, q3, q4, q5, RV.mono (fun _ hb => ⟨⟨hb.1, fun hw => (hb.2 hw).imp id (fun h => Nat.le_trans h hl)⟩, rfl⟩) r q6⟩⟩

/-- Of a contract off the shelf: plain arguments, a plain result, and the world as it was but for new blocks. -/
theorem pure_of_shelf {P : Program} {f : FuncId} {args : List AV} (hf : Fine P f) (hs : (args.all fun x => match x with | .one c => scalarC c | _ => false) = true) {r : AV} (hr : scalarAV r = true)
    (h : ∀ w : World, Calls P f (args.map scVal).toArray w fun e w' => e = .returned (scVal r) ∧ w.heap.size ≤ w'.heap.size ∧ (∀ b, b < w.heap.size → w'.heap[b]? = w.heap[b]?) ∧ (w'.os = w.os ∧ w'.output = w.output)) : PureR P f args (· = r) := by
  refine ⟨hf, fun J w vs hJ hv => ?_⟩
  have hvs : vs = args.map scVal := by
    clear h hf
    induction args generalizing vs with
    | nil => simp only [RVs] at hv; exact hv
    | cons x xs ih =>
      simp only [RVs] at hv
      obtain ⟨u, us, rfl, h1, h2⟩ := hv
      simp only [List.all_cons, Bool.and_eq_true] at hs
      rw [List.map_cons, ← ih hs.2 us h2]
      congr 1
      cases x with
      | one c =>
        simp only [RV, RVc] at h1
        obtain ⟨x, rfl, h1⟩ := h1
        simp only [scVal, scC]
        exact RepD.scalar hs.1 h1
      | _ => simp at hs
  rw [hvs]
  refine (h w).mono fun e w' ⟨he, h1, h2, h3⟩ => ⟨_, r, he, rfl, h1, h2, h3, ?_⟩
  exact scVal_rep hr

end Go.Am

namespace Go.Am

section
variable {P : Program} {T : Nat → TI} {b₀ : Bs} {w : World} {rd : Option Nat} {Φ : St → Loc → List Deferred → World → Prop} {Ψ : PanF} {B : Nat} {ops : Array Oper}

theorem put_nods {a : Act} (ha : a.defers = []) (d : Option Nat) (v : Value) : (a.put d v).defers = [] := by cases d <;> exact ha

theorem still_defers {o : Oper} {a : Act} {K : Act → Prop} (ha : a.defers = []) (h : o.still P a w K) : o.still P a w (fun a' => a'.defers = [] ∧ K a') := by
  unfold Oper.still at *
  generalize (execOp a.eval o).run P w = r at *
  cases r with
  | ok n w' =>
    cases n <;> simp only [Oper.stillUpon] at h ⊢
    case enter f args => obtain ⟨h1, v, hc, hn⟩ := h; exact ⟨h1, v, hc, put_nods ha _ _, hn⟩
    all_goals exact ⟨h.1, put_nods ha _ _, h.2⟩
  | halt x w' => simp only [Oper.stillUpon] at h

theorem wpOpIn_of_stOp {i : Nat} {a : Act} {ds : List Deferred} {K : Act → Prop} {K' : Act → World → Prop} {Q' : Exit → Act → World → Prop} (ha : a.defers = []) (hnd : ops.toList.all noDefer = true) (h : ∀ a', a'.defers = [] → K a' → K' { a' with defers := ds } w) (hh : stOp P ops w i K a) :
    wpOpIn (fen rd) 0 P ops Q' i K' { a with defers := ds } w := by
  unfold stOp at hh
  unfold wpOpIn
  cases ho : ops[i]? with
  | none => simp only [ho] at hh ⊢; exact h _ ha hh
  | some o =>
    simp only [ho] at hh ⊢
    have hno : noDefer o = true := List.all_eq_true.1 hnd o (by
      obtain ⟨hi, e⟩ := Array.getElem?_eq_some_iff.1 ho
      rw [← e]; exact Array.getElem_mem_toList hi)
    by_cases hw : Region.wanted o (yielded ops a.tmps) = true
    · rw [if_pos hw] at hh ⊢
      exact wp_fen hno (Oper.wp_of_still (K' := fun a' w' => a'.defers = [] ∧ K' { a' with defers := ds } w') (fun a' hk => ⟨hk.1, h a' hk.1 hk.2⟩) (still_defers ha hh))
    · rw [if_neg hw] at hh ⊢
      refine ⟨fun _ _ => trivial, ?_⟩
      rw [put_ds]
      exact h _ (put_nods ha _ _) hh

theorem wpAnyIn_of_head {n g : Nat} {ds : List Deferred} {L : Array Bool → Act → Prop} {Q' : Exit → Act → World → Prop} (hnd : ops.toList.all noDefer = true) (hL : ∀ listed a, a.defers = [] → L listed a → wpAnyIn (fen rd) 0 P .any ops Q' g listed { a with defers := ds } w) :
    ∀ (f : Nat) (listed : Array Bool) (a : Act), a.defers = [] → wpAnyL P .any ops w n L f listed a → wpAnyIn (fen rd) 0 P .any ops Q' (f + g) listed { a with defers := ds } w
  | 0, listed, a, ha, h => by rw [Nat.zero_add]; exact hL _ _ ha h
  | f + 1, listed, a, ha, h => by
    rw [show f + 1 + g = (f + g) + 1 by omega]
    exact ⟨fun h0 => absurd h0 h.1, fun i hi => wpOpIn_of_stOp ha hnd (fun a' ha' h' => wpAnyIn_of_head hnd hL f _ a' ha' h') (h.2 i hi).2⟩

theorem wpAnyIn_of_still {ds : List Deferred} {Q : Act → Prop} {Q' : Exit → Act → World → Prop} (hnd : ops.toList.all noDefer = true) (hQ : ∀ a, a.defers = [] → Q a → Q' .normal { a with defers := ds } w) : ∀ (fuel : Nat) (listed : Array Bool) (a : Act), a.defers = [] →
    wpAnyS P .any ops w Q fuel listed a → wpAnyIn (fen rd) 0 P .any ops Q' fuel listed { a with defers := ds } w
  | 0, _, _, ha, h => ⟨h.1, hQ _ ha h.2⟩
  | fuel + 1, _, _, ha, h => ⟨fun h0 => hQ _ ha (h.1 h0), fun i hi => wpOpIn_of_stOp ha hnd (fun a' ha' => wpAnyIn_of_still hnd hQ fuel _ a' ha') (h.2 i hi)⟩

theorem wpAnyIn_of_seq {F : Fence} {n : Nat} {Q' : Exit → Act → World → Prop} : ∀ (l : List Oper) (k : Nat) (listed : Array Bool) (a : Act) (w : World), (∀ j, l[j]? = ops[k + j]?) →
    Region.seqB .any ops l.length k listed = true → wpListIn F n P ops Q' l a w → wpAnyIn F n P .any ops Q' l.length listed a w
  | [], _, _, _, _, _, hB, h => ⟨by simpa [Region.seqB] using hB, h⟩
  | o :: l, k, listed, a, w, hl, hB, h => by
    have h0 : ops[k]? = some o := by simpa using (hl 0).symm
    simp only [List.length_cons, Region.seqB, Bool.and_eq_true, decide_eq_true_eq] at hB
    refine ⟨fun h1 => (by rw [hB.1] at h1; cases h1), fun i hi => ?_⟩
    rw [hB.1] at hi
    have hik : i = k := by simpa using hi
    subst hik
    have hw : wpOpIn F n P ops Q' i (wpListIn F n P ops Q' l) a w := by unfold wpOpIn; simp only [h0]; exact h
    exact wpOpIn_mono (fun a' w' h' => wpAnyIn_of_seq l (i + 1) _ a' w' (fun j => by have := hl (j + 1); simpa [Nat.add_assoc, Nat.add_comm 1 j] using this) hB.2 h') hw

/-- Quiet operations know nothing of the frame. -/
theorem opA_quiet {o : Oper} (hp : pureOp o.op = true) {s : St} {K : St → Prop} {k : Box K} (h : opA (spF P rd b₀ Φ B Ψ) T o s k) : opA (spB P B) T o s k := by
  obtain ⟨dst, op, ty, ps, af, gd⟩ := o
  cases op with
  | slice t x lo hi mx => cases mx <;> first | exact h | (simp [pureOp] at hp; done)
  | indexAddr t x ix => cases x <;> first | (simp [pureOp] at hp; done) | exact h
  | makeFunc f => cases f <;> first | exact h | (simp [pureOp] at hp; done)
  | call c =>
    obtain ⟨callee, args, tys⟩ := c
    cases callee with
    | value f => simp [pureOp] at hp
    | invoke r m => simp [pureOp] at hp
    | builtin b => cases b <;> first | exact h | (simp [pureOp] at hp; done)
  | _ => first | exact h | (simp [pureOp] at hp; done)

theorem wpStill_soundF (hT : TabOk P T) {N : Nat} {β : Loc} {Q : Act → Prop} {K : St → Prop} {k : Box K} (more : List Oper) : ∀ (l : List Oper) {s : St} {a : Act}, Rel b₀ N s β a w → dstsOk N l = true → l.all (pureOp ·.op) = true → wpO (spF P rd b₀ Φ B Ψ) T ops (l ++ more) s k →
    (∀ s' a', wpO (spF P rd b₀ Φ B Ψ) T ops more s' k → Rel b₀ N s' β a' w → Tr b₀ β s w β s' w → Q a') → wpStill P ops w Q l a
  | [], s, a, hr, _, _, h, hQ => hQ s a h hr Tr.refl
  | o :: rest, s, a, hr, hds, hp, h, hQ => by
    obtain ⟨hd, hds'⟩ := dstsOk_cons hds
    simp only [List.all_cons, Bool.and_eq_true] at hp
    rw [List.cons_append] at h
    unfold wpO at h
    unfold wpStill
    have hop : ∀ {s0 : St}, Rel b₀ N s0 β a w → Tr b₀ β s w β s0 w → opA (spF P rd b₀ Φ B Ψ) T o s0 (bx fun s' => wpO (spF P rd b₀ Φ B Ψ) T ops (rest ++ more) s' k) → o.still P a w (wpStill P ops w Q rest) := fun {s0} hr0 ht0 h0 => by
      obtain ⟨y, cv, h1, h2, h3⟩ := opA_pure hT hr0 hp.1 (opA_quiet hp.1 h0)
      unfold Oper.still
      rw [h2 w .refl]
      refine ⟨rfl, wpStill_soundF hT more rest (hr0.put hd h3) hds' hp.2 h1 (fun s' a' k1 k2 k3 => hQ s' a' k1 k2 (ht0.trans (Tr.trans (Tr.same (St.put_gen _ _ _) (St.put_obj _ _ _) rfl) k3)))⟩
    cases hg : o.guard with
    | none =>
      rw [hg] at h
      simp only at h
      rw [if_pos (by simp [Region.wanted, hg])]
      exact hop hr Tr.refl h
    | some p =>
      obtain ⟨j, want⟩ := p
      rw [hg] at h
      simp only at h
      obtain ⟨d, hj, h⟩ := onSome_inv h
      unfold guardA at h
      split at h
      · rename_i b hb
        have hy := hr.yielded hj hb
        have h := BSplit_inv h
        have hr' := hr.reput hb
        by_cases hw : b = want
        · rw [if_pos hw] at h
          rw [if_pos (by simp [Region.wanted, hg, hy, hw])]
          exact hop hr' (Tr.same rfl rfl rfl) h
        · rw [if_neg hw] at h
          rw [if_neg (by simp [Region.wanted, hg, hy, hw])]
          have hp' := hr'.put hd (x := uv) (v := undef) undefRep
          exact wpStill_soundF hT more rest hp' hds' hp.2 h (fun s2 a2 k1 k2 k3 => hQ _ _ k1 k2 (Tr.trans (Tr.same (by rw [St.put_gen]) (by rw [St.put_obj]) rfl) k3))
      · rename_i hb
        have hy := hr.yielded_u hj hb
        rw [if_neg (by simp [Region.wanted, hg, hy])]
        have hp' := hr.put hd (x := uv) (v := undef) undefRep
        exact wpStill_soundF hT more rest hp' hds' hp.2 h (fun s2 a2 k1 k2 k3 => hQ _ _ k1 k2 (Tr.trans (Tr.same (by rw [St.put_gen]) (by rw [St.put_obj]) rfl) k3))
      · exact h.elim

theorem region_draw_soundF (hT : TabOk P T) (hm : P.follows .mixedOrders = true) (hΦ : KeptTr b₀ Φ) {N id : Nat} {β : Loc} {ds : List Deferred} {K : St → Prop} {k : Box K} {s : St} {a : Act} (hr : Rel b₀ N s β a w) (hφ : Φ s β ds w) (hnd : ops.toList.all noDefer = true) (hd : dstsOk N ops.toList = true) (hok : drawOk ops = true)
    (h : wpO (spF P rd b₀ Φ B Ψ) T ops ops.toList s k) {Q : Exit → Act → World → Prop} (hQ : ∀ s' β' a' w', K s' → Rel b₀ N s' β' a' w' → Φ s' β' ds w' → Q .normal { a' with defers := ds } w') (hX : ∀ ch s' β' a' w', Ψ ch s' → Rel b₀ N s' β' a' w' → Φ s' β' ds w' → Q (.panic ch) { a' with defers := ds } w') : (Code.region id ops true).wpIn (fen rd) 0 P Q { a with defers := ds } w := by
  have hr1 : Rel b₀ N s β a { w with drawn := w.drawn + 1 } := hr.of_heap rfl
  have hφ1 : Φ s β ds { w with drawn := w.drawn + 1 } := hΦ _ _ _ _ _ _ _ hφ (Tr.same rfl rfl rfl)
  simp only [drawOk, Bool.or_eq_true, Bool.and_eq_true, List.any_eq_true] at hok
  refine wpIn_region_any hm ?_
  rcases hok with ⟨hp, hB⟩ | ⟨m, _, hp, hB⟩
  · simp only [Region.lexB, Bool.and_eq_true] at hB
    refine wpAnyIn_of_still (Q := fun a' => a'.defers = [] → Q .normal { a' with defers := ds } { w with drawn := w.drawn + 1 }) hnd (fun a' ha h => h ha) _ _ _ hr.defers ?_
    have hst : wpStill P ops { w with drawn := w.drawn + 1 } (fun a' => a'.defers = [] → Q .normal { a' with defers := ds } { w with drawn := w.drawn + 1 }) ops.toList a :=
      wpStill_soundF hT [] ops.toList hr1 hd hp (by rw [List.append_nil]; exact h) (fun s' a' k1 k2 k3 _ => hQ _ _ _ _ k1 k2 (hΦ _ _ _ _ _ _ _ hφ1 k3))
    have := wpAnyS_lex (md := .any) hB.1 ops.toList 0 (Array.replicate ops.size false) a (by simp) (by simpa using hB.2) hst
    simpa using this
  · obtain ⟨l, rfl⟩ : ∃ l : List Oper, ops = l.toArray := ⟨ops.toList, by simp⟩
    generalize hn0 : l.toArray.size - m = n at hp hB
    simp only [Region.lexTailB, Bool.and_eq_true, decide_eq_true_eq] at hB
    obtain ⟨⟨⟨⟨hsel, hn⟩, hs⟩, hc⟩, hlex⟩ := hB
    have hn' : n < l.length := by simpa using hn
    have htl : (l.take n).length = n := by simp; omega
    have hdl : (l.drop n).length = l.toArray.size - n := by simp
    have inv0 : HeadInv .any l.toArray n (Array.replicate l.toArray.size false) :=
      ⟨by simp, fun j oj _ hl => (by rw [getD_replicate_false] at hl; cases hl), fun t _ ht => getD_in (by simpa using ht) (getD_replicate_false _ _)⟩
    obtain ⟨d1, d2⟩ := dstsOk_take hd n
    have hnd2 : (l.drop n).all noDefer = true := List.all_eq_true.2 fun o ho => List.all_eq_true.1 hnd o (by simpa using List.mem_of_mem_drop ho)
    have hst : wpStill P l.toArray { w with drawn := w.drawn + 1 } (fun a' => a'.defers = [] → wpListIn (fen rd) 0 P l.toArray Q (l.drop n) { a' with defers := ds } { w with drawn := w.drawn + 1 }) (l.take n) a := by
      refine wpStill_soundF hT (l.drop n) (l.take n) hr1 d1 hp (by rw [List.take_append_drop]; simpa using h) (fun s' a' k1 k2 k3 _ => ?_)
      exact wpO_soundF hT hΦ (l.drop n) k2 (hΦ _ _ _ _ _ _ _ hφ1 k3) hnd2 d2 k1 hQ hX
    have H := wpAnyL_lex (md := .any) (g := l.toArray.size - n) hsel hs hc hn (l.take n) 0 _ a (fun j hj => by
      have hj' : j < n := by rw [htl] at hj; exact hj
      simp [hj']) (by simpa using htl) inv0 (by rw [htl]; exact hlex) hst
    have := wpAnyIn_of_head (Q' := Q) (ds := ds) (rd := rd) (g := l.toArray.size - n) hnd (fun listed a' ha hL => by
      have := wpAnyIn_of_seq (Q' := Q) (F := fen rd) (n := 0) (l.drop n) n listed { a' with defers := ds } { w with drawn := w.drawn + 1 } (fun j => by simp [List.getElem?_drop]) (by rw [hdl]; exact hL.1) (hL.2 ha)
      rwa [hdl] at this) _ _ _ hr.defers H
    rw [htl, show n + (l.toArray.size - n) = l.toArray.size by omega] at this
    exact this

/-- No 'defer', no scope. -/
def calm2 : Code → Bool
  | .region _ ops _ => ops.toList.all noDefer
  | .seq x y => calm2 x && calm2 y
  | .cond _ x y => calm2 x && calm2 y
  | .block _ c => calm2 c
  | .loop c => calm2 c
  | .scope _ => false
  | _ => true

theorem wpC_soundF2 (hT : TabOk P T) (hm : P.follows .mixedOrders = true) (hΦ : KeptTr b₀ Φ) {N : Nat} : ∀ (c : Code) {Q : Exit → St → Prop} {q : Box Q} {s : St} {β : Loc} {a : Act} {ds : List Deferred} {w : World}, calm2 c = true → codeOk N c = true → Rel b₀ N s β a w → Φ s β ds w → wpC (spF P rd b₀ Φ B Ψ) T c q s → c.wpIn (fen rd) 0 P (PostF b₀ N Φ Ψ Q) { a with defers := ds } w
  | .skip, _, _, s, β, a, ds, _, _, _, hr, hφ, h => wpIn_skip ⟨s, β, a, ds, rfl, .inl h, hr, hφ⟩
  | .label _, _, _, s, β, a, ds, _, _, _, hr, hφ, h => wpIn_label ⟨s, β, a, ds, rfl, .inl h, hr, hφ⟩
  | .exit _, _, _, s, β, a, ds, _, _, _, hr, hφ, h => wpIn_exit ⟨s, β, a, ds, rfl, .inl h, hr, hφ⟩
  | .goto _, _, _, s, β, a, ds, _, _, _, hr, hφ, h => wpIn_goto ⟨s, β, a, ds, rfl, .inl h, hr, hφ⟩
  | .ret, _, _, s, β, a, ds, _, _, _, hr, hφ, h => wpIn_ret ⟨s, β, a, ds, rfl, .inl h, hr, hφ⟩
  | .region id ops b, Q, q, s, β, a, ds, w, hcm, hc, hr, hφ, h => by
    simp only [calm2] at hcm
    cases b with
    | false =>
      have h : wpO (spF P rd b₀ Φ B Ψ) T ops ops.toList s (bx fun s' => Q .normal s') := h
      exact wpIn_region_list (wpO_soundF hT hΦ ops.toList hr hφ hcm hc h (fun s' β' a' w' h1 h2 h3 => ⟨s', β', a', ds, rfl, .inl h1, h2, h3⟩) (fun ch s' β' a' w' h1 h2 h3 => ⟨s', β', a', ds, rfl, .inr ⟨ch, rfl, h1⟩, h2, h3⟩))
    | true =>
      rcases h with ⟨hok, h⟩ | ⟨R, hR, hK⟩
      · exact region_draw_soundF hT hm hΦ hr hφ hcm hc hok h (fun s' β' a' w' h1 h2 h3 => ⟨s', β', a', ds, rfl, .inl h1, h2, h3⟩) (fun ch s' β' a' w' h1 h2 h3 => ⟨s', β', a', ds, rfl, .inr ⟨ch, rfl, h1⟩, h2, h3⟩)
      · exact wpIn_mono (hR N β a ds w hc hr hφ) (fun e a' w' ⟨s', β', a0, ds', h0, h1, h2, h3⟩ => ⟨s', β', a0, ds', h0, h1.imp (hK _ _) (fun h => h), h2, h3⟩)
  | .seq x y, Q, q, s, β, a, ds, w, hcm, hc, hr, hφ, h => by
    simp only [codeOk, Bool.and_eq_true] at hc
    simp only [calm2, Bool.and_eq_true] at hcm
    have h : wpC (spF P rd b₀ Φ B Ψ) T x (bx (thenA (bx fun s' => wpC (spF P rd b₀ Φ B Ψ) T y q s') q)) s := h
    refine wpIn_seq (wpIn_mono (wpC_soundF2 hT hm hΦ x hcm.1 hc.1 hr hφ h) (fun e a' w' hp => ?_))
    obtain ⟨s', β', a0, ds', rfl, h1, h2, h3⟩ := hp
    rcases h1 with h1 | ⟨ch, rfl, h1⟩
    · cases e with
      | normal => exact wpC_soundF2 hT hm hΦ y hcm.2 hc.2 h2 h3 h1
      | _ => exact ⟨s', β', a0, ds', rfl, .inl h1, h2, h3⟩
    · exact ⟨s', β', a0, ds', rfl, .inr ⟨ch, rfl, h1⟩, h2, h3⟩
  | .cond c x y, Q, q, s, β, a, ds, w, hcm, hc, hr, hφ, h => by
    simp only [codeOk, Bool.and_eq_true] at hc
    simp only [calm2, Bool.and_eq_true] at hcm
    obtain ⟨b, hb, h⟩ := onBool_inv h (hr.ev c)
    refine wpIn_cond (t := b) hb ?_
    cases b
    · exact wpC_soundF2 hT hm hΦ y hcm.2 hc.2 hr hφ h
    · exact wpC_soundF2 hT hm hΦ x hcm.1 hc.1 hr hφ h
  | .block id c, Q, q, s, β, a, ds, w, hcm, hc, hr, hφ, h => by
    have h : wpC (spF P rd b₀ Φ B Ψ) T c (bx (inBlockA id q)) s := h
    refine wpIn_block (wpIn_mono (wpC_soundF2 hT hm hΦ c hcm hc hr hφ h) (fun e a' w' hp => ?_))
    obtain ⟨s', β', a0, ds', rfl, h1, h2, h3⟩ := hp
    rcases h1 with h1 | ⟨ch, rfl, h1⟩
    · cases e with
      | exit i =>
        simp only [Exit.inBlock, inBlockA] at h1 ⊢
        split at h1
        · rename_i he; rw [if_pos he]; exact ⟨s', β', a0, ds', rfl, .inl h1, h2, h3⟩
        · rename_i he; rw [if_neg he]; exact ⟨s', β', a0, ds', rfl, .inl h1, h2, h3⟩
      | _ => exact ⟨s', β', a0, ds', rfl, .inl h1, h2, h3⟩
    · exact ⟨s', β', a0, ds', rfl, .inr ⟨ch, rfl, h1⟩, h2, h3⟩
  | .scope c, Q, q, s, β, a, ds, w, hcm, hc, hr, hφ, h => by simp [calm2] at hcm
  | .loop c, Q, q, s, β, a, ds, w, hcm, hc, hr, hφ, h => by
    obtain ⟨I, ⟨n, s₁, hvs, h0⟩, hround⟩ := h
    obtain ⟨β₁, hr1, ht1⟩ := hvs b₀ N β a w hr
    refine wpIn_loop_ghost (fun n a' w' => ∃ s' β' a0 ds', a' = { a0 with defers := ds' } ∧ I n s' ∧ Rel b₀ N s' β' a0 w' ∧ Φ s' β' ds' w') n ⟨s₁, β₁, a, ds, rfl, h0, hr1, hΦ _ _ _ _ _ _ _ hφ ht1⟩ ?_
    rintro n a' w' ⟨s', β', a0, ds', rfl, h1, h2, h3⟩
    refine wpIn_mono (wpC_soundF2 hT hm hΦ c hcm hc h2 h3 (hround n s' h1)) (fun e a2 w2 hp => ?_)
    obtain ⟨s2, β2, a02, ds2, rfl, k1, k2, k3⟩ := hp
    rcases k1 with k1 | ⟨ch, rfl, k1⟩
    · cases e with
      | normal =>
        obtain ⟨n', s3, hlt, hvs', hI⟩ := k1
        obtain ⟨β3, hr3, ht3⟩ := hvs' b₀ N β2 a02 w2 k2
        exact ⟨n', hlt, s3, β3, a02, ds2, rfl, hI, hr3, hΦ _ _ _ _ _ _ _ k3 ht3⟩
      | _ => exact ⟨s2, β2, a02, ds2, rfl, .inl k1, k2, k3⟩
    · exact ⟨s2, β2, a02, ds2, rfl, .inr ⟨ch, rfl, k1⟩, k2, k3⟩
  | .rangeFunc f ps x y, Q, q, s, β, a, ds, w, hcm, hc, hr, hφ, h => by
    obtain ⟨R, hR, hK⟩ := h
    exact wpIn_mono (hR N β a ds w hc hr hφ) (fun e a' w' ⟨s', β', a0, ds', h0, h1, h2, h3⟩ => ⟨s', β', a0, ds', h0, h1.imp (hK _ _) (fun h => h), h2, h3⟩)
  | .refuse y, Q, q, s, β, a, ds, w, hcm, hc, hr, hφ, h => by
    obtain ⟨R, hR, hK⟩ := h
    exact wpIn_mono (hR N β a ds w hc hr hφ) (fun e a' w' ⟨s', β', a0, ds', h0, h1, h2, h3⟩ => ⟨s', β', a0, ds', h0, h1.imp (hK _ _) (fun h => h), h2, h3⟩)


theorem draw_introF {B0 : Nat} {id : Nat} {ops : Array Oper} {s : St} {Q : Exit → St → Prop} {q : Box Q} (hok : drawOk ops = true) (h : wpO (spF P rd b₀ Φ B0 Ψ) T ops ops.toList s (bx fun s' => Q .normal s')) : DrawA (spF P rd b₀ Φ B0 Ψ) T id ops s q := .inl ⟨hok, h⟩
end

section
variable {P : Program} {T : Nat → TI} {gb : Nat} {o : Hold}
theorem pure_of_wpG2 (B gb : Nat) (o : Hold) (hT : TabOk P T) (hm : P.follows .mixedOrders = true) {f : FuncId} {fn : Func} {c : Code} (hf : P.funcs[f]? = some fn) (hb : fn.body = some c) (hn : (fn.name == "runtime.NumGoroutine") = false)
    (rs : List ResultVar) (hres : fn.results = rs.toArray) (hcm : calm2 c = true) (hok : codeOk fn.ntmps c = true) {args : List AV} (hargs : args.length ≤ fn.ntmps) {R : AV → Prop}
    (h : ∀ b₀ β0 s0 w0 g, wpC (spF P none b₀ (PhiG gb o b₀ β0 s0 w0) B noPan) T c (bx (RetQR T rs R)) ⟨initF args, g, fun _ => none⟩) : PureG P gb o f args R := by
  refine ⟨⟨fn, hf, by rw [hb]; rfl, hn⟩, fun J w vs hheld hJ hv => ?_⟩
  refine calls_of_fen (n := 0) (callsIn_of_wp_marks hf hb trivial ?_)
  have hlen : ∀ (l : List AV) (vs : List Value), RVs J w l vs → vs.length = l.length := by
    intro l
    induction l with
    | nil => intro vs h; simp only [RVs] at h; subst h; rfl
    | cons x l ih => intro vs h; simp only [RVs] at h; obtain ⟨u, us, rfl, _, h⟩ := h; simp [ih us h]
  have hl := hlen _ _ hv
  let J' : Nat → Prop := fun b => J b ∨ b ≤ gb
  have hr : Rel ⟨w.heap.size, J'⟩ fn.ntmps ⟨initF args, fun _ => 0, fun _ => none⟩ (fun _ => none) { tmps := vs.toArray ++ Array.replicate (fn.ntmps - vs.toArray.size) undef, defers := [] } w := by
    refine ⟨rfl, by simp; omega, fun i => ?_, fun id cells ho => (by cases ho), fun id id' a a' ho => (by cases ho), Nat.le_refl _⟩
    have hget : ∀ (l : List AV) (vs : List Value), RVs J w l vs → ∀ (i : Nat) (x : AV), l[i]? = some x → ∃ v, vs[i]? = some v ∧ RV J w x v := by
      intro l
      induction l with
      | nil => intro vs _ i x h; simp at h
      | cons y l ih =>
        intro vs h i x hx
        simp only [RVs] at h
        obtain ⟨u, us, rfl, h1, h2⟩ := h
        cases i with
        | zero => simp at hx; subst hx; exact ⟨u, rfl, h1⟩
        | succ i => simpa using ih us h2 i x (by simpa using hx)
    simp only [initF]
    cases hx : args[i]? with
    | some x =>
      obtain ⟨v, h1, h2⟩ := hget _ _ hv i x hx
      have hlt : i < vs.length := (List.getElem?_eq_some_iff.1 h1).1
      have : (vs.toArray ++ Array.replicate (fn.ntmps - vs.toArray.size) undef).getD i undef = v := by
        rw [Array.getD_eq_getD_getElem?, Array.getElem?_append_left (by simpa using hlt)]
        simp [h1]
      rw [this]
      simp only [Option.getD_some]
      exact RV.rep x (RV.mono (fun b hb => ⟨⟨hJ b hb, fun _ => .inl hb, fun id a ho => by cases ho⟩, rfl⟩) x h2)
    | none =>
      have hge : args.length ≤ i := by simpa using hx
      have : (vs.toArray ++ Array.replicate (fn.ntmps - vs.toArray.size) undef).getD i undef = undef := by
        rw [Array.getD_eq_getD_getElem?, Array.getElem?_append_right (by simp; omega)]
        simp [Array.getElem?_replicate]
        split <;> rfl
      rw [this]
      exact undefRep
  refine wpIn_mono (wpC_soundF2 (rd := none) (B := B) (ds := []) hT hm kept_phiG c hcm hok hr ⟨⟨hheld.lt, ⟨hheld.lt, fun b hb => .inr hb⟩, hheld⟩, Tr.refl, trivial⟩ (h _ _ _ w _)) (fun e a' w' hp => ?_)
  obtain ⟨s', β', a0, ds', rfl, hQ, hr', _, ht, hmk⟩ := hp.plain
  have hres' : RetQR T rs R .ret s' → bodyPostM (fen none) 0 P fn (fun e w' => ∃ v r, e = .returned v ∧ R r ∧ w.heap.size ≤ w'.heap.size ∧ (∀ b, b < w.heap.size → w'.heap[b]? = w.heap[b]?) ∧ (w'.os = w.os ∧ w'.output = w.output) ∧ RV (Own ⟨w.heap.size, J'⟩ w') w' r v) .ret { a0 with defers := ds' } w' := by
    intro hQ
    refine leaves_marks hmk (fun w5 h5 => ?_)
    obtain ⟨v, avs, h1, ⟨r, h2, h3⟩, _, vs', rfl, h4⟩ := evalR_results hT (hr'.shut h5) hres hQ
    refine ⟨_, h1, _, r, rfl, h3, by rw [h5.size]; exact ht.size, fun b hb => ?_, ⟨h5.os.1.trans ht.os.1, h5.os.2.trans ht.os.2⟩, h2.rep (hr'.shut h5) h4⟩
    rcases h5.same b with e | ⟨e, _⟩
    · rw [e]; exact ht.old b hb
    · omega
  cases e with
  | normal => exact hres' hQ
  | ret => exact hres' hQ
  | exit id => exact hQ.elim
  | goto l => exact hQ.elim
  | panic ch => exact hQ.elim
  | outgrown => exact hQ.elim


theorem fun_of_wpG2 (B gb : Nat) (o : Hold) (hT : TabOk P T) (hm : P.follows .mixedOrders = true) {f : FuncId} {fn : Func} {c : Code} (hf : P.funcs[f]? = some fn) (hb : fn.body = some c) (hn : (fn.name == "runtime.NumGoroutine") = false)
    (rs : List ResultVar) (hres : fn.results = rs.toArray) (hcm : calm2 c = true) (hok : codeOk fn.ntmps c = true) {xs : List AV} (hargs : xs.length ≤ fn.ntmps) {g : Nat → Nat} {ob : Obs} {R : AV → (Nat → Nat) → Obs → Prop}
    (h : ∀ b₀ β0 s0 w0, wpC (spF P none b₀ (PhiN gb o b₀ β0 s0 w0) B noPan) T c (bx (RetFR T rs R)) ⟨initF xs, g, ob⟩) : FunG P gb o f xs g ob R := by
  refine ⟨⟨fn, hf, by rw [hb]; rfl, hn⟩, fun b₀ N β a fa w vs hgb hheld hr0 hv => ?_⟩
  refine calls_of_fen (n := 0) (callsIn_of_wp hf hb trivial ?_)
  have hr := rel_init (N := fn.ntmps) hargs hr0 hv
  refine wpIn_mono (wpC_soundF2 (rd := none) (B := B) (ds := []) hT hm kept_phiN c hcm hok hr ⟨⟨hgb, hheld⟩, rfl, Tr.refl⟩ (h b₀ β ⟨initF xs, g, ob⟩ w)) (fun e a' w' hp => ?_)
  obtain ⟨s', β', a0, ds', rfl, hQ, hr', _, rfl, ht⟩ := hp.plain
  have hres' : RetFR T rs R .ret s' → ∃ v, (results fn a0.tmps).run P w' = .ok v w' ∧ ∃ v' r g' ob' β', Ending.returned v = .returned v' ∧ R r g' ob' ∧ RepV b₀ β' g' ob' w' r v' ∧
      (∀ id cells, ob' id = some cells → ObjAt b₀ β' g' ob' w' (g' id) cells (β' id)) ∧ (∀ id id' a a', (ob' id).isSome = true → (ob' id').isSome = true → β' id = some a → β' id' = some a' → a.block = a'.block → id = id') ∧
      Tr b₀ β ⟨fa, g, ob⟩ w β' ⟨fa, g', ob'⟩ w' := by
    rintro ⟨s2, hvs, hR⟩
    obtain ⟨β2, hr2, ht2⟩ := hvs b₀ fn.ntmps β' a0 w' hr'
    have hta := ht.trans ht2
    obtain ⟨v, avs, h1, h2, h3, _⟩ := evalR_results hT hr2 hres hR
    exact ⟨v, h1, v, _, _, _, β2, rfl, h2, h3, hr2.obj, hr2.inj, ⟨hta.size, hta.old, hta.keep, hta.os⟩⟩
  cases e with
  | normal => exact ⟨rfl, hres' hQ⟩
  | ret => exact ⟨rfl, hres' hQ⟩
  | exit id => exact hQ.elim
  | goto l => exact hQ.elim
  | panic ch => exact hQ.elim
  | outgrown => exact hQ.elim

theorem FunG.mono {f : FuncId} {xs : List AV} {g : Nat → Nat} {ob : Obs} {R R' : AV → (Nat → Nat) → Obs → Prop} (h : FunG P gb o f xs g ob R) (hr : ∀ r g' ob', R r g' ob' → R' r g' ob') : FunG P gb o f xs g ob R' :=
  ⟨h.1, fun b₀ N β a fa w vs h0 h0' h1 h2 => (h.2 b₀ N β a fa w vs h0 h0' h1 h2).mono fun _ _ ⟨v, r, g', ob', β', q1, q2, q3⟩ => ⟨v, r, g', ob', β', q1, hr _ _ _ q2, q3⟩⟩
end
end Go.Am

namespace Go.Am
open Go.ChangeShapes Go.WideShapes Go.ChangeAt Go.RowKit
variable {H : Type} {enc : TypeId × Value → H}

theorem returns_of_law_laidX {C : Checked} {os : Os} {f : FuncId} {fn : Func} {s : ChangeSpec} {conds : List PathCond} {laid : List (String × DataW Unit)} (own : ownKnob C.prog.godebug = none) (started : os.Started) (noInit : C.prog.inits.idxOf? f = none) (hfn : C.prog.funcs[f]? = some fn)
    (witness : ∃ (w : World) (tape : Tape) (i : Input), w.os = os ∧ (w.forCall tape i).Shaped C.prog ∧ i.vars = [] ∧ Input.okWide C.prog (w.forCall tape i) .any w.heap.size f i ∧
      ((s.pre enc C.prog fn conds false (w.forCall tape i).memory i.args ∧ laidMetH C.prog laid (w.forCall tape i).memory) ∧ sizedMet enc C.prog fn (OpenSpec.ofChange s) false (w.forCall tape i).memory i.args) ∧ Assume.holds {} C.prog (lone (Frame.enter C.prog f i.args .normal) [] (w.forCall tape i)))
    (hvars : s.vars = []) (hl : laidOutB C.prog = true) (hts : fn.params.toList.all (fun t => C.prog.readableRec t && decide (t < C.prog.types.size)) = true) {tb : TypeId} (hres : fn.resultTypes = #[tb]) (htb : C.prog.underlying tb = some .bool)
    (hspec : ∀ ds : List (DataW H), ds.length = fn.params.toList.length → s.fn H ds = { results := [.lit (.bool true)], args := ds })
    (hcall : ∀ (W : World) (base : Nat) (args : Array Value) (ds : List (DataW H)) (ps : List MemPlace), laidMetH C.prog laid W → (∀ (j : Nat) t v, fn.params[j]? = some t → args[j]? = some v → Value.okWide C.prog W .any base t v) → DataW.TrodAll enc C.prog W 0 (fun _ => true) true fn.params.toList args.toList ds ps → (DataW.weightsEach C.prog fn.params.toList ds).all (· ≤ reachBytes) = true → SaysTrue C.prog f args W) :
    ReturnsInHanded {} C os f .any (fun w args => (s.pre enc C.prog fn conds false w args ∧ laidMetH C.prog laid w) ∧ sizedMet enc C.prog fn (OpenSpec.ofChange s) false w args) (s.post enc C.prog fn false true false false) := by
  refine returnsInHanded_of_change_and (X := fun w _ => laidMetH C.prog laid w) (fun _ _ _ hh h => h.of_heap hh) own started noInit hfn witness ?_
  intro W base args ds gs before hval hW hcnd hsz hX _
  have hW' := hW
  obtain ⟨p, q, hA, hV, rfl, hfz, hnd⟩ := hW
  rw [hvars] at hV
  obtain ⟨rfl, rfl⟩ := trodVars_none hV
  have hvt : s.plain.varTypes C.prog = [] := by simp [ChangeSpec.plain, DataSpec.varTypes, hvars]
  rw [hvt, List.append_nil, List.append_nil] at hsz
  refine (hcall W base args ds p hX hval hA hsz).mono fun e W' ⟨he, hs, hb, ho⟩ => ⟨_, he, ?_⟩
  have hlt : ∀ x ∈ p, x.block < W.heap.size := fun x hx => hW'.lt x (by simp [hx])
  have hsp : s.fn H (ds ++ []) = { results := [.lit (.bool true)], args := ds } := by rw [List.append_nil]; exact hspec ds (trodAll_len _ _ _ _ hA)
  refine ⟨ds, [], p ++ [], [], p, [], hW', ?_, ?_, ?_, kept_of hb ho _, fun h => by cases h⟩
  · rw [hsp, hres]
    exact trodAll_mk1 ⟨1, by simp [DataW.trod, htb, Value.cells]⟩
  · rw [hsp]
    exact trodAll_stays hl hb _ _ _ _ hts hlt hA
  · rw [hsp, hvars]
    exact rfl

theorem says_of_pureG {P : Program} {w : World} {gb : Nat} {o : Hold} (hG : Held gb o w) {f : FuncId} {args : List AV} (h : PureG P gb o f args (· = bv true)) {vs : List Value} (hv : RVs (fun b => b < w.heap.size) w args vs) : SaysTrue P f vs.toArray w := by
  refine (h.2 _ w vs hG (fun _ h => h) hv).mono fun e w' ⟨v, r, h1, h2, h3, h4, h5, h6⟩ => ⟨?_, h3, h4, h5⟩
  subst h2
  simp only [RV] at h6
  obtain ⟨x, hx, hr⟩ := h6
  cases hx
  cases hr
  exact h1

end Go.Am

namespace Go.Am

/-- A guard that holds. -/
def GuardOk (ops : Array Oper) (o : Oper) (s : St) : Prop := match o.guard with | none => True | some (j, w) => ∃ d, ((ops[j]?).bind (·.dst)) = some d ∧ s.f d = bv w
def GdE (ops : Array Oper) (e : Ent) (s : St) : Prop := match e.o.guard with | none => True | some (j, w) => ∃ d, ((ops[j]?).bind (·.dst)) = some d ∧ d ∈ e.rd ∧ s.f d = bv w
theorem GdE.ok {ops : Array Oper} {e : Ent} {s s' : St} (h : GdE ops e s) (hr : ∀ r ∈ e.rd, s'.f r = s.f r) : GuardOk ops e.o s' := by
  unfold GdE at h
  unfold GuardOk
  cases hg : e.o.guard with
  | none => trivial
  | some p =>
    obtain ⟨j, w⟩ := p
    rw [hg] at h
    obtain ⟨d, h1, h2, h3⟩ := h
    exact ⟨d, h1, by rw [hr d h2]; exact h3⟩
def StepG (S : Sp) (T : Nat → TI) (ops : Array Oper) (ids : List Nat) (e : Ent) (s : St) (v : AV) (m : List (Nat × Option (List C))) : Prop := StepE S T ids e s v m ∧ GdE ops e s
def LastG (S : Sp) (T : Nat → TI) (ops : Array Oper) (e : Ent) (s : St) (K : St → Prop) : Prop := LastE S T e.o s K ∧ GdE ops e s

def wpDetG (S : Sp) (T : Nat → TI) (ops : Array Oper) (ids : List Nat) : List Ent → St → {K : St → Prop} → Box K → Prop
  | [], s, K, _ => K s
  | e :: r, s, K, k => match e.full with
    | true => LastG S T ops e s K
    | false => ∃ v m, (m.length = e.ef.length ∧ StepG S T ops ids e s v m) ∧ wpDetG S T ops ids r (effS ids e v m s) k

theorem det_traceG {S : Sp} {T : Nat → TI} {ops : Array Oper} {ids : List Nat} {K : St → Prop} {k : Box K} : ∀ (l : List Ent) (s : St), wpDetG S T ops ids l s k → (∀ i e, l[i]? = some e → e.full = true → i + 1 = l.length) →
    ∃ t : Nat → St, t 0 = s ∧ (∀ i e, l[i]? = some e → e.full = false → ∃ v m, (m.length = e.ef.length ∧ StepG S T ops ids e (t i) v m) ∧ t (i + 1) = effS ids e v m (t i)) ∧ (∀ i e, l[i]? = some e → e.full = true → LastG S T ops e (t i) K) ∧
      ((∀ (i : Nat) (e : Ent), l[i]? = some e → e.full = false) → K (t l.length))
  | [], s, h, _ => ⟨fun _ => s, rfl, fun i e hi => (by simp at hi), fun i e hi => (by simp at hi), fun _ => h⟩
  | e :: r, s, h, hl => by
    unfold wpDetG at h
    cases hf : e.full with
    | true =>
      rw [hf] at h
      have h0 := hl 0 e rfl hf
      have : r = [] := List.eq_nil_of_length_eq_zero (by simpa using h0)
      subst this
      refine ⟨fun _ => s, rfl, fun i e' hi hf' => ?_, fun i e' hi _ => ?_, fun ha => ?_⟩
      · cases i with
        | zero => simp at hi; subst hi; rw [hf] at hf'; cases hf'
        | succ i => simp at hi
      · cases i with
        | zero => simp at hi; subst hi; exact h
        | succ i => simp at hi
      · have := ha 0 e rfl; rw [hf] at this; cases this
    | false =>
      rw [hf] at h
      obtain ⟨v, m, hs, hr⟩ := h
      obtain ⟨t, t0, t1, t2, t3⟩ := det_traceG r _ hr (fun i e' hi hf' => by have := hl (i + 1) e' (by simpa using hi) hf'; simpa using this)
      refine ⟨fun i => match i with | 0 => s | i + 1 => t i, rfl, fun i e' hi hf' => ?_, fun i e' hi hf' => ?_, fun ha => ?_⟩
      · cases i with
        | zero => simp at hi; subst hi; exact ⟨v, m, hs, t0⟩
        | succ i => exact t1 i e' (by simpa using hi) hf'
      · cases i with
        | zero => simp at hi; subst hi; rw [hf] at hf'; cases hf'
        | succ i => exact t2 i e' (by simpa using hi) hf'
      · exact t3 (fun i e' hi => ha (i + 1) e' (by rw [List.getElem?_cons_succ]; exact hi))


def okDetTG (ops : Array Oper) (tb : List (List Nat × List Nat × List Nat × Bool)) (nid : Nat) (tab : List (List Nat)) : Bool :=
  backB ops && clOk ops tab && (tb.length == ops.size) &&
  (List.range ops.size).all fun i => (((ops[i]?).bind fun o => (tb[i]?).map fun t =>
    (t.1.all fun r => (List.range ops.size).all fun j => inCl tab i j || ((ops[j]?).map fun o' => decide (o'.dst ≠ some r)).getD false) &&
    ((List.range ops.size).all fun j => i == j || ((ops[j]?).map fun o' => o'.dst.isNone || decide (o'.dst ≠ o.dst)).getD false) &&
    ((List.range nid).all fun a => t.2.1.contains a || (List.range ops.size).all fun j => inCl tab i j || inCl tab j i || i == j || ((tb[j]?).map fun t' => !t'.2.2.1.contains a).getD false) &&
    (t.2.1.all fun a => decide (a < nid)) && (t.2.2.1.all fun a => decide (a < nid)) && (t.2.2.1.all fun a => (List.range ops.size).all fun j => inCl tab i j || inCl tab j i || i == j || ((tb[j]?).map fun t' => !t'.2.2.1.contains a).getD false) &&
    (!t.2.2.2 || (i + 1 == ops.size && (List.range i).all fun j => inCl tab i j))).getD false)

def okDetG (ops : Array Oper) (tb : List (List Nat × List Nat × List Nat × Bool)) (nid : Nat) : Bool := okDetTG ops tb nid (clTab ops)

section
variable {P : Program} {T : Nat → TI} {b₀ : Bs} {β : Loc} {w : World}
theorem det_invG {S : Sp} {ops : Array Oper} {s : St} {Q : Exit → St → Prop} (ids : List Nat) (tb : List (List Nat × List Nat × List Nat × Bool)) (nid : Nat) (hok : okDetG ops tb nid = true) (hnid : ids.length = nid) (hnd : ids.Nodup)
    (h : wpDetG S T ops ids (zipE ops.toList tb) s (bx fun s' => Q .normal s')) : backB ops = true ∧ ∃ I : (Nat → Bool) → St → Prop, I (fun _ => false) s ∧
      (∀ (L : Nat → Bool) (s : St) (i : Nat) (o : Oper), I L s → ops[i]? = some o → L i = false → (∀ e ∈ o.after.toList, Region.binds .any e = true → L e.on = true) →
        (∀ j o', L j = true → ops[j]? = some o' → ∀ e ∈ o'.after.toList, Region.binds .any e = true → L e.on = true) → GuardOk ops o s ∧ opA S T o s (bx fun s' => I (upd L i true) s')) ∧
      (∀ L s', I L s' → (∀ i, i < ops.size → L i = true) → Q .normal s') := by
  subst hnid
  unfold okDetG okDetTG at hok
  generalize clTab ops = tab at hok
  simp only [Bool.and_eq_true, beq_iff_eq] at hok
  obtain ⟨⟨⟨hbk, hcl⟩, htl⟩, hall⟩ := hok
  have hzl : (zipE ops.toList tb).length = ops.size := by rw [zipE_len (by simpa using htl)]; simp
  have hent : ∀ i, i < ops.size → ∃ e, (zipE ops.toList tb)[i]? = some e ∧ ops[i]? = some e.o ∧ tb[i]? = some (e.rd, e.hd, e.ef, e.full) := fun i hi => by
    have h1 : i < (zipE ops.toList tb).length := by omega
    refine ⟨_, List.getElem?_eq_getElem h1, ?_⟩
    have := zipE_get (List.getElem?_eq_getElem h1)
    simpa using this
  have hinj : ∀ a b, a < ids.length → b < ids.length → ids.getD a 0 = ids.getD b 0 → a = b := fun a b ha hb e => by
    rw [List.getD_eq_getElem?_getD, List.getD_eq_getElem?_getD, List.getElem?_eq_getElem ha, List.getElem?_eq_getElem hb] at e
    simp only [Option.getD_some] at e
    exact (List.getElem_inj hnd).1 e
  -- the checks, by operation
  have hchk : ∀ (i : Nat) (e : Ent), i < ops.size → ops[i]? = some e.o → tb[i]? = some (e.rd, e.hd, e.ef, e.full) →
      (∀ r ∈ e.rd, ∀ (j : Nat) (e' : Oper), j < ops.size → ops[j]? = some e' → e'.dst = some r → inCl tab i j = true) ∧
      (∀ (j : Nat) (o' : Oper), j < ops.size → j ≠ i → ops[j]? = some o' → o'.dst = none ∨ o'.dst ≠ e.o.dst) ∧
      (∀ a, a < ids.length → a ∉ e.hd → ∀ j t', j < ops.size → tb[j]? = some t' → a ∈ t'.2.2.1 → inCl tab i j = true ∨ inCl tab j i = true ∨ i = j) ∧
      (∀ a ∈ e.hd, a < ids.length) ∧ (∀ a ∈ e.ef, a < ids.length) ∧
      (∀ a ∈ e.ef, ∀ j t', j < ops.size → tb[j]? = some t' → a ∈ t'.2.2.1 → inCl tab i j = true ∨ inCl tab j i = true ∨ i = j) ∧
      (e.full = true → i + 1 = ops.size ∧ ∀ j, j < i → inCl tab i j = true) := by
    intro i e hi ho ht
    have h1 := List.all_eq_true.1 hall i (List.mem_range.2 hi)
    rw [ho, ht] at h1
    simp only [Option.bind_some, Option.map_some, Option.getD_some, Bool.and_eq_true] at h1
    obtain ⟨⟨⟨⟨⟨⟨c1, c2⟩, c3⟩, c4⟩, c5⟩, c6⟩, c7⟩ := h1
    refine ⟨fun r hr j o' hj hoj hd => ?_, fun j o' hj hne hoj => ?_, fun a ha hna j t' hj htj hat => ?_, fun a ha => ?_, fun a ha => ?_, fun a ha j t' hj htj hat => ?_, fun hf => ?_⟩
    · have := List.all_eq_true.1 (List.all_eq_true.1 c1 r hr) j (List.mem_range.2 hj)
      rw [hoj] at this
      simp only [Option.map_some, Option.getD_some, Bool.or_eq_true, decide_eq_true_eq] at this
      rcases this with h | h
      · exact h
      · exact absurd hd h
    · have := List.all_eq_true.1 c2 j (List.mem_range.2 hj)
      rw [hoj] at this
      simp only [Option.map_some, Option.getD_some, Bool.or_eq_true, decide_eq_true_eq, beq_iff_eq, Option.isNone_iff_eq_none] at this
      rcases this with h | h | h
      · exact absurd h.symm hne
      · exact .inl h
      · exact .inr h
    · have := List.all_eq_true.1 c3 a (List.mem_range.2 ha)
      simp only [Bool.or_eq_true, List.contains_iff_mem, List.all_eq_true, List.mem_range] at this
      rcases this with h | h
      · exact absurd h hna
      · have := h j hj
        rw [htj] at this
        simp only [Option.map_some, Option.getD_some, beq_iff_eq, Bool.not_eq_true'] at this
        rcases this with ((h | h) | h) | h
        · exact .inl h
        · exact .inr (.inl h)
        · exact .inr (.inr h)
        · rw [List.contains_iff_mem.2 hat] at h; cases h
    · exact of_decide_eq_true (List.all_eq_true.1 c4 a ha)
    · exact of_decide_eq_true (List.all_eq_true.1 c5 a ha)
    · have := List.all_eq_true.1 (List.all_eq_true.1 c6 a ha) j (List.mem_range.2 hj)
      rw [htj] at this
      simp only [Option.map_some, Option.getD_some, Bool.or_eq_true, beq_iff_eq, Bool.not_eq_true'] at this
      rcases this with ((h | h) | h) | h
      · exact .inl h
      · exact .inr (.inl h)
      · exact .inr (.inr h)
      · rw [List.contains_iff_mem.2 hat] at h; cases h
    · rw [hf] at c7
      simp only [Bool.not_true, Bool.false_or, Bool.and_eq_true, beq_iff_eq, List.all_eq_true, List.mem_range] at c7
      exact c7
  have hfull : ∀ (i : Nat) (e : Ent), (zipE ops.toList tb)[i]? = some e → e.full = true → i + 1 = (zipE ops.toList tb).length := fun i e hi hf => by
    have hlt : i < ops.size := by rw [← hzl]; exact (List.getElem?_eq_some_iff.1 hi).1
    have h2 := zipE_get hi
    rw [hzl]
    exact ((hchk i e hlt (by simpa using h2.1) h2.2).2.2.2.2.2.2 hf).1
  obtain ⟨t, t0, t1, t2, t3⟩ := det_traceG _ _ h hfull
  let dst : Nat → Option Nat := fun i => (ops[i]?).bind (·.dst)
  let ef : Nat → List Nat := fun i => ((tb[i]?).map (·.2.2.1)).getD []
  -- how the trace goes
  have tf : ∀ (i : Nat) (e : Ent), i < ops.size → (zipE ops.toList tb)[i]? = some e → e.full = false → ∀ d, dst i ≠ some d → (t (i + 1)).f d = (t i).f d := fun i e hi he hf d hd => by
    obtain ⟨v, m, _, h2⟩ := t1 i e he hf
    rw [h2]
    have h3 : ops[i]? = some e.o := by simpa using (zipE_get he).1
    simp only [dst, h3, Option.bind_some] at hd
    simp only [effS]
    cases hq : e.o.dst with
    | none => rfl
    | some d' => simp only [putF, upd]; rw [if_neg (fun e' => hd (by rw [hq, e']))]
  have tm : ∀ (i : Nat) (e : Ent), i < ops.size → (zipE ops.toList tb)[i]? = some e → e.full = false → ∀ id, (∀ a ∈ ef i, ids.getD a 0 ≠ id) → (t (i + 1)).gen id = (t i).gen id ∧ (t (i + 1)).obj id = (t i).obj id := fun i e hi he hf id hd => by
    obtain ⟨v, m, _, h2⟩ := t1 i e he hf
    rw [h2]
    have h3 := (zipE_get he).2
    simp only [ef, h3, Option.map_some, Option.getD_some] at hd
    simp only [effS]
    exact ⟨setm_other hd, setm_other hd⟩
  -- how many are walked by themselves
  obtain ⟨N, hN, hNf, hNl⟩ : ∃ N, N ≤ ops.size ∧ (∀ (i : Nat) (e : Ent), i < N → (zipE ops.toList tb)[i]? = some e → e.full = false) ∧ (N = ops.size ∨ (N + 1 = ops.size ∧ ∃ e, (zipE ops.toList tb)[N]? = some e ∧ e.full = true)) := by
    by_cases hlast : ∃ (i : Nat) (e : Ent), (zipE ops.toList tb)[i]? = some e ∧ e.full = true
    · obtain ⟨i, e, he, hf⟩ := hlast
      have h1 := hfull i e he hf
      rw [hzl] at h1
      refine ⟨i, by omega, fun j e' hj hj' => ?_, .inr ⟨h1, e, he, hf⟩⟩
      cases hq : e'.full with
      | false => rfl
      | true => have := hfull j e' hj' hq; rw [hzl] at this; omega
    · refine ⟨ops.size, Nat.le_refl _, fun j e' hj hj' => ?_, .inl rfl⟩
      cases hq : e'.full with
      | false => rfl
      | true => exact absurd ⟨j, e', hj', hq⟩ hlast
  have tfs : ∀ (d k i : Nat), i ≤ k → k ≤ N → (∀ j, i ≤ j → j < k → dst j ≠ some d) → (t k).f d = (t i).f d := by
    intro d k
    induction k with
    | zero => intro i hi _ _; rw [show i = 0 by omega]
    | succ k ih =>
      intro i hi hk hd
      by_cases hik : i = k + 1
      · subst hik; rfl
      · obtain ⟨e, he, _, _⟩ := hent k (by omega)
        rw [tf k e (by omega) he (hNf k e (by omega) he) d (hd k (by omega) (by omega))]
        exact ih i (by omega) (by omega) (fun j h1 h2 => hd j h1 (by omega))
  have tms : ∀ (id k i : Nat), i ≤ k → k ≤ N → (∀ j, i ≤ j → j < k → ∀ a ∈ ef j, ids.getD a 0 ≠ id) → (t k).gen id = (t i).gen id ∧ (t k).obj id = (t i).obj id := by
    intro id k
    induction k with
    | zero => intro i hi _ _; rw [show i = 0 by omega]; exact ⟨rfl, rfl⟩
    | succ k ih =>
      intro i hi hk hd
      by_cases hik : i = k + 1
      · subst hik; exact ⟨rfl, rfl⟩
      · obtain ⟨e, he, _, _⟩ := hent k (by omega)
        obtain ⟨m1, m2⟩ := tm k e (by omega) he (hNf k e (by omega) he) id (hd k (by omega) (by omega))
        rw [m1, m2]
        exact ih i (by omega) (by omega) (fun j h1 h2 => hd j h1 (by omega))
  have hdist : ∀ (i j d : Nat), i < ops.size → j < ops.size → dst i = some d → dst j = some d → i = j := fun i j d hi hj h1 h2 => by
    rcases Nat.lt_or_ge i j with hij | hij
    · exfalso
      obtain ⟨e, he, ho, htb⟩ := hent i hi
      obtain ⟨e', he', ho', htb'⟩ := hent j hj
      simp only [dst, ho, ho', Option.bind_some] at h1 h2
      rcases (hchk i e hi ho htb).2.1 j e'.o hj (by omega) ho' with h | h
      · rw [h] at h2; cases h2
      · exact h (by rw [h1, h2])
    · rcases Nat.lt_or_ge j i with hji | hji
      · exfalso
        obtain ⟨e, he, ho, htb⟩ := hent i hi
        obtain ⟨e', he', ho', htb'⟩ := hent j hj
        simp only [dst, ho, ho', Option.bind_some] at h1 h2
        rcases (hchk i e hi ho htb).2.1 j e'.o hj (by omega) ho' with h | h
        · rw [h] at h2; cases h2
        · exact h (by rw [h1, h2])
      · omega
  -- where all have come up, it is the text's state
  have hsame : ∀ (k : Nat) (L : Nat → Bool) (s' : St), k = N → (∀ i, i < k → L i = true) → DetI N dst ef ids t L s' → s' = t k := by
    rintro k L ⟨f', g', o'⟩ rfl hL hI
    have h1 : f' = (t k).f := by
      funext d
      by_cases hd : ∃ i, i < k ∧ dst i = some d
      · obtain ⟨i, hi, hd⟩ := hd
        rw [show f' d = _ from hI.f i d hi hd (hL i hi)]
        exact (tfs d k (i + 1) (by omega) (Nat.le_refl _) (fun j h1 h2 h3 => by have := hdist i j d (by omega) (by omega) hd h3; omega)).symm
      · have h0 : ∀ i, i < k → dst i ≠ some d := fun i hi h => hd ⟨i, hi, h⟩
        rw [show f' d = _ from hI.f0 d h0]
        exact (tfs d k 0 (by omega) (Nat.le_refl _) (fun j _ h2 => h0 j h2)).symm
    have h2 : g' = (t k).gen := funext fun id => (hI.m id k (Nat.le_refl _) (fun j a hj _ _ => ⟨fun _ => hj, fun _ => hL j hj⟩)).1
    have h3 : o' = (t k).obj := funext fun id => (hI.m id k (Nat.le_refl _) (fun j a hj _ _ => ⟨fun _ => hj, fun _ => hL j hj⟩)).2
    rw [h1, h2, h3]
  refine ⟨hbk, fun L s' => (N < ops.size → L N = true → Q .normal s') ∧ ((N < ops.size → L N = false) → DetI N dst ef ids t L s'), ?_, ?_, ?_⟩
  · refine ⟨fun _ h => (by cases h), fun _ => ⟨fun i d _ _ h => (by cases h), fun d _ => by rw [t0], fun id k hk hc => ?_⟩⟩
    have := tms id k 0 (by omega) hk (fun j _ hj a ha e => by have := (hc j a (by omega) ha e).2 hj; cases this)
    rw [this.1, this.2, t0]
    exact ⟨rfl, rfl⟩
  · intro L s' i o hI ho hL hdep hid
    have hi := (Array.getElem?_eq_some_iff.1 ho).1
    obtain ⟨e, he, ho', htb⟩ := hent i hi
    obtain rfl : o = e.o := by rw [ho] at ho'; cases ho'; rfl
    have hcls := cl_listed hcl hid i e.o ho hdep
    have hck := hchk i e hi ho htb
    by_cases hiN : i < N
    · have hLN : N < ops.size → L N = false := fun hlt => by
        cases hq : L N with
        | false => rfl
        | true =>
          exfalso
          rcases hNl with h | ⟨h, e2, he2, hf2⟩
          · omega
          · have hz := zipE_get he2
            have ho2 : ops[N]? = some e2.o := by simpa using hz.1
            have := (hchk N e2 hlt ho2 hz.2).2.2.2.2.2.2 hf2
            have h3 := cl_listed hcl hid N e2.o ho2 (fun e' he' hb' => hid N _ hq ho2 e' he' hb') i (this.2 i hiN)
            rw [hL] at h3
            exact absurd h3.1 (by simp)
      have hD := hI.2 hLN
      obtain ⟨v, m, ⟨hml, hst, hgd⟩, hn⟩ := t1 i e he (hNf i e hiN he)
      have hr1 : ∀ r ∈ e.rd, s'.f r = (t i).f r := fun r hr => by
        by_cases hd : ∃ j, j < N ∧ dst j = some r
        · obtain ⟨j, hj, hd⟩ := hd
          obtain ⟨e2, he2, ho2, _⟩ := hent j (by omega)
          have hd2 : e2.o.dst = some r := by simpa [dst, ho2] using hd
          obtain ⟨hLj, hji⟩ := hcls j (hck.1 r hr j e2.o (by omega) ho2 hd2)
          rw [hD.f j r hj hd hLj]
          exact (tfs r i (j + 1) (by omega) (by omega) (fun k h1 h2 h3 => by have := hdist j k r (by omega) (by omega) hd h3; omega)).symm
        · have h0 : ∀ j, j < N → dst j ≠ some r := fun j hj h => hd ⟨j, hj, h⟩
          rw [hD.f0 r h0]
          exact (tfs r i 0 (by omega) (by omega) (fun j _ h2 => h0 j (by omega))).symm
      have r1 : maskf e.rd (t i).f s'.f = s'.f := maskf_same hr1
      have hvis : ∀ id, (∀ a ∈ e.hd, ids.getD a 0 ≠ id) → s'.gen id = (t i).gen id ∧ s'.obj id = (t i).obj id := fun id hv => by
        refine hD.m id i (by omega) (fun j a hj ha hai => ?_)
        obtain ⟨e2, he2, ho2, htb2⟩ := hent j (by omega)
        have ha2 : a ∈ e2.ef := by simpa [ef, htb2] using ha
        have halt : a < ids.length := (hchk j e2 (by omega) ho2 htb2).2.2.2.2.1 a ha2
        rcases hck.2.2.1 a halt (fun h => hv a h hai) j _ (by omega) htb2 ha2 with h | h | h
        · have := hcls j h
          exact ⟨fun _ => this.2, fun _ => this.1⟩
        · constructor
          · intro hLj
            have := cl_listed hcl hid j e2.o ho2 (fun e' he' hb' => hid j _ hLj ho2 e' he' hb') i h
            rw [hL] at this
            exact absurd this.1 (by simp)
          · intro hji
            exfalso
            have h1 := List.all_eq_true.1 hcl j (List.mem_range.2 (by omega))
            have h2 := List.all_eq_true.1 h1 i (by simpa [inCl] using h)
            simp only [Bool.and_eq_true, decide_eq_true_eq] at h2
            omega
        · subst h
          rw [hL]
          exact ⟨fun h => (by cases h), fun h => (by omega)⟩
      have r2 : maskm ids e.hd (t i).gen s'.gen = s'.gen := maskm_same fun id hv => (hvis id hv).1
      have r3 : maskm ids e.hd (t i).obj s'.obj = s'.obj := maskm_same fun id hv => (hvis id hv).2
      have h1 := hst s'.f s'.gen s'.obj
      rw [r1, r2, r3] at h1
      refine ⟨hgd.ok hr1, h1 _ ?_⟩
      refine ⟨fun hlt h => ?_, fun _ => ⟨fun j d hj hd hLj => ?_, fun d hd => ?_, fun id k hk hc => ?_⟩⟩
      · simp only [upd] at h
        rw [if_neg (by omega), hLN hlt] at h
        cases h
      · simp only [upd] at hLj
        by_cases hji : j = i
        · subst hji
          have hd2 : e.o.dst = some d := by simpa [dst, ho] using hd
          rw [hn]
          simp only [effS, hd2, putF, upd, if_true]
        · rw [if_neg hji] at hLj
          have hne : e.o.dst ≠ some d := fun h => hji (hdist j i d (by omega) hi hd (by simpa [dst, ho] using h))
          rw [← hD.f j d hj hd hLj]
          simp only [effS]
          cases hq : e.o.dst with
          | none => rfl
          | some d' => simp only [putF, upd]; rw [if_neg (fun e' => hne (by rw [hq, e']))]
      · rw [← hD.f0 d hd]
        have hne : e.o.dst ≠ some d := fun h => hd i hiN (by simpa [dst, ho] using h)
        simp only [effS]
        cases hq : e.o.dst with
        | none => rfl
        | some d' => simp only [putF, upd]; rw [if_neg (fun e' => hne (by rw [hq, e']))]
      · have hef : ef i = e.ef := by simp [ef, htb]
        by_cases hmine : ∃ a ∈ e.ef, ids.getD a 0 = id
        · obtain ⟨a, ha, hai⟩ := hmine
          have hik : i < k := (hc i a hiN (by rw [hef]; exact ha) hai).1 (by simp [upd])
          have halt := hck.2.2.2.2.1 a ha
          have := tms id k (i + 1) (by omega) hk (fun j h1 h2 b hb hbi => by
            obtain ⟨e2, he2, ho2, htb2⟩ := hent j (by omega)
            have hb2 : b ∈ e2.ef := by simpa [ef, htb2] using hb
            have hblt := (hchk j e2 (by omega) ho2 htb2).2.2.2.2.1 b hb2
            obtain rfl : a = b := hinj a b halt hblt (by rw [hai, hbi])
            have hLj : L j = true := by
              have := (hc j a (by omega) hb hbi).2 h2
              simp only [upd] at this
              rwa [if_neg (by omega)] at this
            rcases hck.2.2.2.2.2.1 a ha j _ (by omega) htb2 hb2 with h | h | h
            · have := (hcls j h).2; omega
            · have := cl_listed hcl hid j e2.o ho2 (fun e' he' hb' => hid j _ hLj ho2 e' he' hb') i h
              rw [hL] at this
              exact absurd this.1 (by simp)
            · omega)
          rw [this.1, this.2, hn]
          simp only [effS]
          exact ⟨setm_mine (by simpa using hml) ⟨a, ha, hai⟩, setm_mine (by simpa using hml) ⟨a, ha, hai⟩⟩
        · have hno : ∀ a ∈ e.ef, ids.getD a 0 ≠ id := fun a ha h => hmine ⟨a, ha, h⟩
          simp only [effS]
          rw [setm_other hno, setm_other hno]
          refine hD.m id k hk (fun j a hj ha hai => ?_)
          have hji : j ≠ i := fun h => by subst h; rw [hef] at ha; exact hno a ha hai
          have := hc j a hj ha hai
          simp only [upd] at this
          rwa [if_neg hji] at this
    · have hiN' : i = N := by
        rcases hNl with h | ⟨h, _⟩ <;> omega
      subst hiN'
      rcases hNl with h | ⟨h, e2, he2, hf2⟩
      · omega
      · obtain rfl : e = e2 := by rw [he] at he2; cases he2; rfl
        have hD := hI.2 (fun _ => hL)
        have hall2 : ∀ j, j < i → L j = true := fun j hj => (hcls j ((hck.2.2.2.2.2.2 hf2).2 j hj)).1
        rw [hsame i L s' rfl hall2 hD]
        obtain ⟨hla, hgd⟩ := t2 i e he hf2
        refine ⟨hgd.ok fun _ _ => rfl, hla _ (fun s'' hs => ?_)⟩
        exact ⟨fun _ _ => hs, fun hh => by have := hh hi; simp [upd] at this⟩
  · intro L s' hI hL
    rcases hNl with h | ⟨h, _⟩
    · subst h
      have hD := hI.2 (fun h => absurd h (by omega))
      have h1 := t3 (fun i e he => hNf i e (by rw [← hzl]; exact (List.getElem?_eq_some_iff.1 he).1) he)
      rw [hzl] at h1
      rw [hsame _ L s' rfl hL hD]
      exact h1
    · exact hI.1 (by omega) (hL N (by omega))


end

section
variable {P : Program} {T : Nat → TI} {b₀ : Bs} {w : World} {rd : Option Nat} {Φ : St → Loc → List Deferred → World → Prop} {Ψ : PanF}
theorem wpAny_ofG {hT : TabOk P T} (hΦ : KeptTr b₀ Φ) {B N : Nat} {ops : Array Oper} {ds : List Deferred} {Q : Exit → Act → World → Prop} (hnd : ops.toList.all noDefer = true) (hds : dstsOk N ops.toList = true) (I : (Nat → Bool) → St → Prop)
    (hstep : ∀ (L : Nat → Bool) (s : St) (i : Nat) (o : Oper), I L s → ops[i]? = some o → L i = false → (∀ e ∈ o.after.toList, Region.binds .any e = true → L e.on = true) →
      (∀ j o', L j = true → ops[j]? = some o' → ∀ e ∈ o'.after.toList, Region.binds .any e = true → L e.on = true) → GuardOk ops o s ∧ opA (spF P rd b₀ Φ B Ψ) T o s (bx fun s' => I (upd L i true) s')) :
    ∀ (fuel : Nat) (listed : Array Bool) {s : St} {β : Loc} {a : Act} {w : World}, listed.size = ops.size → listed.toList.count false ≤ fuel → Rel b₀ N s β a w → Φ s β ds w → I (fun i => listed.getD i false) s →
      (∀ j o', listed.getD j false = true → ops[j]? = some o' → ∀ e ∈ o'.after.toList, Region.binds .any e = true → listed.getD e.on false = true) →
      (∀ L s' β' a' w', I L s' → Rel b₀ N s' β' a' w' → Φ s' β' ds w' → (∃ listed', L = (fun i => listed'.getD i false) ∧ listed'.size = ops.size ∧ Region.ready .any ops listed' = []) → Q .normal { a' with defers := ds } w') →
      (∀ ch s' β' a' w', Ψ ch s' → Rel b₀ N s' β' a' w' → Φ s' β' ds w' → Q (.panic ch) { a' with defers := ds } w') →
      wpAnyIn (fen rd) 0 P .any ops Q fuel listed { a with defers := ds } w
  | 0, listed, s, β, a, w, hsz, hc, hr, hφ, hI, hid, hQ, hX => by
    have hall : ∀ i, i < ops.size → listed.getD i true = true := fun i hi => by
      have hnf : false ∉ listed.toList := fun h => by
        have := List.count_pos_iff.2 h; omega
      rw [Array.getD_eq_getD_getElem?, Array.getElem?_eq_getElem (by omega)]
      simp only [Option.getD_some]
      cases hq : listed[i]'(by omega) with
      | true => rfl
      | false => exact absurd (hq ▸ Array.mem_toList_iff.2 (Array.getElem_mem (by omega))) hnf
    have hrd : Region.ready .any ops listed = [] := by
      unfold Region.ready
      rw [List.filter_eq_nil_iff]
      intro i hi
      simp [hall i (List.mem_range.1 hi)]
    exact ⟨hrd, hQ _ s β a w hI hr hφ ⟨listed, rfl, hsz, hrd⟩⟩
  | fuel + 1, listed, s, β, a, w, hsz, hc, hr, hφ, hI, hid, hQ, hX => by
    refine ⟨fun hrd => hQ _ s β a w hI hr hφ ⟨listed, rfl, hsz, hrd⟩, fun i hi => ?_⟩
    unfold Region.ready at hi
    simp only [List.mem_filter, List.mem_range, Bool.and_eq_true, Bool.not_eq_true'] at hi
    obtain ⟨hi1, hi2, hi3⟩ := hi
    have ho : ops[i]? = some ops[i] := Array.getElem?_eq_getElem hi1
    rw [ho] at hi3
    simp only [Option.map_some, Option.getD_some, Array.all_eq_true', Bool.or_eq_true, Bool.not_eq_true'] at hi3
    have hli : listed[i]? = some false := by
      rw [Array.getD_eq_getD_getElem?, Array.getElem?_eq_getElem (by omega)] at hi2
      rw [Array.getElem?_eq_getElem (by omega)]
      simpa using hi2
    have hL : listed.getD i false = false := by rw [Array.getD_eq_getD_getElem?, hli]; rfl
    have hedge : ∀ e ∈ ops[i].after.toList, Region.binds .any e = true → listed.getD e.on false = true := fun e he hb => by
      rcases hi3 e (by simpa using he) with h | h
      · rw [hb] at h; cases h
      · exact h
    obtain ⟨hgd, hst⟩ := hstep _ s i ops[i] hI ho hL hedge hid
    have hgi : Region.wanted ops[i] (yielded ops a.tmps) = true := by
      unfold GuardOk at hgd
      cases hg : (ops[i]).guard with
      | none => simp [Region.wanted, hg]
      | some p =>
        obtain ⟨j, want⟩ := p
        rw [hg] at hgd
        obtain ⟨d, hj, hb⟩ := hgd
        have hy := hr.yielded hj hb
        simp [Region.wanted, hg, hy]
    have hdi : ∀ d, (ops[i]).dst = some d → d < N := fun d hd => by
      have := List.all_eq_true.1 hds ops[i] (Array.getElem_mem_toList hi1)
      rw [hd] at this
      simpa using this
    have hni : noDefer ops[i] = true := List.all_eq_true.1 hnd ops[i] (Array.getElem_mem_toList hi1)
    unfold wpOpIn
    rw [ho]
    simp only
    rw [if_pos hgi]
    have hset : (fun j => (listed.setIfInBounds i true).getD j false) = upd (fun j => listed.getD j false) i true := by
      funext j
      simp only [upd, Array.getD_eq_getD_getElem?, Array.getElem?_setIfInBounds]
      by_cases hj : i = j
      · subst hj; simp [hsz, hi1]
      · have : ¬ j = i := fun e => hj e.symm
        simp [hj, this]
    refine opA_soundF hT hΦ hr hφ hni hdi hst (fun s' β' a' w' hI' hr' hφ' => ?_) hX
    refine wpAny_ofG (hT := hT) hΦ hnd hds I hstep fuel (listed.setIfInBounds i true) (by simpa using hsz) (by have := count_set hli; omega) hr' hφ' (by rw [hset]; exact hI') (fun j o' hj hoj e he hb => ?_) hQ hX
    have e1 := congrFun hset
    simp only [upd] at e1
    rw [e1] at hj ⊢
    by_cases hej : e.on = i
    · rw [if_pos hej]
    · rw [if_neg hej]
      by_cases hji : j = i
      · subst hji
        rw [ho] at hoj
        cases hoj
        exact hedge e he hb
      · rw [if_neg hji] at hj
        exact hid j o' hj hoj e he hb

theorem draw_anyG (hT : TabOk P T) (hm : P.follows .mixedOrders = true) (hΦ : KeptTr b₀ Φ) {B id : Nat} {ops : Array Oper} {s : St} {Q : Exit → St → Prop} {q : Box Q} (hnd : ops.toList.all noDefer = true) (hbk : backB ops = true) (I : (Nat → Bool) → St → Prop) (h0 : I (fun _ => false) s)
    (hstep : ∀ (L : Nat → Bool) (s : St) (i : Nat) (o : Oper), I L s → ops[i]? = some o → L i = false → (∀ e ∈ o.after.toList, Region.binds .any e = true → L e.on = true) →
      (∀ j o', L j = true → ops[j]? = some o' → ∀ e ∈ o'.after.toList, Region.binds .any e = true → L e.on = true) → GuardOk ops o s ∧ opA (spF P rd b₀ Φ B Ψ) T o s (bx fun s' => I (upd L i true) s'))
    (hend : ∀ L s', I L s' → (∀ i, i < ops.size → L i = true) → Q .normal s') : DrawA (spF P rd b₀ Φ B Ψ) T id ops s q := by
  refine .inr ⟨fun e s' => e = .normal ∧ Q .normal s', fun N β a ds w hc hr hφ => ?_, fun e s' ⟨h1, h2⟩ => h1 ▸ h2⟩
  have hr1 : Rel b₀ N s β a { w with drawn := w.drawn + 1 } := hr.of_heap rfl
  have hφ1 : Φ s β ds { w with drawn := w.drawn + 1 } := hΦ _ _ _ _ _ _ _ hφ (Tr.same rfl rfl rfl)
  refine wpIn_region_any hm (wpAny_ofG (hT := hT) hΦ hnd hc I hstep ops.size (Array.replicate ops.size false) (by simp) (by simp) hr1 hφ1 ?_ (fun j o' hj => ?_) (fun L s' β' a' w' h2 h4 h5 h6 => ⟨s', β', a', ds, rfl, .inl ⟨rfl, hend L s' h2 (by obtain ⟨listed, rfl, e1, e2⟩ := h6; exact ready_all hbk e1 e2)⟩, h4, h5⟩) (fun ch s' β' a' w' h1 h2 h3 => ⟨s', β', a', ds, rfl, .inr ⟨ch, rfl, h1⟩, h2, h3⟩))
  · have : (fun i => (Array.replicate ops.size false).getD i false) = fun _ => false := by
      funext i
      rw [Array.getD_eq_getD_getElem?, Array.getElem?_replicate]
      split <;> rfl
    rw [this]; exact h0
  · rw [Array.getD_eq_getD_getElem?, Array.getElem?_replicate] at hj
    split at hj <;> simp at hj

theorem draw_detG (hT : TabOk P T) (hm : P.follows .mixedOrders = true) (hΦ : KeptTr b₀ Φ) {B id : Nat} {ops : Array Oper} {s : St} {Q : Exit → St → Prop} {q : Box Q} (ids : List Nat) (tb : List (List Nat × List Nat × List Nat × Bool)) (nid : Nat) (hnd0 : ops.toList.all noDefer = true) (hok : okDetG ops tb nid = true) (hnid : ids.length = nid) (hnd : ids.Nodup)
    (h : wpDetG (spF P rd b₀ Φ B Ψ) T ops ids (zipE ops.toList tb) s (bx fun s' => Q .normal s')) : DrawA (spF P rd b₀ Φ B Ψ) T id ops s q := by
  obtain ⟨h1, I, h2, h3, h4⟩ := det_invG (Q := Q) ids tb nid hok hnid hnd h
  exact draw_anyG hT hm hΦ hnd0 h1 I h2 h3 h4

end

section steps
variable {S : Sp} {T : Nat → TI} {ops : Array Oper} {ids : List Nat} {f : Nat → AV} {g : Nat → Nat} {ob : Nat → Option (List C)} {K : St → Prop} {k : Box K} {op : Op} {ty : TypeId} {ps : String} {af : Array Edge} {gd : Option (Nat × Bool)} {rd hd : List Nat} {r : List Ent} {d : Nat}

theorem detG_pure {v : AV} (hg : GdE ops ⟨⟨some d, op, ty, ps, af, gd⟩, rd, hd, [], false⟩ ⟨f, g, ob⟩) (h1 : ∀ (fa : Nat → AV) (ga : Nat → Nat) (oa : Nat → Option (List C)) (K' : St → Prop), K' ⟨upd (maskf rd f fa) d v, maskm ids hd g ga, maskm ids hd ob oa⟩ → opA S T ⟨some d, op, ty, ps, af, gd⟩ ⟨maskf rd f fa, maskm ids hd g ga, maskm ids hd ob oa⟩ (bx K'))
    (h2 : wpDetG S T ops ids r ⟨upd f d v, g, ob⟩ k) : wpDetG S T ops ids (⟨⟨some d, op, ty, ps, af, gd⟩, rd, hd, [], false⟩ :: r) ⟨f, g, ob⟩ k := by
  unfold wpDetG
  exact ⟨v, [], ⟨rfl, fun fa ga oa K' hK => h1 fa ga oa K' hK, hg⟩, h2⟩
theorem detG_new {v : AV} {a x : Nat} {y : Option (List C)} (hg : GdE ops ⟨⟨some d, op, ty, ps, af, gd⟩, rd, hd, [a], false⟩ ⟨f, g, ob⟩) (h1 : ∀ (fa : Nat → AV) (ga : Nat → Nat) (oa : Nat → Option (List C)) (K' : St → Prop), K' ⟨upd (maskf rd f fa) d v, upd (maskm ids hd g ga) (ids.getD a 0) x, upd (maskm ids hd ob oa) (ids.getD a 0) y⟩ → opA S T ⟨some d, op, ty, ps, af, gd⟩ ⟨maskf rd f fa, maskm ids hd g ga, maskm ids hd ob oa⟩ (bx K'))
    (h2 : wpDetG S T ops ids r ⟨upd f d v, upd g (ids.getD a 0) x, upd ob (ids.getD a 0) y⟩ k) : wpDetG S T ops ids (⟨⟨some d, op, ty, ps, af, gd⟩, rd, hd, [a], false⟩ :: r) ⟨f, g, ob⟩ k := by
  unfold wpDetG
  exact ⟨v, [(x, y)], ⟨rfl, fun fa ga oa K' hK => h1 fa ga oa K' hK, hg⟩, h2⟩
theorem detG_nil (h : K ⟨f, g, ob⟩) : wpDetG S T ops ids [] ⟨f, g, ob⟩ k := by unfold wpDetG; exact h
end steps

end Go.Am

namespace Go.Am

/-- What holds where a call panics: of the chain, and of the objects. -/
abbrev Pan := List PanicEntry → (Nat → Nat) → Obs → Prop
def Pan.on (Ψ : Pan) : PanF := fun ch s => Ψ ch s.gen s.obj

section
variable {P : Program} {T : Nat → TI} {b₀ : Bs} {β : Loc} {w : World} {B : Nat} {Ψ : Pan} {rd : Option Nat} {Φ : St → Loc → List Deferred → World → Prop}

/-- How a call may end: it returns, or it panics. -/
def EndX (b₀ : Bs) (β : Loc) (fa : Nat → AV) (g : Nat → Nat) (ob : Obs) (w : World) (R : AV → (Nat → Nat) → Obs → Prop) (Ψ : Pan) (e : Ending) (w' : World) : Prop :=
  (∃ v r g' ob' β', e = .returned v ∧ R r g' ob' ∧ RepV b₀ β' g' ob' w' r v ∧
      (∀ id cells, ob' id = some cells → ObjAt b₀ β' g' ob' w' (g' id) cells (β' id)) ∧ (∀ id id' a a', (ob' id).isSome = true → (ob' id').isSome = true → β' id = some a → β' id' = some a' → a.block = a'.block → id = id') ∧
      Tr b₀ β ⟨fa, g, ob⟩ w β' ⟨fa, g', ob'⟩ w') ∨
  (∃ ch g' ob' β', e = .panicked ch ∧ Ψ ch g' ob' ∧
      (∀ id cells, ob' id = some cells → ObjAt b₀ β' g' ob' w' (g' id) cells (β' id)) ∧ (∀ id id' a a', (ob' id).isSome = true → (ob' id').isSome = true → β' id = some a → β' id' = some a' → a.block = a'.block → id = id') ∧
      Tr b₀ β ⟨fa, g, ob⟩ w β' ⟨fa, g', ob'⟩ w')

/-- A contract of a function that may panic. -/
def FunX (P : Program) (f : FuncId) (xs : List AV) (g : Nat → Nat) (ob : Obs) (R : AV → (Nat → Nat) → Obs → Prop) (Ψ : Pan) : Prop :=
  Fine P f ∧ ∀ (b₀ : Bs) (N : Nat) (β : Loc) (a : Act) (fa : Nat → AV) (w : World) (vs : List Value), Rel b₀ N ⟨fa, g, ob⟩ β a w → RepVs b₀ β g ob w xs vs →
    Calls P f vs.toArray w (EndX b₀ β fa g ob w R Ψ)

theorem FunR.toX {f : FuncId} {xs : List AV} {g : Nat → Nat} {ob : Obs} {R : AV → (Nat → Nat) → Obs → Prop} (h : FunR P f xs g ob R) : FunX P f xs g ob R Ψ :=
  ⟨h.1, fun b₀ N β a fa w vs h1 h2 => (h.2 b₀ N β a fa w vs h1 h2).mono fun _ _ q => .inl q⟩

theorem FunX.mono {f : FuncId} {xs : List AV} {g : Nat → Nat} {ob : Obs} {R R' : AV → (Nat → Nat) → Obs → Prop} {Ψ' : Pan} (h : FunX P f xs g ob R Ψ) (hr : ∀ r g' ob', R r g' ob' → R' r g' ob') (hp : ∀ ch g' ob', Ψ ch g' ob' → Ψ' ch g' ob') : FunX P f xs g ob R' Ψ' :=
  ⟨h.1, fun b₀ N β a fa w vs h1 h2 => (h.2 b₀ N β a fa w vs h1 h2).mono fun _ _ q => q.imp (fun ⟨v, r, g', ob', β', q1, q2, q3⟩ => ⟨v, r, g', ob', β', q1, hr _ _ _ q2, q3⟩) (fun ⟨ch, g', ob', β', q1, q2, q3⟩ => ⟨ch, g', ob', β', q1, hp _ _ _ q2, q3⟩)⟩

/-- What is true of all activations, and what they came from. -/
def PhiT (b₀ : Bs) (β0 : Loc) (s0 : St) (w0 : World) : St → Loc → List Deferred → World → Prop := fun s β ds w => ds = [] ∧ Tr b₀ β0 s0 w0 β s w
theorem kept_phiT {β0 : Loc} {s0 : St} {w0 : World} : KeptTr b₀ (PhiT b₀ β0 s0 w0) := fun _ _ _ _ _ _ _ h ht => ⟨h.1, h.2.trans ht⟩

/-- A function that may panic, by its body's abstract code. -/
theorem fun_of_wpX (B : Nat) (hT : TabOk P T) (hm : P.follows .mixedOrders = true) {f : FuncId} {fn : Func} {c : Code} (hf : P.funcs[f]? = some fn) (hb : fn.body = some c) (hn : (fn.name == "runtime.NumGoroutine") = false)
    (rs : List ResultVar) (hres : fn.results = rs.toArray) (hcm : calm2 c = true) (hok : codeOk fn.ntmps c = true) {xs : List AV} (hargs : xs.length ≤ fn.ntmps) {g : Nat → Nat} {ob : Obs} {R : AV → (Nat → Nat) → Obs → Prop}
    (h : ∀ b₀ β0 s0 w0, wpC (spF P none b₀ (PhiT b₀ β0 s0 w0) B Ψ.on) T c (bx (RetFR T rs R)) ⟨initF xs, g, ob⟩) : FunX P f xs g ob R Ψ := by
  refine ⟨⟨fn, hf, by rw [hb]; rfl, hn⟩, fun b₀ N β a fa w vs hr0 hv => ?_⟩
  refine calls_of_fen (n := 0) (callsIn_of_wp hf hb trivial ?_)
  have hr := rel_init (N := fn.ntmps) hargs hr0 hv
  refine wpIn_mono (wpC_soundF2 (rd := none) (B := B) (ds := []) hT hm kept_phiT c hcm hok hr ⟨rfl, Tr.refl⟩ (h b₀ β ⟨initF xs, g, ob⟩ w)) (fun e a' w' hp => ?_)
  obtain ⟨s', β', a0, ds', rfl, hQ, hr', rfl, ht⟩ := hp
  rcases hQ with hQ | ⟨ch, rfl, hQ⟩
  · have hres' : RetFR T rs R .ret s' → ∃ v, (results fn a0.tmps).run P w' = .ok v w' ∧ EndX b₀ β fa g ob w R Ψ (.returned v) w' := by
      rintro ⟨s2, hvs, hR⟩
      obtain ⟨β2, hr2, ht2⟩ := hvs b₀ fn.ntmps β' a0 w' hr'
      have hta := ht.trans ht2
      obtain ⟨v, avs, h1, h2, h3, _⟩ := evalR_results hT hr2 hres hR
      exact ⟨v, h1, .inl ⟨v, _, _, _, β2, rfl, h2, h3, hr2.obj, hr2.inj, ⟨hta.size, hta.old, hta.keep, hta.os⟩⟩⟩
    cases e with
    | normal => exact ⟨rfl, hres' hQ⟩
    | ret => exact ⟨rfl, hres' hQ⟩
    | exit id => exact hQ.elim
    | goto l => exact hQ.elim
    | panic ch => exact hQ.elim
    | outgrown => exact hQ.elim
  · exact ⟨rfl, .inr ⟨ch, _, _, β', rfl, hQ, hr'.obj, hr'.inj, ⟨ht.size, ht.old, ht.keep, ht.os⟩⟩⟩

/-- A call that may panic, as the walk meets it. -/
theorem hook_funX (hΦ : KeptTr b₀ Φ) {o : Oper} {s : St} {K : St → Prop} {k : Box K} {f : FuncId} {args : Array Operand} {tys : Array TypeId} (ho : o.op = .call ⟨.value (.func f), args, tys⟩) {R : AV → (Nat → Nat) → Obs → Prop}
    (hp : FunX P f (args.toList.map s.ev) s.gen s.obj R Ψ) (hk : ∀ r g' ob', R r g' ob' → K (St.put ⟨s.f, g', ob'⟩ o.dst r)) : hookA (spF P rd b₀ Φ B Ψ.on) o s k := by
  refine ⟨fun s' => ∃ r g' ob', R r g' ob' ∧ s' = St.put ⟨s.f, g', ob'⟩ o.dst r, fun N β a ds w hr hφ hdst next Q hn hx => ?_, fun _ ⟨r, g', ob', hr, e⟩ => e ▸ hk r g' ob' hr⟩
  have hnd : noDefer o = true := by simp [noDefer, ho]
  refine wp_fen hnd ?_
  unfold Oper.wp
  rw [run_call ho hp.1 w]
  simp only [Oper.upon]
  have := hp.2 b₀ N β a s.f w (args.toList.map a.eval) hr (args_rep hr _)
  rw [show (args.toList.map a.eval).toArray = args.map a.eval from Array.ext' (by simp)] at this
  refine this.mono fun e w' hE => ?_
  rcases hE with ⟨v, r, g', ob', β', he, hR, hv, h1, h2, h3⟩ | ⟨ch, g', ob', β', he, hΨ, h1, h2, h3⟩
  · subst he
    obtain ⟨k1, k2⟩ := call_back hr hdst hv h1 h2 h3
    exact ⟨k1.defers, hn _ β' _ w' ⟨r, g', ob', hR, rfl⟩ k1 (hΦ _ _ _ _ _ _ _ hφ k2)⟩
  · subst he
    have hk : Keep b₀ β s.gen s.obj w β' g' ob' w' := h3.keep
    have ht : Tr b₀ β s w β' ⟨s.f, g', ob'⟩ w' := ⟨h3.size, h3.old, hk, h3.os⟩
    exact hx ch ⟨s.f, g', ob'⟩ β' a w' hΨ ⟨hr.defers, hr.size, fun i => RepV.keep hk _ (hr.f i), h1, h2, Nat.le_trans hr.base h3.size⟩ (hΦ _ _ _ _ _ _ _ hφ ht)

/-- A panic. -/
theorem hook_panic {Ψ : PanF} {o : Oper} {s : St} {K : St → Prop} {k : Box K} {x : Operand} (ho : o.op = .panic x) {v : Value} (hv : ∀ (N : Nat) (β : Loc) (a : Act) (w : World), Rel b₀ N s β a w → (Instr.panic (a.eval x)).run P w = .halt (.panic v) w)
    (hk : Ψ [{ v, recovered := false }] s) : hookA (spF P rd b₀ Φ B Ψ) o s k := by
  refine ⟨fun _ => False, fun N β a ds w hr hφ hdst next Q hn hx => ?_, fun _ h => h.elim⟩
  have hnd : noDefer o = true := by simp [noDefer, ho]
  refine wp_fen hnd ?_
  unfold Oper.wp
  have : (execOp a.eval o).run P w = .halt (.panic v) w := by
    simp [execOp, ho, hv N β a w hr, Result.andThen]
  rw [this]
  exact hx _ s β a w hk hr hφ

end
end Go.Am

namespace Go.Am
section
variable {P : Program} {T : Nat → TI} {b₀ : Bs} {rd : Option Nat} {gb : Nat} {o : Hold} {Ψ : PanF} {B0 : Nat}

theorem hook_viewG {Φ : St → Loc → List Deferred → World → Prop} (hΦ : KeptTr b₀ Φ) (hG : ∀ s β ds w, Φ s β ds w → HeldI b₀ gb o w) {op : Oper} {s : St} {K : St → Prop} {k : Box K} {f : FuncId} {args : Array Operand} {tys : Array TypeId} (ho : op.op = .call ⟨.value (.func f), args, tys⟩) {R : AV → Prop} {xs : List AV}
    (hx : FrzVs s (args.toList.map s.ev) xs) (hp : PureG P gb o f xs R) (hd : ∀ r, R r → scalarAV r = true) (hk : ∀ r, R r → K (s.put op.dst r)) : hookA (spF P rd b₀ Φ B0 Ψ) op s k := by
  refine ⟨fun s' => ∃ r, R r ∧ s' = s.put op.dst r, ?_, fun _ ⟨r, hr, e⟩ => e ▸ hk r hr⟩
  intro N β a ds w hr hφ hdst next Q hn _
  have hnd : noDefer op = true := by simp [noDefer, ho]
  refine wp_fen hnd ?_
  unfold Oper.wp
  rw [run_call ho hp.1 w]
  simp only [Oper.upon]
  have hargs : ∀ (l : List Operand) (xs : List AV), FrzVs s (l.map s.ev) xs → RVs (Own b₀ w) w xs (l.map a.eval) := by
    intro l
    induction l with
    | nil => intro xs h; simp only [List.map_nil, FrzVs] at h; subst h; simp only [List.map_nil, RVs]
    | cons x l ih =>
      intro xs h
      simp only [List.map_cons, FrzVs] at h
      obtain ⟨r, rs, rfl, h1, h2⟩ := h
      simp only [List.map_cons, RVs]
      exact ⟨_, _, rfl, h1.rep hr (hr.ev x), ih rs h2⟩
  have := hp.2 (Own b₀ w) w (args.toList.map a.eval) (hG _ _ _ _ hφ).2 (fun _ h => h.1) (hargs _ _ hx)
  rw [show (args.toList.map a.eval).toArray = args.map a.eval from Array.ext' (by simp)] at this
  refine this.mono fun e w' ⟨v, r, he, hR, hs, hh, hos, hv⟩ => ?_
  subst he
  obtain ⟨g1, g2⟩ := hr.grow hs hh hos
  have h1 := g1.put hdst (RV.rep r (RV.of_scalar (hd r hR) hv))
  exact ⟨h1.defers, hn _ β _ w' ⟨r, hR, rfl⟩ h1 (hΦ _ _ _ _ _ _ _ hφ (g2.trans (Tr.same (St.put_gen _ _ _) (St.put_obj _ _ _) rfl)))⟩
end
end Go.Am

/- The assembler, plain: a line's parts. -/
namespace Go.Asm

abbrev Str := List UInt8

/-! ### Blanks -/
def wht (c : UInt8) : Bool := c == 32 || c == 9
def trimL (s : Str) : Str := s.dropWhile wht
def trimR (s : Str) : Str := (s.reverse.dropWhile wht).reverse
def trimW (s : Str) : Str := trimL (trimR s)

theorem trimL_cons_w {c : UInt8} {s : Str} (h : wht c = true) : trimL (c :: s) = trimL s := by simp [trimL, h]
theorem trimL_cons {c : UInt8} {s : Str} (h : wht c = false) : trimL (c :: s) = c :: s := by simp [trimL, h]
theorem trimR_snoc_w {c : UInt8} {s : Str} (h : wht c = true) : trimR (s ++ [c]) = trimR s := by simp [trimR, h]
theorem trimR_snoc {c : UInt8} {s : Str} (h : wht c = false) : trimR (s ++ [c]) = s ++ [c] := by simp [trimR, h]
theorem trimL_nil : trimL [] = [] := rfl
theorem trimR_nil : trimR [] = [] := rfl

theorem trimL_app {s t : Str} : trimL (s ++ t) = if trimL s = [] then trimL t else trimL s ++ t := by
  induction s with
  | nil => simp [trimL]
  | cons c s ih =>
    cases hc : wht c
    · rw [List.cons_append, trimL_cons hc, trimL_cons hc]; simp
    · rw [List.cons_append, trimL_cons_w hc, trimL_cons_w hc, ih]
theorem trimL_white {s : Str} (h : s.all wht = true) : trimL s = [] := by
  induction s with
  | nil => rfl
  | cons c s ih =>
    simp only [List.all_cons, Bool.and_eq_true] at h
    rw [trimL_cons_w h.1, ih h.2]
theorem trimL_none {s : Str} : trimL s = [] ↔ s.all wht = true := by
  induction s with
  | nil => simp [trimL]
  | cons c s ih =>
    cases hc : wht c
    · rw [trimL_cons hc]; simp [hc]
    · rw [trimL_cons_w hc, ih]; simp [hc]
theorem trimL_head {s r : Str} {c : UInt8} (h : trimL s = c :: r) : wht c = false := by
  have := List.head?_dropWhile_not wht s
  unfold trimL at h
  rw [h] at this
  simpa using this
theorem trimL_idem (s : Str) : trimL (trimL s) = trimL s := by
  cases h : trimL s with
  | nil => rfl
  | cons c r => rw [trimL_cons (trimL_head h)]

theorem trimR_eq (s : Str) : (trimR s).reverse = trimL s.reverse := by simp [trimR, trimL]
theorem trimR_rev (s : Str) : trimR s.reverse = (trimL s).reverse := by simp [trimR, trimL]
theorem trimR_idem (s : Str) : trimR (trimR s) = trimR s := by
  have h := trimL_idem s.reverse
  rw [← trimR_eq, ← trimR_eq] at h
  exact List.reverse_inj.1 h
theorem trimR_app {s t : Str} : trimR (s ++ t) = if trimR t = [] then trimR s else s ++ trimR t := by
  apply List.reverse_inj.1
  rw [trimR_eq, List.reverse_append, trimL_app, ← trimR_eq, ← trimR_eq]
  by_cases h : trimR t = []
  · rw [if_pos h, if_pos (by rw [h]; rfl)]
  · rw [if_neg h, if_neg (by simpa using h)]; simp
theorem trimR_none {s : Str} : trimR s = [] ↔ s.all wht = true := by
  rw [← List.reverse_eq_nil_iff, trimR_eq, trimL_none, List.all_reverse]

/-- From both ends: in either order. -/
theorem trim_comm (s : Str) : trimL (trimR s) = trimR (trimL s) := by
  induction s with
  | nil => rfl
  | cons c s ih =>
    have e : c :: s = [c] ++ s := rfl
    cases hc : wht c
    · rw [trimL_cons hc, e, trimR_app]
      by_cases h : trimR s = []
      · rw [if_pos h, show trimR [c] = [c] from by simp [trimR, hc]]
        exact trimL_cons hc
      · rw [if_neg h]
        exact trimL_cons hc
    · rw [trimL_cons_w hc, ← ih]
      rw [e, trimR_app]
      by_cases h : trimR s = []
      · rw [if_pos h, h, show trimR [c] = [] from by simp [trimR, hc]]
      · rw [if_neg h]
        exact trimL_cons_w hc
theorem trimW_idem (s : Str) : trimW (trimW s) = trimW s := by
  unfold trimW
  rw [← trim_comm (trimR s), trimR_idem, trimL_idem]
theorem trimW_white_app {s t : Str} (h : s.all wht = true) : trimW (s ++ t) = trimW t := by
  unfold trimW
  rw [trim_comm, trim_comm, trimL_app, if_pos (trimL_none.2 h)]
theorem trimW_app_white {s t : Str} (h : t.all wht = true) : trimW (s ++ t) = trimW s := by
  unfold trimW
  rw [trimR_app, if_pos (trimR_none.2 h)]
theorem trimW_none {s : Str} : trimW s = [] ↔ s.all wht = true := by
  constructor
  · intro h
    unfold trimW at h
    have h1 := trimL_none.1 h
    have h2 : trimR s = trimR (trimR s) := (trimR_idem s).symm
    rw [trimR_none.2 h1] at h2
    exact trimR_none.1 h2
  · intro h
    unfold trimW
    rw [trimR_none.2 h]; rfl
theorem trimL_le (s : Str) : (trimL s).length ≤ s.length := (List.dropWhile_suffix _).length_le
theorem trimR_le (s : Str) : (trimR s).length ≤ s.length := by
  have := trimL_le s.reverse
  rw [← trimR_eq, List.length_reverse, List.length_reverse] at this; exact this
theorem trimW_le (s : Str) : (trimW s).length ≤ s.length := Nat.le_trans (trimL_le _) (trimR_le _)

/-! ### Bytes -/
def small (c : UInt8) : Bool := decide (97 ≤ c.toNat) && decide (c.toNat ≤ 122)
def letter (c : UInt8) : Bool := small c || (decide (65 ≤ c.toNat) && decide (c.toNat ≤ 90))
def digit (c : UInt8) : Bool := decide (48 ≤ c.toNat) && decide (c.toNat ≤ 57)
def nameC (c : UInt8) : Bool := letter c || digit c || c == 95

def isLabel (s : Str) : Bool := decide (s.length ≤ 20) && (match s with | [] => false | c :: _ => letter c) && s.all nameC
/-- Without a point ahead. -/
def bareWord (s : Str) : Str := if s.head? = some 46 then s.drop 1 else s
def isWord (s : Str) : Bool := decide (0 < (bareWord s).length) && (bareWord s).all small

/-! ### Cutting -/
/-- What stands ahead of the first byte c. -/
def upto (c : UInt8) (s : Str) : Str := s.takeWhile (· != c)
theorem upto_none {c : UInt8} : ∀ {s : Str}, c ∉ s → upto c s = s
  | [], _ => rfl
  | b :: s, h => by
    simp only [List.mem_cons, not_or] at h
    have : (b != c) = true := by simpa using fun e => h.1 e.symm
    unfold upto; rw [List.takeWhile_cons, if_pos this]
    rw [show s.takeWhile (· != c) = upto c s from rfl, upto_none h.2]
theorem upto_app {c : UInt8} : ∀ {s : Str} (t : Str), c ∉ s → upto c (s ++ c :: t) = s
  | [], t, _ => by simp [upto]
  | b :: s, t, h => by
    simp only [List.mem_cons, not_or] at h
    have : (b != c) = true := by simpa using fun e => h.1 e.symm
    unfold upto; rw [List.cons_append, List.takeWhile_cons, if_pos this]
    rw [show (s ++ c :: t).takeWhile (· != c) = upto c (s ++ c :: t) from rfl, upto_app t h.2]
theorem upto_free (c : UInt8) : ∀ s : Str, c ∉ upto c s
  | [] => by simp [upto]
  | b :: s => by
    unfold upto
    rw [List.takeWhile_cons]
    split
    · rename_i h
      simp only [List.mem_cons, not_or]
      exact ⟨fun e => by simp [e] at h, upto_free c s⟩
    · simp
theorem upto_split {c : UInt8} : ∀ {s : Str}, c ∈ s → ∃ t, s = upto c s ++ c :: t
  | [], h => by simp at h
  | b :: s, h => by
    by_cases hb : b = c
    · exact ⟨s, by simp [upto, hb]⟩
    · obtain ⟨t, ht⟩ := upto_split (c := c) (s := s) (by simpa [Ne.symm hb, eq_comm, hb] using h)
      have : (b != c) = true := by simpa using hb
      refine ⟨t, ?_⟩
      have e : upto c (b :: s) = b :: upto c s := by unfold upto; rw [List.takeWhile_cons, if_pos this]
      rw [e, List.cons_append, ← ht]

/-- A text, cut at the byte c. -/
def splitC (c : UInt8) : Str → List Str
  | [] => [[]]
  | b :: l => if b = c then [] :: splitC c l else
    match splitC c l with
    | [] => [[b]]
    | x :: xs => (b :: x) :: xs
theorem splitC_cons (c b : UInt8) (l : Str) : splitC c (b :: l) = if b = c then [] :: splitC c l else match splitC c l with | [] => [[b]] | x :: xs => (b :: x) :: xs := rfl
theorem splitC_ne (c : UInt8) (l : Str) : splitC c l ≠ [] := by
  cases l with
  | nil => simp [splitC]
  | cons b l => rw [splitC_cons]; split; simp; split <;> simp
theorem splitC_none {c : UInt8} : ∀ {s : Str}, c ∉ s → splitC c s = [s]
  | [], _ => rfl
  | b :: l, h => by
    simp only [List.mem_cons, not_or] at h
    rw [splitC_cons, if_neg (fun e => h.1 e.symm), splitC_none h.2]
theorem splitC_join {c : UInt8} : ∀ (a b : Str), splitC c (a ++ c :: b) = splitC c a ++ splitC c b
  | [], b => by rw [List.nil_append, splitC_cons]; simp [splitC]
  | d :: a, b => by
    rw [List.cons_append, splitC_cons, splitC_cons, splitC_join a b]
    by_cases hc : d = c
    · simp [hc]
    · simp only [hc, if_false]
      have := splitC_ne c a
      cases hs : splitC c a with
      | nil => exact absurd hs this
      | cons x xs => rfl
theorem splitC_free {c : UInt8} : ∀ (s : Str), ∀ x ∈ splitC c s, c ∉ x
  | [], x, h => by simp [splitC] at h; simp [h]
  | b :: l, x, h => by
    have ih := splitC_free (c := c) l
    rw [splitC_cons] at h
    split at h
    · rcases List.mem_cons.1 h with rfl | h
      · simp
      · exact ih x h
    · rename_i hb
      split at h
      · simp at h; subst h; simp; exact fun e => hb e.symm
      · rename_i y ys hy
        rcases List.mem_cons.1 h with rfl | h
        · simp only [List.mem_cons, not_or]
          exact ⟨fun e => hb e.symm, ih y (by rw [hy]; simp)⟩
        · exact ih x (by rw [hy]; simp [h])
theorem splitC_len {c : UInt8} : ∀ s : Str, (splitC c s).length ≤ s.length + 1
  | [] => by simp [splitC]
  | b :: l => by
    have ih := splitC_len (c := c) l
    rw [splitC_cons]
    split
    · simp only [List.length_cons]; omega
    · split
      · simp
      · rename_i h; rw [h] at ih; simp only [List.length_cons] at ih ⊢; omega
theorem splitC_text {c : UInt8} : ∀ s : Str, ∀ x ∈ splitC c s, x.length ≤ s.length
  | [], x, h => by simp [splitC] at h; simp [h]
  | b :: l, x, h => by
    have ih := splitC_text (c := c) l
    rw [splitC_cons] at h
    split at h
    · rcases List.mem_cons.1 h with rfl | h
      · simp
      · have := ih x h; simp only [List.length_cons]; omega
    · split at h
      · simp at h; simp [h]
      · rename_i y ys hy
        rcases List.mem_cons.1 h with rfl | h
        · have := ih y (by rw [hy]; simp); simp only [List.length_cons]; omega
        · have := ih x (by rw [hy]; simp [h]); simp only [List.length_cons]; omega

/-! ### A line -/
def argsOf (rest : Str) : Option (List Str) :=
  if rest = [] then some [] else if ((splitC 44 rest).map trimW).all (fun x => decide (x ≠ [])) = true then some ((splitC 44 rest).map trimW) else none
/-- A line's label (none: empty), and what stands behind it. -/
def labelOf (s : Str) : Option (Str × Str) :=
  if 58 ∈ s then (if isLabel (upto 58 s) = true then some (upto 58 s, trimW (s.drop ((upto 58 s).length + 1))) else none) else some ([], s)
def opOf (s : Str) : Str := s.takeWhile (fun c => !wht c)
/-- A line's label, its word, its operands; none: it is no line. -/
def lineA (s : Str) : Option (Str × Str × List Str) :=
  (labelOf (trimW (upto 35 s))).bind fun x =>
    if x.2 = [] then some (x.1, [], []) else
    if isWord (opOf x.2) = true then (argsOf (trimW (x.2.drop (opOf x.2).length))).map fun a => (x.1, opOf x.2, a) else none

end Go.Asm

namespace Go.Asm

/-! ### Numbers -/
inductive PR where
  | ok (n : Nat)
  | syn
  | rng
  deriving DecidableEq
def decF (n : Nat) (c : UInt8) : Nat := 10 * n + (c.toNat - 48)
def decN (s : Str) : Nat := s.foldl decF 0
def parseN (s : Str) : PR :=
  if s = [] ∨ (1 < s.length ∧ s.head? = some 48) then .syn else if s.all digit = true then (if 4294967295 < decN s then .rng else .ok (decN s)) else .syn

def hexV (c : UInt8) : Option Nat :=
  if digit c = true then some (c.toNat - 48) else if 97 ≤ c.toNat ∧ c.toNat ≤ 102 then some (c.toNat - 87) else if 65 ≤ c.toNat ∧ c.toNat ≤ 70 then some (c.toNat - 55) else none
def hexGo : Nat → Str → Option Nat
  | n, [] => some n
  | n, c :: s => (hexV c).bind fun v => hexGo (16 * n + v) s
def hexN (s : Str) : Option Nat := if 1 ≤ s.length ∧ s.length ≤ 8 then hexGo 0 s else none

def charOk (c : UInt8) : Bool := decide (33 ≤ c.toNat) && decide (c.toNat ≤ 126) && decide (c ≠ 39) && decide (c ≠ 35) && decide (c ≠ 44) && decide (c ≠ 58)
def charOf : Str → Option Nat
  | [a, c, b] => if a = 39 ∧ b = 39 ∧ charOk c = true then some c.toNat else none
  | _ => none
def regOf (s : Str) : Option Nat :=
  match s with
  | 114 :: d => match parseN d with
    | .ok n => if n ≤ 15 then some n else none
    | _ => none
  | _ => none

inductive Opd where
  | reg (n : Nat)
  | num (n : Nat)
  | great
  | lab
  | other
  deriving DecidableEq
def restOpd (s : Str) : Opd :=
  match s with
  | 48 :: 120 :: d => match hexN d with
    | some n => .num n
    | none => .other
  | s => match charOf s with
    | some n => .num n
    | none => if isLabel s = true then .lab else .other
def operandA (s : Str) : Opd :=
  match regOf s with
  | some n => .reg n
  | none => match parseN s with
    | .ok n => .num n
    | .rng => .great
    | .syn => restOpd s

/-! ### Instructions -/
def names : List Str := [[108, 105], [108, 117, 105], [109, 111, 118], [97, 100, 100], [115, 117, 98], [109, 117, 108], [100, 105, 118], [109, 111, 100], [97, 110, 100], [111, 114], [120, 111, 114], [115, 104, 108], [115, 104, 114], [108, 116], [101, 113], [108, 100], [115, 116],
  [106, 109, 112], [106, 122], [106, 110, 122], [99, 97, 108, 108], [114, 101, 116], [103, 101, 116], [112, 117, 116], [99, 104, 107], [104, 97, 108, 116], [108, 100, 99]]
/-- An operation's number; 0: there is none of that name. -/
def opNum (s : Str) : Nat := match names.idxOf? s with | some i => i + 1 | none => 0
/-- Has it A, has it B, what is C (0: nothing, 1: a number, 2: a register)? -/
def shape (op : Nat) : Bool × Bool × Nat :=
  if op = 1 ∨ op = 2 ∨ op = 19 ∨ op = 20 ∨ op = 21 ∨ op = 25 then (true, false, 1)
  else if op = 3 then (true, true, 0)
  else if 4 ≤ op ∧ op ≤ 15 then (true, true, 2)
  else if op = 16 ∨ op = 17 ∨ op = 27 then (true, true, 1)
  else if op = 18 then (false, false, 1)
  else if op = 22 ∨ op = 23 ∨ op = 24 then (true, false, 0)
  else (false, false, 0)
def nRegs (op : Nat) : Nat := (if (shape op).1 then 1 else 0) + (if (shape op).2.1 then 1 else 0) + (if (shape op).2.2 = 2 then 1 else 0)
def nArgs (op : Nat) : Nat := nRegs op + (if (shape op).2.2 = 1 then 1 else 0)
def word (op a b c : Nat) : Nat := op * 16777216 + a * 1048576 + b * 65536 + c

structure Sta where
  code : List Nat
  data : Nat
  hasD : Bool
  labs : List (Str × Nat)
  uses : List (Nat × Nat × Str)

inductive Res (α : Type) where
  | ok (x : α)
  | err (e : Nat)

def regOf? (s : Str) : Option Nat := match operandA s with | .reg n => some n | _ => none
/-- The registers, in order; none: one of them is none. -/
def regsOf : List Str → Option (List Nat)
  | [] => some []
  | a :: l => (regOf? a).bind fun n => (regsOf l).map (n :: ·)
/-- A word is added. -/
def addW (st : Sta) (w : Nat) : Res Sta := if 16384 ≤ st.code.length then .err 2 else .ok { st with code := st.code ++ [w] }
def wordR (op : Nat) (rs : List Nat) (c : Nat) : Nat :=
  match (shape op).1, (shape op).2.1, (shape op).2.2 with
  | true, true, 2 => word op (rs.getD 0 0) (rs.getD 1 0) (rs.getD 2 0)
  | true, true, _ => word op (rs.getD 0 0) (rs.getD 1 0) c
  | true, false, _ => word op (rs.getD 0 0) 0 c
  | false, _, _ => word op 0 0 c
def insA (n : Nat) (st : Sta) (op : Nat) (args : List Str) : Res Sta :=
  if args.length ≠ nArgs op then .err 1 else
  match regsOf (args.take (nRegs op)) with
  | none => .err 1
  | some rs =>
    if (shape op).2.2 = 1 then
      match operandA (args.getD (nRegs op) []) with
      | .lab => addW { st with uses := st.uses ++ [(n, st.code.length, args.getD (nRegs op) [])] } (wordR op rs 0)
      | .num v => if 65535 < v then .err 2 else addW st (wordR op rs v)
      | .great => .err 2
      | _ => .err 1
    else addW st (wordR op rs 0)
def wordW : Str := [46, 119, 111, 114, 100]
def dataW : Str := [46, 100, 97, 116, 97]
def dirA (st : Sta) (isData : Bool) (args : List Str) : Res Sta :=
  match args with
  | [a] =>
    if isData = true ∧ st.hasD = true then .err 1 else
    match operandA a with
    | .num v => if isData = true then (if 32768 < v then .err 2 else .ok { st with data := v, hasD := true }) else addW st v
    | .great => .err 2
    | _ => .err 1
  | _ => .err 1
def placeOf (labs : List (Str × Nat)) (s : Str) : Option Nat := (labs.find? (fun p => p.1 = s)).map (·.2)
def opA (n : Nat) (st : Sta) (op : Str) (args : List Str) : Res Sta :=
  if op = [] then .ok st else if op = wordW then dirA st false args else if op = dataW then dirA st true args
  else if opNum op = 0 then .err 4 else insA n st (opNum op) args
/-- The line of the number n. -/
def stepA (n : Nat) (st : Sta) (s : Str) : Res Sta :=
  match lineA s with
  | none => .err 3
  | some (l, op, args) =>
    if l = [] then opA n st op args else
    if (placeOf st.labs l).isSome = true then .err 4 else opA n { st with labs := st.labs ++ [(l, st.code.length)] } op args
/-- Lines, from the number n + 1 on: what comes of them, or the wrong one's number and the error. -/
def linesA : Nat → Sta → List Str → Sta ⊕ (Nat × Nat)
  | _, st, [] => .inl st
  | n, st, s :: ls => match stepA (n + 1) st s with
    | .ok st' => linesA (n + 1) st' ls
    | .err e => .inr (n + 1, e)
def addAt (code : List Nat) (i v : Nat) : List Nat := code.set i (code.getD i 0 + v)
def usesA (labs : List (Str × Nat)) : List Nat → List (Nat × Nat × Str) → List Nat ⊕ (Nat × Nat)
  | code, [] => .inl code
  | code, u :: us => match placeOf labs u.2.2 with
    | none => .inr (u.1, 4)
    | some p => usesA labs (addAt code u.2.1 p) us
def st0 : Sta := ⟨[], 0, false, [], []⟩
/-- A text's image (its code, its data), the wrong line's number, the error. -/
def readA (t : Str) : (List Nat × Nat) × Nat × Nat :=
  if 20000 < t.length then (([], 0), 0, 2) else
  match linesA 0 st0 (splitC 10 t) with
  | .inr (n, e) => (([], 0), n, e)
  | .inl st => match usesA st.labs st.code st.uses with
    | .inr (n, e) => (([], 0), n, e)
    | .inl code => ((code, st.data), 0, 0)

end Go.Asm

namespace Go.Asm

/-- The pieces of a text, without blanks at their ends, if none is empty. -/
def argsP (rest : Str) : Option (List Str) := if ((splitC 44 rest).map trimW).all (fun x => decide (x ≠ [])) = true then some ((splitC 44 rest).map trimW) else none

theorem argsOf_P {rest : Str} (h : rest ≠ []) : argsOf rest = argsP rest := by unfold argsOf argsP; rw [if_neg h]

theorem splitC_pre {c : UInt8} : ∀ (w : Str) {s : Str} {x : Str} {xs : List Str}, c ∉ w → splitC c s = x :: xs → splitC c (w ++ s) = (w ++ x) :: xs
  | [], s, x, xs, _, h => h
  | b :: w, s, x, xs, hw, h => by
    simp only [List.mem_cons, not_or] at hw
    rw [List.cons_append, splitC_cons, if_neg (fun e => hw.1 e.symm), splitC_pre w hw.2 h]
    rfl
theorem splitC_post {c : UInt8} : ∀ (s : Str) {t : Str}, c ∉ t → ∃ xs x, splitC c s = xs ++ [x] ∧ splitC c (s ++ t) = xs ++ [x ++ t]
  | [], t, h => ⟨[], [], rfl, by rw [List.nil_append, splitC_none h]; rfl⟩
  | b :: l, t, h => by
    obtain ⟨xs, x, h1, h2⟩ := splitC_post l h
    rw [List.cons_append, splitC_cons, splitC_cons, h1, h2]
    by_cases hb : b = c
    · exact ⟨[] :: xs, x, by simp [hb], by simp [hb]⟩
    · simp only [hb, if_false]
      cases xs with
      | nil => exact ⟨[], b :: x, rfl, rfl⟩
      | cons y ys => exact ⟨(b :: y) :: ys, x, rfl, rfl⟩

theorem wht_free {s : Str} (h : s.all wht = true) {c : UInt8} (hc : wht c = false) : c ∉ s := by
  intro hm
  rw [List.all_eq_true.1 h c hm] at hc; cases hc
theorem trim_parts (s : Str) : ∃ a b, a.all wht = true ∧ b.all wht = true ∧ s = a ++ (trimW s ++ b) := by
  have hl : ∀ s : Str, ∃ a, a.all wht = true ∧ s = a ++ trimL s := by
    intro s
    refine ⟨s.takeWhile wht, List.all_takeWhile, ?_⟩
    unfold trimL; exact (List.takeWhile_append_dropWhile).symm
  have hr : ∀ s : Str, ∃ b, b.all wht = true ∧ s = trimR s ++ b := by
    intro s
    obtain ⟨a, h1, h2⟩ := hl s.reverse
    refine ⟨a.reverse, by rw [List.all_reverse]; exact h1, ?_⟩
    have := congrArg List.reverse h2
    rw [List.reverse_reverse, List.reverse_append, ← trimR_eq, List.reverse_reverse] at this
    exact this
  obtain ⟨b, hb1, hb2⟩ := hr s
  obtain ⟨a, ha1, ha2⟩ := hl (trimR s)
  refine ⟨a, b, ha1, hb1, ?_⟩
  rw [← List.append_assoc]
  unfold trimW
  rw [← ha2]; exact hb2

/-- Blanks at the ends play no part in the pieces. -/
theorem splitC_trim (s : Str) : (splitC 44 (trimW s)).map trimW = (splitC 44 s).map trimW := by
  obtain ⟨a, b, ha, hb, e⟩ := trim_parts s
  have h44 : wht 44 = false := by decide
  obtain ⟨xs, x, h1, h2⟩ := splitC_post (trimW s) (wht_free hb h44)
  conv => rhs; rw [e]
  cases xs with
  | nil =>
    rw [splitC_pre a (wht_free ha h44) (x := x ++ b) (xs := []) (by rw [h2]; rfl), h1]
    simp only [List.nil_append, List.map_cons, List.map_nil]
    rw [trimW_white_app ha, trimW_app_white hb]
  | cons y ys =>
    rw [splitC_pre a (wht_free ha h44) (x := y) (xs := ys ++ [x ++ b]) (by rw [h2]; rfl), h1]
    simp only [List.cons_append, List.map_cons, List.map_append, List.map_nil]
    rw [trimW_white_app ha, trimW_app_white hb]
theorem argsP_trim (s : Str) : argsP (trimW s) = argsP s := by unfold argsP; rw [splitC_trim]

/-- One piece, and the others. -/
theorem argsP_one {s : Str} (h : 44 ∉ s) : argsP s = if trimW s = [] then none else some [trimW s] := by
  unfold argsP
  rw [splitC_none h]
  by_cases ht : trimW s = []
  · simp [ht]
  · simp [ht]
theorem argsP_cons {p q : Str} (h : 44 ∉ p) : argsP (p ++ 44 :: q) = if trimW p = [] then none else (argsP q).map (trimW p :: ·) := by
  unfold argsP
  rw [splitC_join, splitC_none h]
  by_cases ht : trimW p = []
  · simp [ht]
  · by_cases hq : ((splitC 44 q).map trimW).all (fun x => decide (x ≠ [])) = true
    · rw [if_neg ht, if_pos hq, if_pos (by simp only [List.map_append, List.map_cons, List.map_nil, List.all_append, List.all_cons, List.all_nil, hq]; simp [ht])]
      rfl
    · rw [if_neg ht, if_neg hq, if_neg (by
        simp only [List.map_append, List.all_append, Bool.and_eq_true]; exact fun e => hq e.2)]
      rfl
theorem argsP_white {s : Str} (h : trimW s = []) : argsP s = none := by
  rw [← argsP_trim, h]; rfl

end Go.Asm

namespace Go.Proofs.YthclfagbojkbjabGreatDoor
open Go Go.Am Go.Asm

theorem getq {α : Type} {l : List α} {k : Nat} (h : k < l.length) : ∃ x, l[k]? = some x := ⟨_, List.getElem?_eq_getElem h⟩
theorem all_take {α : Type} {l : List α} {k : Nat} {p : α → Bool} {x : α} (hx : l[k]? = some x) (h : (l.take k).all p = true) (hp : p x = true) : (l.take (k + 1)).all p = true := by
  rw [List.take_add_one, hx, List.all_append, h]; simpa using hp
theorem u8_eq {c d : UInt8} (h : (c.toNat : Int) = (d.toNat : Int)) : c = d := UInt8.toNat_inj.1 (by omega)
theorem u8_ne {c d : UInt8} (h : c ≠ d) : ¬ (c.toNat : Int) = (d.toNat : Int) := fun e => h (u8_eq e)
theorem drop_cons {α : Type} {l : List α} {k : Nat} {x : α} (h : l[k]? = some x) : l.drop k = x :: l.drop (k + 1) := by
  obtain ⟨hk, rfl⟩ := List.getElem?_eq_some_iff.1 h
  exact List.drop_eq_getElem_cons hk

theorem small_iff {c : UInt8} : small c = true ↔ 97 ≤ c.toNat ∧ c.toNat ≤ 122 := by simp [small]
theorem letter_iff {c : UInt8} : letter c = true ↔ (97 ≤ c.toNat ∧ c.toNat ≤ 122) ∨ (65 ≤ c.toNat ∧ c.toNat ≤ 90) := by simp [letter, small]
theorem digit_iff {c : UInt8} : digit c = true ↔ 48 ≤ c.toNat ∧ c.toNat ≤ 57 := by simp [digit]
theorem wht_iff {c : UInt8} : wht c = true ↔ c.toNat = 32 ∨ c.toNat = 9 := by
  simp only [wht, Bool.or_eq_true, beq_iff_eq]
  constructor
  · rintro (rfl | rfl) <;> simp
  · rintro (h | h)
    · exact .inl (UInt8.toNat_inj.1 h)
    · exact .inr (UInt8.toNat_inj.1 h)

theorem small_A (c : UInt8) : PureR Tryz.prog 66 [iv .u8 c.toNat] (· = bv (small c)) := by
  refine pure_of_wp Tt_ok mixed Tryz.func66 rfl (by rfl) [2] rfl (by kernel_rfl) (by simp [Tryz.ntmps66]) fun g => ?_
  simp (config := { maxSteps := 1000000 }) only [go_sem,↓reduceIte]
  have e := @small_iff c
  cases hs : small c <;> rw [hs] at e <;> simp at e <;> ((repeat' (first | refine ⟨?_, ?_⟩ | intro _)) <;> (first | rfl | (exfalso; omega) | (simp; omega)))
theorem digit_A (c : UInt8) : PureR Tryz.prog 65 [iv .u8 c.toNat] (· = bv (digit c)) := by
  refine pure_of_wp Tt_ok mixed Tryz.func65 rfl (by rfl) [2] rfl (by kernel_rfl) (by simp [Tryz.ntmps65]) fun g => ?_
  simp (config := { maxSteps := 1000000 }) only [go_sem,↓reduceIte]
  have e := @digit_iff c
  cases hs : digit c <;> rw [hs] at e <;> simp at e <;> ((repeat' (first | refine ⟨?_, ?_⟩ | intro _)) <;> (first | rfl | (exfalso; omega) | (simp; omega)))
theorem blank_A (c : UInt8) : PureR Tryz.prog 36 [iv .u8 c.toNat] (· = bv (wht c)) := by
  refine pure_of_wp Tt_ok mixed Tryz.func36 rfl (by rfl) [2] rfl (by kernel_rfl) (by simp [Tryz.ntmps36]) fun g => ?_
  simp (config := { maxSteps := 1000000 }) only [go_sem,↓reduceIte]
  have e := @wht_iff c
  cases hs : wht c <;> rw [hs] at e <;> simp at e <;> ((repeat' (first | refine ⟨?_, ?_⟩ | intro _)) <;> (first | rfl | (exfalso; omega) | (simp; omega)))
theorem letter_A (c : UInt8) : PureR Tryz.prog 252 [iv .u8 c.toNat] (· = bv (letter c)) := by
  refine pure_of_wp Tt_ok mixed Tryz.func252 rfl (by rfl) [2] rfl (by kernel_rfl) (by simp [Tryz.ntmps252]) fun g => ?_
  simp (config := { maxSteps := 1000000 }) only [go_sem,↓reduceIte]
  have e := @letter_iff c
  cases hs : letter c <;> rw [hs] at e <;> simp at e <;> ((repeat' (first | refine ⟨?_, ?_⟩ | intro _)) <;> (first | rfl | (exfalso; omega) | (simp; omega)))
theorem letterR_A (c : UInt8) : PureR Tryz.prog 64 [iv .u8 c.toNat] (· = bv (letter c)) := by
  refine pure_of_wp Tt_ok mixed Tryz.func64 rfl (by rfl) [2] rfl (by kernel_rfl) (by simp [Tryz.ntmps64]) fun g => ?_
  simp (config := { maxSteps := 1000000 }) only [go_sem,↓reduceIte]
  refine hook_call rfl (by simp (config := { maxSteps := 1000000 }) only [go_sem,↓reduceIte]; exact small_A c) (by simp (config := { maxSteps := 1000000 }) only [go_sem,↓reduceIte]; rfl) ?_
  rintro _ rfl
  have e := @letter_iff c
  have e2 := @small_iff c
  cases hsm : small c <;> rw [hsm] at e2 <;> simp at e2 <;> simp (config := { maxSteps := 1000000 }) only [go_sem,↓reduceIte] <;> (cases hs : letter c <;> rw [hs] at e <;> simp at e <;> ((repeat' (first | refine ⟨?_, ?_⟩ | intro _)) <;> (first | rfl | (exfalso; omega) | (simp; omega))))

set_option maxHeartbeats 2000000 in
theorem isLabelR_A (s : Str) (hl : s.length ≤ 4000000000000000000) : PureR Tryz.prog 35 [sv s] (· = bv (isLabel s)) := by
  refine pure_of_wp Tt_ok mixed Tryz.func35 rfl (by rfl) [2] rfl (by kernel_rfl) (by simp [Tryz.ntmps35]) fun g => ?_
  simp (config := { maxSteps := 1000000 }) only [go_sem,↓reduceIte]
  refine ⟨fun h => ?_, fun h => ⟨fun h2 => ?_, fun h2 => ?_⟩⟩
  · have : s = [] := List.eq_nil_of_length_eq_zero (by omega)
    simp [this, isLabel]
  · have : ¬ s.length ≤ 20 := by omega
    simp [isLabel, this]
  obtain ⟨a, ha0⟩ := getq (l := s) (k := 0) (by omega)
  have hsd : s = a :: s.drop 1 := by have := drop_cons ha0; simpa using this
  have h20 : s.length ≤ 20 := by omega
  have hlab : isLabel s = (letter a && s.all nameC) := by
    rw [hsd] at h20 ⊢
    simp only [isLabel, h20, decide_true, Bool.true_and]
  simp (config := { maxSteps := 1000000 }) only [go_sem,↓reduceIte,ha0]
  refine hook_call rfl (by simp (config := { maxSteps := 1000000 }) only [go_sem,↓reduceIte]; exact letterR_A a) (by simp (config := { maxSteps := 1000000 }) only [go_sem,↓reduceIte]; rfl) ?_
  rintro _ rfl
  cases hla : letter a
  · simp (config := { maxSteps := 1000000 }) only [go_sem,↓reduceIte]
    simp [hlab, hla]
  · simp (config := { maxSteps := 1000000 }) only [go_sem,↓reduceIte]
    have hgoal : isLabel s = s.all nameC := by rw [hlab, hla, Bool.true_and]
    refine loop_intro (fun n st => ∃ k : Nat, n + k = s.length ∧ st.f 0 = sv s ∧ st.f 3 = iv .i64 k ∧ (s.take k).all nameC = true) s.length ?_ ?_
    · refine ⟨0, by omega, ?_⟩
      simp (config := { maxSteps := 1000000 }) only [go_sem,↓reduceIte]
      simp
    rintro n f g ob ⟨k, hk, h0, h3, hall⟩
    simp only at h0 h3
    have hw := wrap_succ (k := k) (by omega)
    by_cases hlt : k < s.length
    · obtain ⟨c, hc⟩ := getq hlt
      have hno : nameC c = false → isLabel s = false := fun h => by rw [hgoal, List.all_eq_false]; exact ⟨c, List.mem_of_getElem? hc, by simp [h]⟩
      simp (config := { maxSteps := 1000000 }) only [go_sem,↓reduceIte,h0, h3, hc, hlt]
      refine hook_call rfl (by simp (config := { maxSteps := 1000000 }) only [go_sem,↓reduceIte]; exact letterR_A c) (by simp (config := { maxSteps := 1000000 }) only [go_sem,↓reduceIte]; rfl) ?_
      rintro _ rfl
      cases hl1 : letter c
      · simp (config := { maxSteps := 1000000 }) only [go_sem,↓reduceIte,h0, h3, hc]
        refine hook_call rfl (by simp (config := { maxSteps := 1000000 }) only [go_sem,↓reduceIte]; exact digit_A c) (by simp (config := { maxSteps := 1000000 }) only [go_sem,↓reduceIte]; rfl) ?_
        rintro _ rfl
        cases hd : digit c
        · simp (config := { maxSteps := 1000000 }) only [go_sem,↓reduceIte,h0, h3, hc]
          refine ⟨fun e => ?_, fun e => ?_⟩
          · rw [hno (by
              have : (c == 95) = false := by rw [beq_eq_false_iff_ne]; intro h; exact e (by rw [h]; rfl)
              simp [nameC, hl1, hd, this])]
          · have hc95 : c = 95 := u8_eq (d := 95) (Classical.not_not.1 e)
            simp (config := { maxSteps := 1000000 }) only [go_sem,↓reduceIte,h3, hw]
            refine round_end (n - 1) (by omega) ⟨k + 1, by omega, ?_⟩
            simp (config := { maxSteps := 1000000 }) only [go_sem,↓reduceIte,h0]
            exact all_take hc hall (by simp [nameC, hc95])
        · simp (config := { maxSteps := 1000000 }) only [go_sem,↓reduceIte,h0, h3, hc, hw]
          refine round_end (n - 1) (by omega) ⟨k + 1, by omega, ?_⟩
          simp (config := { maxSteps := 1000000 }) only [go_sem,↓reduceIte,h0]
          exact all_take hc hall (by simp [nameC, hd])
      · simp (config := { maxSteps := 1000000 }) only [go_sem,↓reduceIte,h0, h3, hc, hw]
        refine round_end (n - 1) (by omega) ⟨k + 1, by omega, ?_⟩
        simp (config := { maxSteps := 1000000 }) only [go_sem,↓reduceIte,h0]
        exact all_take hc hall (by simp [nameC, hl1])
    · simp (config := { maxSteps := 1000000 }) only [go_sem,↓reduceIte,h0, h3, hlt]
      rw [List.take_of_length_le (by omega)] at hall
      rw [hgoal, hall]

set_option maxHeartbeats 2000000 in
theorem isLabel_A (s : Str) (hl : s.length ≤ 4000000000000000000) : PureR Tryz.prog 155 [sv s] (· = bv (isLabel s)) := by
  refine pure_of_wp Tt_ok mixed Tryz.func155 rfl (by rfl) [2] rfl (by kernel_rfl) (by simp [Tryz.ntmps155]) fun g => ?_
  simp (config := { maxSteps := 1000000 }) only [go_sem,↓reduceIte]
  refine ⟨fun h => ?_, fun h => ⟨fun h2 => ?_, fun h2 => ?_⟩⟩
  · simp [h, isLabel]
  · have : ¬ s.length ≤ 20 := by omega
    simp [isLabel, this]
  have hlen : 1 ≤ s.length := by
    cases s with
    | nil => exact absurd rfl h
    | cons a r => simp
  obtain ⟨a, ha0⟩ := getq (l := s) (k := 0) (by omega)
  have hsd : s = a :: s.drop 1 := by have := drop_cons ha0; simpa using this
  have h20 : s.length ≤ 20 := by omega
  have hlab : isLabel s = (letter a && s.all nameC) := by
    rw [hsd] at h20 ⊢
    simp only [isLabel, h20, decide_true, Bool.true_and]
  simp (config := { maxSteps := 1000000 }) only [go_sem,↓reduceIte,ha0]
  refine hook_call rfl (by simp (config := { maxSteps := 1000000 }) only [go_sem,↓reduceIte]; exact letter_A a) (by simp (config := { maxSteps := 1000000 }) only [go_sem,↓reduceIte]; rfl) ?_
  rintro _ rfl
  cases hla : letter a
  · simp (config := { maxSteps := 1000000 }) only [go_sem,↓reduceIte]
    simp [hlab, hla]
  · simp (config := { maxSteps := 1000000 }) only [go_sem,↓reduceIte]
    have hgoal : isLabel s = s.all nameC := by rw [hlab, hla, Bool.true_and]
    have hs1 : (s.take 1).all nameC = true := by rw [hsd]; simp [nameC, hla]
    refine loop_intro (fun n st => ∃ k : Nat, n + k = s.length ∧ st.f 0 = sv s ∧ st.f 3 = iv .i64 k ∧ (s.take k).all nameC = true) (s.length - 1) ?_ ?_
    · refine ⟨1, by omega, ?_⟩
      simp (config := { maxSteps := 1000000 }) only [go_sem,↓reduceIte]
      exact hs1
    rintro n f g ob ⟨k, hk, h0, h3, hall⟩
    simp only at h0 h3
    have hw := wrap_succ (k := k) (by omega)
    by_cases hlt : k < s.length
    · obtain ⟨c, hc⟩ := getq hlt
      have hno : nameC c = false → isLabel s = false := fun h => by rw [hgoal, List.all_eq_false]; exact ⟨c, List.mem_of_getElem? hc, by simp [h]⟩
      have hdi := @digit_iff c
      simp (config := { maxSteps := 1000000 }) only [go_sem,↓reduceIte,h0, h3, hc, hlt]
      refine hook_call rfl (by simp (config := { maxSteps := 1000000 }) only [go_sem,↓reduceIte]; exact letter_A c) (by simp (config := { maxSteps := 1000000 }) only [go_sem,↓reduceIte]; rfl) ?_
      rintro _ rfl
      cases hl1 : letter c
      · by_cases hc95 : c = 95
        · have hz : ((c.toNat : Nat) : Int) = 95 := by rw [hc95]; rfl
          simp (config := { maxSteps := 1000000 }) only [go_sem,↓reduceIte,h0, h3, hc, hz, hw]
          refine round_end (n - 1) (by omega) ⟨k + 1, by omega, ?_⟩
          simp (config := { maxSteps := 1000000 }) only [go_sem,↓reduceIte,h0]
          exact all_take hc hall (by simp [nameC, hc95])
        · have hz : ¬ ((c.toNat : Nat) : Int) = 95 := u8_ne (d := 95) hc95
          have hz' : (c == 95) = false := by rw [beq_eq_false_iff_ne]; exact hc95
          simp (config := { maxSteps := 1000000 }) only [go_sem,↓reduceIte,h0, h3, hc, hz, hw]
          refine ⟨fun e => ?_, fun e => ⟨fun e2 => ?_, fun e2 => ?_⟩⟩
          · have hd : digit c = false := by rw [← Bool.not_eq_true, hdi]; omega
            rw [hno (by simp [nameC, hl1, hd, hz'])]
          · have hd : digit c = false := by rw [← Bool.not_eq_true, hdi]; omega
            rw [hno (by simp [nameC, hl1, hd, hz'])]
          · have hd : digit c = true := hdi.2 (by omega)
            refine round_end (n - 1) (by omega) ⟨k + 1, by omega, ?_⟩
            simp (config := { maxSteps := 1000000 }) only [go_sem,↓reduceIte,h0]
            exact all_take hc hall (by simp [nameC, hd])
      · simp (config := { maxSteps := 1000000 }) only [go_sem,↓reduceIte,h0, h3, hc, hw]
        refine round_end (n - 1) (by omega) ⟨k + 1, by omega, ?_⟩
        simp (config := { maxSteps := 1000000 }) only [go_sem,↓reduceIte,h0]
        exact all_take hc hall (by simp [nameC, hl1])
    · simp (config := { maxSteps := 1000000 }) only [go_sem,↓reduceIte,h0, h3, hlt]
      rw [List.take_of_length_le (by omega)] at hall
      rw [hgoal, hall]

end Go.Proofs.YthclfagbojkbjabGreatDoor

namespace Go.Proofs.YthclfagbojkbjabGreatDoor
open Go Go.Am Go.Asm

def preB (p s : Str) : Bool := decide (s.take p.length = p)
theorem HasPrefix_A (s p : Str) : PureR Tryz.prog 169 [sv s, sv p] (· = bv (preB p s)) := by
  refine pure_of_wp Tt_ok mixed Tryz.func169 rfl (by rfl) [4] rfl (by kernel_rfl) (by simp [Tryz.ntmps169]) fun g => ?_
  simp (config := { maxSteps := 1000000 }) only [go_sem,↓reduceIte]
  refine ⟨fun h => ?_, fun h => ?_⟩
  · exact ⟨Nat.zero_le _, by omega, rfl⟩
  · have : ¬ s.take p.length = p := fun e => by
      have := congrArg List.length e
      simp only [List.length_take] at this; omega
    simp [preB, this]
theorem TrimPrefixL_A (s p : Str) : PureR Tryz.prog 311 [sv s, sv p] (· = sv (if preB p s = true then s.drop p.length else s)) := by
  refine pure_of_wp Tt_ok mixed Tryz.func311 rfl (by rfl) [4] rfl (by kernel_rfl) (by simp [Tryz.ntmps311]) fun g => ?_
  simp (config := { maxSteps := 1000000 }) only [go_sem,↓reduceIte]
  refine hook_call rfl (by simp (config := { maxSteps := 1000000 }) only [go_sem,↓reduceIte]; exact HasPrefix_A s p) (by simp (config := { maxSteps := 1000000 }) only [go_sem,↓reduceIte]; rfl) ?_
  rintro _ rfl
  cases hp : preB p s
  · simp (config := { maxSteps := 1000000 }) only [go_sem,↓reduceIte]
  · simp (config := { maxSteps := 1000000 }) only [go_sem,↓reduceIte]
    have hl : p.length ≤ s.length := by
      have := congrArg List.length (of_decide_eq_true hp)
      simp only [List.length_take] at this; omega
    exact ⟨hl, Nat.le_refl _⟩
theorem TrimPrefix_A (s p : Str) : PureR Tryz.prog 256 [sv s, sv p] (· = sv (if preB p s = true then s.drop p.length else s)) := by
  refine pure_of_wp Tt_ok mixed Tryz.func256 rfl (by rfl) [4] rfl (by kernel_rfl) (by simp [Tryz.ntmps256]) fun g => ?_
  simp (config := { maxSteps := 1000000 }) only [go_sem,↓reduceIte]
  refine hook_call rfl (by simp (config := { maxSteps := 1000000 }) only [go_sem,↓reduceIte]; exact TrimPrefixL_A s p) (by simp (config := { maxSteps := 1000000 }) only [go_sem,↓reduceIte]; rfl) ?_
  rintro _ rfl
  simp (config := { maxSteps := 1000000 }) only [go_sem,↓reduceIte]
theorem bareWord_pre (s : Str) : (if preB [46] s = true then s.drop 1 else s) = bareWord s := by
  unfold bareWord
  cases s with
  | nil => rfl
  | cons c r => simp [preB]
theorem bareWord_le (s : Str) : (bareWord s).length ≤ s.length := by
  unfold bareWord; split <;> simp

set_option maxHeartbeats 2000000 in
theorem isWord_A (s : Str) (hl : s.length ≤ 4000000000000000000) : PureR Tryz.prog 157 [sv s] (· = bv (isWord s)) := by
  refine pure_of_wp Tt_ok mixed Tryz.func157 rfl (by rfl) [2] rfl (by kernel_rfl) (by simp [Tryz.ntmps157]) fun g => ?_
  simp (config := { maxSteps := 1000000 }) only [go_sem,↓reduceIte]
  refine hook_call rfl (by simp (config := { maxSteps := 1000000 }) only [go_sem,↓reduceIte]; exact TrimPrefix_A s [46]) (by simp (config := { maxSteps := 1000000 }) only [go_sem,↓reduceIte]; rfl) ?_
  rintro _ rfl
  have hbl := bareWord_le s
  rw [show (if preB [46] s = true then s.drop ([46] : Str).length else s) = bareWord s from bareWord_pre s]
  have hwd : isWord s = (decide (0 < (bareWord s).length) && (bareWord s).all small) := rfl
  obtain ⟨b, hb⟩ : ∃ b, bareWord s = b := ⟨_, rfl⟩
  rw [hb] at hbl hwd ⊢
  simp (config := { maxSteps := 1000000 }) only [go_sem,↓reduceIte]
  refine ⟨fun h => ?_, fun h => ?_⟩
  · simp [hwd, h]
  have hpos : 0 < b.length := List.length_pos_iff.2 h
  have hgoal : isWord s = b.all small := by rw [hwd]; simp only [hpos, decide_true, Bool.true_and]
  refine loop_intro (fun n st => ∃ k : Nat, n + k = b.length ∧ st.f 0 = sv b ∧ st.f 3 = iv .i64 k ∧ (b.take k).all small = true) b.length ?_ ?_
  · refine ⟨0, by omega, ?_⟩
    simp (config := { maxSteps := 1000000 }) only [go_sem,↓reduceIte]
    simp
  rintro n f g ob ⟨k, hk, h0, h3, hall⟩
  simp only at h0 h3
  have hw := wrap_succ (k := k) (by omega)
  by_cases hlt : k < b.length
  · obtain ⟨c, hc⟩ := getq hlt
    have hno : small c = false → isWord s = false := fun h => by rw [hgoal, List.all_eq_false]; exact ⟨c, List.mem_of_getElem? hc, by simp [h]⟩
    have hsi := @small_iff c
    simp (config := { maxSteps := 1000000 }) only [go_sem,↓reduceIte,h0, h3, hc, hlt]
    refine ⟨fun e => ?_, fun e => ⟨fun e2 => ?_, fun e2 => ?_⟩⟩
    · rw [hno (by rw [← Bool.not_eq_true, hsi]; omega)]
    · rw [hno (by rw [← Bool.not_eq_true, hsi]; omega)]
    · simp (config := { maxSteps := 1000000 }) only [go_sem,↓reduceIte,h3, hw]
      refine round_end (n - 1) (by omega) ⟨k + 1, by omega, ?_⟩
      simp (config := { maxSteps := 1000000 }) only [go_sem,↓reduceIte,h0]
      exact all_take hc hall (hsi.2 (by omega))
  · simp (config := { maxSteps := 1000000 }) only [go_sem,↓reduceIte,h0, h3, hlt]
    rw [List.take_of_length_le (by omega)] at hall
    rw [hgoal, hall]

set_option maxHeartbeats 2000000 in
theorem isWordR_A (s : Str) (hl : s.length ≤ 4000000000000000000) : PureR Tryz.prog 37 [sv s] (· = bv (isWord s)) := by
  refine pure_of_wp Tt_ok mixed Tryz.func37 rfl (by rfl) [2] rfl (by kernel_rfl) (by simp [Tryz.ntmps37]) fun g => ?_
  have hbl := bareWord_le s
  have hwd : isWord s = (decide (0 < (bareWord s).length) && (bareWord s).all small) := rfl
  have hcase : s.length = 0 ∧ bareWord s = s ∨ ∃ a, s[0]? = some a ∧ ¬ s.length = 0 ∧ (a = 46 ∧ bareWord s = s.drop 1 ∨ a ≠ 46 ∧ bareWord s = s) := by
    cases s with
    | nil => exact .inl ⟨rfl, rfl⟩
    | cons a r =>
      refine .inr ⟨a, rfl, by simp, ?_⟩
      by_cases h : a = 46
      · exact .inl ⟨h, by simp [bareWord, h]⟩
      · exact .inr ⟨h, by simp [bareWord, h]⟩
  obtain ⟨b, hb⟩ : ∃ b, bareWord s = b := ⟨_, rfl⟩
  rw [hb] at hbl hwd hcase
  rcases hcase with ⟨hl0, hbs⟩ | ⟨a, ha, hl0, ⟨h46, hbs⟩ | ⟨h46, hbs⟩⟩
  · have hn : ¬ (0 : Int) < (s.length : Int) := by omega
    simp (config := { maxSteps := 1000000 }) only [go_sem,↓reduceIte,hn]
    refine loop_intro (fun n st => ∃ k : Nat, n + k = b.length ∧ st.f 0 = sv b ∧ st.f 3 = iv .i64 k ∧ (b.take k).all small = true) b.length ?_ ?_
    · refine ⟨0, by omega, ?_⟩
      simp (config := { maxSteps := 1000000 }) only [go_sem,↓reduceIte,hbs]
      simp
    rintro n f g ob ⟨k, hk, h0, h3, hall⟩
    simp only at h0 h3
    have hw := wrap_succ (k := k) (by omega)
    by_cases hlt : k < b.length
    · obtain ⟨c, hc⟩ := getq hlt
      have hno : small c = false → isWord s = false := fun h => by
        have : b.all small = false := by rw [List.all_eq_false]; exact ⟨c, List.mem_of_getElem? hc, by simp [h]⟩
        rw [hwd, this, Bool.and_false]
      simp (config := { maxSteps := 1000000 }) only [go_sem,↓reduceIte,h0, h3, hc, hlt]
      refine hook_call rfl (by simp (config := { maxSteps := 1000000 }) only [go_sem,↓reduceIte]; exact small_A c) (by simp (config := { maxSteps := 1000000 }) only [go_sem,↓reduceIte]; rfl) ?_
      rintro _ rfl
      cases hsm : small c
      · simp (config := { maxSteps := 1000000 }) only [go_sem,↓reduceIte]
        rw [hno hsm]
      · simp (config := { maxSteps := 1000000 }) only [go_sem,↓reduceIte,h3, hw]
        refine round_end (n - 1) (by omega) ⟨k + 1, by omega, ?_⟩
        simp (config := { maxSteps := 1000000 }) only [go_sem,↓reduceIte,h0]
        exact all_take hc hall hsm
    · simp (config := { maxSteps := 1000000 }) only [go_sem,↓reduceIte,h0, h3, hlt]
      rw [List.take_of_length_le (by omega)] at hall
      rw [hwd, hall, Bool.and_true]
      have e : ((0 : Int) < (b.length : Int)) = (0 < b.length) := by apply propext; omega
      simp only [e]
  · have hn : (0 : Int) < (s.length : Int) := by omega
    have hz : ((a.toNat : Nat) : Int) = 46 := by rw [h46]; rfl
    simp (config := { maxSteps := 1000000 }) only [go_sem,↓reduceIte,hn, ha, hz]
    refine ⟨by omega, Nat.le_refl _, ?_⟩
    refine loop_intro (fun n st => ∃ k : Nat, n + k = b.length ∧ st.f 0 = sv b ∧ st.f 3 = iv .i64 k ∧ (b.take k).all small = true) b.length ?_ ?_
    · refine ⟨0, by omega, ?_⟩
      simp (config := { maxSteps := 1000000 }) only [go_sem,↓reduceIte,hbs]
      simp
    rintro n f g ob ⟨k, hk, h0, h3, hall⟩
    simp only at h0 h3
    have hw := wrap_succ (k := k) (by omega)
    by_cases hlt : k < b.length
    · obtain ⟨c, hc⟩ := getq hlt
      have hno : small c = false → isWord s = false := fun h => by
        have : b.all small = false := by rw [List.all_eq_false]; exact ⟨c, List.mem_of_getElem? hc, by simp [h]⟩
        rw [hwd, this, Bool.and_false]
      simp (config := { maxSteps := 1000000 }) only [go_sem,↓reduceIte,h0, h3, hc, hlt]
      refine hook_call rfl (by simp (config := { maxSteps := 1000000 }) only [go_sem,↓reduceIte]; exact small_A c) (by simp (config := { maxSteps := 1000000 }) only [go_sem,↓reduceIte]; rfl) ?_
      rintro _ rfl
      cases hsm : small c
      · simp (config := { maxSteps := 1000000 }) only [go_sem,↓reduceIte]
        rw [hno hsm]
      · simp (config := { maxSteps := 1000000 }) only [go_sem,↓reduceIte,h3, hw]
        refine round_end (n - 1) (by omega) ⟨k + 1, by omega, ?_⟩
        simp (config := { maxSteps := 1000000 }) only [go_sem,↓reduceIte,h0]
        exact all_take hc hall hsm
    · simp (config := { maxSteps := 1000000 }) only [go_sem,↓reduceIte,h0, h3, hlt]
      rw [List.take_of_length_le (by omega)] at hall
      rw [hwd, hall, Bool.and_true]
      have e : ((0 : Int) < (b.length : Int)) = (0 < b.length) := by apply propext; omega
      simp only [e]
  · have hn : (0 : Int) < (s.length : Int) := by omega
    have hz : ¬ ((a.toNat : Nat) : Int) = 46 := u8_ne (d := 46) h46
    simp (config := { maxSteps := 1000000 }) only [go_sem,↓reduceIte,hn, ha, hz]
    refine loop_intro (fun n st => ∃ k : Nat, n + k = b.length ∧ st.f 0 = sv b ∧ st.f 3 = iv .i64 k ∧ (b.take k).all small = true) b.length ?_ ?_
    · refine ⟨0, by omega, ?_⟩
      simp (config := { maxSteps := 1000000 }) only [go_sem,↓reduceIte,hbs]
      simp
    rintro n f g ob ⟨k, hk, h0, h3, hall⟩
    simp only at h0 h3
    have hw := wrap_succ (k := k) (by omega)
    by_cases hlt : k < b.length
    · obtain ⟨c, hc⟩ := getq hlt
      have hno : small c = false → isWord s = false := fun h => by
        have : b.all small = false := by rw [List.all_eq_false]; exact ⟨c, List.mem_of_getElem? hc, by simp [h]⟩
        rw [hwd, this, Bool.and_false]
      simp (config := { maxSteps := 1000000 }) only [go_sem,↓reduceIte,h0, h3, hc, hlt]
      refine hook_call rfl (by simp (config := { maxSteps := 1000000 }) only [go_sem,↓reduceIte]; exact small_A c) (by simp (config := { maxSteps := 1000000 }) only [go_sem,↓reduceIte]; rfl) ?_
      rintro _ rfl
      cases hsm : small c
      · simp (config := { maxSteps := 1000000 }) only [go_sem,↓reduceIte]
        rw [hno hsm]
      · simp (config := { maxSteps := 1000000 }) only [go_sem,↓reduceIte,h3, hw]
        refine round_end (n - 1) (by omega) ⟨k + 1, by omega, ?_⟩
        simp (config := { maxSteps := 1000000 }) only [go_sem,↓reduceIte,h0]
        exact all_take hc hall hsm
    · simp (config := { maxSteps := 1000000 }) only [go_sem,↓reduceIte,h0, h3, hlt]
      rw [List.take_of_length_le (by omega)] at hall
      rw [hwd, hall, Bool.and_true]
      have e : ((0 : Int) < (b.length : Int)) = (0 < b.length) := by apply propext; omega
      simp only [e]

theorem trim_snoc {s : Str} (h : s ≠ []) : ∃ r c, s = r ++ [c] := ⟨s.dropLast, s.getLast h, (List.dropLast_concat_getLast h).symm⟩

set_option maxHeartbeats 2000000 in
theorem trimRef_A (s : Str) (hl : s.length ≤ 4000000000000000000) : PureR Tryz.prog 34 [sv s] (· = sv (trimW s)) := by
  refine pure_of_wp Tt_ok mixed Tryz.func34 rfl (by rfl) [2] rfl (by kernel_rfl) (by simp [Tryz.ntmps34]) fun g => ?_
  simp (config := { maxSteps := 1000000 }) only [go_sem,↓reduceIte]
  refine loop_intro (fun n st => ∃ t : Str, t.length = n ∧ st.f 0 = sv t ∧ trimL t = trimL s ∧ t.length ≤ s.length) s.length ⟨s, rfl, rfl, rfl, Nat.le_refl _⟩ ?_
  rintro n f g ob ⟨t, rfl, h0, ht, htl⟩
  simp only at h0
  cases t with
  | nil =>
    simp (config := { maxSteps := 1000000 }) only [go_sem,↓reduceIte,h0]
    refine loop_intro (fun n st => n = 0 ∧ st.f 0 = sv []) 0 ⟨rfl, h0⟩ ?_
    rintro n f g ob ⟨rfl, h0⟩
    simp only at h0
    simp (config := { maxSteps := 1000000 }) only [go_sem,↓reduceIte,h0]
    have : trimW s = [] := by
      rw [trimW, trim_comm, ← ht]; rfl
    rw [this]
  | cons c r =>
    have hp : (0 : Int) < ((r.length + 1 : Nat) : Int) := by omega
    simp (config := { maxSteps := 1000000 }) only [go_sem,↓reduceIte,h0, hp]
    refine hook_call rfl (by simp (config := { maxSteps := 1000000 }) only [go_sem,↓reduceIte]; exact blank_A c) (by simp (config := { maxSteps := 1000000 }) only [go_sem,↓reduceIte]; rfl) ?_
    rintro _ rfl
    cases hc : wht c
    · rw [trimL_cons hc] at ht
      simp (config := { maxSteps := 1000000 }) only [go_sem,↓reduceIte,h0]
      refine loop_intro (fun n st => ∃ t : Str, t.length = n ∧ st.f 0 = sv t ∧ trimR t = trimR (c :: r) ∧ t.length ≤ s.length) (c :: r).length ⟨c :: r, rfl, h0, rfl, htl⟩ ?_
      clear h0
      rintro n f g ob ⟨t, rfl, h0, htr, htl⟩
      simp only at h0
      have hfin : trimW s = trimR (c :: r) := by rw [trimW, trim_comm, ← ht]
      rw [hfin, ← htr]
      by_cases htn : t = []
      · subst htn
        simp (config := { maxSteps := 1000000 }) only [go_sem,↓reduceIte,h0]
        rfl
      · obtain ⟨u, d, hud⟩ := trim_snoc htn
        have hlen : t.length = u.length + 1 := by rw [hud]; simp
        have hp2 : (0 : Int) < (t.length : Int) := by omega
        have hw2 : IntKind.i64.wrap ((t.length : Int) - 1) = ((u.length : Nat) : Int) := by rw [wrap_i64] <;> omega
        have hget : t[u.length]? = some d := by rw [hud]; simp
        simp (config := { maxSteps := 1000000 }) only [go_sem,↓reduceIte,h0, hp2, hw2, hget]
        refine hook_call rfl (by simp (config := { maxSteps := 1000000 }) only [go_sem,↓reduceIte]; exact blank_A d) (by simp (config := { maxSteps := 1000000 }) only [go_sem,↓reduceIte]; rfl) ?_
        rintro _ rfl
        cases hd : wht d
        · simp (config := { maxSteps := 1000000 }) only [go_sem,↓reduceIte,h0]
          rw [hud, trimR_snoc hd]
        · simp (config := { maxSteps := 1000000 }) only [go_sem,↓reduceIte,h0, hw2]
          refine ⟨by omega, by omega, ?_⟩
          refine round_end u.length (by omega) ⟨u, rfl, ?_⟩
          simp (config := { maxSteps := 1000000 }) only [go_sem,↓reduceIte]
          refine ⟨by rw [hud]; simp, ?_, by omega⟩
          rw [hud, trimR_snoc_w hd]
    · rw [trimL_cons_w hc] at ht
      simp (config := { maxSteps := 1000000 }) only [go_sem,↓reduceIte,h0]
      refine ⟨Nat.le_refl _, ?_⟩
      refine round_end r.length (by simp) ⟨r, rfl, ?_⟩
      simp (config := { maxSteps := 1000000 }) only [go_sem,↓reduceIte]
      exact ⟨ht, by simp only [List.length_cons] at htl; omega⟩

theorem upto_len (c : UInt8) (s : Str) : (upto c s).length ≤ s.length := (List.takeWhile_prefix _).length_le
theorem upto_at {c : UInt8} {s : Str} {k : Nat} (hk : k ≤ s.length) (h : c ∉ s.take k) (he : ∀ d, s[k]? = some d → d = c) : upto c s = s.take k := by
  by_cases hlt : k < s.length
  · obtain ⟨d, hd⟩ := getq hlt
    have e := he d hd
    have : s = s.take k ++ c :: s.drop (k + 1) := by
      conv => lhs; rw [← List.take_append_drop k s, drop_cons hd, e]
    conv => lhs; rw [this]
    exact upto_app _ h
  · have : s.take k = s := List.take_of_length_le (by omega)
    rw [this] at h ⊢
    exact upto_none h

theorem find_A (s : Str) (c : UInt8) (hl : s.length ≤ 4000000000000000000) : PureR Tryz.prog 33 [sv s, iv .u8 c.toNat] (· = iv .i64 (upto c s).length) := by
  refine pure_of_wp Tt_ok mixed Tryz.func33 rfl (by rfl) [4] rfl (by kernel_rfl) (by simp [Tryz.ntmps33]) fun g => ?_
  simp (config := { maxSteps := 1000000 }) only [go_sem,↓reduceIte]
  refine loop_intro (fun n st => ∃ k : Nat, n + k = s.length ∧ st.f 0 = sv s ∧ st.f 1 = iv .u8 c.toNat ∧ st.f 5 = iv .i64 k ∧ c ∉ s.take k) s.length ?_ ?_
  · refine ⟨0, by omega, ?_⟩
    simp (config := { maxSteps := 1000000 }) only [go_sem,↓reduceIte]
    simp
  rintro n f g ob ⟨k, hk, h0, h1, h5, hno⟩
  simp only at h0 h1 h5
  have hw := wrap_succ (k := k) (by omega)
  by_cases hlt : k < s.length
  · obtain ⟨d, hd⟩ := getq hlt
    simp (config := { maxSteps := 1000000 }) only [go_sem,↓reduceIte,h0, h1, h5, hlt, hd]
    refine ⟨fun e => ?_, fun e => ?_⟩
    · simp (config := { maxSteps := 1000000 }) only [go_sem,↓reduceIte,h5, hw]
      refine round_end (n - 1) (by omega) ⟨k + 1, by omega, ?_⟩
      simp (config := { maxSteps := 1000000 }) only [go_sem,↓reduceIte,h0, h1]
      rw [List.take_add_one, hd]
      simp only [Option.toList_some, List.mem_append, List.mem_singleton, not_or]
      exact ⟨hno, fun h => e (by rw [h])⟩
    · have hdc : d = c := u8_eq (Classical.not_not.1 e)
      rw [upto_at (by omega) hno (fun d' h => by rw [hd] at h; cases h; exact hdc), List.length_take, Nat.min_eq_left (by omega)]
  · simp (config := { maxSteps := 1000000 }) only [go_sem,↓reduceIte,h0, h1, h5, hlt]
    rw [upto_at (by omega) hno (fun d' h => by have := (List.getElem?_eq_some_iff.1 h).1; omega), List.length_take, Nat.min_eq_left (by omega)]

def strs (l : List Str) : D := .sl (l.map fun w => [.str w])
theorem strs_get {l : List Str} {k : Nat} {w : Str} (h : l[k]? = some w) : (l.map fun w => [D.str w])[k]? = some [.str w] := by rw [List.getElem?_map, h]; rfl
theorem take_next_eq {α : Type} {a b : List α} {k : Nat} {x y : α} (hx : a[k]? = some x) (hy : b[k]? = some y) (h : a.take k = b.take k) (e : x = y) : a.take (k + 1) = b.take (k + 1) := by
  rw [List.take_add_one, List.take_add_one, hx, hy, h, e]
theorem get_ne {α : Type} {a b : List α} {k : Nat} {x y : α} (hx : a[k]? = some x) (hy : b[k]? = some y) (e : x ≠ y) : a ≠ b := by
  rintro rfl; rw [hx] at hy; exact e (Option.some.inj hy)

end Go.Proofs.YthclfagbojkbjabGreatDoor

namespace Go.Proofs.YthclfagbojkbjabGreatDoor
open Go Go.Am Go.Asm

def passD (ps : List Int) : D := .sl (ps.map fun p => [.int .i64 p])
def digD (ds : List (Int × Int × Int × Int)) : D := .sl (ds.map fun d => [.int .u32 d.1, .int .u32 d.2.1, .int .u32 d.2.2.1, .int .u32 d.2.2.2])
/-- A recipe: its tool, its image's digest, its passes, its inputs' digests, its fuel. -/
structure Rec where
  tool : Int
  img : Int × Int × Int × Int
  ps : List Int
  ds : List (Int × Int × Int × Int)
  fuel : Int
def recCs (r : Rec) : List D := [.int .i64 r.tool, .int .u32 r.img.1, .int .u32 r.img.2.1, .int .u32 r.img.2.2.1, .int .u32 r.img.2.2.2, passD r.ps, digD r.ds, .int .i64 r.fuel]
def recV (r : Rec) : AV := .agg ((recCs r).map .d)
def okPass (p : Int) : Bool := decide (1 ≤ p) && decide (p ≤ 4)
def rightR (r : Rec) : Bool :=
  (decide (1 ≤ r.tool) && decide (r.tool ≤ 6)) && ((decide (r.tool = 1) || (decide (r.img = (0, 0, 0, 0)) && decide (r.fuel = 0))) && ((decide (0 ≤ r.fuel) && decide (r.fuel ≤ 100000000)) &&
    ((decide (r.ps.length ≤ 20) && (decide (r.tool = 3) || decide (r.ps.length = 0))) && (r.ps.all okPass && (if r.tool = 2 ∨ r.tool = 3 ∨ r.tool = 4 ∨ r.tool = 5 then decide (r.ds.length = 1) else decide (r.ds.length ≤ 20))))))

theorem pass_get {ps : List Int} {k : Nat} {p : Int} (h : ps[k]? = some p) : (ps.map fun p => [D.int .i64 p])[k]? = some [.int .i64 p] := by rw [List.getElem?_map, h]; rfl

set_option maxHeartbeats 4000000 in
set_option maxRecDepth 20000 in
theorem RightRec_A (r : Rec) (hp : r.ps.length ≤ 1000000000) : PureR Tryz.prog 8 [recV r] (· = bv (rightR r)) := by
  refine pure_of_wp Tt_ok mixed Tryz.func8 rfl (by rfl) [2] rfl (by kernel_rfl) (by simp [Tryz.ntmps8]) fun g => ?_
  obtain ⟨tool, ⟨i0, i1, i2, i3⟩, ps, ds, fuel⟩ := r
  simp only at hp
  generalize hR : (⟨tool, (i0, i1, i2, i3), ps, ds, fuel⟩ : Rec) = R
  have e1 : R.tool = tool := by rw [← hR]
  have e2 : R.img = (i0, i1, i2, i3) := by rw [← hR]
  have e3 : R.ps = ps := by rw [← hR]
  have e4 : R.ds = ds := by rw [← hR]
  have e5 : R.fuel = fuel := by rw [← hR]
  have n1 : ¬ 1 ≤ tool → rightR R = false := fun h => by simp only [rightR, e1, decide_eq_false h, Bool.false_and]
  have n2 : ¬ tool ≤ 6 → rightR R = false := fun h => by simp only [rightR, e1, decide_eq_false h, Bool.and_false, Bool.false_and]
  have n3 : ¬ tool = 1 → ¬ ((i0, i1, i2, i3) = (0, 0, 0, 0) ∧ fuel = 0) → rightR R = false := fun h h' => by
    have : (decide ((i0, i1, i2, i3) = ((0, 0, 0, 0) : Int × Int × Int × Int)) && decide (fuel = 0)) = false := by rw [← Bool.decide_and]; exact decide_eq_false h'
    simp only [rightR, e1, e2, e5, decide_eq_false h, this, Bool.or_false, Bool.false_and, Bool.and_false]
  have n4 : ¬ 0 ≤ fuel → rightR R = false := fun h => by simp only [rightR, e5, decide_eq_false h, Bool.and_false, Bool.false_and]
  have n5 : ¬ fuel ≤ 100000000 → rightR R = false := fun h => by simp only [rightR, e5, decide_eq_false h, Bool.and_false, Bool.false_and]
  have n6 : ¬ ps.length ≤ 20 → rightR R = false := fun h => by simp only [rightR, e3, decide_eq_false h, Bool.and_false, Bool.false_and]
  have n7 : ¬ tool = 3 → ¬ ps.length = 0 → rightR R = false := fun h h' => by simp only [rightR, e1, e3, decide_eq_false h, decide_eq_false h', Bool.and_false, Bool.false_and, Bool.or_false]
  have n8 : ps.all okPass = false → rightR R = false := fun h => by simp only [rightR, e3, h, Bool.and_false, Bool.false_and]
  have yes : 1 ≤ tool → tool ≤ 6 → (tool = 1 ∨ ((i0, i1, i2, i3) = (0, 0, 0, 0) ∧ fuel = 0)) → 0 ≤ fuel → fuel ≤ 100000000 → ps.length ≤ 20 → (tool = 3 ∨ ps.length = 0) → ps.all okPass = true →
      rightR R = (if tool = 2 ∨ tool = 3 ∨ tool = 4 ∨ tool = 5 then decide (ds.length = 1) else decide (ds.length ≤ 20)) := fun a b c d e f g h => by
    have hc : (decide (tool = 1) || (decide ((i0, i1, i2, i3) = ((0, 0, 0, 0) : Int × Int × Int × Int)) && decide (fuel = 0))) = true := by
      rw [← Bool.decide_and, ← Bool.decide_or]; exact decide_eq_true c
    have hg : (decide (tool = 3) || decide (ps.length = 0)) = true := by rw [← Bool.decide_or]; exact decide_eq_true g
    simp only [rightR, e1, e2, e3, e4, e5, decide_eq_true a, decide_eq_true b, hc, decide_eq_true d, decide_eq_true e, decide_eq_true f, hg, h, Bool.true_and]
  have hV : recV R = .agg [.d (.int .i64 tool), .d (.int .u32 i0), .d (.int .u32 i1), .d (.int .u32 i2), .d (.int .u32 i3), .d (passD ps), .d (digD ds), .d (.int .i64 fuel)] := by rw [← hR]; rfl
  rw [hV]
  clear hV e1 e2 e3 e4 e5
  generalize rightR R = ans at n1 n2 n3 n4 n5 n6 n7 n8 yes ⊢
  unfold passD digD
  by_cases h1 : 1 ≤ tool
  case neg =>
    have h1' : tool < 1 := by omega
    rw [n1 h1]
    simp (config := { maxSteps := 1000000 }) only [go_sem,↓reduceIte,h1']
  have h1' : ¬ tool < 1 := by omega
  by_cases h2 : tool ≤ 6
  case neg =>
    have h2' : 6 < tool := by omega
    rw [n2 h2]
    simp (config := { maxSteps := 1000000 }) only [go_sem,↓reduceIte,h1', h2']
  have h2' : ¬ 6 < tool := by omega
  simp only [Prod.mk.injEq] at n3 yes
  simp (config := { maxSteps := 1000000 }) only [go_sem,↓reduceIte,h1', h2']
  by_cases h3 : tool = 1 ∨ ((i0 = 0 ∧ i1 = 0 ∧ i2 = 0 ∧ i3 = 0) ∧ fuel = 0)
  case neg =>
    rw [not_or] at h3
    rw [n3 h3.1 h3.2]
    by_cases hz : i0 = 0 ∧ i1 = 0 ∧ i2 = 0 ∧ i3 = 0
    · have hf : ¬ fuel = 0 := fun h => h3.2 ⟨hz, h⟩
      simp (config := { maxSteps := 1000000 }) only [go_sem,↓reduceIte,h3.1, hz, hf]
    · simp (config := { maxSteps := 1000000 }) only [go_sem,↓reduceIte,h3.1, hz]
  by_cases h4 : 0 ≤ fuel
  case neg =>
    have h4' : fuel < 0 := by omega
    rw [n4 h4]
    rcases h3 with h3 | ⟨h3, h3'⟩
    · simp (config := { maxSteps := 1000000 }) only [go_sem,↓reduceIte,h3, h4']
    · omega
  have h4' : ¬ fuel < 0 := by omega
  by_cases h5 : fuel ≤ 100000000
  case neg =>
    have h5' : 100000000 < fuel := by omega
    rw [n5 h5]
    rcases h3 with h3 | ⟨h3, h3'⟩
    · simp (config := { maxSteps := 1000000 }) only [go_sem,↓reduceIte,h3, h4', h5']
    · omega
  have h5' : ¬ 100000000 < fuel := by omega
  by_cases h6 : ps.length ≤ 20
  case neg =>
    have h6' : (20 : Int) < (ps.length : Int) := by omega
    rw [n6 h6]
    rcases h3 with h3 | ⟨h3, h3'⟩
    · simp (config := { maxSteps := 1000000 }) only [go_sem,↓reduceIte,h3, h4', h5', h6', List.length_map]
    · by_cases ht : tool = 1
      · simp (config := { maxSteps := 1000000 }) only [go_sem,↓reduceIte,ht, h4', h5', h6', List.length_map]
      · simp (config := { maxSteps := 1000000 }) only [go_sem,↓reduceIte,ht, h3, h3', h6', List.length_map]
  have h6' : ¬ (20 : Int) < (ps.length : Int) := by omega
  by_cases h7 : tool = 3 ∨ ps.length = 0
  case neg =>
    rw [not_or] at h7
    have h7' : (0 : Int) < (ps.length : Int) := by omega
    rw [n7 h7.1 h7.2]
    rcases h3 with h3 | ⟨h3, h3'⟩
    · simp (config := { maxSteps := 1000000 }) only [go_sem,↓reduceIte,h3, h4', h5', h6', h7', List.length_map]
    · by_cases ht : tool = 1
      · simp (config := { maxSteps := 1000000 }) only [go_sem,↓reduceIte,ht, h4', h5', h6', h7', List.length_map]
      · simp (config := { maxSteps := 1000000 }) only [go_sem,↓reduceIte,ht, h3, h3', h6', h7.1, h7', List.length_map]
  have hans := yes h1 h2 h3 h4 h5 h6 h7
  have hz : ¬ tool = 1 → (i0 = 0 ∧ i1 = 0 ∧ i2 = 0 ∧ i3 = 0) ∧ fuel = 0 := fun h => h3.resolve_left h
  have hl7 : ¬ tool = 3 → ¬ (0 : Int) < (ps.length : Int) := fun h => by have := h7.resolve_left h; omega
  clear n1 n2 n3 n4 n5 n6 n7 yes
  have br : tool = 1 ∨ tool = 3 ∨ (¬ tool = 1 ∧ ¬ tool = 3) := by omega
  rcases br with ht | ht | ⟨ht1, ht3⟩
  case' inl =>
    have hx := hl7 (by omega)
    have h31 : ¬ tool = 3 := by omega
    have ht := eq_true ht
    simp (config := { maxSteps := 1000000 }) only [go_sem,↓reduceIte,ht, h4', h5', h6', hx, h31, List.length_map]
  case' inr.inl =>
    obtain ⟨hz, hf⟩ := hz (by omega)
    have h13 : ¬ tool = 1 := by omega
    have ht := eq_true ht
    have hz := eq_true hz
    have hf := eq_true hf
    simp (config := { maxSteps := 1000000 }) only [go_sem,↓reduceIte,h13, ht, hz, hf, h4', h5', h6', List.length_map]
  case' inr.inr =>
    obtain ⟨hz, hf⟩ := hz ht1
    have hx := hl7 ht3
    have hz := eq_true hz
    have hf := eq_true hf
    simp (config := { maxSteps := 1000000 }) only [go_sem,↓reduceIte,ht1, ht3, hz, hf, h4', h5', h6', hx, List.length_map]
  all_goals
    refine loop_intro (fun n st => ∃ k : Nat, n + k = ps.length ∧ st.f 1 = .one (.ptr 1 (nxC 34 (g 1)) 0) ∧ st.gen 1 = nxC 34 (g 1) ∧
      st.obj 1 = some [.d (.int .i64 tool), .d (.int .u32 i0), .d (.int .u32 i1), .d (.int .u32 i2), .d (.int .u32 i3), .d (.sl (ps.map fun p => [.int .i64 p])), .d (.sl (ds.map fun d => [.int .u32 d.1, .int .u32 d.2.1, .int .u32 d.2.2.1, .int .u32 d.2.2.2])), .d (.int .i64 fuel)] ∧
      st.f 51 = .one (.d (.sl (ps.map fun p => [.int .i64 p]))) ∧ st.f 52 = iv .i64 (ps.length : Nat) ∧ st.f 53 = iv .i64 (k : Nat) ∧ (ps.take k).all okPass = true) ps.length ?_ ?_
    · refine ⟨0, rfl, ?_⟩
      simp (config := { maxSteps := 1000000 }) only [go_sem,↓reduceIte,List.length_map]
      rfl
    rintro n f g' ob ⟨k, hk, q1, q1g, q1o, q51, q52, q53, hall⟩
    simp only at q1 q1g q1o q51 q52 q53
    have hw := wrap_succ (k := k) (by omega)
    by_cases hlt : k < ps.length
    · have hlti : (k : Int) < (ps.length : Int) := by omega
      have hk0 : (0 : Int) ≤ (k : Int) := by omega
      obtain ⟨p, hp⟩ := getq hlt
      have hg := pass_get hp
      by_cases ho : okPass p = true
      · have ho' := ho
        unfold okPass at ho'
        rw [Bool.and_eq_true, decide_eq_true_eq, decide_eq_true_eq] at ho'
        have hp1 : ¬ p < 1 := by omega
        have hp4 : ¬ 4 < p := by omega
        simp (config := { maxSteps := 1000000 }) only [go_sem,↓reduceIte,q1, q1g, q1o, q51, q52, q53, hlti, hk0, hg, hp1, hp4, hw]
        refine round_end (n - 1) (by omega) ⟨k + 1, by omega, ?_⟩
        simp (config := { maxSteps := 1000000 }) only [go_sem,↓reduceIte,q1, q1g, q1o, q51, q52]
        rw [List.take_add_one, hp, List.all_append, hall]
        simp [ho]
      · have hno : ps.all okPass = false := by
          rw [List.all_eq_false]
          exact ⟨p, List.mem_of_getElem? hp, ho⟩
        rw [n8 hno]
        have ho' : p < 1 ∨ (¬ p < 1 ∧ 4 < p) := by
          unfold okPass at ho
          rw [Bool.and_eq_true, decide_eq_true_eq, decide_eq_true_eq] at ho
          omega
        rcases ho' with hp1 | ⟨hp1, hp4⟩
        · simp (config := { maxSteps := 1000000 }) only [go_sem,↓reduceIte,q1, q1g, q1o, q51, q52, q53, hlti, hk0, hg, hp1]
        · simp (config := { maxSteps := 1000000 }) only [go_sem,↓reduceIte,q1, q1g, q1o, q51, q52, q53, hlti, hk0, hg, hp1, hp4]
    · have hlti : ¬ (k : Int) < (ps.length : Int) := by omega
      rw [List.take_of_length_le (by omega)] at hall
      rw [hans hall]
      clear hans n8
      have hle : decide ((ds.length : Int) ≤ 20) = decide (ds.length ≤ 20) := by by_cases h : ds.length ≤ 20 <;> simp [h] <;> omega
      have heq : decide ((ds.length : Int) = 1) = decide (ds.length = 1) := by by_cases h : ds.length = 1 <;> simp [h] <;> omega
      by_cases c2 : tool = 2
      · simp (config := { maxSteps := 1000000 }) only [go_sem,↓reduceIte,q1, q1g, q1o, q51, q52, q53, hlti, c2, List.length_map, heq, true_or]
      by_cases c3 : tool = 3
      · simp (config := { maxSteps := 1000000 }) only [go_sem,↓reduceIte,q1, q1g, q1o, q51, q52, q53, hlti, c3, List.length_map, heq, true_or, or_true]
      by_cases c4 : tool = 4
      · simp (config := { maxSteps := 1000000 }) only [go_sem,↓reduceIte,q1, q1g, q1o, q51, q52, q53, hlti, c4, List.length_map, heq, true_or, or_true]
      by_cases c5 : tool = 5
      · simp (config := { maxSteps := 1000000 }) only [go_sem,↓reduceIte,q1, q1g, q1o, q51, q52, q53, hlti, c5, List.length_map, heq, true_or, or_true]
      have hno : ¬ (tool = 2 ∨ tool = 3 ∨ tool = 4 ∨ tool = 5) := by omega
      rw [if_neg hno]
      simp (config := { maxSteps := 1000000 }) only [go_sem,↓reduceIte,q1, q1g, q1o, q51, q52, q53, hlti, c2, c3, c4, c5, List.length_map, hle]

end Go.Proofs.YthclfagbojkbjabGreatDoor

namespace Go.Proofs.YthclfagbojkbjabGreatDoor
open Go Go.Am Go.Asm

def lineV : Option (Str × Str × List Str) → AV
  | some (l, o, a) => .tup [sv l, sv o, .one (.d (strs a)), iv .i64 0]
  | none => .tup [sv [], sv [], .one (.d (.sl [])), iv .i64 3]

theorem upto_take (c : UInt8) (s : Str) : s.take (upto c s).length = upto c s := by
  by_cases h : c ∈ s
  · obtain ⟨t, ht⟩ := upto_split h
    conv => lhs; arg 2; rw [ht]
    rw [List.take_left]
  · rw [upto_none h, List.take_length]
theorem upto_lt (c : UInt8) (s : Str) : (upto c s).length < s.length ↔ c ∈ s := by
  constructor
  · intro h
    by_cases hc : c ∈ s
    · exact hc
    · rw [upto_none hc] at h; omega
  · intro h
    obtain ⟨t, ht⟩ := upto_split h
    have := congrArg List.length ht
    simp only [List.length_append, List.length_cons] at this; omega
theorem opOf_le (s : Str) : (opOf s).length ≤ s.length := (List.takeWhile_prefix _).length_le
theorem opOf_take (s : Str) : s.take (opOf s).length = opOf s := by
  have := List.takeWhile_append_dropWhile (p := fun c => !wht c) (l := s)
  conv => lhs; arg 2; rw [← this]
  exact List.take_left
theorem opOf_at {s : Str} {k : Nat} (hk : k ≤ s.length) (h : (s.take k).all (fun c => !wht c) = true) (he : ∀ d, s[k]? = some d → wht d = true) : opOf s = s.take k := by
  have e : s = s.take k ++ s.drop k := (List.take_append_drop k s).symm
  unfold opOf
  conv => lhs; rw [e]
  rw [List.takeWhile_append_of_pos (by simpa [List.all_eq_true] using h)]
  have : (s.drop k).takeWhile (fun c => !wht c) = [] := by
    cases hd : s.drop k with
    | nil => rfl
    | cons d t =>
      have : s[k]? = some d := by rw [← List.head?_drop, hd]; rfl
      rw [List.takeWhile_cons, he d this]; rfl
  rw [this, List.append_nil]

theorem drop_upto {c : UInt8} {r t : Str} (h : r = upto c r ++ c :: t) : r.drop ((upto c r).length + 1) = t := by
  conv => lhs; arg 2; rw [h]
  rw [← List.drop_drop, List.drop_left]; rfl
theorem argsP_bad {r : Str} (h : trimW (upto 44 r) = []) : argsP r = none := by
  by_cases hm : 44 ∈ r
  · obtain ⟨t, ht⟩ := upto_split hm
    rw [ht, argsP_cons (upto_free 44 r), if_pos h]
  · rw [argsP_one hm, if_pos (by rw [← upto_none hm]; exact h)]
theorem argsP_last {r : Str} (hm : 44 ∉ r) (h : trimW (upto 44 r) ≠ []) : argsP r = some [trimW (upto 44 r)] := by
  rw [upto_none hm] at h ⊢
  rw [argsP_one hm, if_neg h]
theorem argsP_more {r : Str} (hm : 44 ∈ r) (h : trimW (upto 44 r) ≠ []) : argsP r = (argsP (r.drop ((upto 44 r).length + 1))).map (trimW (upto 44 r) :: ·) := by
  obtain ⟨t, ht⟩ := upto_split hm
  rw [drop_upto ht]
  conv => lhs; rw [ht]
  rw [argsP_cons (upto_free 44 r), if_neg h]

/-- The words so far: nil, or an object of the call's own. -/
def AllW (t : Nat) (ids : List Nat) (L : List Str) (st : St) : Prop := (st.f t = .one (.d .nsl) ∧ L = []) ∨ ∃ id ∈ ids, st.f t = .one (.osl id (st.gen id) 1 0 L.length) ∧ st.obj id = some (L.map fun w => .d (.str w))
theorem frz_strs {s : St} {id g n : Nat} {L : List Str} (hg : s.gen id = g) (ho : s.obj id = some (L.map fun w => .d (.str w))) (hn : n = L.length) : Frz s (.osl id g 1 0 n) (strs L) := by
  subst hn
  exact frz_map hg ho L (fun w => .str w) (fun _ => rfl) rfl (fun j a h => by simp [h]) (by simp)

@[go_sem] theorem RetQ_four {s : St} {t u v x : Nat} {R : AV → Prop} : RetQ [t, u, v, x] R .ret s = ∃ rs, FrzVs s [s.f t, s.f u, s.f v, s.f x] rs ∧ R (.tup rs) := Eq.trans rfl rfl

set_option maxHeartbeats 4000000 in
theorem LineR_A (s : Str) (hl : s.length ≤ 1000000000) : PureR Tryz.prog 17 [sv s] (· = lineV (lineA s)) := by
  refine pure_of_wp Tt_ok mixed Tryz.func17 rfl (by rfl) [2, 3, 4, 5] rfl (by kernel_rfl) (by simp [Tryz.ntmps17]) fun g => ?_
  have h1 := upto_len 35 s
  simp (config := { maxSteps := 1000000 }) only [go_sem,↓reduceIte]
  refine hook_call rfl (by simp (config := { maxSteps := 1000000 }) only [go_sem,↓reduceIte]; exact find_A s 35 (by omega)) (by simp (config := { maxSteps := 1000000 }) only [go_sem,↓reduceIte]; rfl) ?_
  rintro _ rfl
  simp (config := { maxSteps := 1000000 }) only [go_sem,↓reduceIte]
  refine ⟨by omega, by omega, ?_⟩
  rw [upto_take]
  refine hook_call rfl (by simp (config := { maxSteps := 1000000 }) only [go_sem,↓reduceIte]; exact trimRef_A (upto 35 s) (by omega)) (by simp (config := { maxSteps := 1000000 }) only [go_sem,↓reduceIte]; rfl) ?_
  rintro _ rfl
  obtain ⟨t, ht⟩ : ∃ t, trimW (upto 35 s) = t := ⟨_, rfl⟩
  have htl : t.length ≤ s.length := by rw [← ht]; exact Nat.le_trans (trimW_le _) h1
  rw [ht]
  have e : lineA s = (labelOf t).bind fun x =>
    if x.2 = [] then some (x.1, [], []) else
    if isWord (opOf x.2) = true then (argsOf (trimW (x.2.drop (opOf x.2).length))).map fun a => (x.1, opOf x.2, a) else none := by rw [lineA, ht]
  rw [e]
  clear e
  simp (config := { maxSteps := 1000000 }) only [go_sem,↓reduceIte]
  refine hook_call rfl (by simp (config := { maxSteps := 1000000 }) only [go_sem,↓reduceIte]; exact find_A t 58 (by omega)) (by simp (config := { maxSteps := 1000000 }) only [go_sem,↓reduceIte]; rfl) ?_
  rintro _ rfl
  have h2 := upto_len 58 t
  simp (config := { maxSteps := 1000000 }) only [go_sem,↓reduceIte]
  have hwp : IntKind.i64.wrap (((upto 58 t).length : Int) + 1) = (((upto 58 t).length + 1 : Nat) : Int) := wrap_succ (by omega)
  refine ⟨fun hlt => ?_, fun hlt => ?_⟩
  case' refine_1 =>
    have hm := (upto_lt 58 t).1 (by omega)
    refine ⟨by omega, by omega, ?_⟩
    rw [upto_take]
    refine hook_call rfl (by simp (config := { maxSteps := 1000000 }) only [go_sem,↓reduceIte]; exact isLabelR_A (upto 58 t) (by omega)) (by simp (config := { maxSteps := 1000000 }) only [go_sem,↓reduceIte]; rfl) ?_
    rintro _ rfl
    cases hi : isLabel (upto 58 t)
    case' false =>
      have e : labelOf t = none := by rw [labelOf, if_pos hm, if_neg (by simp [hi])]
      rw [e]
      simp (config := { maxSteps := 1000000 }) only [go_sem,↓reduceIte]
      rfl
    have e : labelOf t = some (upto 58 t, trimW (t.drop ((upto 58 t).length + 1))) := by rw [labelOf, if_pos hm, if_pos hi]
    rw [e]
    simp (config := { maxSteps := 1000000 }) only [go_sem,↓reduceIte,hwp]
    refine ⟨by omega, Nat.le_refl _, ?_⟩
    have hdl : (t.drop ((upto 58 t).length + 1)).length ≤ s.length := by rw [List.length_drop]; omega
    refine hook_call rfl (by simp (config := { maxSteps := 1000000 }) only [go_sem,↓reduceIte]; exact trimRef_A (t.drop ((upto 58 t).length + 1)) (by omega)) (by simp (config := { maxSteps := 1000000 }) only [go_sem,↓reduceIte]; rfl) ?_
    rintro _ rfl
    have hul := Nat.le_trans (trimW_le (t.drop ((upto 58 t).length + 1))) hdl
    generalize trimW (t.drop ((upto 58 t).length + 1)) = u at hul ⊢
    generalize hlab : upto 58 t = lab at hul ⊢
    simp only [Option.bind_some]
    simp (config := { maxSteps := 1000000 }) only [go_sem,↓reduceIte]
  case' refine_2 =>
    have hm : 58 ∉ t := fun h => hlt (by have := (upto_lt 58 t).2 h; omega)
    obtain ⟨lab, hlab⟩ : ∃ lab : Str, lab = [] := ⟨_, rfl⟩
    have e : labelOf t = some (lab, t) := by rw [labelOf, if_neg hm, hlab]
    rw [e]
    have hul := htl
    
    obtain ⟨u, hu⟩ : ∃ u : Str, t = u := ⟨_, rfl⟩
    rw [hu] at hul ⊢
    simp only [Option.bind_some]
  all_goals
    refine ⟨fun h0 => ?_, fun h0 => ?_⟩
    · rw [if_pos h0]
      try simp (config := { maxSteps := 1000000 }) only [go_sem,↓reduceIte]
      try simp only [hlab]
      rfl
    · rw [if_neg h0]
      refine loop_intro (fun n st => ∃ k : Nat, n + k = u.length ∧ st.f 0 = sv u ∧ st.f 6 = sv lab ∧ st.f 8 = iv .i64 k ∧ (u.take k).all (fun c => !wht c) = true) u.length ?_ ?_
      · refine ⟨0, by omega, ?_⟩
        simp (config := { maxSteps := 1000000 }) only [go_sem,↓reduceIte]
        simp [hlab]
      rintro n f g ob ⟨k, hk, q0, q6, q8, hall⟩
      simp only at q0 q6 q8
      have hw := wrap_succ (k := k) (by omega)
      by_cases hlt2 : k < u.length
      case' neg =>
        have hop := opOf_at (s := u) (k := k) (by omega) hall (fun d h => by have := (List.getElem?_eq_some_iff.1 h).1; omega)
        simp (config := { maxSteps := 1000000 }) only [go_sem,↓reduceIte,q0, q6, q8, hlt2]
      case' pos =>
        obtain ⟨d, hd⟩ := getq hlt2
        simp (config := { maxSteps := 1000000 }) only [go_sem,↓reduceIte,q0, q6, q8, hlt2, hd]
        refine hook_call rfl (by simp (config := { maxSteps := 1000000 }) only [go_sem,↓reduceIte]; exact blank_A d) (by simp (config := { maxSteps := 1000000 }) only [go_sem,↓reduceIte]; rfl) ?_
        rintro _ rfl
        cases hb : wht d
        case' false =>
          simp (config := { maxSteps := 1000000 }) only [go_sem,↓reduceIte,q8, hw]
          refine round_end (n - 1) (by omega) ⟨k + 1, by omega, ?_⟩
          simp (config := { maxSteps := 1000000 }) only [go_sem,↓reduceIte,q0, q6]
          exact all_take hd hall (by simp [hb])
        have hop := opOf_at (s := u) (k := k) (by omega) hall (fun d' h => by rw [hd] at h; cases h; exact hb)
        simp (config := { maxSteps := 1000000 }) only [go_sem,↓reduceIte,q0, q6, q8]
      all_goals
        clear hall hm hlt h2 hwp
        have hkl : k ≤ u.length := by omega
        refine draw_calls Tt_ok mixed (by decide +kernel) ?_
        simp (config := { maxSteps := 1000000 }) only [go_sem,↓reduceIte,q0, q6, q8]
        refine ⟨Nat.zero_le _, hkl, hkl, Nat.le_refl _, ?_⟩
        have hul2 : (u.drop k).length ≤ s.length := by rw [List.length_drop]; omega
        refine quiet_call rfl (trimRef_A (u.drop k) (by omega)) (by simp (config := { maxSteps := 1000000 }) only [go_sem,↓reduceIte]; exact frzVs_data rfl) rfl ?_
        simp (config := { maxSteps := 1000000 }) only [go_sem,↓reduceIte]
        refine hook_call rfl (by simp (config := { maxSteps := 1000000 }) only [go_sem,↓reduceIte]; exact isWordR_A (u.take k) (by rw [List.length_take]; omega)) (by simp (config := { maxSteps := 1000000 }) only [go_sem,↓reduceIte]; rfl) ?_
        rintro _ rfl
        rw [hop, List.length_take, Nat.min_eq_left hkl]
        have hrl := Nat.le_trans (trimW_le (u.drop k)) hul2
        generalize trimW (u.drop k) = R at hrl ⊢
        generalize u.take k = w
        cases hi : isWord w
        · simp (config := { maxSteps := 1000000 }) only [go_sem,↓reduceIte]
          simp [lineV]
        simp (config := { maxSteps := 1000000 }) only [go_sem,↓reduceIte,q6]
        refine loop_intro (fun n st => ∃ (r : Str) (done : List Str), r.length = n ∧ st.f 6 = sv lab ∧ st.f 9 = sv w ∧ st.f 10 = sv r ∧ AllW 11 [82] done st ∧ r.length ≤ s.length ∧ done.length + r.length ≤ R.length ∧ ((r = [] ∧ argsOf R = some done) ∨ (r ≠ [] ∧ argsOf R = (argsP r).map (done ++ ·)))) R.length ?_ ?_
        · refine ⟨R, [], rfl, ?_⟩
          simp (config := { maxSteps := 1000000 }) only [go_sem,↓reduceIte,q6]
          refine ⟨.inl ⟨by simp [upd], rfl⟩, hrl, Nat.le_of_eq (by simp), ?_⟩
          by_cases hR : R = []
          · exact .inl ⟨hR, by rw [hR]; rfl⟩
          · refine .inr ⟨hR, ?_⟩
            rw [argsOf_P hR]; cases argsP R <;> simp
        clear q0 q6 q8
        rintro n f g ob ⟨r, done, rfl, q6, q9, q10, hW, hrs, hdl, hst⟩
        simp only at q6 q9 q10
        have hur := upto_len 44 r
        have hwr : IntKind.i64.wrap (((upto 44 r).length : Int) + 1) = (((upto 44 r).length + 1 : Nat) : Int) := wrap_succ (by omega)
        rcases hst with ⟨hr0, hst⟩ | ⟨hr0, hst⟩
        · subst hr0
          rw [hst]
          rcases hW with ⟨q11, qL⟩ | ⟨id, hid, q11, qo⟩
          · simp only at q11
            simp (config := { maxSteps := 1000000 }) only [go_sem,↓reduceIte,q6, q9, q10, q11]
            rw [qL]; rfl
          · simp only [List.mem_singleton] at hid
            subst hid
            simp only at q11 qo
            simp (config := { maxSteps := 1000000 }) only [go_sem,↓reduceIte,q6, q9, q10, q11]
            exact ⟨_, ⟨_, frz_strs rfl qo rfl, rfl⟩, rfl⟩
        · simp (config := { maxSteps := 1000000 }) only [go_sem,↓reduceIte,q6, q9, q10, hr0]
          refine hook_call rfl (by simp (config := { maxSteps := 1000000 }) only [go_sem,↓reduceIte]; exact find_A r 44 (by omega)) (by simp (config := { maxSteps := 1000000 }) only [go_sem,↓reduceIte]; rfl) ?_
          rintro _ rfl
          simp (config := { maxSteps := 1000000 }) only [go_sem,↓reduceIte,q10]
          refine ⟨by omega, by omega, ?_⟩
          rw [upto_take]
          refine hook_call rfl (by simp (config := { maxSteps := 1000000 }) only [go_sem,↓reduceIte]; exact trimRef_A (upto 44 r) (by omega)) (by simp (config := { maxSteps := 1000000 }) only [go_sem,↓reduceIte]; rfl) ?_
          rintro _ rfl
          simp (config := { maxSteps := 1000000 }) only [go_sem,↓reduceIte,q10, hwr]
          refine ⟨fun ha => ?_, fun ha => ⟨fun hb2 => ?_, fun hb2 => ?_⟩⟩
          · rw [hst, argsP_bad ha]; rfl
          · have hm2 : 44 ∈ r := (upto_lt 44 r).1 (by omega)
            have hd0 : r.drop ((upto 44 r).length + 1) = [] := List.drop_eq_nil_of_le (by omega)
            rw [hst, argsP_more hm2 ha, hd0]; rfl
          have hlast : 44 ∉ r → argsOf R = some (done ++ [trimW (upto 44 r)]) := fun hm2 => by rw [hst, argsP_last hm2 ha]; rfl
          have hmore : 44 ∈ r → argsOf R = (argsP (trimW (r.drop ((upto 44 r).length + 1)))).map ((done ++ [trimW (upto 44 r)]) ++ ·) := fun hm2 => by
            rw [hst, argsP_more hm2 ha, argsP_trim]
            cases argsP (r.drop ((upto 44 r).length + 1)) <;> simp
          have hdl2 := Nat.le_trans (trimW_le (r.drop ((upto 44 r).length + 1))) (Nat.le_of_eq (List.length_drop ..))
          have hrp : 0 < r.length := List.length_pos_iff.2 hr0
          generalize hr2 : trimW (r.drop ((upto 44 r).length + 1)) = r2 at hmore hdl2
          generalize ha2 : trimW (upto 44 r) = a at hlast hmore ⊢
          rcases hW with ⟨q11, qL⟩ | ⟨id, hid, q11, qo⟩
          case' inl =>
            simp only at q11
            simp (config := { maxSteps := 1000000 }) only [go_sem,↓reduceIte,q11, elemTy, q10, q6, q9]
            refine ⟨⟨by decide, by decide⟩, ?_⟩
          case' inr =>
            simp only [List.mem_singleton] at hid
            subst hid
            simp only at q11 qo
            have qL := True.intro
            simp (config := { maxSteps := 1000000 }) only [go_sem,↓reduceIte,q11, qo, elemTy, q10, q6, q9]
            refine ⟨Nat.le_refl _, ⟨by decide, by omega⟩, ?_⟩
          all_goals
            refine ⟨fun he => ?_, fun he => ?_⟩
            · have hm2 : 44 ∉ r := fun h => by have := (upto_lt 44 r).2 h; omega
              refine ⟨_, ⟨_, frz_strs (L := done ++ [a]) rfl (by simp [upd, List.take_of_length_le, qL]) (by simp [qL]), rfl⟩, ?_⟩
              rw [hlast hm2]; rfl
            · have hm2 : 44 ∈ r := (upto_lt 44 r).1 (by omega)
              simp (config := { maxSteps := 1000000 }) only [go_sem,↓reduceIte,hwr]
              refine ⟨by omega, Nat.le_refl _, ?_⟩
              have hdl3 : (r.drop ((upto 44 r).length + 1)).length ≤ s.length := by rw [List.length_drop]; omega
              refine hook_call rfl (by simp (config := { maxSteps := 1000000 }) only [go_sem,↓reduceIte]; exact trimRef_A (r.drop ((upto 44 r).length + 1)) (by omega)) (by simp (config := { maxSteps := 1000000 }) only [go_sem,↓reduceIte]; rfl) ?_
              rintro _ rfl
              rw [hr2]
              simp (config := { maxSteps := 1000000 }) only [go_sem,↓reduceIte]
              refine ⟨fun hz => ?_, fun hz => ?_⟩
              · rw [hmore hm2, hz]; rfl
              · refine round_end r2.length (by omega) ⟨r2, done ++ [a], rfl, ?_⟩
                simp (config := { maxSteps := 1000000 }) only [go_sem,↓reduceIte,q6, q9]
                refine ⟨.inr ⟨82, by simp, by simp [upd, qL], by simp [upd, List.take_of_length_le, qL]⟩, by omega, by simp only [List.length_append, List.length_cons, List.length_nil]; omega, .inr ⟨hz, ?_⟩⟩
                simpa using hmore hm2

end Go.Proofs.YthclfagbojkbjabGreatDoor

namespace Go.Proofs.YthclfagbojkbjabGreatDoor
open Go Go.Am Go.Asm

/-- Where the byte stands: -1, where it does not. -/
def idx (s : Str) (c : UInt8) : Int := if c ∈ s then ((upto c s).length : Int) else -1

theorem indexByte_idx (s : Str) (c : UInt8) : Lib.indexByte s c = idx s c := by
  induction s with
  | nil => rfl
  | cons b l ih =>
    unfold Lib.indexByte idx
    by_cases hb : b = c
    · subst hb; simp [upto]
    · have hb' : (b == c) = false := by simpa using hb
      have e : upto c (b :: l) = b :: upto c l := by unfold upto; rw [List.takeWhile_cons, if_pos (by simpa using hb)]
      rw [ih, hb', e]
      unfold idx
      by_cases hm : c ∈ l
      · have : ¬ ((upto c l).length : Int) = -1 := by omega
        simp [hm, this]
      · have : ¬ c = b := fun h => hb h.symm
        simp [hm, this]

theorem IndexByteL_A (s : Str) (c : UInt8) : PureR Tryz.prog 304 [sv s, iv .u8 c.toNat] (· = iv .i64 (idx s c)) := by
  refine pure_of_wp Tt_ok mixed Tryz.func304 rfl (by rfl) [4] rfl (by kernel_rfl) (by simp [Tryz.ntmps304]) fun g => ?_
  simp (config := { maxSteps := 1000000 }) only [go_sem,↓reduceIte]
  refine hook_extern (B := 0) (x := .int .i64 (idx s c)) rfl (by simp (config := { maxSteps := 1000000 }) only [go_sem,↓reduceIte]; rfl) rfl (fun w => ?_) ?_
  · simp (config := { maxSteps := 1000000 }) only [go_sem,↓reduceIte,scVal, scC, scD, dV]
    rw [run_callFunc_extern Tryz.func342 (by kernel_rfl) (by kernel_rfl) (by kernel_rfl) (e := Extern.BytealgIndexByte.indexByte) (by kernel_rfl), Lib.run_indexByteString]
    simp [Result.andThen, indexByte_idx]
  · simp (config := { maxSteps := 1000000 }) only [go_sem,↓reduceIte]

theorem IndexByte_A (s : Str) (c : UInt8) : PureR Tryz.prog 309 [sv s, iv .u8 c.toNat] (· = iv .i64 (idx s c)) := by
  refine pure_of_wp Tt_ok mixed Tryz.func309 rfl (by rfl) [4] rfl (by kernel_rfl) (by simp [Tryz.ntmps309]) fun g => ?_
  simp (config := { maxSteps := 1000000 }) only [go_sem,↓reduceIte]
  refine hook_call rfl (by simp (config := { maxSteps := 1000000 }) only [go_sem,↓reduceIte]; exact IndexByteL_A s c) (by simp (config := { maxSteps := 1000000 }) only [go_sem,↓reduceIte]; rfl) ?_
  rintro _ rfl
  simp (config := { maxSteps := 1000000 }) only [go_sem,↓reduceIte]

theorem IndexL_A (s : Str) (c : UInt8) : PureR Tryz.prog 243 [sv s, sv [c]] (· = iv .i64 (idx s c)) := by
  refine pure_of_wp Tt_ok mixed Tryz.func243 rfl (by rfl) [4] rfl (by kernel_rfl) (by simp [Tryz.ntmps243]) fun g => ?_
  simp (config := { maxSteps := 1000000 }) only [go_sem,↓reduceIte]
  refine ⟨fun h => ?_, fun h => ?_⟩
  · rw [← h]; simp [idx, upto]
  · refine hook_call rfl (by simp (config := { maxSteps := 1000000 }) only [go_sem,↓reduceIte]; exact IndexByteL_A s c) (by simp (config := { maxSteps := 1000000 }) only [go_sem,↓reduceIte]; rfl) ?_
    rintro _ rfl
    simp (config := { maxSteps := 1000000 }) only [go_sem,↓reduceIte]

theorem Index_A (s : Str) (c : UInt8) : PureR Tryz.prog 152 [sv s, sv [c]] (· = iv .i64 (idx s c)) := by
  refine pure_of_wp Tt_ok mixed Tryz.func152 rfl (by rfl) [4] rfl (by kernel_rfl) (by simp [Tryz.ntmps152]) fun g => ?_
  simp (config := { maxSteps := 1000000 }) only [go_sem,↓reduceIte]
  refine hook_call rfl (by simp (config := { maxSteps := 1000000 }) only [go_sem,↓reduceIte]; exact IndexL_A s c) (by simp (config := { maxSteps := 1000000 }) only [go_sem,↓reduceIte]; rfl) ?_
  rintro _ rfl
  simp (config := { maxSteps := 1000000 }) only [go_sem,↓reduceIte]

def cutV (s : Str) (c : UInt8) : AV := if c ∈ s then .tup [sv (upto c s), sv (s.drop ((upto c s).length + 1)), bv true] else .tup [sv s, sv [], bv false]

theorem CutL_A (s : Str) (c : UInt8) (hl : s.length ≤ 4000000000000000000) : PureR Tryz.prog 244 [sv s, sv [c]] (· = cutV s c) := by
  refine pure_of_wp Tt_ok mixed Tryz.func244 rfl (by rfl) [4, 5, 6] rfl (by kernel_rfl) (by simp [Tryz.ntmps244]) fun g => ?_
  have h1 := upto_len c s
  have hw := wrap_succ (k := (upto c s).length) (by omega)
  simp (config := { maxSteps := 1000000 }) only [go_sem,↓reduceIte]
  refine hook_call rfl (by simp (config := { maxSteps := 1000000 }) only [go_sem,↓reduceIte]; exact IndexL_A s c) (by simp (config := { maxSteps := 1000000 }) only [go_sem,↓reduceIte]; rfl) ?_
  rintro _ rfl
  by_cases hm : c ∈ s
  · have hi : idx s c = ((upto c s).length : Int) := if_pos hm
    have hlt := (upto_lt c s).2 hm
    have hcv : cutV s c = .tup [sv (upto c s), sv (s.drop ((upto c s).length + 1)), bv true] := if_pos hm
    rw [hi, hcv]
    simp (config := { maxSteps := 1000000 }) only [go_sem,↓reduceIte]
    refine draw_intro (by decide +kernel) ?_
    simp (config := { maxSteps := 1000000 }) only [go_sem,↓reduceIte,hw]
    refine ⟨by omega, by omega, by omega, Nat.le_refl _, ?_⟩
    rw [upto_take]
  · have hi : idx s c = -1 := if_neg hm
    have hcv : cutV s c = .tup [sv s, sv [], bv false] := if_neg hm
    rw [hi, hcv]
    simp (config := { maxSteps := 1000000 }) only [go_sem,↓reduceIte]

theorem Cut_A (s : Str) (c : UInt8) (hl : s.length ≤ 4000000000000000000) : PureR Tryz.prog 153 [sv s, sv [c]] (· = cutV s c) := by
  refine pure_of_wp Tt_ok mixed Tryz.func153 rfl (by rfl) [4, 5, 6] rfl (by kernel_rfl) (by simp [Tryz.ntmps153]) fun g => ?_
  simp (config := { maxSteps := 1000000 }) only [go_sem,↓reduceIte]
  refine hook_call rfl (by simp (config := { maxSteps := 1000000 }) only [go_sem,↓reduceIte]; exact CutL_A s c hl) (by simp (config := { maxSteps := 1000000 }) only [go_sem,↓reduceIte]; rfl) ?_
  rintro _ rfl
  by_cases hm : c ∈ s
  · have e : cutV s c = .tup [sv (upto c s), sv (s.drop ((upto c s).length + 1)), bv true] := if_pos hm
    rw [e]
    simp (config := { maxSteps := 1000000 }) only [go_sem,↓reduceIte]
  · have e : cutV s c = .tup [sv s, sv [], bv false] := if_neg hm
    rw [e]
    simp (config := { maxSteps := 1000000 }) only [go_sem,↓reduceIte]

theorem Count_A (s : Str) (c : UInt8) : PureR Tryz.prog 151 [sv s, sv [c]] (· = iv .i64 (s.count c)) := by
  refine pure_of_wp Tt_ok mixed Tryz.func151 rfl (by rfl) [4] rfl (by kernel_rfl) (by simp [Tryz.ntmps151]) fun g => ?_
  simp (config := { maxSteps := 1000000 }) only [go_sem,↓reduceIte]
  refine hook_extern (B := 0) (x := .int .i64 (s.count c)) rfl (by simp (config := { maxSteps := 1000000 }) only [go_sem,↓reduceIte]; rfl) rfl (fun w => ?_) ?_
  · simp (config := { maxSteps := 1000000 }) only [go_sem,↓reduceIte,scVal, scC, scD, dV]
    rw [run_callFunc_extern Tryz.func242 (by kernel_rfl) (by kernel_rfl) (by kernel_rfl) (e := Extern.BytealgCount.count) (by kernel_rfl), Lib.run_countString]
    simp [Result.andThen, Lib.countByte]
  · simp (config := { maxSteps := 1000000 }) only [go_sem,↓reduceIte]

theorem splitC_count (c : UInt8) : ∀ s : Str, (splitC c s).length = s.count c + 1
  | [] => rfl
  | b :: l => by
    have ih := splitC_count c l
    rw [splitC_cons]
    by_cases hb : b = c
    · subst hb; simp [ih]
    · have : (b == c) = false := by simpa using hb
      simp only [hb, if_false, List.count_cons, this, Nat.add_zero]
      cases hs : splitC c l with
      | nil => exact absurd hs (splitC_ne c l)
      | cons x xs => rw [hs] at ih; simpa using ih
theorem splitC_upto {c : UInt8} {s : Str} (h : c ∈ s) : splitC c s = upto c s :: splitC c (s.drop ((upto c s).length + 1)) := by
  obtain ⟨t, ht⟩ := upto_split h
  rw [drop_upto ht]
  conv => lhs; rw [ht]
  rw [splitC_join, splitC_none (upto_free c s)]; rfl

theorem count_upto {c : UInt8} {s : Str} (h : c ∈ s) : s.count c = (s.drop ((upto c s).length + 1)).count c + 1 := by
  have h1 := splitC_count c s
  rw [splitC_upto h, List.length_cons, splitC_count] at h1
  omega
def cellsS (done : List Str) (k : Nat) : List C := done.map (fun w => .d (.str w)) ++ List.replicate k (.d (.str []))
theorem cellsS_len (done : List Str) (k : Nat) : (cellsS done k).length = done.length + k := by simp [cellsS]
theorem cellsS_set (done : List Str) (k : Nat) (x : Str) : (cellsS done (k + 1)).set done.length (.d (.str x)) = cellsS (done ++ [x]) k := by
  unfold cellsS
  rw [List.set_append_right _ _ (by simp)]
  simp [List.replicate_succ]
theorem cellsS_zero (done : List Str) : cellsS done 0 = done.map fun w => .d (.str w) := by simp [cellsS]

set_option maxHeartbeats 1000000 in
theorem genSplit_A (s : Str) (c : UInt8) (hl : s.length ≤ 1000000000) : PureR Tryz.prog 100 [sv s, sv [c], iv .i64 0, iv .i64 (-1)] (· = .one (.d (strs (splitC c s)))) := by
  refine pure_of_wp Tt_ok mixed Tryz.func100 rfl (by rfl) [8] rfl (by kernel_rfl) (by simp [Tryz.ntmps100]) fun g => ?_
  have hc : s.count c ≤ s.length := List.count_le_length
  have hw := wrap_succ (k := s.count c) (by omega)
  have hw2 := wrap_succ (k := s.length) (by omega)
  have hw3 : IntKind.i64.wrap (((s.count c + 1 : Nat) : Int) - 1) = ((s.count c : Nat) : Int) := by rw [wrap_i64] <;> omega
  have hmin : min ((s.count c + 1 : Nat) : Int) ((s.length + 1 : Nat) : Int) = ((s.count c + 1 : Nat) : Int) := by omega
  simp (config := { maxSteps := 1000000 }) only [go_sem,↓reduceIte]
  refine hook_call rfl (by simp (config := { maxSteps := 1000000 }) only [go_sem,↓reduceIte]; exact Count_A s c) (by simp (config := { maxSteps := 1000000 }) only [go_sem,↓reduceIte]; rfl) ?_
  rintro _ rfl
  simp (config := { maxSteps := 1000000 }) only [go_sem,↓reduceIte,hw, hw2, hmin, hw3]
  refine ⟨Nat.le_refl _, by omega, by omega, ?_⟩
  refine loop_intro (fun n st => ∃ (t : Str) (done : List Str), n = s.length - done.length ∧ st.f 0 = sv t ∧ st.f 1 = sv [c] ∧ st.f 2 = iv .i64 0 ∧ st.f 3 = iv .i64 (s.count c) ∧ st.f 9 = .one (.osl 31 (st.gen 31) 1 0 (s.count c + 1)) ∧ st.f 10 = iv .i64 done.length ∧ t.length ≤ s.length ∧ done.length + t.count c = s.count c ∧ splitC c s = done ++ splitC c t ∧ st.obj 31 = some (cellsS done (s.count c + 1 - done.length))) s.length ?_ ?_
  · refine ⟨s, [], rfl, ?_⟩
    simp (config := { maxSteps := 1000000 }) only [go_sem,↓reduceIte]
    simp [cellsS]
  rintro n f g ob ⟨t, done, rfl, q0, q1, q2, q3, q9, q10, htl, hct, hsp, ho⟩
  simp only at q0 q1 q2 q3 q9 q10 ho
  obtain ⟨m, hm1⟩ : ∃ m, s.count c + 1 - done.length = m + 1 := ⟨s.count c - done.length, by omega⟩
  rw [hm1] at ho
  have hw5 := wrap_succ (k := done.length) (by omega)
  have hset := cellsS_set done m
  have hcl := cellsS_len done (m + 1)
  by_cases hlt : done.length < s.count c
  · have hm : c ∈ t := List.count_pos_iff.1 (by omega)
    have hi : idx t c = ((upto c t).length : Int) := if_pos hm
    have hul := (upto_lt c t).2 hm
    have hw4 := wrap_succ (k := (upto c t).length) (by omega)
    have hw6 : IntKind.i64.wrap (((upto c t).length : Int) + 0) = ((upto c t).length : Int) := by rw [wrap_i64] <;> omega
    have hn : ¬ ((upto c t).length : Int) < 0 := by omega
    have hd1 : done.length < s.count c + 1 := by omega
    have hd2 : done.length + 1 ≤ done.length + (m + 1) := by omega
    simp (config := { maxSteps := 1000000 }) only [go_sem,↓reduceIte,q0, q1, q2, q3, q9, q10, hlt]
    refine hook_call rfl (by simp (config := { maxSteps := 1000000 }) only [go_sem,↓reduceIte]; exact Index_A t c) (by simp (config := { maxSteps := 1000000 }) only [go_sem,↓reduceIte]; rfl) ?_
    rintro _ rfl
    rw [hi]
    simp (config := { maxSteps := 1000000 }) only [go_sem,↓reduceIte,q0, q1, q2, q3, q9, q10, ho, hw4, hw5, hw6, hn, hset, hcl, hd1, hd2]
    refine ⟨Nat.zero_le _, by omega, by omega, Nat.le_refl _, ?_⟩
    have hcu := count_upto hm
    refine round_end (s.length - (done ++ [upto c t]).length) (by simp only [List.length_append, List.length_cons, List.length_nil]; omega) ⟨t.drop ((upto c t).length + 1), done ++ [upto c t], rfl, ?_⟩
    simp (config := { maxSteps := 1000000 }) only [go_sem,↓reduceIte,q1, q2, q3, q9]
    rw [upto_take]
    refine ⟨by simp, by rw [List.length_drop]; omega, by simp only [List.length_append, List.length_cons, List.length_nil]; omega, ?_, ?_⟩
    · rw [hsp, splitC_upto hm]; simp
    · simp only [upd, if_true, List.length_append, List.length_cons, List.length_nil]
      congr 2; omega
  · have hm : c ∉ t := List.count_eq_zero.1 (by omega)
    have hd1 : done.length < s.count c + 1 := by omega
    have hd2 : done.length + 1 ≤ done.length + (m + 1) := by omega
    simp (config := { maxSteps := 1000000 }) only [go_sem,↓reduceIte,q0, q1, q2, q3, q9, q10, hlt, ho, hset, hcl, hd1, hd2, hw5]
    have hm0 : m = 0 := by omega
    subst hm0
    refine ⟨by omega, _, ⟨_, frz_strs (L := done ++ [t]) rfl ?_ (by simp), rfl⟩, ?_⟩
    · simp [upd, cellsS]
    · rw [hsp, splitC_none hm]

theorem Split_A (s : Str) (c : UInt8) (hl : s.length ≤ 1000000000) : PureR Tryz.prog 62 [sv s, sv [c]] (· = .one (.d (strs (splitC c s)))) := by
  refine pure_of_wp Tt_ok mixed Tryz.func62 rfl (by rfl) [4] rfl (by kernel_rfl) (by simp [Tryz.ntmps62]) fun g => ?_
  simp (config := { maxSteps := 1000000 }) only [go_sem,↓reduceIte]
  refine hook_call rfl (by simp (config := { maxSteps := 1000000 }) only [go_sem,↓reduceIte]; exact genSplit_A s c hl) (by simp (config := { maxSteps := 1000000 }) only [go_sem,↓reduceIte]; rfl) ?_
  rintro _ rfl
  simp (config := { maxSteps := 1000000 }) only [go_sem,↓reduceIte,strs]

end Go.Proofs.YthclfagbojkbjabGreatDoor

namespace Go.Proofs
open Go.Shelf Go.RowKit Go.Lib
variable {P : Program} {ρ : Ren}

abbrev blanks2 : ByteArray := ⟨#[32, 9]⟩

set_option maxHeartbeats 8000000 in
set_option maxRecDepth 1000000 in
theorem IndexRune_high (L : Lays.n152 P ρ) (r : Int) (w : World) (h0 : 128 ≤ r) (h1 : Utf8.valid r = true) (h2 : r ≠ 65533) :
    Calls P (ρ.f 152) #[.string blanks2, .int .i32 r] w fun e w' => e = .returned (.int .i64 (-1)) ∧ Below w.heap.size w w' := by
  have mixed := L.mixed
  have t3 := L.t3; have a3 := L.a3; have z3 := L.z3; have v3 := L.v3
  have t4 := L.t4; have a4 := L.a4; have z4 := L.z4; have v4 := L.v4
  have t5 := L.t5; have a5 := L.a5; have z5 := L.z5; have v5 := L.v5
  have t9 := L.t9; have a9 := L.a9; have z9 := L.z9; have v9 := L.v9
  have t21 := L.t21; have a21 := L.a21; have z21 := L.z21; have v21 := L.v21
  have e137 : ∀ args w, (callFunc (ρ.f 137) args).run P w = .ok (.enter (ρ.f 137) args) w := enters_of L.f137 (by kernel_rfl) rfl
  go_enter L.f152, Body.n152_ntmps ρ
  have hlt : ¬ r < 128 := by omega
  have hge : (0 : Int) ≤ r := by omega
  have e119 : ∀ args w, (callFunc (ρ.f 119) args).run P w = .ok (.enter (ρ.f 119) args) w := enters_of L.f119 (by kernel_rfl) rfl
  obtain ⟨f1, f2, f3⟩ := encode_facts r h1 h0
  have hv : Lib.validRune r = true := by simp only [Utf8.valid] at h1; simp only [Lib.validRune]; simp at h1 ⊢; omega
  generalize hE : Utf8.encode r = E at f1 f2 f3
  go_wp2_with (first
    | (go_at_fn (ρ.f 119); refine (Any.utf8_ValidRune { L with } _ _).mono ?_; rintro e w' ⟨rfl, hw⟩; rw [hw, hv]))
  have hcv := fun w => run_convert_int_string (P := P) w (ρ.t 21) (ρ.t 9) .i32 r (by rw [t21]; rfl) t9
  rw [hE] at hcv
  go_step3
  go_wp2
  have hsz : blanks2.size = 2 := rfl
  go_loopg [9] 0 (fun gk s9 wx => gk = 0 ∧ s9 = .int .i64 ((E.size : Int) - 1) ∧ wx = w)
  case atStart => exact ⟨rfl, rfl, rfl⟩
  case round =>
    obtain ⟨rfl, rfl, rfl⟩ := hrel
    by_cases h22 : E.size = 2
    · have e1 : (E.size : Int) - 1 = 1 := by omega
      simp only [e1]
      have f4 : 1 < E.size := by omega
      have f5 : 128 ≤ (E[1]'f4).toNat := by have := f3 (by omega); simpa [h22] using this
      have f6 : ((blanks2)[1]'(by decide)).toNat = 9 := rfl
      go_wp2
      go_step3
      go_wp2
      go_quiet_o (fail)
      have hw2 : IntKind.i64.wrap 2 = 2 := by decide
      have f7 : ¬ ((9 : Int) = ((E[1]'f4).toNat : Int)) := by omega
      go_wp2
      have hb : Below wr.heap.size wr (wr.drewN nq) := ⟨rfl, rfl, rfl, Nat.le_refl _, fun _ _ => rfl⟩
      generalize wr.drewN nq = w2 at hb ⊢
      go_quiet_o (first | (go_at_fn (ρ.f 137); refine Calls.quiet_of_same (Any.strings_IndexByte { L with } _ _ _)))
      simp only [Lib.indexByte]
      go_wp2
      simp only [Exit.noGoto_ret, Exit.inBlock, Exit.then]
      go_ret
      exact ⟨rfl, hb.os, hb.tape, hb.output, hb.size, hb.block⟩
    · have e1 : ¬ (E.size : Int) - 1 < 2 := by omega
      go_wp2
      go_ret
      exact ⟨rfl, Below.refl _ _⟩

set_option maxHeartbeats 8000000 in
set_option maxRecDepth 1000000 in
theorem IndexRune_error (L : Lays.n152 P ρ) (w : World) :
    Calls P (ρ.f 152) #[.string blanks2, .int .i32 65533] w fun e w' => e = .returned (.int .i64 (-1)) ∧ Below w.heap.size w w' := by
  have mixed := L.mixed
  have t3 := L.t3; have a3 := L.a3; have z3 := L.z3; have v3 := L.v3
  have t4 := L.t4; have a4 := L.a4; have z4 := L.z4; have v4 := L.v4
  have t5 := L.t5; have a5 := L.a5; have z5 := L.z5; have v5 := L.v5
  have t9 := L.t9; have a9 := L.a9; have z9 := L.z9; have v9 := L.v9
  have t21 := L.t21; have a21 := L.a21; have z21 := L.z21; have v21 := L.v21
  go_enter L.f152, Body.n152_ntmps ρ
  go_wp2
  go_loopg [5, 6] 2 (fun gk _ _ wx => ∃ i : Nat, i + gk = 2 ∧ wx = w.iter blanks2 i)
  case atStart => exact ⟨0, rfl, rfl⟩
  case round =>
    obtain ⟨i, hig, rfl⟩ := hrel
    match i, hig with
    | 0, hig =>
      obtain rfl : gk = 2 := by omega
      have hnx := fun ty => run_next_ascii (P := P) w blanks2 0 ty (by decide) (by decide)
      go_wp2
      go_roundg 1
      case measure => omega
      case rel => exact ⟨1, rfl, rfl⟩
    | 1, hig =>
      obtain rfl : gk = 1 := by omega
      have hnx := fun ty => run_next_ascii (P := P) w blanks2 1 ty (by decide) (by decide)
      go_wp2
      go_roundg 0
      case measure => omega
      case rel => exact ⟨2, rfl, rfl⟩
    | 2, hig =>
      obtain rfl : gk = 0 := by omega
      have hnx := run_next_end (P := P) w blanks2 2
      go_wp2
      go_ret
      exact ⟨rfl, (Below.refl _ _).alloc (Nat.le_refl _) _⟩
    | k + 3, hig => omega

end Go.Proofs
