/- A part of the proof; no conditions. -/
import Derived.Test.YtiaalcpkhlnpcabGreatDoorPart8
import Derived.Lib.UnsafeStr
import Derived.Laws.Externs
import Derived.Handed
import Derived.Lay
import Derived.LaidMore
import Derived.SevenTiedAt
import Derived.Stop.Joined
import Derived.Below
import Derived.Test.YtiaalcpkhlnpcabGreatDoorProg
import Derived.KernelRfl
set_option linter.unusedSimpArgs false
set_option linter.unusedVariables false
namespace Go.Am

/-- The same memory, but for blocks of deferred calls that no object lies in. -/
structure Shut (b₀ : Bs) (β : Loc) (ob : Obs) (n₀ : Nat) (w w' : World) : Prop where
  size : w'.heap.size = w.heap.size
  os : w'.os = w.os ∧ w'.output = w.output
  same : ∀ b, w'.heap[b]? = w.heap[b]? ∨ (n₀ ≤ b ∧ Imm b₀ β ob w b ∧ (∃ x, w.heap[b]? = some (.deferred x)) ∧ ∃ x, w'.heap[b]? = some (.deferred x))

section
variable {P : Program} {T : Nat → TI} {b₀ : Bs} {β : Loc} {g : Nat → Nat} {ob : Obs} {n₀ : Nat} {w w' : World}

theorem Shut.refl : Shut b₀ β ob n₀ w w := ⟨rfl, ⟨rfl, rfl⟩, fun _ => .inl rfl⟩
theorem Shut.trans {w'' : World} (h : Shut b₀ β ob n₀ w w') (h' : Shut b₀ β ob n₀ w' w'') : Shut b₀ β ob n₀ w w'' := by
  refine ⟨h'.size.trans h.size, ⟨h'.os.1.trans h.os.1, h'.os.2.trans h.os.2⟩, fun b => ?_⟩
  rcases h.same b with e | ⟨e1, e2, e3, e4⟩
  · rcases h'.same b with e' | ⟨e1', e2', e3', e4'⟩
    · exact .inl (e'.trans e)
    · exact .inr ⟨e1', by unfold Imm at *; rw [h.size] at e2'; exact e2', by rw [← e]; exact e3', e4'⟩
  · rcases h'.same b with e' | ⟨e1', e2', e3', e4'⟩
    · exact .inr ⟨e1, e2, e3, by rw [e']; exact e4⟩
    · exact .inr ⟨e1, e2, e3, e4'⟩

theorem Shut.cell (h : Shut b₀ β ob n₀ w w') {a : Addr} {v : Value} (hc : w.cell? a = some v) : w'.cell? a = some v := by
  rcases h.same a.block with e | ⟨_, _, ⟨x, e⟩, _⟩
  · rw [cell?_of_heap e]; exact hc
  · simp [World.cell?, e] at hc

theorem Shut.imm (h : Shut b₀ β ob n₀ w w') {b : Nat} (hb : Imm b₀ β ob w b) : Imm b₀ β ob w' b := by unfold Imm at *; rw [h.size]; exact hb

theorem RepD.shut {J J' : Nat → Prop} {x : D} {v : Value} (h : RepD J w x v) (hJ : ∀ b, J b → J' b) (hc : ∀ a v, w.cell? a = some v → w'.cell? a = some v) : RepD J' w' x v := by
  induction h with
  | bool b => exact .bool b
  | int k n => exact .int k n
  | str s => exact .str s
  | nsl => exact .nsl
  | nilp => exact .nilp
  | nilf => exact .nilf
  | nili => exact .nili
  | nilm => exact .nilm
  | fn f => exact .fn f
  | yld l => exact .yld l
  | sl0 => exact .sl0
  | sl vals hcap hj hsz hcl hr ih => exact .sl vals hcap (fun h => hJ _ (hj h)) hsz (fun i e he j x hx => hc _ _ (hcl i e he j x hx)) ih
  | iptr vals hj hcl hr ih => exact .iptr vals (fun h => hJ _ (hj h)) (fun j x hx => hc _ _ (hcl j x hx)) ih

theorem RepPC.shut (h : Shut b₀ β ob n₀ w w') {c : PC} {v : Value} (hr : RepPC b₀ β g ob w c v) : RepPC b₀ β g ob w' c v := by
  cases c with
  | d x => exact RepD.shut hr (fun _ => h.imm) (fun _ _ => h.cell)
  | ptr id g1 off => exact hr

theorem RepC.shut (h : Shut b₀ β ob n₀ w w') {c : C} {v : Value} (hr : RepC b₀ β g ob w c v) : RepC b₀ β g ob w' c v := by
  cases c with
  | d x => exact RepD.shut hr (fun _ => h.imm) (fun _ _ => h.cell)
  | osl id g1 sz off len =>
    obtain ⟨h1, h2, h3⟩ := hr
    refine ⟨h1, h2, fun hg ho => ?_⟩
    have h4 := h3 hg ho
    cases hβ : β id with
    | none => rw [hβ] at h4; exact h4
    | some a =>
      rw [hβ] at h4
      obtain ⟨h5, h6⟩ := h4
      refine ⟨h5, ?_⟩
      rcases h6 with ⟨cap, q1, q2, q3⟩ | h6
      · refine .inl ⟨cap, q1, q2, fun arr el fr hh => ?_⟩
        rcases h.same a.block with e | ⟨_, _, _, ⟨x, e⟩⟩
        · exact q3 arr el fr (by rw [← e]; exact hh)
        · rw [e] at hh; cases hh
      · exact .inr h6
  | ptr id g1 off => exact hr
  | clo f caps =>
    obtain ⟨vs, h1, h2, h3⟩ := hr
    exact ⟨vs, h1, h2, fun i pc hp => let ⟨u, hu, hr⟩ := h3 i pc hp; ⟨u, hu, hr.shut h⟩⟩
  | mp id g1 kd => exact hr
  | lsl n => exact hr
  | raw o => exact hr

theorem RepCs.shut (h : Shut b₀ β ob n₀ w w') {cs : List C} {vs : Array Value} (hr : RepCs b₀ β g ob w cs vs) : RepCs b₀ β g ob w' cs vs :=
  ⟨hr.1, fun i c hc => let ⟨u, hu, hr⟩ := hr.2 i c hc; ⟨u, hu, hr.shut h⟩⟩

mutual
theorem RepV.shut (h : Shut b₀ β ob n₀ w w') : (x : AV) → {v : Value} → RepV b₀ β g ob w x v → RepV b₀ β g ob w' x v
  | .one _, _, hr => by simp only [RepV] at hr ⊢; exact RepC.shut h hr
  | .agg _, _, hr => by simp only [RepV] at hr ⊢; obtain ⟨vs, h1, h2⟩ := hr; exact ⟨vs, h1, h2.shut h⟩
  | .tup ts, _, hr => by simp only [RepV] at hr ⊢; obtain ⟨vs, h1, h2⟩ := hr; exact ⟨vs, h1, RepVs.shut h ts h2⟩
  | .junk, _, _ => by simp only [RepV]
  | .exact _, _, hr => by simp only [RepV] at hr ⊢; exact hr
theorem RepVs.shut (h : Shut b₀ β ob n₀ w w') : (x : List AV) → {v : List Value} → RepVs b₀ β g ob w x v → RepVs b₀ β g ob w' x v
  | [], _, hr => by simp only [RepVs] at hr ⊢; exact hr
  | t :: ts, _, hr => by simp only [RepVs] at hr ⊢; obtain ⟨u, us, h1, h2, h3⟩ := hr; exact ⟨u, us, h1, RepV.shut h t h2, RepVs.shut h ts h3⟩
end

theorem Rel.shut {N : Nat} {s : St} {a : Act} (hr : Rel b₀ N s β a w) (h : Shut b₀ β s.obj n₀ w w') : Rel b₀ N s β a w' := by
  refine ⟨hr.defers, hr.size, fun i => RepV.shut h _ (hr.f i), fun id cells ho => ?_, hr.inj, by rw [h.size]; exact hr.base⟩
  have h1 := hr.obj id cells ho
  cases hβ : β id with
  | none => rw [hβ] at h1; exact h1
  | some ad =>
    rw [hβ] at h1
    have he : w'.heap[ad.block]? = w.heap[ad.block]? := by
      rcases h.same ad.block with e | ⟨_, e, _⟩
      · exact e
      · exact absurd rfl (e.2.2 id ad (by simp [ho]) hβ)
    cases hs : ad.spot with
    | none =>
      obtain ⟨h2, arr, el, lo, hi, h3, h4, h5, h6⟩ := h1.cells hs
      exact .ofCells hs ⟨h2, arr, el, lo, hi, by rw [he]; exact h3, h4, h5, fun j c hc => let ⟨v, hv, hr⟩ := h6 j c hc; ⟨v, hv, hr.shut h⟩⟩
    | some kd =>
      obtain ⟨h2, ⟨es, clock, h3, h4⟩ | ⟨hk100, o, h3, h4⟩⟩ := h1.map hs
      · exact .ofMap hs ⟨h2, .inl ⟨es, clock, by rw [he]; exact h3, h4.mono fun _ _ q => by
          unfold RepM at q ⊢
          split
          · rename_i hk
            rw [if_pos hk] at q
            exact RepC.shut h q
          · rename_i hk
            rw [if_neg hk] at q
            obtain ⟨ds, vs, q1, q2, q3, q4⟩ := q
            exact ⟨ds, vs, q1, q2, q3, fun i x hx => let ⟨u, hu, hr⟩ := q4 i x hx; ⟨u, hu, RepD.shut hr (fun _ => h.imm) (fun _ _ => h.cell)⟩⟩⟩⟩
      · exact .ofMap hs ⟨h2, .inr ⟨hk100, o, h3, by rw [he]; exact h4⟩⟩

theorem Mk.put {D : Nat} {o : Obj} : ∀ {ds : List Deferred}, Mk b₀ β ob w n₀ ds → (∀ d' ∈ ds, d' ≠ { target := .collected D, args := #[] }) → Mk b₀ β ob (w.putObj D o) n₀ ds
  | [], _, _ => trivial
  | d :: ds, hm, hne => by
    obtain ⟨⟨E, h1, h2, h3, h4, h5⟩, hr⟩ := hm
    have hE : E ≠ D := fun he => hne d (by simp) (by rw [h1, he])
    exact ⟨⟨E, h1, h2, by unfold Imm at *; simpa using h3, by rw [World.putObj_heap_other hE]; exact h4, h5⟩, hr.put (fun d' hd' => hne d' (by simp [hd']))⟩

/-- An activation's marks are taken up. -/
theorem leaves_marks {fn : Func} {tmps : Array Value} {R : Ending → World → Prop} : ∀ {ds : List Deferred} {w : World}, Mk b₀ β ob w n₀ ds →
    (∀ w5, Shut b₀ β ob n₀ w w5 → ∃ v, (results fn tmps).run P w5 = .ok v w5 ∧ R (.returned v) w5) → LeavesInM (fen none) 0 P fn tmps R ds .returning w
  | [], w, _, h => h w .refl
  | d :: ds, w, hm, h => by
    obtain ⟨⟨D, h1, h2, h3, h4, h5⟩, hr⟩ := hm
    refine ⟨by simp, .inl ⟨D, _, by rw [h1], run_takeDeferred h4, ?_⟩⟩
    have hlt : D < w.heap.size := h3.1
    have hsh : Shut b₀ β ob n₀ w (w.putObj D (.deferred none)) := ⟨by simp, ⟨rfl, rfl⟩, fun b => by
      by_cases hb : b = D
      · subst hb
        exact .inr ⟨h2, h3, ⟨_, h4⟩, ⟨none, World.putObj_heap_same hlt⟩⟩
      · exact .inl (World.putObj_heap_other hb)⟩
    exact leaves_marks (hr.put (fun d' hd' => by rw [← h1]; exact h5 d' hd')) (fun w5 h6 => h w5 (hsh.trans h6))

/-- A function that hands back data, and may hold loops over functions. -/
theorem pure_of_wpRF (B : Nat) (hT : TabOk P T) {f : FuncId} {fn : Func} {c : Code} (hf : P.funcs[f]? = some fn) (hb : fn.body = some c) (hn : (fn.name == "runtime.NumGoroutine") = false)
    (rs : List ResultVar) (hres : fn.results = rs.toArray) (hcm : calm c = true) (hok : codeOk fn.ntmps c = true) {args : List AV} (hargs : args.length ≤ fn.ntmps) {R : AV → Prop}
    (h : ∀ b₀ β0 s0 w0 g, wpC (spF P none b₀ (PhiC b₀ β0 s0 w0) B noPan) T c (bx (RetQR T rs R)) ⟨initF args, g, fun _ => none⟩) : PureR P f args R := by
  refine ⟨⟨fn, hf, by rw [hb]; rfl, hn⟩, fun J w vs hJ hv => ?_⟩
  refine calls_of_fen (n := 0) (callsIn_of_wp_marks hf hb trivial ?_)
  have hlen : ∀ (l : List AV) (vs : List Value), RVs J w l vs → vs.length = l.length := by
    intro l
    induction l with
    | nil => intro vs h; simp only [RVs] at h; subst h; rfl
    | cons x l ih => intro vs h; simp only [RVs] at h; obtain ⟨u, us, rfl, _, h⟩ := h; simp [ih us h]
  have hl := hlen _ _ hv
  let J' : Nat → Prop := J
  have hr : Rel ⟨w.heap.size, J'⟩ fn.ntmps ⟨initF args, fun _ => 0, fun _ => none⟩ (fun _ => none) { tmps := vs.toArray ++ Array.replicate (fn.ntmps - vs.toArray.size) undef, defers := [] } w := by
    refine ⟨rfl, by simp; omega, fun i => ?_, fun id cells ho => (by cases ho), fun id id' a a' ho => (by cases ho), Nat.le_refl _⟩
    have hget : ∀ (l : List AV) (vs : List Value), RVs J w l vs → ∀ (i : Nat) (x : AV), l[i]? = some x → ∃ v, vs[i]? = some v ∧ RV J w x v := by
      intro l
      induction l with
      | nil => intro vs _ i x h; simp at h
      | cons y l ih =>
        intro vs h i x hx
        simp only [RVs] at h
        obtain ⟨u, us, rfl, h1, h2⟩ := h
        cases i with
        | zero => simp at hx; subst hx; exact ⟨u, rfl, h1⟩
        | succ i => simpa using ih us h2 i x (by simpa using hx)
    simp only [initF]
    cases hx : args[i]? with
    | some x =>
      obtain ⟨v, h1, h2⟩ := hget _ _ hv i x hx
      have hlt : i < vs.length := (List.getElem?_eq_some_iff.1 h1).1
      have : (vs.toArray ++ Array.replicate (fn.ntmps - vs.toArray.size) undef).getD i undef = v := by
        rw [Array.getD_eq_getD_getElem?, Array.getElem?_append_left (by simpa using hlt)]
        simp [h1]
      rw [this]
      simp only [Option.getD_some]
      exact RV.rep x (RV.mono (fun b hb => ⟨⟨hJ b hb, fun _ => hb, fun id a ho => by cases ho⟩, rfl⟩) x h2)
    | none =>
      have hge : args.length ≤ i := by simpa using hx
      have : (vs.toArray ++ Array.replicate (fn.ntmps - vs.toArray.size) undef).getD i undef = undef := by
        rw [Array.getD_eq_getD_getElem?, Array.getElem?_append_right (by simp; omega)]
        simp [Array.getElem?_replicate]
        split <;> rfl
      rw [this]
      exact undefRep
  refine wpIn_mono (wpC_soundF (rd := none) (B := B) (ds := []) hT kept_phiC c hcm hok hr ⟨Tr.refl, trivial⟩ (h _ _ _ w _)) (fun e a' w' hp => ?_)
  obtain ⟨s', β', a0, ds', rfl, hQ, hr', ht, hmk⟩ := hp.plain
  have hres' : RetQR T rs R .ret s' → bodyPostM (fen none) 0 P fn (fun e w' => ∃ v r, e = .returned v ∧ R r ∧ w.heap.size ≤ w'.heap.size ∧ (∀ b, b < w.heap.size → w'.heap[b]? = w.heap[b]?) ∧ (w'.os = w.os ∧ w'.output = w.output) ∧ RV (Own ⟨w.heap.size, J'⟩ w') w' r v) .ret { a0 with defers := ds' } w' := by
    intro hQ
    refine leaves_marks hmk (fun w5 h5 => ?_)
    obtain ⟨v, avs, h1, ⟨r, h2, h3⟩, _, vs', rfl, h4⟩ := evalR_results hT (hr'.shut h5) hres hQ
    refine ⟨_, h1, _, r, rfl, h3, by rw [h5.size]; exact ht.size, fun b hb => ?_, ⟨h5.os.1.trans ht.os.1, h5.os.2.trans ht.os.2⟩, h2.rep (hr'.shut h5) h4⟩
    rcases h5.same b with e | ⟨e, _⟩
    · rw [e]; exact ht.old b hb
    · omega
  cases e with
  | normal => exact hres' hQ
  | ret => exact hres' hQ
  | exit id => exact hQ.elim
  | goto l => exact hQ.elim
  | panic ch => exact hQ.elim
  | outgrown => exact hQ.elim

end
end Go.Am

namespace Go.Am
section
variable {P : Program} {T : Nat → TI} {b₀ : Bs} {β : Loc} {w : World}

theorem scArgs_eq {g : Nat → Nat} {ob : Obs} : ∀ {xs : List AV} {vs : List Value}, (xs.all fun x => match x with | .one c => scalarC c | _ => false) = true → RepVs b₀ β g ob w xs vs → vs = xs.map scVal
  | [], vs, _, h => by simp only [RepVs] at h; exact h
  | x :: xs, vs, hs, h => by
    simp only [RepVs] at h
    obtain ⟨u, us, rfl, h1, h2⟩ := h
    simp only [List.all_cons, Bool.and_eq_true] at hs
    rw [List.map_cons, ← scArgs_eq hs.2 h2]
    congr 1
    cases x with
    | one c =>
      simp only [RepV] at h1
      simp only [scVal]
      cases c with
      | d x => simp only [RepC] at h1; exact RepD.scalar hs.1 h1
      | _ => simp [scalarC] at hs
    | _ => simp at hs

/-- A call of a function without a body, that reads no memory. -/
theorem hook_extern {o : Oper} {s : St} {K : St → Prop} {k : Box K} {B : Nat} {f : FuncId} {args : Array Operand} {tys : Array TypeId} (ho : o.op = .call ⟨.value (.func f), args, tys⟩)
    (hs : ((args.toList.map s.ev).all fun x => match x with | .one c => scalarC c | _ => false) = true) {x : D} (hx : scalarD x = true)
    (hrun : ∀ w : World, (callFunc f ((args.toList.map s.ev).map scVal).toArray).run P w = .ok (.value (scD x)) w) (hk : K (s.put o.dst (.one (.d x)))) : hookA (spB P B) o s k := by
  refine ⟨fun s' => s' = s.put o.dst (.one (.d x)), fun b₀ N β a w hr hd next Q hn => ?_, fun _ e => e ▸ hk⟩
  have hv := scArgs_eq hs (args_rep hr args.toList)
  have h := hrun w
  rw [← hv, show (args.toList.map a.eval).toArray = args.map a.eval from Array.ext' (by simp)] at h
  have hex : (execOp a.eval o).run P w = .ok (.value (scD x)) w := by
    simp [execOp, ho, resolve, Act.eval, Deferred.ofValue, invoke]
    exact h
  exact wp_value hex (hn _ β _ w rfl (hr.put hd (by simp only [RepV, RepC]; exact scD_rep hx)) (Tr.same (St.put_gen _ _ _) (St.put_obj _ _ _) rfl))

theorem hook_usd_nil {o : Oper} {s : St} {K : St → Prop} {k : Box K} {B : Nat} {x : Operand} {tys : Array TypeId} (ho : o.op = .call ⟨.builtin .unsafeSliceData, #[x], tys⟩) (hx : s.ev x = .one (.d .nsl)) (hk : K (s.put o.dst (.one (.d .nilp)))) : hookA (spB P B) o s k := by
  refine ⟨fun s' => s' = s.put o.dst (.one (.d .nilp)), fun b₀ N β a w hr hd next Q hn => ?_, fun _ e => e ▸ hk⟩
  have hv := hr.ev x
  rw [hx] at hv
  simp only [RepV, RepC] at hv
  have hv := hv.inv_nsl
  have hex : (execOp a.eval o).run P w = .ok (.value (.pointer none)) w := by
    simp [execOp, ho, resolve, invoke, hv, builtin, Lib.run_unsafeSliceData_nil]
  exact wp_value hex (hn _ β _ w rfl (hr.put hd (by simp only [RepV, RepC]; exact .nilp)) (Tr.same (St.put_gen _ _ _) (St.put_obj _ _ _) rfl))

theorem hook_usd {o : Oper} {s : St} {K : St → Prop} {k : Box K} {B : Nat} {x : Operand} {tys : Array TypeId} (ho : o.op = .call ⟨.builtin .unsafeSliceData, #[x], tys⟩) {id g off len : Nat} (hx : s.ev x = .one (.osl id g 1 off len)) (hg : s.gen id = g) (hob : (s.obj id).isSome = true) (hl : 0 < len)
    (hk : K (s.put o.dst (.one (.ptr id g off)))) : hookA (spB P B) o s k := by
  refine ⟨fun s' => s' = s.put o.dst (.one (.ptr id g off)), fun b₀ N β a w hr hd next Q hn => ?_, fun _ e => e ▸ hk⟩
  have hv := hr.ev x
  rw [hx] at hv
  simp only [RepV, RepC] at hv
  obtain ⟨_, hle, hat⟩ := hv
  have hat := hat hg hob
  cases hβ : β id with
  | none => rw [hβ] at hat; have := hat.1; omega
  | some ad =>
    rw [hβ] at hat
    obtain ⟨hsp, ⟨cap, hv, hc, _⟩ | ⟨h0, _⟩⟩ := hat
    · have hex : (execOp a.eval o).run P w = .ok (.value (.pointer (some ⟨ad.block, ad.off + off, none⟩))) w := by
        have := Lib.run_unsafeSliceData_row (P := P) (w := w) tys o.type ⟨ad.block, ad.off + off, none⟩ len cap (by omega)
        simp [execOp, ho, resolve, invoke, hv, builtin, this]
      refine wp_value hex (hn _ β _ w rfl (hr.put hd ?_) (Tr.same (St.put_gen _ _ _) (St.put_obj _ _ _) rfl))
      simp only [RepV, RepC]
      exact ⟨rfl, hle, fun _ _ => ⟨ad, hβ, hsp, rfl⟩⟩
    · omega

theorem hook_ustr_nil {o : Oper} {s : St} {K : St → Prop} {k : Box K} {B : Nat} {p n : Operand} {t1 t2 : TypeId} (ho : o.op = .call ⟨.builtin .unsafeString, #[p, n], #[t1, t2]⟩) (hp : s.ev p = .one (.d .nilp)) (hn0 : s.ev n = iv .i64 0) (hk : K (s.put o.dst (sv []))) : hookA (spB P B) o s k := by
  refine ⟨fun s' => s' = s.put o.dst (sv []), fun b₀ N β a w hr hd next Q hn => ?_, fun _ e => e ▸ hk⟩
  have hv := hr.ev p
  have hw := hr.ev n
  rw [hp] at hv
  rw [hn0] at hw
  simp only [RepV, RepC] at hv hw
  have hw := hw.inv_int
  have hv : a.eval p = .pointer none := by generalize a.eval p = v at hv; cases hv; rfl
  have hex : (execOp a.eval o).run P w = .ok (.value (.string .empty)) w := by
    simp [execOp, ho, resolve, invoke, hv, hw, builtin, Lib.run_unsafeString_none]
  refine wp_value hex (hn _ β _ w rfl (hr.put hd ?_) (Tr.same (St.put_gen _ _ _) (St.put_obj _ _ _) rfl))
  simp only [RepV, RepC]
  exact .str []

theorem freeze_size (w : World) (a : Addr) (n : Nat) : (w.freeze a n).heap.size = w.heap.size := by unfold World.freeze; split <;> simp
theorem freeze_os (w : World) (a : Addr) (n : Nat) : (w.freeze a n).os = w.os ∧ (w.freeze a n).output = w.output := by unfold World.freeze; split <;> exact ⟨rfl, rfl⟩
theorem freeze_other (w : World) (a : Addr) (n : Nat) {b : Nat} (hb : b ≠ a.block) : (w.freeze a n).heap[b]? = w.heap[b]? := by
  unfold World.freeze
  split
  · rfl
  · simp only [Array.getElem?_modify]
    rw [if_neg (fun e => hb e.symm)]

/-- An object is given up, and its block turns. -/
theorem rel_gone {N : Nat} {s : St} {a : Act} (hr : Rel b₀ N s β a w) {id : Nat} {ad : Addr} (ho : (s.obj id).isSome = true) (hβ : β id = some ad) {w' : World} (hsz : w'.heap.size = w.heap.size) (hos : w'.os = w.os ∧ w'.output = w.output) (hoth : ∀ b, b ≠ ad.block → w'.heap[b]? = w.heap[b]?) :
    Rel b₀ N { s with obj := upd s.obj id none } β a w' ∧ Tr b₀ β s w β { s with obj := upd s.obj id none } w' := by
  have hB : b₀.B ≤ ad.block := by
    obtain ⟨cells, hc⟩ := Option.isSome_iff_exists.1 ho
    have := hr.obj id cells hc
    rw [hβ] at this
    exact this.block.1
  have hlive : ∀ i, (upd s.obj id none i).isSome = true → i ≠ id ∧ (s.obj i).isSome = true := fun i hi => by
    simp only [upd] at hi
    by_cases hid : i = id
    · simp [hid] at hi
    · rw [if_neg hid] at hi; exact ⟨hid, hi⟩
  have hne : ∀ i a', (upd s.obj id none i).isSome = true → β i = some a' → a'.block ≠ ad.block := fun i a' hi ha' hb => (hlive i hi).1 (hr.inj i id a' ad (hlive i hi).2 ho ha' hβ hb)
  have hkeep : Keep b₀ β s.gen s.obj w β s.gen (upd s.obj id none) w' := by
    refine ⟨fun b hb => ?_, fun _ => Nat.le_refl _, fun i _ hi => ?_⟩
    · have hnb : b ≠ ad.block := fun he => hb.2.2 id ad ho hβ he.symm
      exact ⟨⟨by rw [hsz]; exact hb.1, hb.2.1, fun i a' hi => hb.2.2 i a' (hlive i hi).2⟩, hoth b hnb⟩
    · refine ⟨(hlive i hi).2, rfl, fun a' ha' arr1 el1 fr1 h1 => ?_⟩
      rw [hoth _ (hne i a' hi ha')] at h1
      exact ⟨arr1, el1, fr1, h1, Nat.le_refl _⟩
  refine ⟨⟨hr.defers, hr.size, fun i => RepV.keep hkeep _ (hr.f i), fun i cells' hc' => ?_, fun i i' a1 a2 h1 h2 => hr.inj i i' a1 a2 (hlive i h1).2 (hlive i' h2).2, by rw [hsz]; exact hr.base⟩, by rw [hsz]; exact Nat.le_refl _, fun b hb => hoth b (by omega), hkeep, hos⟩
  have hi : (upd s.obj id none i).isSome = true := by
    have : upd s.obj id none i = some cells' := hc'
    rw [this]; rfl
  have hc'' : s.obj i = some cells' := by
    have h := hc'
    simp only [upd, if_neg (hlive i hi).1] at h
    exact h
  exact (hr.obj i cells' hc'').keep hkeep (fun a' ha' => hoth _ (hne i a' hi ha'))

theorem hook_ustr {o : Oper} {s : St} {K : St → Prop} {k : Box K} {B : Nat} {p n : Operand} {t1 t2 e : TypeId} (ho : o.op = .call ⟨.builtin .unsafeString, #[p, n], #[t1, t2]⟩) (ht : P.underlying t1 = some (.pointer e)) (hce : P.cellsOf e = 1) {id g : Nat} {l : List UInt8}
    (hp : s.ev p = .one (.ptr id g 0)) (hn0 : s.ev n = iv .i64 l.length) (hg : s.gen id = g) (hcode : code g = e + 1) {cells : List C} (hob : s.obj id = some cells) (hfit : cells.take l.length = l.map fun b => .d (byteD b)) (hl : l ≠ []) (h63 : l.length ≤ 9223372036854775807)
    (hk : K (St.put { s with obj := upd s.obj id none } o.dst (sv l))) : hookA (spB P B) o s k := by
  refine ⟨fun s' => s' = St.put { s with obj := upd s.obj id none } o.dst (sv l), fun b₀ N β a w hr hd next Q hn => ?_, fun _ e => e ▸ hk⟩
  have hv := hr.ev p
  have hw := hr.ev n
  rw [hp] at hv
  rw [hn0] at hw
  simp only [RepV, RepC] at hv hw
  have hw := hw.inv_int
  obtain ⟨ad, hβ, hsp, hv⟩ := hv.2.2 hg (by rw [hob]; rfl)
  have hobj := hr.obj id cells hob
  rw [hβ] at hobj
  obtain ⟨_, arr, el, lo, hi, hblk, ⟨_, hcl⟩, hlen, hcells⟩ := hobj.cells hsp
  rw [hg, hcode] at hcl
  obtain ⟨hel, hoff⟩ := hcl (by omega)
  have hel : el = e := Nat.add_right_cancel hel
  subst hel
  have hll : l.length ≤ cells.length := by
    have := congrArg List.length hfit
    simp at this
    omega
  have hrun := Lib.run_unsafeString_row (P := P) (w := w) t1 t2 o.type el ht hce ad.block (arr.size) (by simp [World.shape?, hblk]) l hl (by omega) h63 (fun j x hx => by
    have hjl := (List.getElem?_eq_some_iff.1 hx).1
    have hcj : cells[j]? = some (.d (byteD x)) := by
      have := congrArg (fun m : List C => m[j]?) hfit
      simp only [List.getElem?_take, hjl, if_true, List.getElem?_map, hx, Option.map_some] at this
      exact this
    obtain ⟨u, hu, hru⟩ := hcells j _ hcj
    simp only [RepC, byteD] at hru
    have hru := hru.inv_int
    rw [hoff, Nat.zero_add] at hu
    rw [addr_add, Nat.zero_add, cell?_of_arr hblk, hu, hru])
  have hex : (execOp a.eval o).run P w = .ok (.value (.string ⟨l.toArray⟩)) (w.freeze ⟨ad.block, 0, none⟩ l.length) := by
    rw [hoff] at hv
    simp [execOp, ho, resolve, invoke, hv, hw, builtin, hrun]
  obtain ⟨r1, t1⟩ := rel_gone hr (by rw [hob]; rfl) hβ (freeze_size w ⟨ad.block, 0, none⟩ l.length) (freeze_os _ _ _) (fun b hb => freeze_other w ⟨ad.block, 0, none⟩ l.length hb)
  refine wp_value hex (hn _ β _ _ rfl (r1.put hd ?_) (t1.trans (Tr.same (St.put_gen _ _ _) (St.put_obj _ _ _) rfl)))
  simp only [RepV, RepC]
  exact .str l

end
end Go.Am

namespace Go.Am

/-- Objects are given up, to which nothing that is wanted points. -/
theorem vs_drops {s : St} (p : Nat → Bool) : SemVs s ⟨s.f, s.gen, fun i => if p i = true then none else s.obj i⟩ := by
  refine vs_freeze (fun i => p i = true) rfl (fun i => .inl rfl) (fun i cells' hc => ?_)
  simp only at hc
  by_cases h : p i = true
  · rw [if_pos h] at hc; cases hc
  · rw [if_neg h] at hc
    exact ⟨h, cells', hc, rfl, fun j c c' e1 e2 => .inl (by rw [e1] at e2; exact (Option.some.inj e2).symm)⟩

theorem retF_drops {res : List Nat} {R : AV → (Nat → Nat) → Obs → Prop} {s : St} (p : Nat → Bool) (h : R (resAV s.f res) s.gen (fun i => if p i = true then none else s.obj i)) : RetF res R .normal s := ⟨_, vs_drops p, h⟩
theorem retF_dropsR {res : List Nat} {R : AV → (Nat → Nat) → Obs → Prop} {s : St} (p : Nat → Bool) (h : R (resAV s.f res) s.gen (fun i => if p i = true then none else s.obj i)) : RetF res R .ret s := ⟨_, vs_drops p, h⟩

@[go_sem] theorem absV_nili : absV .nilIface = .one (.d .nili) := Eq.trans rfl rfl
@[go_sem] theorem absV_nilf : absV .nilFunc = .one (.d .nilf) := Eq.trans rfl rfl

end Go.Am

namespace Go.Am
section
variable {P : Program} {T : Nat → TI} {b₀ : Bs} {rd : Option Nat} {Φ : St → Loc → List Deferred → World → Prop} {Ψ : PanF} {B0 : Nat}

theorem loop_introF {B : (Exit → St → Prop) → St → Prop} {b : Box B} {Q : Exit → St → Prop} {q : Box Q} {s : St} (I : Nat → St → Prop) (n : Nat) (h0 : I n s)
    (hr : ∀ n f g ob, I n ⟨f, g, ob⟩ → B (thenA (bx fun s' => ∃ n' s₁, n' < n ∧ (spF P rd b₀ Φ B0 Ψ).vs s' s₁ ∧ I n' s₁) q) ⟨f, g, ob⟩) : LoopA (spF P rd b₀ Φ B0 Ψ) b q s :=
  ⟨I, ⟨n, s, SemVs.refl s, h0⟩, fun n s hs => hr n s.f s.gen s.obj hs⟩
theorem round_endF {I : Nat → St → Prop} {n : Nat} {s : St} (n' : Nat) (h : n' < n) (hI : I n' s) : ∃ n' s₁, n' < n ∧ (spF P rd b₀ Φ B0 Ψ).vs s s₁ ∧ I n' s₁ := ⟨n', s, h, SemVs.refl s, hI⟩

theorem hook_callF (hΦ : KeptTr b₀ Φ) {o : Oper} {s : St} {K : St → Prop} {k : Box K} {f : FuncId} {args : Array Operand} {tys : Array TypeId} (ho : o.op = .call ⟨.value (.func f), args, tys⟩) {R : AV → Prop}
    (hp : PureR P f (args.toList.map s.ev) R) (hd : (args.toList.map s.ev).all dataAV = true) (hk : ∀ r, R r → K (s.put o.dst r)) : hookA (spF P rd b₀ Φ B0 Ψ) o s k :=
  hookF hΦ (by simp [noDefer, ho]) (hook_pure (B := 0) (k := k) ho hp hd hk)

theorem hook_funF (hΦ : KeptTr b₀ Φ) {o : Oper} {s : St} {K : St → Prop} {k : Box K} {f : FuncId} {args : Array Operand} {tys : Array TypeId} (ho : o.op = .call ⟨.value (.func f), args, tys⟩) {R : AV → (Nat → Nat) → Obs → Prop}
    (hp : FunR P f (args.toList.map s.ev) s.gen s.obj R) (hk : ∀ r g' ob', R r g' ob' → K (St.put ⟨s.f, g', ob'⟩ o.dst r)) : hookA (spF P rd b₀ Φ B0 Ψ) o s k :=
  hookF hΦ (by simp [noDefer, ho]) (hook_fun (B := 0) (k := k) ho hp hk)

/-- A call of a function value that holds no variables. -/
theorem hook_fnv {o : Oper} {s : St} {K : St → Prop} {k : Box K} {B : Nat} {t : Nat} {args : Array Operand} {tys : Array TypeId} (ho : o.op = .call ⟨.value (.tmp t), args, tys⟩) {f : FuncId} (hf : s.f t = .one (.d (.fn f))) {R : AV → Prop}
    (hp : PureR P f (args.toList.map s.ev) R) (hd : (args.toList.map s.ev).all dataAV = true) (hk : ∀ r, R r → K (s.put o.dst r)) : hookA (spB P B) o s k := by
  refine ⟨fun s' => ∃ r, R r ∧ s' = s.put o.dst r, ?_, fun _ ⟨r, hr, e⟩ => e ▸ hk r hr⟩
  intro b₀ N β a w hr hdst next Q hn
  have hv := hr.f t
  rw [hf] at hv
  simp only [RepV, RepC] at hv
  have hv : a.tmps.getD t undef = .func (.func f) #[] #[] := by generalize a.tmps.getD t undef = v at hv; cases hv; rfl
  have hrun : (execOp a.eval o).run P w = .ok (.enter f (args.map a.eval)) w := by
    obtain ⟨fn, h1, h2, h3⟩ := hp.1
    have h2 : ¬ fn.body = none := by intro h; rw [h] at h2; simp at h2
    have h3 : ¬ fn.name = "runtime.NumGoroutine" := by simpa using h3
    simp [execOp, ho, resolve, Act.eval, hv, Deferred.ofValue, invoke, callFunc, h1, h2, h3]
  unfold Oper.wp
  rw [hrun]
  simp only [Oper.upon]
  have hargs : ∀ l : List Operand, (l.map s.ev).all dataAV = true → RVs (Imm b₀ β s.obj w) w (l.map s.ev) (l.map a.eval) := by
    intro l
    induction l with
    | nil => intro _; simp only [List.map_nil, RVs]
    | cons x l ih =>
      intro h
      simp only [List.map_cons, List.all_cons, Bool.and_eq_true] at h
      simp only [List.map_cons, RVs]
      exact ⟨_, _, rfl, RepV.data h.1 (hr.ev x), ih h.2⟩
  have := hp.2 (Imm b₀ β s.obj w) w (args.toList.map a.eval) (fun _ h => h.1) (hargs _ hd)
  rw [show (args.toList.map a.eval).toArray = args.map a.eval from Array.ext' (by simp)] at this
  refine this.mono fun e w' ⟨v, r, he, hR, hs, hh, hos, hv⟩ => ?_
  subst he
  obtain ⟨g1, g2⟩ := hr.grow hs hh hos
  refine hn _ β _ w' ⟨r, hR, rfl⟩ (g1.put hdst (RV.rep r (RV.mono (fun b hb => ⟨imm_new hr (fun _ h => h) hb, rfl⟩) r hv))) (g2.trans (Tr.same (St.put_gen _ _ _) (St.put_obj _ _ _) rfl))

theorem hook_fnvF (hΦ : KeptTr b₀ Φ) {o : Oper} {s : St} {K : St → Prop} {k : Box K} {t : Nat} {args : Array Operand} {tys : Array TypeId} (ho : o.op = .call ⟨.value (.tmp t), args, tys⟩) {f : FuncId} (hf : s.f t = .one (.d (.fn f))) {R : AV → Prop}
    (hp : PureR P f (args.toList.map s.ev) R) (hd : (args.toList.map s.ev).all dataAV = true) (hk : ∀ r, R r → K (s.put o.dst r)) : hookA (spF P rd b₀ Φ B0 Ψ) o s k :=
  hookF hΦ (by simp [noDefer, ho]) (hook_fnv (B := 0) (k := k) ho hf hp hd hk)

theorem hook_viewF (hΦ : KeptTr b₀ Φ) {o : Oper} {s : St} {K : St → Prop} {k : Box K} {f : FuncId} {args : Array Operand} {tys : Array TypeId} (ho : o.op = .call ⟨.value (.func f), args, tys⟩) {R : AV → Prop} {xs : List AV}
    (hx : FrzVs s (args.toList.map s.ev) xs) (hp : PureR P f xs R) (hd : ∀ r, R r → scalarAV r = true) (hk : ∀ r, R r → K (s.put o.dst r)) : hookA (spF P rd b₀ Φ B0 Ψ) o s k :=
  hookF hΦ (by simp [noDefer, ho]) (hook_view (k := k) ho hx hp hd hk)
end
section
variable {S : Sp} {T : Nat → TI}
@[go_sem] theorem wpC_rangeFunc {fo : Operand} {ps : Array Tmp} {x y : Code} {f : Nat → AV} {g : Nat → Nat} {ob : Nat → Option (List C)} {Q : Exit → St → Prop} {q : Box Q} : wpC S T (.rangeFunc fo ps x y) q ⟨f, g, ob⟩ = hookC S (.rangeFunc fo ps x y) ⟨f, g, ob⟩ q := Eq.trans rfl rfl
end
end Go.Am

namespace Go.Am
open Go.ChangeShapes Go.WideShapes Go.ChangeAt Go.RowKit
variable {H : Type} {enc : TypeId × Value → H}

theorem returns_of_law_laid {C : Checked} {os : Os} {f : FuncId} {fn : Func} {s : ChangeSpec} {conds : List PathCond} {laid : List (String × DataW Unit)} (own : ownKnob C.prog.godebug = none) (started : os.Started) (noInit : C.prog.inits.idxOf? f = none) (hfn : C.prog.funcs[f]? = some fn)
    (witness : ∃ (w : World) (tape : Tape) (i : Input), w.os = os ∧ (w.forCall tape i).Shaped C.prog ∧ i.vars = [] ∧ Input.okWide C.prog (w.forCall tape i) .any w.heap.size f i ∧
      ((s.pre enc C.prog fn conds false (w.forCall tape i).memory i.args ∧ laidMetH C.prog laid (w.forCall tape i).memory) ∧ sizedMet enc C.prog fn (OpenSpec.ofChange s) false (w.forCall tape i).memory i.args) ∧ Assume.holds {} C.prog (lone (Frame.enter C.prog f i.args .normal) [] (w.forCall tape i)))
    (hvars : s.vars = []) (hl : laidOutB C.prog = true) (hts : fn.params.toList.all (fun t => C.prog.readableRec t && decide (t < C.prog.types.size)) = true) {tb : TypeId} (hres : fn.resultTypes = #[tb]) (htb : C.prog.underlying tb = some .bool)
    (hspec : ∀ ds : List (DataW H), ds.length = fn.params.toList.length → s.fn H ds = { results := [.lit (.bool true)], args := ds })
    (hcall : ∀ (W : World) (base : Nat) (args : Array Value) (ds : List (DataW H)) (ps : List MemPlace), (∀ (j : Nat) t v, fn.params[j]? = some t → args[j]? = some v → Value.okWide C.prog W .any base t v) → DataW.TrodAll enc C.prog W 0 (fun _ => true) true fn.params.toList args.toList ds ps → (DataW.weightsEach C.prog fn.params.toList ds).all (· ≤ reachBytes) = true → SaysTrue C.prog f args W) :
    ReturnsInHanded {} C os f .any (fun w args => (s.pre enc C.prog fn conds false w args ∧ laidMetH C.prog laid w) ∧ sizedMet enc C.prog fn (OpenSpec.ofChange s) false w args) (s.post enc C.prog fn false true false false) := by
  refine returnsInHanded_of_change_and (X := fun w _ => laidMetH C.prog laid w) (fun _ _ _ hh h => h.of_heap hh) own started noInit hfn witness ?_
  intro W base args ds gs before hval hW hcnd hsz _ _
  have hW' := hW
  obtain ⟨p, q, hA, hV, rfl, hfz, hnd⟩ := hW
  rw [hvars] at hV
  obtain ⟨rfl, rfl⟩ := trodVars_none hV
  have hvt : s.plain.varTypes C.prog = [] := by simp [ChangeSpec.plain, DataSpec.varTypes, hvars]
  rw [hvt, List.append_nil, List.append_nil] at hsz
  refine (hcall W base args ds p hval hA hsz).mono fun e W' ⟨he, hs, hb, ho⟩ => ⟨_, he, ?_⟩
  have hlt : ∀ x ∈ p, x.block < W.heap.size := fun x hx => hW'.lt x (by simp [hx])
  have hsp : s.fn H (ds ++ []) = { results := [.lit (.bool true)], args := ds } := by rw [List.append_nil]; exact hspec ds (trodAll_len _ _ _ _ hA)
  refine ⟨ds, [], p ++ [], [], p, [], hW', ?_, ?_, ?_, kept_of hb ho _, fun h => by cases h⟩
  · rw [hsp, hres]
    exact trodAll_mk1 ⟨1, by simp [DataW.trod, htb, Value.cells]⟩
  · rw [hsp]
    exact trodAll_stays hl hb _ _ _ _ hts hlt hA
  · rw [hsp, hvars]
    exact rfl

end Go.Am

namespace Go.Am

/-- The blocks up to a number are as they were told. -/
abbrev Hold := Nat → Option Obj
def Held (gb : Nat) (o : Hold) (w : World) : Prop := gb < w.heap.size ∧ ∀ b, b ≤ gb → w.heap[b]? = o b
theorem Held.lt {gb : Nat} {o : Hold} {w : World} (h : Held gb o w) : gb < w.heap.size := h.1
theorem Held.down {gb gb' : Nat} {o : Hold} {w : World} (hl : gb ≤ gb') (h : Held gb' o w) : Held gb o w := ⟨Nat.lt_of_le_of_lt hl h.1, fun b hb => h.2 b (Nat.le_trans hb hl)⟩

/-- .. and such blocks as data may refer to. -/
def HeldI (b₀ : Bs) (gb : Nat) (o : Hold) (w : World) : Prop := (gb < b₀.B ∧ ∀ b, b ≤ gb → b₀.I b) ∧ Held gb o w

/-- PureR, where an old block holds o. -/
def PureG (P : Program) (gb : Nat) (o : Hold) (f : FuncId) (args : List AV) (R : AV → Prop) : Prop :=
  Fine P f ∧ ∀ (J : Nat → Prop) (w : World) (vs : List Value), Held gb o w → (∀ b, J b → b < w.heap.size) → RVs J w args vs →
    Calls P f vs.toArray w fun e w' => ∃ v r, e = .returned v ∧ R r ∧ w.heap.size ≤ w'.heap.size ∧ (∀ b, b < w.heap.size → w'.heap[b]? = w.heap[b]?) ∧ (w'.os = w.os ∧ w'.output = w.output) ∧ RV (fun b => b < w'.heap.size ∧ (b < w.heap.size → J b ∨ b ≤ gb)) w' r v

theorem PureR.toG {P : Program} {gb : Nat} {o : Hold} {f : FuncId} {args : List AV} {R : AV → Prop} (h : PureR P f args R) : PureG P gb o f args R :=
  ⟨h.1, fun J w vs _ h1 h2 => (h.2 J w vs h1 h2).mono fun _ _ ⟨v, r, q1, q2, q3, q4, q5, q6⟩ => ⟨v, r, q1, q2, q3, q4, q5, RV.mono (fun _ hb => ⟨⟨hb.1, fun hl => .inl (hb.2 hl)⟩, rfl⟩) r q6⟩⟩

/-- FunR, where a block that is older than the caller's own objects holds o. -/
def FunG (P : Program) (gb : Nat) (o : Hold) (f : FuncId) (xs : List AV) (g : Nat → Nat) (ob : Obs) (R : AV → (Nat → Nat) → Obs → Prop) : Prop :=
  Fine P f ∧ ∀ (b₀ : Bs) (N : Nat) (β : Loc) (a : Act) (fa : Nat → AV) (w : World) (vs : List Value), gb < b₀.B → HeldI b₀ gb o w → Rel b₀ N ⟨fa, g, ob⟩ β a w → RepVs b₀ β g ob w xs vs →
    Calls P f vs.toArray w fun e w' => ∃ v r g' ob' β', e = .returned v ∧ R r g' ob' ∧ RepV b₀ β' g' ob' w' r v ∧
      (∀ id cells, ob' id = some cells → ObjAt b₀ β' g' ob' w' (g' id) cells (β' id)) ∧ (∀ id id' a a', (ob' id).isSome = true → (ob' id').isSome = true → β' id = some a → β' id' = some a' → a.block = a'.block → id = id') ∧
      Tr b₀ β ⟨fa, g, ob⟩ w β' ⟨fa, g', ob'⟩ w'

theorem FunR.toG {P : Program} {gb : Nat} {o : Hold} {f : FuncId} {xs : List AV} {g : Nat → Nat} {ob : Obs} {R : AV → (Nat → Nat) → Obs → Prop} (h : FunR P f xs g ob R) : FunG P gb o f xs g ob R := ⟨h.1, fun b₀ N β a fa w vs _ _ => h.2 b₀ N β a fa w vs⟩

/-- What holds along in a frame of such a function. -/
def PhiG (gb : Nat) (o : Hold) (b₀ : Bs) (β0 : Loc) (s0 : St) (w0 : World) : St → Loc → List Deferred → World → Prop := fun s β ds w => (gb < b₀.B ∧ HeldI b₀ gb o w) ∧ PhiC b₀ β0 s0 w0 s β ds w

section
variable {P : Program} {T : Nat → TI} {b₀ : Bs} {rd : Option Nat} {gb : Nat} {o : Hold} {Ψ : PanF} {B0 : Nat} {β0 : Loc} {s0 : St} {w0 : World}

theorem kept_phiG : KeptTr b₀ (PhiG gb o b₀ β0 s0 w0) := fun _ _ _ _ _ _ _ h ht => ⟨⟨h.1.1, h.1.2.1, Nat.lt_of_lt_of_le h.1.2.2.1 ht.size, fun b hb => by rw [ht.old b (Nat.lt_of_le_of_lt hb h.1.1)]; exact h.1.2.2.2 b hb⟩, kept_phiC _ _ _ _ _ _ _ h.2 ht⟩

theorem imm_held {N : Nat} {s : St} {β : Loc} {a : Act} {w : World} (hr : Rel b₀ N s β a w) (hG : HeldI b₀ gb o w) {b : Nat} (hb : b ≤ gb) : Imm b₀ β s.obj w b := by
  refine ⟨Nat.lt_of_le_of_lt hb hG.2.1, fun _ => hG.1.2 b hb, fun id a' ho hβ he => ?_⟩
  obtain ⟨cells, hc⟩ := Option.isSome_iff_exists.1 ho
  have h := hr.obj id cells hc
  rw [hβ] at h
  have h1 := h.block.1
  have h2 := hG.1.1
  omega

theorem hook_callG {Φ : St → Loc → List Deferred → World → Prop} (hΦ : KeptTr b₀ Φ) (hG : ∀ s β ds w, Φ s β ds w → HeldI b₀ gb o w) {op : Oper} {s : St} {K : St → Prop} {k : Box K} {f : FuncId} {args : Array Operand} {tys : Array TypeId} (ho : op.op = .call ⟨.value (.func f), args, tys⟩) {R : AV → Prop}
    (hp : PureG P gb o f (args.toList.map s.ev) R) (hd : (args.toList.map s.ev).all dataAV = true) (hk : ∀ r, R r → K (s.put op.dst r)) : hookA (spF P rd b₀ Φ B0 Ψ) op s k := by
  refine ⟨fun s' => ∃ r, R r ∧ s' = s.put op.dst r, ?_, fun _ ⟨r, hr, e⟩ => e ▸ hk r hr⟩
  intro N β a ds w hr hφ hdst next Q hn _
  have hnd : noDefer op = true := by simp [noDefer, ho]
  refine wp_fen hnd ?_
  unfold Oper.wp
  rw [run_call ho hp.1 w]
  simp only [Oper.upon]
  have hargs : ∀ l : List Operand, (l.map s.ev).all dataAV = true → RVs (Imm b₀ β s.obj w) w (l.map s.ev) (l.map a.eval) := by
    intro l
    induction l with
    | nil => intro _; simp only [List.map_nil, RVs]
    | cons x l ih =>
      intro h
      simp only [List.map_cons, List.all_cons, Bool.and_eq_true] at h
      simp only [List.map_cons, RVs]
      exact ⟨_, _, rfl, RepV.data h.1 (hr.ev x), ih h.2⟩
  have := hp.2 (Imm b₀ β s.obj w) w (args.toList.map a.eval) (hG _ _ _ _ hφ).2 (fun _ h => h.1) (hargs _ hd)
  rw [show (args.toList.map a.eval).toArray = args.map a.eval from Array.ext' (by simp)] at this
  refine this.mono fun e w' ⟨v, r, he, hR, hs, hh, hos, hv⟩ => ?_
  subst he
  obtain ⟨g1, g2⟩ := hr.grow hs hh hos
  have g3 := g2.trans (Tr.same (St.put_gen s op.dst r) (St.put_obj s op.dst r) rfl)
  have h1 := g1.put hdst (RV.rep r (RV.mono (fun b hb => ⟨imm_new hr (J := fun b => Imm b₀ β s.obj w b ∨ b ≤ gb) (fun b h => h.elim id (imm_held hr (hG _ _ _ _ hφ))) hb, rfl⟩) r hv))
  exact ⟨h1.defers, hn _ β _ w' ⟨r, hR, rfl⟩ h1 (hΦ _ _ _ _ _ _ _ hφ g3)⟩

/-- An element of a package's table, which is held: its address tells what is there. -/
theorem hook_gidx {Φ : St → Loc → List Deferred → World → Prop} (hΦ : KeptTr b₀ Φ) (hG : ∀ s β ds w, Φ s β ds w → HeldI b₀ gb o w) (hT : TabOk P T) {dst : Option Tmp} {t n e gi : Nat} {ix : Operand} {ty : TypeId} {ps : String} {af : Array Edge} {gd : Option (Nat × Bool)} {s : St} {K : St → Prop} {k : Box K}
    (ht : (T t).desc = .array n e) (he : okD (T e).desc = true) (hgi : gi ≤ gb) {kd : IntKind} {i : Nat} (hix : s.ev ix = iv kd i) (hi : i < n) {cs : List D} (hcs : ∀ (j : Nat) (x : D), cs[j]? = some x → plainD x = true)
    (hrow : ∀ w : World, Held gb o w → ∀ (j : Nat) (x : D), cs[j]? = some x → w.cell? ⟨gi, i * (T e).size + j, none⟩ = some (dV x)) (hk : K (s.put dst (.one (.d (.iptr cs))))) :
    hookA (spF P rd b₀ Φ B0 Ψ) ⟨dst, .indexAddr t (.global gi) ix, ty, ps, af, gd⟩ s k := by
  refine ⟨fun s' => s' = s.put dst (.one (.d (.iptr cs))), fun N β a ds w hr hφ hd next Q hn _ => ?_, fun _ e => e ▸ hk⟩
  refine wp_fen rfl ?_
  have hH := hG _ _ _ _ hφ
  have hvi := hr.ev ix
  rw [hix] at hvi
  simp only [RepV, RepC] at hvi
  have hvi := hvi.inv_int
  have hu := (hT t (by rw [ht]; rfl)).desc
  rw [ht] at hu
  have hte := hT e he
  have hex : (execOp a.eval ⟨dst, .indexAddr t (.global gi) ix, ty, ps, af, gd⟩).run P w = .ok (.value (.pointer (some ⟨gi, i * (T e).size, none⟩))) w := by
    simp [execOp, hvi, show a.eval (.global gi) = .pointer (some ⟨gi, 0, none⟩) from rfl, Instr.indexAt, asIntOf, run_underlying hu, hi, run_sizeOf' hte, addr_add, Instr.sureAddr]
  have hr' := hr.put hd (x := .one (.d (.iptr cs))) (v := .pointer (some ⟨gi, i * (T e).size, none⟩)) (by
    simp only [RepV, RepC]
    refine .iptr (fun j => dV (cs.getD j .nsl)) (fun _ => imm_held hr hH hgi) (fun j x hx => ?_) (fun j x hx => ?_)
    · rw [hrow w hH.2 j x hx]; simp [List.getD_eq_getElem?_getD, hx]
    · rw [show cs.getD j .nsl = x by simp [List.getD_eq_getElem?_getD, hx]]; exact RepD.of_plain (hcs j x hx))
  exact wp_value hex ⟨hr'.defers, hn _ β _ w rfl hr' (hΦ _ _ _ _ _ _ _ hφ (Tr.same (St.put_gen _ _ _) (St.put_obj _ _ _) rfl))⟩

theorem hook_funG {Φ : St → Loc → List Deferred → World → Prop} (hΦ : KeptTr b₀ Φ) (hG : ∀ s β ds w, Φ s β ds w → gb < b₀.B ∧ HeldI b₀ gb o w) {op : Oper} {s : St} {K : St → Prop} {k : Box K} {f : FuncId} {args : Array Operand} {tys : Array TypeId} (ho : op.op = .call ⟨.value (.func f), args, tys⟩) {R : AV → (Nat → Nat) → Obs → Prop}
    (hp : FunG P gb o f (args.toList.map s.ev) s.gen s.obj R) (hk : ∀ r g' ob', R r g' ob' → K (St.put ⟨s.f, g', ob'⟩ op.dst r)) : hookA (spF P rd b₀ Φ B0 Ψ) op s k := by
  refine ⟨fun s' => ∃ r g' ob', R r g' ob' ∧ s' = St.put ⟨s.f, g', ob'⟩ op.dst r, ?_, fun _ ⟨r, g', ob', hr, e⟩ => e ▸ hk r g' ob' hr⟩
  intro N β a ds w hr hφ hdst next Q hn _
  have hnd : noDefer op = true := by simp [noDefer, ho]
  refine wp_fen hnd ?_
  unfold Oper.wp
  rw [run_call ho hp.1 w]
  simp only [Oper.upon]
  obtain ⟨hg1, hg2⟩ := hG _ _ _ _ hφ
  have := hp.2 b₀ N β a s.f w (args.toList.map a.eval) hg1 hg2 hr (args_rep hr _)
  rw [show (args.toList.map a.eval).toArray = args.map a.eval from Array.ext' (by simp)] at this
  refine this.mono fun e w' ⟨v, r, g', ob', β', he, hR, hv, h1, h2, h3⟩ => ?_
  subst he
  obtain ⟨k1, k2⟩ := call_back hr hdst hv h1 h2 h3
  exact ⟨k1.defers, hn _ β' _ w' ⟨r, g', ob', hR, rfl⟩ k1 (hΦ _ _ _ _ _ _ _ hφ k2)⟩
end

/-- What holds along in a frame that bears no marks. -/
def PhiN (gb : Nat) (o : Hold) (b₀ : Bs) (β0 : Loc) (s0 : St) (w0 : World) : St → Loc → List Deferred → World → Prop := fun s β ds w => (gb < b₀.B ∧ HeldI b₀ gb o w) ∧ ds = [] ∧ Tr b₀ β0 s0 w0 β s w

section
variable {P : Program} {T : Nat → TI} {gb : Nat} {o : Hold}
theorem kept_phiN {b₀ : Bs} {β0 : Loc} {s0 : St} {w0 : World} : KeptTr b₀ (PhiN gb o b₀ β0 s0 w0) := fun _ _ _ _ _ _ _ h ht => ⟨⟨h.1.1, h.1.2.1, Nat.lt_of_lt_of_le h.1.2.2.1 ht.size, fun b hb => by rw [ht.old b (Nat.lt_of_le_of_lt hb h.1.1)]; exact h.1.2.2.2 b hb⟩, h.2.1, h.2.2.trans ht⟩

end

theorem PureG.up {P : Program} {gb gb' : Nat} {o : Hold} {f : FuncId} {args : List AV} {R : AV → Prop} (hl : gb ≤ gb') (h : PureG P gb o f args R) : PureG P gb' o f args R := 
  ⟨h.1, fun J w vs hG h1 h2 => (h.2 J w vs (hG.down hl) h1 h2).mono fun _ _ ⟨v, r, q1, q2, q3, q4, q5, q6⟩ => ⟨v, r, q1, q2, q3, q4, q5, RV.mono (fun _ hb => ⟨⟨hb.1, fun hw => (hb.2 hw).imp id (fun h => Nat.le_trans h hl)⟩, rfl⟩) r q6⟩⟩

/-- Of a contract off the shelf: plain arguments, a plain result, and the world as it was but for new blocks. -/
theorem pure_of_shelf {P : Program} {f : FuncId} {args : List AV} (hf : Fine P f) (hs : (args.all fun x => match x with | .one c => scalarC c | _ => false) = true) {r : AV} (hr : scalarAV r = true)
    (h : ∀ w : World, Calls P f (args.map scVal).toArray w fun e w' => e = .returned (scVal r) ∧ w.heap.size ≤ w'.heap.size ∧ (∀ b, b < w.heap.size → w'.heap[b]? = w.heap[b]?) ∧ (w'.os = w.os ∧ w'.output = w.output)) : PureR P f args (· = r) := by
  refine ⟨hf, fun J w vs hJ hv => ?_⟩
  have hvs : vs = args.map scVal := by
    clear h hf
    induction args generalizing vs with
    | nil => simp only [RVs] at hv; exact hv
    | cons x xs ih =>
      simp only [RVs] at hv
      obtain ⟨u, us, rfl, h1, h2⟩ := hv
      simp only [List.all_cons, Bool.and_eq_true] at hs
      rw [List.map_cons, ← ih hs.2 us h2]
      congr 1
      cases x with
      | one c =>
        simp only [RV, RVc] at h1
        obtain ⟨x, rfl, h1⟩ := h1
        simp only [scVal, scC]
        exact RepD.scalar hs.1 h1
      | _ => simp at hs
  rw [hvs]
  refine (h w).mono fun e w' ⟨he, h1, h2, h3⟩ => ⟨_, r, he, rfl, h1, h2, h3, ?_⟩
  exact scVal_rep hr

end Go.Am

namespace Go.Am

section
variable {P : Program} {T : Nat → TI} {b₀ : Bs} {w : World} {rd : Option Nat} {Φ : St → Loc → List Deferred → World → Prop} {Ψ : PanF} {B : Nat} {ops : Array Oper}

theorem put_nods {a : Act} (ha : a.defers = []) (d : Option Nat) (v : Value) : (a.put d v).defers = [] := by cases d <;> exact ha

theorem still_defers {o : Oper} {a : Act} {K : Act → Prop} (ha : a.defers = []) (h : o.still P a w K) : o.still P a w (fun a' => a'.defers = [] ∧ K a') := by
  unfold Oper.still at *
  generalize (execOp a.eval o).run P w = r at *
  cases r with
  | ok n w' =>
    cases n <;> simp only [Oper.stillUpon] at h ⊢
    case enter f args => obtain ⟨h1, v, hc, hn⟩ := h; exact ⟨h1, v, hc, put_nods ha _ _, hn⟩
    all_goals exact ⟨h.1, put_nods ha _ _, h.2⟩
  | halt x w' => simp only [Oper.stillUpon] at h

theorem wpOpIn_of_stOp {i : Nat} {a : Act} {ds : List Deferred} {K : Act → Prop} {K' : Act → World → Prop} {Q' : Exit → Act → World → Prop} (ha : a.defers = []) (hnd : ops.toList.all noDefer = true) (h : ∀ a', a'.defers = [] → K a' → K' { a' with defers := ds } w) (hh : stOp P ops w i K a) :
    wpOpIn (fen rd) 0 P ops Q' i K' { a with defers := ds } w := by
  unfold stOp at hh
  unfold wpOpIn
  cases ho : ops[i]? with
  | none => simp only [ho] at hh ⊢; exact h _ ha hh
  | some o =>
    simp only [ho] at hh ⊢
    have hno : noDefer o = true := List.all_eq_true.1 hnd o (by
      obtain ⟨hi, e⟩ := Array.getElem?_eq_some_iff.1 ho
      rw [← e]; exact Array.getElem_mem_toList hi)
    by_cases hw : Region.wanted o (yielded ops a.tmps) = true
    · rw [if_pos hw] at hh ⊢
      exact wp_fen hno (Oper.wp_of_still (K' := fun a' w' => a'.defers = [] ∧ K' { a' with defers := ds } w') (fun a' hk => ⟨hk.1, h a' hk.1 hk.2⟩) (still_defers ha hh))
    · rw [if_neg hw] at hh ⊢
      refine ⟨fun _ _ => trivial, ?_⟩
      rw [put_ds]
      exact h _ (put_nods ha _ _) hh

theorem wpAnyIn_of_head {n g : Nat} {ds : List Deferred} {L : Array Bool → Act → Prop} {Q' : Exit → Act → World → Prop} (hnd : ops.toList.all noDefer = true) (hL : ∀ listed a, a.defers = [] → L listed a → wpAnyIn (fen rd) 0 P .any ops Q' g listed { a with defers := ds } w) :
    ∀ (f : Nat) (listed : Array Bool) (a : Act), a.defers = [] → wpAnyL P .any ops w n L f listed a → wpAnyIn (fen rd) 0 P .any ops Q' (f + g) listed { a with defers := ds } w
  | 0, listed, a, ha, h => by rw [Nat.zero_add]; exact hL _ _ ha h
  | f + 1, listed, a, ha, h => by
    rw [show f + 1 + g = (f + g) + 1 by omega]
    exact ⟨fun h0 => absurd h0 h.1, fun i hi => wpOpIn_of_stOp ha hnd (fun a' ha' h' => wpAnyIn_of_head hnd hL f _ a' ha' h') (h.2 i hi).2⟩

theorem wpAnyIn_of_still {ds : List Deferred} {Q : Act → Prop} {Q' : Exit → Act → World → Prop} (hnd : ops.toList.all noDefer = true) (hQ : ∀ a, a.defers = [] → Q a → Q' .normal { a with defers := ds } w) : ∀ (fuel : Nat) (listed : Array Bool) (a : Act), a.defers = [] →
    wpAnyS P .any ops w Q fuel listed a → wpAnyIn (fen rd) 0 P .any ops Q' fuel listed { a with defers := ds } w
  | 0, _, _, ha, h => ⟨h.1, hQ _ ha h.2⟩
  | fuel + 1, _, _, ha, h => ⟨fun h0 => hQ _ ha (h.1 h0), fun i hi => wpOpIn_of_stOp ha hnd (fun a' ha' => wpAnyIn_of_still hnd hQ fuel _ a' ha') (h.2 i hi)⟩

theorem wpAnyIn_of_seq {F : Fence} {n : Nat} {Q' : Exit → Act → World → Prop} : ∀ (l : List Oper) (k : Nat) (listed : Array Bool) (a : Act) (w : World), (∀ j, l[j]? = ops[k + j]?) →
    Region.seqB .any ops l.length k listed = true → wpListIn F n P ops Q' l a w → wpAnyIn F n P .any ops Q' l.length listed a w
  | [], _, _, _, _, _, hB, h => ⟨by simpa [Region.seqB] using hB, h⟩
  | o :: l, k, listed, a, w, hl, hB, h => by
    have h0 : ops[k]? = some o := by simpa using (hl 0).symm
    simp only [List.length_cons, Region.seqB, Bool.and_eq_true, decide_eq_true_eq] at hB
    refine ⟨fun h1 => (by rw [hB.1] at h1; cases h1), fun i hi => ?_⟩
    rw [hB.1] at hi
    have hik : i = k := by simpa using hi
    subst hik
    have hw : wpOpIn F n P ops Q' i (wpListIn F n P ops Q' l) a w := by unfold wpOpIn; simp only [h0]; exact h
    exact wpOpIn_mono (fun a' w' h' => wpAnyIn_of_seq l (i + 1) _ a' w' (fun j => by have := hl (j + 1); simpa [Nat.add_assoc, Nat.add_comm 1 j] using this) hB.2 h') hw

/-- Quiet operations know nothing of the frame. -/
theorem opA_quiet {o : Oper} (hp : pureOp T o.op = true) {s : St} {K : St → Prop} {k : Box K} (h : opA (spF P rd b₀ Φ B Ψ) T o s k) : opA (spB P B) T o s k := by
  obtain ⟨dst, op, ty, ps, af, gd⟩ := o
  cases op with
  | slice t x lo hi mx => cases mx <;> first | exact h | (simp [pureOp] at hp; done)
  | indexAddr t x ix => cases x <;> first | (simp [pureOp] at hp; done) | exact h
  | makeFunc f => cases f <;> first | exact h | (simp [pureOp] at hp; done)
  | call c =>
    obtain ⟨callee, args, tys⟩ := c
    cases callee with
    | value f => simp [pureOp] at hp
    | invoke r m => simp [pureOp] at hp
    | builtin b => cases b <;> first | exact h | (simp [pureOp] at hp; done)
  | _ => first | exact h | (simp [pureOp] at hp; done)

theorem wpStill_soundF (hT : TabOk P T) {N : Nat} {β : Loc} {Q : Act → Prop} {K : St → Prop} {k : Box K} (more : List Oper) : ∀ (l : List Oper) {s : St} {a : Act}, Rel b₀ N s β a w → dstsOk N l = true → l.all (pureOp T ·.op) = true → wpO (spF P rd b₀ Φ B Ψ) T ops (l ++ more) s k →
    (∀ s' a', wpO (spF P rd b₀ Φ B Ψ) T ops more s' k → Rel b₀ N s' β a' w → Tr b₀ β s w β s' w → Q a') → wpStill P ops w Q l a
  | [], s, a, hr, _, _, h, hQ => hQ s a h hr Tr.refl
  | o :: rest, s, a, hr, hds, hp, h, hQ => by
    obtain ⟨hd, hds'⟩ := dstsOk_cons hds
    simp only [List.all_cons, Bool.and_eq_true] at hp
    rw [List.cons_append] at h
    unfold wpO at h
    unfold wpStill
    have hop : ∀ {s0 : St}, Rel b₀ N s0 β a w → Tr b₀ β s w β s0 w → opA (spF P rd b₀ Φ B Ψ) T o s0 (bx fun s' => wpO (spF P rd b₀ Φ B Ψ) T ops (rest ++ more) s' k) → o.still P a w (wpStill P ops w Q rest) := fun {s0} hr0 ht0 h0 => by
      obtain ⟨y, cv, h1, h2, h3⟩ := opA_pure hT hr0 hp.1 (opA_quiet hp.1 h0)
      unfold Oper.still
      rw [h2 w .refl]
      refine ⟨rfl, wpStill_soundF hT more rest (hr0.put hd h3) hds' hp.2 h1 (fun s' a' k1 k2 k3 => hQ s' a' k1 k2 (ht0.trans (Tr.trans (Tr.same (St.put_gen _ _ _) (St.put_obj _ _ _) rfl) k3)))⟩
    cases hg : o.guard with
    | none =>
      rw [hg] at h
      simp only at h
      rw [if_pos (by simp [Region.wanted, hg])]
      exact hop hr Tr.refl h
    | some p =>
      obtain ⟨j, want⟩ := p
      rw [hg] at h
      simp only at h
      obtain ⟨d, hj, h⟩ := onSome_inv h
      unfold guardA at h
      split at h
      · rename_i b hb
        have hy := hr.yielded hj hb
        have h := BSplit_inv h
        have hr' := hr.reput hb
        by_cases hw : b = want
        · rw [if_pos hw] at h
          rw [if_pos (by simp [Region.wanted, hg, hy, hw])]
          exact hop hr' (Tr.same rfl rfl rfl) h
        · rw [if_neg hw] at h
          rw [if_neg (by simp [Region.wanted, hg, hy, hw])]
          have hp' := hr'.put hd (x := uv) (v := undef) undefRep
          exact wpStill_soundF hT more rest hp' hds' hp.2 h (fun s2 a2 k1 k2 k3 => hQ _ _ k1 k2 (Tr.trans (Tr.same (by rw [St.put_gen]) (by rw [St.put_obj]) rfl) k3))
      · rename_i hb
        have hy := hr.yielded_u hj hb
        rw [if_neg (by simp [Region.wanted, hg, hy])]
        have hp' := hr.put hd (x := uv) (v := undef) undefRep
        exact wpStill_soundF hT more rest hp' hds' hp.2 h (fun s2 a2 k1 k2 k3 => hQ _ _ k1 k2 (Tr.trans (Tr.same (by rw [St.put_gen]) (by rw [St.put_obj]) rfl) k3))
      · exact h.elim

theorem region_draw_soundF (hT : TabOk P T) (hm : P.follows .mixedOrders = true) (hΦ : KeptTr b₀ Φ) {N id : Nat} {β : Loc} {ds : List Deferred} {K : St → Prop} {k : Box K} {s : St} {a : Act} (hr : Rel b₀ N s β a w) (hφ : Φ s β ds w) (hnd : ops.toList.all noDefer = true) (hd : dstsOk N ops.toList = true) (hok : drawOk T ops = true)
    (h : wpO (spF P rd b₀ Φ B Ψ) T ops ops.toList s k) {Q : Exit → Act → World → Prop} (hQ : ∀ s' β' a' w', K s' → Rel b₀ N s' β' a' w' → Φ s' β' ds w' → Q .normal { a' with defers := ds } w') (hX : ∀ ch s' β' a' w', Ψ ch s' → Rel b₀ N s' β' a' w' → Φ s' β' ds w' → Q (.panic ch) { a' with defers := ds } w') : (Code.region id ops true).wpIn (fen rd) 0 P Q { a with defers := ds } w := by
  have hr1 : Rel b₀ N s β a { w with drawn := w.drawn + 1 } := hr.of_heap rfl
  have hφ1 : Φ s β ds { w with drawn := w.drawn + 1 } := hΦ _ _ _ _ _ _ _ hφ (Tr.same rfl rfl rfl)
  simp only [drawOk, Bool.or_eq_true, Bool.and_eq_true, List.any_eq_true] at hok
  refine wpIn_region_any hm ?_
  rcases hok with ⟨hp, hB⟩ | ⟨m, _, hp, hB⟩
  · simp only [Region.lexB, Bool.and_eq_true] at hB
    refine wpAnyIn_of_still (Q := fun a' => a'.defers = [] → Q .normal { a' with defers := ds } { w with drawn := w.drawn + 1 }) hnd (fun a' ha h => h ha) _ _ _ hr.defers ?_
    have hst : wpStill P ops { w with drawn := w.drawn + 1 } (fun a' => a'.defers = [] → Q .normal { a' with defers := ds } { w with drawn := w.drawn + 1 }) ops.toList a :=
      wpStill_soundF hT [] ops.toList hr1 hd hp (by rw [List.append_nil]; exact h) (fun s' a' k1 k2 k3 _ => hQ _ _ _ _ k1 k2 (hΦ _ _ _ _ _ _ _ hφ1 k3))
    have := wpAnyS_lex (md := .any) hB.1 ops.toList 0 (Array.replicate ops.size false) a (by simp) (by simpa using hB.2) hst
    simpa using this
  · obtain ⟨l, rfl⟩ : ∃ l : List Oper, ops = l.toArray := ⟨ops.toList, by simp⟩
    generalize hn0 : l.toArray.size - m = n at hp hB
    simp only [Region.lexTailB, Bool.and_eq_true, decide_eq_true_eq] at hB
    obtain ⟨⟨⟨⟨hsel, hn⟩, hs⟩, hc⟩, hlex⟩ := hB
    have hn' : n < l.length := by simpa using hn
    have htl : (l.take n).length = n := by simp; omega
    have hdl : (l.drop n).length = l.toArray.size - n := by simp
    have inv0 : HeadInv .any l.toArray n (Array.replicate l.toArray.size false) :=
      ⟨by simp, fun j oj _ hl => (by rw [getD_replicate_false] at hl; cases hl), fun t _ ht => getD_in (by simpa using ht) (getD_replicate_false _ _)⟩
    obtain ⟨d1, d2⟩ := dstsOk_take hd n
    have hnd2 : (l.drop n).all noDefer = true := List.all_eq_true.2 fun o ho => List.all_eq_true.1 hnd o (by simpa using List.mem_of_mem_drop ho)
    have hst : wpStill P l.toArray { w with drawn := w.drawn + 1 } (fun a' => a'.defers = [] → wpListIn (fen rd) 0 P l.toArray Q (l.drop n) { a' with defers := ds } { w with drawn := w.drawn + 1 }) (l.take n) a := by
      refine wpStill_soundF hT (l.drop n) (l.take n) hr1 d1 hp (by rw [List.take_append_drop]; simpa using h) (fun s' a' k1 k2 k3 _ => ?_)
      exact wpO_soundF hT hΦ (l.drop n) k2 (hΦ _ _ _ _ _ _ _ hφ1 k3) hnd2 d2 k1 hQ hX
    have H := wpAnyL_lex (md := .any) (g := l.toArray.size - n) hsel hs hc hn (l.take n) 0 _ a (fun j hj => by
      have hj' : j < n := by rw [htl] at hj; exact hj
      simp [hj']) (by simpa using htl) inv0 (by rw [htl]; exact hlex) hst
    have := wpAnyIn_of_head (Q' := Q) (ds := ds) (rd := rd) (g := l.toArray.size - n) hnd (fun listed a' ha hL => by
      have := wpAnyIn_of_seq (Q' := Q) (F := fen rd) (n := 0) (l.drop n) n listed { a' with defers := ds } { w with drawn := w.drawn + 1 } (fun j => by simp [List.getElem?_drop]) (by rw [hdl]; exact hL.1) (hL.2 ha)
      rwa [hdl] at this) _ _ _ hr.defers H
    rw [htl, show n + (l.toArray.size - n) = l.toArray.size by omega] at this
    exact this

theorem stepR_scope {P : Program} {b : Frame} {a : Act} {k : List Item} {cs : List Frame} {w : World} {c : Code} : step P (lone (b.atR a (.code (.scope c) :: k)) cs w) = .next (lone (b.atR a (.code c :: .inScope c :: k)) cs w) :=
  step_lone_go (by simp [stepG, stepG.exec, Frame.atR])
theorem stepR_inScope {P : Program} {b : Frame} {a : Act} {k : List Item} {cs : List Frame} {w : World} {c : Code} : step P (lone (b.atR a (.inScope c :: k)) cs w) = .next (lone (b.atR a k) cs w) :=
  step_lone_go (by simp [stepG, stepG.exec, Frame.atR])
/-- A piece of code without jumps, in its scope. -/
theorem wpIn_scope {F : Fence} {n : Nat} {P : Program} {Q : Exit → Act → World → Prop} {a : Act} {w : World} {c : Code} (h : c.wpIn F n P (Exit.noGoto Q) a w) : (Code.scope c).wpIn F n P Q a w := by
  intro b k cs hro hb hr
  have h0 : (lone (b.atR a (.code (.scope c) :: k)) cs w).fenced P F := fenced_calm hb hr rfl
  obtain ⟨e, a₁, w₁, hq, harr⟩ := h b (.inScope c :: k) cs hro hb hr
  cases e with
  | normal => exact ⟨.normal, a₁, w₁, hq, .head h0 stepR_scope (StepsIn.trans harr (.one (fenced_calm hb hr rfl) stepR_inScope))⟩
  | exit id' =>
    have hx : exitTo id' (.inScope c :: k) = exitTo id' k := by simp [exitTo]
    exact ⟨.exit id', a₁, w₁, hq, fun k' hk => .head h0 stepR_scope (harr.1 k' (by rw [hx]; exact hk)),
      fun hr' hk => let ⟨k₁, h1, h2⟩ := harr.2 hr' (by rw [hx]; exact hk); ⟨k₁, h1, .head h0 stepR_scope h2⟩⟩
  | goto l => exact hq.elim
  | ret => exact ⟨_, a₁, w₁, hq, .of_steps (.one h0 stepR_scope) harr⟩
  | panic ch => exact ⟨_, a₁, w₁, hq, .of_steps (.one h0 stepR_scope) harr⟩
  | outgrown => exact ⟨_, a₁, w₁, hq, .of_steps (.one h0 stepR_scope) harr⟩

/-- No 'defer'. -/
def calm2 : Code → Bool
  | .region _ ops _ => ops.toList.all noDefer
  | .seq x y => calm2 x && calm2 y
  | .cond _ x y => calm2 x && calm2 y
  | .block _ c => calm2 c
  | .loop c => calm2 c
  | .scope c => calm2 c
  | _ => true

theorem wpC_soundF2 (hT : TabOk P T) (hm : P.follows .mixedOrders = true) (hΦ : KeptTr b₀ Φ) {N : Nat} : ∀ (c : Code) {Q : Exit → St → Prop} {q : Box Q} {s : St} {β : Loc} {a : Act} {ds : List Deferred} {w : World}, calm2 c = true → codeOk N c = true → Rel b₀ N s β a w → Φ s β ds w → wpC (spF P rd b₀ Φ B Ψ) T c q s → c.wpIn (fen rd) 0 P (PostF b₀ N Φ Ψ Q) { a with defers := ds } w
  | .skip, _, _, s, β, a, ds, _, _, _, hr, hφ, h => wpIn_skip ⟨s, β, a, ds, rfl, .inl h, hr, hφ⟩
  | .label _, _, _, s, β, a, ds, _, _, _, hr, hφ, h => wpIn_label ⟨s, β, a, ds, rfl, .inl h, hr, hφ⟩
  | .exit _, _, _, s, β, a, ds, _, _, _, hr, hφ, h => wpIn_exit ⟨s, β, a, ds, rfl, .inl h, hr, hφ⟩
  | .goto _, _, _, s, β, a, ds, _, _, _, hr, hφ, h => wpIn_goto ⟨s, β, a, ds, rfl, .inl h, hr, hφ⟩
  | .ret, _, _, s, β, a, ds, _, _, _, hr, hφ, h => wpIn_ret ⟨s, β, a, ds, rfl, .inl h, hr, hφ⟩
  | .region id ops b, Q, q, s, β, a, ds, w, hcm, hc, hr, hφ, h => by
    simp only [calm2] at hcm
    cases b with
    | false =>
      have h : wpO (spF P rd b₀ Φ B Ψ) T ops ops.toList s (bx fun s' => Q .normal s') := h
      exact wpIn_region_list (wpO_soundF hT hΦ ops.toList hr hφ hcm hc h (fun s' β' a' w' h1 h2 h3 => ⟨s', β', a', ds, rfl, .inl h1, h2, h3⟩) (fun ch s' β' a' w' h1 h2 h3 => ⟨s', β', a', ds, rfl, .inr ⟨ch, rfl, h1⟩, h2, h3⟩))
    | true =>
      rcases h with ⟨hok, h⟩ | ⟨R, hR, hK⟩
      · exact region_draw_soundF hT hm hΦ hr hφ hcm hc hok h (fun s' β' a' w' h1 h2 h3 => ⟨s', β', a', ds, rfl, .inl h1, h2, h3⟩) (fun ch s' β' a' w' h1 h2 h3 => ⟨s', β', a', ds, rfl, .inr ⟨ch, rfl, h1⟩, h2, h3⟩)
      · exact wpIn_mono (hR N β a ds w hc hr hφ) (fun e a' w' ⟨s', β', a0, ds', h0, h1, h2, h3⟩ => ⟨s', β', a0, ds', h0, h1.imp (hK _ _) (fun h => h), h2, h3⟩)
  | .seq x y, Q, q, s, β, a, ds, w, hcm, hc, hr, hφ, h => by
    simp only [codeOk, Bool.and_eq_true] at hc
    simp only [calm2, Bool.and_eq_true] at hcm
    have h : wpC (spF P rd b₀ Φ B Ψ) T x (bx (thenA (bx fun s' => wpC (spF P rd b₀ Φ B Ψ) T y q s') q)) s := h
    refine wpIn_seq (wpIn_mono (wpC_soundF2 hT hm hΦ x hcm.1 hc.1 hr hφ h) (fun e a' w' hp => ?_))
    obtain ⟨s', β', a0, ds', rfl, h1, h2, h3⟩ := hp
    rcases h1 with h1 | ⟨ch, rfl, h1⟩
    · cases e with
      | normal => exact wpC_soundF2 hT hm hΦ y hcm.2 hc.2 h2 h3 h1
      | _ => exact ⟨s', β', a0, ds', rfl, .inl h1, h2, h3⟩
    · exact ⟨s', β', a0, ds', rfl, .inr ⟨ch, rfl, h1⟩, h2, h3⟩
  | .cond c x y, Q, q, s, β, a, ds, w, hcm, hc, hr, hφ, h => by
    simp only [codeOk, Bool.and_eq_true] at hc
    simp only [calm2, Bool.and_eq_true] at hcm
    obtain ⟨b, hb, h⟩ := onBool_inv h (hr.ev c)
    refine wpIn_cond (t := b) hb ?_
    cases b
    · exact wpC_soundF2 hT hm hΦ y hcm.2 hc.2 hr hφ h
    · exact wpC_soundF2 hT hm hΦ x hcm.1 hc.1 hr hφ h
  | .block id c, Q, q, s, β, a, ds, w, hcm, hc, hr, hφ, h => by
    have h : wpC (spF P rd b₀ Φ B Ψ) T c (bx (inBlockA id q)) s := h
    refine wpIn_block (wpIn_mono (wpC_soundF2 hT hm hΦ c hcm hc hr hφ h) (fun e a' w' hp => ?_))
    obtain ⟨s', β', a0, ds', rfl, h1, h2, h3⟩ := hp
    rcases h1 with h1 | ⟨ch, rfl, h1⟩
    · cases e with
      | exit i =>
        simp only [Exit.inBlock, inBlockA] at h1 ⊢
        split at h1
        · rename_i he; rw [if_pos he]; exact ⟨s', β', a0, ds', rfl, .inl h1, h2, h3⟩
        · rename_i he; rw [if_neg he]; exact ⟨s', β', a0, ds', rfl, .inl h1, h2, h3⟩
      | _ => exact ⟨s', β', a0, ds', rfl, .inl h1, h2, h3⟩
    · exact ⟨s', β', a0, ds', rfl, .inr ⟨ch, rfl, h1⟩, h2, h3⟩
  | .scope c, Q, q, s, β, a, ds, w, hcm, hc, hr, hφ, h => by
    have h : wpC (spF P rd b₀ Φ B Ψ) T c (bx (noGotoA q)) s := h
    refine wpIn_scope (wpIn_mono (wpC_soundF2 hT hm hΦ c hcm hc hr hφ h) (fun e a' w' hp => ?_))
    obtain ⟨s', β', a0, ds', rfl, h1, h2, h3⟩ := hp
    rcases h1 with h1 | ⟨ch, rfl, h1⟩
    · cases e with
      | goto l => exact h1.elim
      | _ => exact ⟨s', β', a0, ds', rfl, .inl h1, h2, h3⟩
    · exact ⟨s', β', a0, ds', rfl, .inr ⟨ch, rfl, h1⟩, h2, h3⟩
  | .loop c, Q, q, s, β, a, ds, w, hcm, hc, hr, hφ, h => by
    obtain ⟨I, ⟨n, s₁, hvs, h0⟩, hround⟩ := h
    obtain ⟨β₁, hr1, ht1⟩ := hvs b₀ N β a w hr
    refine wpIn_loop_ghost (fun n a' w' => ∃ s' β' a0 ds', a' = { a0 with defers := ds' } ∧ I n s' ∧ Rel b₀ N s' β' a0 w' ∧ Φ s' β' ds' w') n ⟨s₁, β₁, a, ds, rfl, h0, hr1, hΦ _ _ _ _ _ _ _ hφ ht1⟩ ?_
    rintro n a' w' ⟨s', β', a0, ds', rfl, h1, h2, h3⟩
    refine wpIn_mono (wpC_soundF2 hT hm hΦ c hcm hc h2 h3 (hround n s' h1)) (fun e a2 w2 hp => ?_)
    obtain ⟨s2, β2, a02, ds2, rfl, k1, k2, k3⟩ := hp
    rcases k1 with k1 | ⟨ch, rfl, k1⟩
    · cases e with
      | normal =>
        obtain ⟨n', s3, hlt, hvs', hI⟩ := k1
        obtain ⟨β3, hr3, ht3⟩ := hvs' b₀ N β2 a02 w2 k2
        exact ⟨n', hlt, s3, β3, a02, ds2, rfl, hI, hr3, hΦ _ _ _ _ _ _ _ k3 ht3⟩
      | _ => exact ⟨s2, β2, a02, ds2, rfl, .inl k1, k2, k3⟩
    · exact ⟨s2, β2, a02, ds2, rfl, .inr ⟨ch, rfl, k1⟩, k2, k3⟩
  | .rangeFunc f ps x y, Q, q, s, β, a, ds, w, hcm, hc, hr, hφ, h => by
    obtain ⟨R, hR, hK⟩ := h
    exact wpIn_mono (hR N β a ds w hc hr hφ) (fun e a' w' ⟨s', β', a0, ds', h0, h1, h2, h3⟩ => ⟨s', β', a0, ds', h0, h1.imp (hK _ _) (fun h => h), h2, h3⟩)
  | .refuse y, Q, q, s, β, a, ds, w, hcm, hc, hr, hφ, h => by
    obtain ⟨R, hR, hK⟩ := h
    exact wpIn_mono (hR N β a ds w hc hr hφ) (fun e a' w' ⟨s', β', a0, ds', h0, h1, h2, h3⟩ => ⟨s', β', a0, ds', h0, h1.imp (hK _ _) (fun h => h), h2, h3⟩)


theorem draw_introF {B0 : Nat} {id : Nat} {ops : Array Oper} {s : St} {Q : Exit → St → Prop} {q : Box Q} (hok : drawOk T ops = true) (h : wpO (spF P rd b₀ Φ B0 Ψ) T ops ops.toList s (bx fun s' => Q .normal s')) : DrawA (spF P rd b₀ Φ B0 Ψ) T id ops s q := .inl ⟨hok, h⟩
end

section
variable {P : Program} {T : Nat → TI} {gb : Nat} {o : Hold}
theorem pure_of_wpG2 (B gb : Nat) (o : Hold) (hT : TabOk P T) (hm : P.follows .mixedOrders = true) {f : FuncId} {fn : Func} {c : Code} (hf : P.funcs[f]? = some fn) (hb : fn.body = some c) (hn : (fn.name == "runtime.NumGoroutine") = false)
    (rs : List ResultVar) (hres : fn.results = rs.toArray) (hcm : calm2 c = true) (hok : codeOk fn.ntmps c = true) {args : List AV} (hargs : args.length ≤ fn.ntmps) {R : AV → Prop}
    (h : ∀ b₀ β0 s0 w0 g, wpC (spF P none b₀ (PhiG gb o b₀ β0 s0 w0) B noPan) T c (bx (RetQR T rs R)) ⟨initF args, g, fun _ => none⟩) : PureG P gb o f args R := by
  refine ⟨⟨fn, hf, by rw [hb]; rfl, hn⟩, fun J w vs hheld hJ hv => ?_⟩
  refine calls_of_fen (n := 0) (callsIn_of_wp_marks hf hb trivial ?_)
  have hlen : ∀ (l : List AV) (vs : List Value), RVs J w l vs → vs.length = l.length := by
    intro l
    induction l with
    | nil => intro vs h; simp only [RVs] at h; subst h; rfl
    | cons x l ih => intro vs h; simp only [RVs] at h; obtain ⟨u, us, rfl, _, h⟩ := h; simp [ih us h]
  have hl := hlen _ _ hv
  let J' : Nat → Prop := fun b => J b ∨ b ≤ gb
  have hr : Rel ⟨w.heap.size, J'⟩ fn.ntmps ⟨initF args, fun _ => 0, fun _ => none⟩ (fun _ => none) { tmps := vs.toArray ++ Array.replicate (fn.ntmps - vs.toArray.size) undef, defers := [] } w := by
    refine ⟨rfl, by simp; omega, fun i => ?_, fun id cells ho => (by cases ho), fun id id' a a' ho => (by cases ho), Nat.le_refl _⟩
    have hget : ∀ (l : List AV) (vs : List Value), RVs J w l vs → ∀ (i : Nat) (x : AV), l[i]? = some x → ∃ v, vs[i]? = some v ∧ RV J w x v := by
      intro l
      induction l with
      | nil => intro vs _ i x h; simp at h
      | cons y l ih =>
        intro vs h i x hx
        simp only [RVs] at h
        obtain ⟨u, us, rfl, h1, h2⟩ := h
        cases i with
        | zero => simp at hx; subst hx; exact ⟨u, rfl, h1⟩
        | succ i => simpa using ih us h2 i x (by simpa using hx)
    simp only [initF]
    cases hx : args[i]? with
    | some x =>
      obtain ⟨v, h1, h2⟩ := hget _ _ hv i x hx
      have hlt : i < vs.length := (List.getElem?_eq_some_iff.1 h1).1
      have : (vs.toArray ++ Array.replicate (fn.ntmps - vs.toArray.size) undef).getD i undef = v := by
        rw [Array.getD_eq_getD_getElem?, Array.getElem?_append_left (by simpa using hlt)]
        simp [h1]
      rw [this]
      simp only [Option.getD_some]
      exact RV.rep x (RV.mono (fun b hb => ⟨⟨hJ b hb, fun _ => .inl hb, fun id a ho => by cases ho⟩, rfl⟩) x h2)
    | none =>
      have hge : args.length ≤ i := by simpa using hx
      have : (vs.toArray ++ Array.replicate (fn.ntmps - vs.toArray.size) undef).getD i undef = undef := by
        rw [Array.getD_eq_getD_getElem?, Array.getElem?_append_right (by simp; omega)]
        simp [Array.getElem?_replicate]
        split <;> rfl
      rw [this]
      exact undefRep
  refine wpIn_mono (wpC_soundF2 (rd := none) (B := B) (ds := []) hT hm kept_phiG c hcm hok hr ⟨⟨hheld.lt, ⟨hheld.lt, fun b hb => .inr hb⟩, hheld⟩, Tr.refl, trivial⟩ (h _ _ _ w _)) (fun e a' w' hp => ?_)
  obtain ⟨s', β', a0, ds', rfl, hQ, hr', _, ht, hmk⟩ := hp.plain
  have hres' : RetQR T rs R .ret s' → bodyPostM (fen none) 0 P fn (fun e w' => ∃ v r, e = .returned v ∧ R r ∧ w.heap.size ≤ w'.heap.size ∧ (∀ b, b < w.heap.size → w'.heap[b]? = w.heap[b]?) ∧ (w'.os = w.os ∧ w'.output = w.output) ∧ RV (Own ⟨w.heap.size, J'⟩ w') w' r v) .ret { a0 with defers := ds' } w' := by
    intro hQ
    refine leaves_marks hmk (fun w5 h5 => ?_)
    obtain ⟨v, avs, h1, ⟨r, h2, h3⟩, _, vs', rfl, h4⟩ := evalR_results hT (hr'.shut h5) hres hQ
    refine ⟨_, h1, _, r, rfl, h3, by rw [h5.size]; exact ht.size, fun b hb => ?_, ⟨h5.os.1.trans ht.os.1, h5.os.2.trans ht.os.2⟩, h2.rep (hr'.shut h5) h4⟩
    rcases h5.same b with e | ⟨e, _⟩
    · rw [e]; exact ht.old b hb
    · omega
  cases e with
  | normal => exact hres' hQ
  | ret => exact hres' hQ
  | exit id => exact hQ.elim
  | goto l => exact hQ.elim
  | panic ch => exact hQ.elim
  | outgrown => exact hQ.elim


theorem fun_of_wpG2 (B gb : Nat) (o : Hold) (hT : TabOk P T) (hm : P.follows .mixedOrders = true) {f : FuncId} {fn : Func} {c : Code} (hf : P.funcs[f]? = some fn) (hb : fn.body = some c) (hn : (fn.name == "runtime.NumGoroutine") = false)
    (rs : List ResultVar) (hres : fn.results = rs.toArray) (hcm : calm2 c = true) (hok : codeOk fn.ntmps c = true) {xs : List AV} (hargs : xs.length ≤ fn.ntmps) {g : Nat → Nat} {ob : Obs} {R : AV → (Nat → Nat) → Obs → Prop}
    (h : ∀ b₀ β0 s0 w0, wpC (spF P none b₀ (PhiN gb o b₀ β0 s0 w0) B noPan) T c (bx (RetFR T rs R)) ⟨initF xs, g, ob⟩) : FunG P gb o f xs g ob R := by
  refine ⟨⟨fn, hf, by rw [hb]; rfl, hn⟩, fun b₀ N β a fa w vs hgb hheld hr0 hv => ?_⟩
  refine calls_of_fen (n := 0) (callsIn_of_wp hf hb trivial ?_)
  have hr := rel_init (N := fn.ntmps) hargs hr0 hv
  refine wpIn_mono (wpC_soundF2 (rd := none) (B := B) (ds := []) hT hm kept_phiN c hcm hok hr ⟨⟨hgb, hheld⟩, rfl, Tr.refl⟩ (h b₀ β ⟨initF xs, g, ob⟩ w)) (fun e a' w' hp => ?_)
  obtain ⟨s', β', a0, ds', rfl, hQ, hr', _, rfl, ht⟩ := hp.plain
  have hres' : RetFR T rs R .ret s' → ∃ v, (results fn a0.tmps).run P w' = .ok v w' ∧ ∃ v' r g' ob' β', Ending.returned v = .returned v' ∧ R r g' ob' ∧ RepV b₀ β' g' ob' w' r v' ∧
      (∀ id cells, ob' id = some cells → ObjAt b₀ β' g' ob' w' (g' id) cells (β' id)) ∧ (∀ id id' a a', (ob' id).isSome = true → (ob' id').isSome = true → β' id = some a → β' id' = some a' → a.block = a'.block → id = id') ∧
      Tr b₀ β ⟨fa, g, ob⟩ w β' ⟨fa, g', ob'⟩ w' := by
    rintro ⟨s2, hvs, hR⟩
    obtain ⟨β2, hr2, ht2⟩ := hvs b₀ fn.ntmps β' a0 w' hr'
    have hta := ht.trans ht2
    obtain ⟨v, avs, h1, h2, h3, _⟩ := evalR_results hT hr2 hres hR
    exact ⟨v, h1, v, _, _, _, β2, rfl, h2, h3, hr2.obj, hr2.inj, ⟨hta.size, hta.old, hta.keep, hta.os⟩⟩
  cases e with
  | normal => exact ⟨rfl, hres' hQ⟩
  | ret => exact ⟨rfl, hres' hQ⟩
  | exit id => exact hQ.elim
  | goto l => exact hQ.elim
  | panic ch => exact hQ.elim
  | outgrown => exact hQ.elim

theorem FunG.mono {f : FuncId} {xs : List AV} {g : Nat → Nat} {ob : Obs} {R R' : AV → (Nat → Nat) → Obs → Prop} (h : FunG P gb o f xs g ob R) (hr : ∀ r g' ob', R r g' ob' → R' r g' ob') : FunG P gb o f xs g ob R' :=
  ⟨h.1, fun b₀ N β a fa w vs h0 h0' h1 h2 => (h.2 b₀ N β a fa w vs h0 h0' h1 h2).mono fun _ _ ⟨v, r, g', ob', β', q1, q2, q3⟩ => ⟨v, r, g', ob', β', q1, hr _ _ _ q2, q3⟩⟩
end
end Go.Am

namespace Go.Proofs.YtiaalcpkhlnpcabGreatDoor
open Go Go.Am

def ti2 : TI := ⟨.int .i64, 1, 8, [.int .i64 0]⟩
theorem ty2 : TyOk Tryz.prog 2 ti2 := tyOk_of (by kernel_rfl) (z := dV (.int .i64 0)) (by kernel_rfl) rfl rfl rfl (.inr rfl)
def ti3 : TI := ⟨.int .i64, 1, 8, [.int .i64 0]⟩
theorem ty3 : TyOk Tryz.prog 3 ti3 := tyOk_of (by kernel_rfl) (z := dV (.int .i64 0)) (by kernel_rfl) rfl rfl rfl (.inr rfl)
def ti4 : TI := ⟨.bool, 1, 1, [.bool false]⟩
theorem ty4 : TyOk Tryz.prog 4 ti4 := tyOk_of (by kernel_rfl) (z := dV (.bool false)) (by kernel_rfl) rfl rfl rfl (.inr rfl)
def ti5 : TI := ⟨.int .u8, 1, 1, [.int .u8 0]⟩
theorem ty5 : TyOk Tryz.prog 5 ti5 := tyOk_of (by kernel_rfl) (z := dV (.int .u8 0)) (by kernel_rfl) rfl rfl rfl (.inr rfl)
def ti6 : TI := ⟨.int .u8, 1, 1, [.int .u8 0]⟩
theorem ty6 : TyOk Tryz.prog 6 ti6 := tyOk_of (by kernel_rfl) (z := dV (.int .u8 0)) (by kernel_rfl) rfl rfl rfl (.inr rfl)
def ti7 : TI := ⟨.struct #[⟨"x", 2, 0, false, "", "runtime", 0⟩, ⟨"y", 3, 1, false, "", "runtime", 8⟩, ⟨"signed", 4, 2, false, "", "runtime", 16⟩, ⟨"code", 6, 3, false, "", "runtime", 17⟩], 4, 24, [.int .i64 0, .int .i64 0, .bool false, .int .u8 0]⟩
theorem ty7 : TyOk Tryz.prog 7 ti7 := tyOk_of (by kernel_rfl) (z := .agg #[dV (.int .i64 0), dV (.int .i64 0), dV (.bool false), dV (.int .u8 0)]) (by kernel_rfl) rfl rfl rfl (.inl rfl)
def ti8 : TI := ⟨.struct #[⟨"x", 2, 0, false, "", "runtime", 0⟩, ⟨"y", 3, 1, false, "", "runtime", 8⟩, ⟨"signed", 4, 2, false, "", "runtime", 16⟩, ⟨"code", 6, 3, false, "", "runtime", 17⟩], 4, 24, [.int .i64 0, .int .i64 0, .bool false, .int .u8 0]⟩
theorem ty8 : TyOk Tryz.prog 8 ti8 := tyOk_of (by kernel_rfl) (z := .agg #[dV (.int .i64 0), dV (.int .i64 0), dV (.bool false), dV (.int .u8 0)]) (by kernel_rfl) rfl rfl rfl (.inl rfl)
def ti9 : TI := ⟨.string, 1, 16, [.str []]⟩
theorem ty9 : TyOk Tryz.prog 9 ti9 := tyOk_of (by kernel_rfl) (z := dV (.str [])) (by kernel_rfl) rfl rfl rfl (.inr rfl)
def ti10 : TI := ⟨.string, 1, 16, [.str []]⟩
theorem ty10 : TyOk Tryz.prog 10 ti10 := tyOk_of (by kernel_rfl) (z := dV (.str [])) (by kernel_rfl) rfl rfl rfl (.inr rfl)
def ti11 : TI := ⟨.string, 1, 16, [.str []]⟩
theorem ty11 : TyOk Tryz.prog 11 ti11 := tyOk_of (by kernel_rfl) (z := dV (.str [])) (by kernel_rfl) rfl rfl rfl (.inr rfl)
def ti12 : TI := ⟨.int .u64, 1, 8, [.int .u64 0]⟩
theorem ty12 : TyOk Tryz.prog 12 ti12 := tyOk_of (by kernel_rfl) (z := dV (.int .u64 0)) (by kernel_rfl) rfl rfl rfl (.inr rfl)
def ti13 : TI := ⟨.struct #[⟨"msg", 9, 0, false, "", "runtime", 0⟩, ⟨"addr", 12, 1, false, "", "runtime", 16⟩], 2, 24, [.str [], .int .u64 0]⟩
theorem ty13 : TyOk Tryz.prog 13 ti13 := tyOk_of (by kernel_rfl) (z := .agg #[dV (.str []), dV (.int .u64 0)]) (by kernel_rfl) rfl rfl rfl (.inl rfl)
def ti14 : TI := ⟨.struct #[⟨"msg", 9, 0, false, "", "runtime", 0⟩, ⟨"addr", 12, 1, false, "", "runtime", 16⟩], 2, 24, [.str [], .int .u64 0]⟩
theorem ty14 : TyOk Tryz.prog 14 ti14 := tyOk_of (by kernel_rfl) (z := .agg #[dV (.str []), dV (.int .u64 0)]) (by kernel_rfl) rfl rfl rfl (.inl rfl)
def ti15 : TI := ⟨.pointer 293, 1, 8, [.nilp]⟩
theorem ty15 : TyOk Tryz.prog 15 ti15 := tyOk_of (by kernel_rfl) (z := dV (.nilp)) (by kernel_rfl) rfl rfl rfl (.inr rfl)
def ti16 : TI := ⟨.pointer 296, 1, 8, [.nilp]⟩
theorem ty16 : TyOk Tryz.prog 16 ti16 := tyOk_of (by kernel_rfl) (z := dV (.nilp)) (by kernel_rfl) rfl rfl rfl (.inr rfl)
def ti17 : TI := ⟨.pointer 303, 1, 8, [.nilp]⟩
theorem ty17 : TyOk Tryz.prog 17 ti17 := tyOk_of (by kernel_rfl) (z := dV (.nilp)) (by kernel_rfl) rfl rfl rfl (.inr rfl)
def ti18 : TI := ⟨.struct #[⟨"typ", 17, 0, false, "", "internal/runtime/maps", 0⟩], 1, 8, [.nilp]⟩
theorem ty18 : TyOk Tryz.prog 18 ti18 := tyOk_of (by kernel_rfl) (z := .agg #[dV (.nilp)]) (by kernel_rfl) rfl rfl rfl (.inl rfl)
def ti19 : TI := ⟨.struct #[⟨"typ", 17, 0, false, "", "internal/runtime/maps", 0⟩], 1, 8, [.nilp]⟩
theorem ty19 : TyOk Tryz.prog 19 ti19 := tyOk_of (by kernel_rfl) (z := .agg #[dV (.nilp)]) (by kernel_rfl) rfl rfl rfl (.inl rfl)
def ti20 : TI := ⟨.interface #[], 1, 16, [.nili]⟩
theorem ty20 : TyOk Tryz.prog 20 ti20 := tyOk_of (by kernel_rfl) (z := dV (.nili)) (by kernel_rfl) rfl rfl rfl (.inr rfl)
def ti22 : TI := ⟨.slice 31, 1, 24, [.nsl]⟩
theorem ty22 : TyOk Tryz.prog 22 ti22 := tyOk_of (by kernel_rfl) (z := dV (.nsl)) (by kernel_rfl) rfl rfl rfl (.inr rfl)
def ti23 : TI := ⟨.struct #[⟨"Code", 22, 0, false, "", "", 0⟩, ⟨"Data", 3, 1, false, "", "", 24⟩], 2, 32, [.nsl, .int .i64 0]⟩
theorem ty23 : TyOk Tryz.prog 23 ti23 := tyOk_of (by kernel_rfl) (z := .agg #[dV (.nsl), dV (.int .i64 0)]) (by kernel_rfl) rfl rfl rfl (.inl rfl)
def ti24 : TI := ⟨.struct #[⟨"Code", 22, 0, false, "", "", 0⟩, ⟨"Data", 3, 1, false, "", "", 24⟩], 2, 32, [.nsl, .int .i64 0]⟩
theorem ty24 : TyOk Tryz.prog 24 ti24 := tyOk_of (by kernel_rfl) (z := .agg #[dV (.nsl), dV (.int .i64 0)]) (by kernel_rfl) rfl rfl rfl (.inl rfl)
def ti27 : TI := ⟨.int .i64, 1, 8, [.int .i64 0]⟩
theorem ty27 : TyOk Tryz.prog 27 ti27 := tyOk_of (by kernel_rfl) (z := dV (.int .i64 0)) (by kernel_rfl) rfl rfl rfl (.inr rfl)
def ti29 : TI := ⟨.func #[24] #[9, 27] false, 1, 8, [.nilf]⟩
theorem ty29 : TyOk Tryz.prog 29 ti29 := tyOk_of (by kernel_rfl) (z := dV (.nilf)) (by kernel_rfl) rfl rfl rfl (.inr rfl)
def ti31 : TI := ⟨.int .u32, 1, 4, [.int .u32 0]⟩
theorem ty31 : TyOk Tryz.prog 31 ti31 := tyOk_of (by kernel_rfl) (z := dV (.int .u32 0)) (by kernel_rfl) rfl rfl rfl (.inr rfl)
def ti32 : TI := ⟨.slice 9, 1, 24, [.nsl]⟩
theorem ty32 : TyOk Tryz.prog 32 ti32 := tyOk_of (by kernel_rfl) (z := dV (.nsl)) (by kernel_rfl) rfl rfl rfl (.inr rfl)
def ti35 : TI := ⟨.pointer 38, 1, 8, [.nilp]⟩
theorem ty35 : TyOk Tryz.prog 35 ti35 := tyOk_of (by kernel_rfl) (z := dV (.nilp)) (by kernel_rfl) rfl rfl rfl (.inr rfl)
def ti36 : TI := ⟨.slice 5, 1, 24, [.nsl]⟩
theorem ty36 : TyOk Tryz.prog 36 ti36 := tyOk_of (by kernel_rfl) (z := dV (.nsl)) (by kernel_rfl) rfl rfl rfl (.inr rfl)
def ti37 : TI := ⟨.struct #[⟨"addr", 35, 0, false, "", "strings", 0⟩, ⟨"buf", 36, 1, false, "", "strings", 8⟩], 2, 32, [.nilp, .nsl]⟩
theorem ty37 : TyOk Tryz.prog 37 ti37 := tyOk_of (by kernel_rfl) (z := .agg #[dV (.nilp), dV (.nsl)]) (by kernel_rfl) rfl rfl rfl (.inl rfl)
def ti38 : TI := ⟨.struct #[⟨"addr", 35, 0, false, "", "strings", 0⟩, ⟨"buf", 36, 1, false, "", "strings", 8⟩], 2, 32, [.nilp, .nsl]⟩
theorem ty38 : TyOk Tryz.prog 38 ti38 := tyOk_of (by kernel_rfl) (z := .agg #[dV (.nilp), dV (.nsl)]) (by kernel_rfl) rfl rfl rfl (.inl rfl)
def ti44 : TI := ⟨.struct #[⟨"Op", 3, 0, false, "", "", 0⟩, ⟨"A", 3, 1, false, "", "", 8⟩, ⟨"B", 3, 2, false, "", "", 16⟩, ⟨"C", 3, 3, false, "", "", 24⟩], 4, 32, [.int .i64 0, .int .i64 0, .int .i64 0, .int .i64 0]⟩
theorem ty44 : TyOk Tryz.prog 44 ti44 := tyOk_of (by kernel_rfl) (z := .agg #[dV (.int .i64 0), dV (.int .i64 0), dV (.int .i64 0), dV (.int .i64 0)]) (by kernel_rfl) rfl rfl rfl (.inl rfl)
def ti45 : TI := ⟨.struct #[⟨"Op", 3, 0, false, "", "", 0⟩, ⟨"A", 3, 1, false, "", "", 8⟩, ⟨"B", 3, 2, false, "", "", 16⟩, ⟨"C", 3, 3, false, "", "", 24⟩], 4, 32, [.int .i64 0, .int .i64 0, .int .i64 0, .int .i64 0]⟩
theorem ty45 : TyOk Tryz.prog 45 ti45 := tyOk_of (by kernel_rfl) (z := .agg #[dV (.int .i64 0), dV (.int .i64 0), dV (.int .i64 0), dV (.int .i64 0)]) (by kernel_rfl) rfl rfl rfl (.inl rfl)
def ti53 : TI := ⟨.func #[] #[9, 27] false, 1, 8, [.nilf]⟩
theorem ty53 : TyOk Tryz.prog 53 ti53 := tyOk_of (by kernel_rfl) (z := dV (.nilf)) (by kernel_rfl) rfl rfl rfl (.inr rfl)
def ti54 : TI := ⟨.slice 53, 1, 24, [.nsl]⟩
theorem ty54 : TyOk Tryz.prog 54 ti54 := tyOk_of (by kernel_rfl) (z := dV (.nsl)) (by kernel_rfl) rfl rfl rfl (.inr rfl)
def ti55 : TI := ⟨.struct #[⟨"End", 3, 0, false, "", "", 0⟩, ⟨"Out", 9, 1, false, "", "", 8⟩, ⟨"Steps", 3, 2, false, "", "", 24⟩], 3, 32, [.int .i64 0, .str [], .int .i64 0]⟩
theorem ty55 : TyOk Tryz.prog 55 ti55 := tyOk_of (by kernel_rfl) (z := .agg #[dV (.int .i64 0), dV (.str []), dV (.int .i64 0)]) (by kernel_rfl) rfl rfl rfl (.inl rfl)
def ti56 : TI := ⟨.struct #[⟨"End", 3, 0, false, "", "", 0⟩, ⟨"Out", 9, 1, false, "", "", 8⟩, ⟨"Steps", 3, 2, false, "", "", 24⟩], 3, 32, [.int .i64 0, .str [], .int .i64 0]⟩
theorem ty56 : TyOk Tryz.prog 56 ti56 := tyOk_of (by kernel_rfl) (z := .agg #[dV (.int .i64 0), dV (.str []), dV (.int .i64 0)]) (by kernel_rfl) rfl rfl rfl (.inl rfl)
def ti59 : TI := ⟨.slice 3, 1, 24, [.nsl]⟩
theorem ty59 : TyOk Tryz.prog 59 ti59 := tyOk_of (by kernel_rfl) (z := dV (.nsl)) (by kernel_rfl) rfl rfl rfl (.inr rfl)
def ti61 : TI := ⟨.int .u64, 1, 8, [.int .u64 0]⟩
theorem ty61 : TyOk Tryz.prog 61 ti61 := tyOk_of (by kernel_rfl) (z := dV (.int .u64 0)) (by kernel_rfl) rfl rfl rfl (.inr rfl)
def ti64 : TI := ⟨.int .u64, 1, 8, [.int .u64 0]⟩
theorem ty64 : TyOk Tryz.prog 64 ti64 := tyOk_of (by kernel_rfl) (z := dV (.int .u64 0)) (by kernel_rfl) rfl rfl rfl (.inr rfl)
def ti65 : TI := ⟨.pointer 5, 1, 8, [.nilp]⟩
theorem ty65 : TyOk Tryz.prog 65 ti65 := tyOk_of (by kernel_rfl) (z := dV (.nilp)) (by kernel_rfl) rfl rfl rfl (.inr rfl)
def ti66 : TI := ⟨.slice 143, 1, 24, [.nsl]⟩
theorem ty66 : TyOk Tryz.prog 66 ti66 := tyOk_of (by kernel_rfl) (z := dV (.nsl)) (by kernel_rfl) rfl rfl rfl (.inr rfl)
def ti67 : TI := ⟨.slice 146, 1, 24, [.nsl]⟩
theorem ty67 : TyOk Tryz.prog 67 ti67 := tyOk_of (by kernel_rfl) (z := dV (.nsl)) (by kernel_rfl) rfl rfl rfl (.inr rfl)
def ti68 : TI := ⟨.struct #[⟨"Vars", 32, 0, false, "", "", 0⟩, ⟨"Arrays", 66, 1, false, "", "", 24⟩, ⟨"Funcs", 67, 2, false, "", "", 48⟩], 3, 72, [.nsl, .nsl, .nsl]⟩
theorem ty68 : TyOk Tryz.prog 68 ti68 := tyOk_of (by kernel_rfl) (z := .agg #[dV (.nsl), dV (.nsl), dV (.nsl)]) (by kernel_rfl) rfl rfl rfl (.inl rfl)
def ti69 : TI := ⟨.struct #[⟨"Vars", 32, 0, false, "", "", 0⟩, ⟨"Arrays", 66, 1, false, "", "", 24⟩, ⟨"Funcs", 67, 2, false, "", "", 48⟩], 3, 72, [.nsl, .nsl, .nsl]⟩
theorem ty69 : TyOk Tryz.prog 69 ti69 := tyOk_of (by kernel_rfl) (z := .agg #[dV (.nsl), dV (.nsl), dV (.nsl)]) (by kernel_rfl) rfl rfl rfl (.inl rfl)
def ti74 : TI := ⟨.func #[69] #[24, 27] false, 1, 8, [.nilf]⟩
theorem ty74 : TyOk Tryz.prog 74 ti74 := tyOk_of (by kernel_rfl) (z := dV (.nilf)) (by kernel_rfl) rfl rfl rfl (.inr rfl)
def ti80 : TI := ⟨.unsafePointer, 1, 8, [.nilp]⟩
theorem ty80 : TyOk Tryz.prog 80 ti80 := tyOk_of (by kernel_rfl) (z := dV (.nilp)) (by kernel_rfl) rfl rfl rfl (.inr rfl)
def ti82 : TI := ⟨.func #[3] #[4] false, 1, 8, [.nilf]⟩
theorem ty82 : TyOk Tryz.prog 82 ti82 := tyOk_of (by kernel_rfl) (z := dV (.nilf)) (by kernel_rfl) rfl rfl rfl (.inr rfl)
def ti83 : TI := ⟨.struct #[⟨"name", 9, 0, false, "", "seedcorn/inst", 0⟩, ⟨"a", 4, 1, false, "", "seedcorn/inst", 16⟩, ⟨"b", 4, 2, false, "", "seedcorn/inst", 17⟩, ⟨"c", 3, 3, false, "", "seedcorn/inst", 24⟩], 4, 32, [.str [], .bool false, .bool false, .int .i64 0]⟩
theorem ty83 : TyOk Tryz.prog 83 ti83 := tyOk_of (by kernel_rfl) (z := .agg #[dV (.str []), dV (.bool false), dV (.bool false), dV (.int .i64 0)]) (by kernel_rfl) rfl rfl rfl (.inl rfl)
def ti84 : TI := ⟨.struct #[⟨"name", 9, 0, false, "", "seedcorn/inst", 0⟩, ⟨"a", 4, 1, false, "", "seedcorn/inst", 16⟩, ⟨"b", 4, 2, false, "", "seedcorn/inst", 17⟩, ⟨"c", 3, 3, false, "", "seedcorn/inst", 24⟩], 4, 32, [.str [], .bool false, .bool false, .int .i64 0]⟩
theorem ty84 : TyOk Tryz.prog 84 ti84 := tyOk_of (by kernel_rfl) (z := .agg #[dV (.str []), dV (.bool false), dV (.bool false), dV (.int .i64 0)]) (by kernel_rfl) rfl rfl rfl (.inl rfl)
def ti89 : TI := ⟨.pointer 135, 1, 8, [.nilp]⟩
theorem ty89 : TyOk Tryz.prog 89 ti89 := tyOk_of (by kernel_rfl) (z := dV (.nilp)) (by kernel_rfl) rfl rfl rfl (.inr rfl)
def ti91 : TI := ⟨.func #[89] #[] false, 1, 8, [.nilf]⟩
theorem ty91 : TyOk Tryz.prog 91 ti91 := tyOk_of (by kernel_rfl) (z := dV (.nilf)) (by kernel_rfl) rfl rfl rfl (.inr rfl)
def ti93 : TI := ⟨.slice 161, 1, 24, [.nsl]⟩
theorem ty93 : TyOk Tryz.prog 93 ti93 := tyOk_of (by kernel_rfl) (z := dV (.nsl)) (by kernel_rfl) rfl rfl rfl (.inr rfl)
def ti94 : TI := ⟨.struct #[⟨"Words", 3, 0, false, "", "", 0⟩, ⟨"Funcs", 93, 1, false, "", "", 8⟩], 2, 32, [.int .i64 0, .nsl]⟩
theorem ty94 : TyOk Tryz.prog 94 ti94 := tyOk_of (by kernel_rfl) (z := .agg #[dV (.int .i64 0), dV (.nsl)]) (by kernel_rfl) rfl rfl rfl (.inl rfl)
def ti95 : TI := ⟨.struct #[⟨"Words", 3, 0, false, "", "", 0⟩, ⟨"Funcs", 93, 1, false, "", "", 8⟩], 2, 32, [.int .i64 0, .nsl]⟩
theorem ty95 : TyOk Tryz.prog 95 ti95 := tyOk_of (by kernel_rfl) (z := .agg #[dV (.int .i64 0), dV (.nsl)]) (by kernel_rfl) rfl rfl rfl (.inl rfl)
def ti100 : TI := ⟨.slice 175, 1, 24, [.nsl]⟩
theorem ty100 : TyOk Tryz.prog 100 ti100 := tyOk_of (by kernel_rfl) (z := dV (.nsl)) (by kernel_rfl) rfl rfl rfl (.inr rfl)
def ti101 : TI := ⟨.struct #[⟨"Words", 3, 0, false, "", "", 0⟩, ⟨"Funcs", 100, 1, false, "", "", 8⟩], 2, 32, [.int .i64 0, .nsl]⟩
theorem ty101 : TyOk Tryz.prog 101 ti101 := tyOk_of (by kernel_rfl) (z := .agg #[dV (.int .i64 0), dV (.nsl)]) (by kernel_rfl) rfl rfl rfl (.inl rfl)
def ti102 : TI := ⟨.struct #[⟨"Words", 3, 0, false, "", "", 0⟩, ⟨"Funcs", 100, 1, false, "", "", 8⟩], 2, 32, [.int .i64 0, .nsl]⟩
theorem ty102 : TyOk Tryz.prog 102 ti102 := tyOk_of (by kernel_rfl) (z := .agg #[dV (.int .i64 0), dV (.nsl)]) (by kernel_rfl) rfl rfl rfl (.inl rfl)
def ti104 : TI := ⟨.func #[95] #[24, 27] false, 1, 8, [.nilf]⟩
theorem ty104 : TyOk Tryz.prog 104 ti104 := tyOk_of (by kernel_rfl) (z := dV (.nilf)) (by kernel_rfl) rfl rfl rfl (.inr rfl)
def ti106 : TI := ⟨.array 16 5, 16, 16, [.int .u8 0, .int .u8 0, .int .u8 0, .int .u8 0, .int .u8 0, .int .u8 0, .int .u8 0, .int .u8 0, .int .u8 0, .int .u8 0, .int .u8 0, .int .u8 0, .int .u8 0, .int .u8 0, .int .u8 0, .int .u8 0]⟩
theorem ty106 : TyOk Tryz.prog 106 ti106 := tyOk_of (by kernel_rfl) (z := .agg #[dV (.int .u8 0), dV (.int .u8 0), dV (.int .u8 0), dV (.int .u8 0), dV (.int .u8 0), dV (.int .u8 0), dV (.int .u8 0), dV (.int .u8 0), dV (.int .u8 0), dV (.int .u8 0), dV (.int .u8 0), dV (.int .u8 0), dV (.int .u8 0), dV (.int .u8 0), dV (.int .u8 0), dV (.int .u8 0)]) (by kernel_rfl) rfl rfl rfl (.inl rfl)
def ti109 : TI := ⟨.func #[177] #[] false, 1, 8, [.nilf]⟩
theorem ty109 : TyOk Tryz.prog 109 ti109 := tyOk_of (by kernel_rfl) (z := dV (.nilf)) (by kernel_rfl) rfl rfl rfl (.inr rfl)
def ti110 : TI := ⟨.func #[177] #[] false, 1, 8, [.nilf]⟩
theorem ty110 : TyOk Tryz.prog 110 ti110 := tyOk_of (by kernel_rfl) (z := dV (.nilf)) (by kernel_rfl) rfl rfl rfl (.inr rfl)
def ti112 : TI := ⟨.slice 115, 1, 24, [.nsl]⟩
theorem ty112 : TyOk Tryz.prog 112 ti112 := tyOk_of (by kernel_rfl) (z := dV (.nsl)) (by kernel_rfl) rfl rfl rfl (.inr rfl)
def ti114 : TI := ⟨.struct #[⟨"Ins", 45, 0, true, "", "", 0⟩, ⟨"note", 9, 4, false, "", "seedcorn/seed", 32⟩], 5, 48, [.int .i64 0, .int .i64 0, .int .i64 0, .int .i64 0, .str []]⟩
theorem ty114 : TyOk Tryz.prog 114 ti114 := tyOk_of (by kernel_rfl) (z := .agg #[dV (.int .i64 0), dV (.int .i64 0), dV (.int .i64 0), dV (.int .i64 0), dV (.str [])]) (by kernel_rfl) rfl rfl rfl (.inl rfl)
def ti115 : TI := ⟨.struct #[⟨"Ins", 45, 0, true, "", "", 0⟩, ⟨"note", 9, 4, false, "", "seedcorn/seed", 32⟩], 5, 48, [.int .i64 0, .int .i64 0, .int .i64 0, .int .i64 0, .str []]⟩
theorem ty115 : TyOk Tryz.prog 115 ti115 := tyOk_of (by kernel_rfl) (z := .agg #[dV (.int .i64 0), dV (.int .i64 0), dV (.int .i64 0), dV (.int .i64 0), dV (.str [])]) (by kernel_rfl) rfl rfl rfl (.inl rfl)
def ti118 : TI := ⟨.array 16 31, 16, 64, [.int .u32 0, .int .u32 0, .int .u32 0, .int .u32 0, .int .u32 0, .int .u32 0, .int .u32 0, .int .u32 0, .int .u32 0, .int .u32 0, .int .u32 0, .int .u32 0, .int .u32 0, .int .u32 0, .int .u32 0, .int .u32 0]⟩
theorem ty118 : TyOk Tryz.prog 118 ti118 := tyOk_of (by kernel_rfl) (z := .agg #[dV (.int .u32 0), dV (.int .u32 0), dV (.int .u32 0), dV (.int .u32 0), dV (.int .u32 0), dV (.int .u32 0), dV (.int .u32 0), dV (.int .u32 0), dV (.int .u32 0), dV (.int .u32 0), dV (.int .u32 0), dV (.int .u32 0), dV (.int .u32 0), dV (.int .u32 0), dV (.int .u32 0), dV (.int .u32 0)]) (by kernel_rfl) rfl rfl rfl (.inl rfl)
def ti119 : TI := ⟨.struct #[⟨"PC", 3, 0, false, "", "", 0⟩, ⟨"Reg", 118, 1, false, "", "", 8⟩, ⟨"Mem", 22, 17, false, "", "", 72⟩, ⟨"Read", 3, 18, false, "", "", 96⟩, ⟨"Out", 9, 19, false, "", "", 104⟩, ⟨"Steps", 3, 20, false, "", "", 120⟩, ⟨"End", 3, 21, false, "", "", 128⟩], 22, 136, [.int .i64 0, .int .u32 0, .int .u32 0, .int .u32 0, .int .u32 0, .int .u32 0, .int .u32 0, .int .u32 0, .int .u32 0, .int .u32 0, .int .u32 0, .int .u32 0, .int .u32 0, .int .u32 0, .int .u32 0, .int .u32 0, .int .u32 0, .nsl, .int .i64 0, .str [], .int .i64 0, .int .i64 0]⟩
theorem ty119 : TyOk Tryz.prog 119 ti119 := tyOk_of (by kernel_rfl) (z := .agg #[dV (.int .i64 0), dV (.int .u32 0), dV (.int .u32 0), dV (.int .u32 0), dV (.int .u32 0), dV (.int .u32 0), dV (.int .u32 0), dV (.int .u32 0), dV (.int .u32 0), dV (.int .u32 0), dV (.int .u32 0), dV (.int .u32 0), dV (.int .u32 0), dV (.int .u32 0), dV (.int .u32 0), dV (.int .u32 0), dV (.int .u32 0), dV (.nsl), dV (.int .i64 0), dV (.str []), dV (.int .i64 0), dV (.int .i64 0)]) (by kernel_rfl) rfl rfl rfl (.inl rfl)
def ti120 : TI := ⟨.struct #[⟨"PC", 3, 0, false, "", "", 0⟩, ⟨"Reg", 118, 1, false, "", "", 8⟩, ⟨"Mem", 22, 17, false, "", "", 72⟩, ⟨"Read", 3, 18, false, "", "", 96⟩, ⟨"Out", 9, 19, false, "", "", 104⟩, ⟨"Steps", 3, 20, false, "", "", 120⟩, ⟨"End", 3, 21, false, "", "", 128⟩], 22, 136, [.int .i64 0, .int .u32 0, .int .u32 0, .int .u32 0, .int .u32 0, .int .u32 0, .int .u32 0, .int .u32 0, .int .u32 0, .int .u32 0, .int .u32 0, .int .u32 0, .int .u32 0, .int .u32 0, .int .u32 0, .int .u32 0, .int .u32 0, .nsl, .int .i64 0, .str [], .int .i64 0, .int .i64 0]⟩
theorem ty120 : TyOk Tryz.prog 120 ti120 := tyOk_of (by kernel_rfl) (z := .agg #[dV (.int .i64 0), dV (.int .u32 0), dV (.int .u32 0), dV (.int .u32 0), dV (.int .u32 0), dV (.int .u32 0), dV (.int .u32 0), dV (.int .u32 0), dV (.int .u32 0), dV (.int .u32 0), dV (.int .u32 0), dV (.int .u32 0), dV (.int .u32 0), dV (.int .u32 0), dV (.int .u32 0), dV (.int .u32 0), dV (.int .u32 0), dV (.nsl), dV (.int .i64 0), dV (.str []), dV (.int .i64 0), dV (.int .i64 0)]) (by kernel_rfl) rfl rfl rfl (.inl rfl)
def ti124 : TI := ⟨.array 24 5, 24, 24, [.int .u8 0, .int .u8 0, .int .u8 0, .int .u8 0, .int .u8 0, .int .u8 0, .int .u8 0, .int .u8 0, .int .u8 0, .int .u8 0, .int .u8 0, .int .u8 0, .int .u8 0, .int .u8 0, .int .u8 0, .int .u8 0, .int .u8 0, .int .u8 0, .int .u8 0, .int .u8 0, .int .u8 0, .int .u8 0, .int .u8 0, .int .u8 0]⟩
theorem ty124 : TyOk Tryz.prog 124 ti124 := tyOk_of (by kernel_rfl) (z := .agg #[dV (.int .u8 0), dV (.int .u8 0), dV (.int .u8 0), dV (.int .u8 0), dV (.int .u8 0), dV (.int .u8 0), dV (.int .u8 0), dV (.int .u8 0), dV (.int .u8 0), dV (.int .u8 0), dV (.int .u8 0), dV (.int .u8 0), dV (.int .u8 0), dV (.int .u8 0), dV (.int .u8 0), dV (.int .u8 0), dV (.int .u8 0), dV (.int .u8 0), dV (.int .u8 0), dV (.int .u8 0), dV (.int .u8 0), dV (.int .u8 0), dV (.int .u8 0), dV (.int .u8 0)]) (by kernel_rfl) rfl rfl rfl (.inl rfl)
def ti129 : TI := ⟨.slice 139, 1, 24, [.nsl]⟩
theorem ty129 : TyOk Tryz.prog 129 ti129 := tyOk_of (by kernel_rfl) (z := dV (.nsl)) (by kernel_rfl) rfl rfl rfl (.inr rfl)
def ti132 : TI := ⟨.struct #[⟨"at", 3, 0, false, "", "seedcorn/parse", 0⟩], 1, 8, [.int .i64 0]⟩
theorem ty132 : TyOk Tryz.prog 132 ti132 := tyOk_of (by kernel_rfl) (z := .agg #[dV (.int .i64 0)]) (by kernel_rfl) rfl rfl rfl (.inl rfl)
def ti133 : TI := ⟨.struct #[⟨"at", 3, 0, false, "", "seedcorn/parse", 0⟩], 1, 8, [.int .i64 0]⟩
theorem ty133 : TyOk Tryz.prog 133 ti133 := tyOk_of (by kernel_rfl) (z := .agg #[dV (.int .i64 0)]) (by kernel_rfl) rfl rfl rfl (.inl rfl)
def ti134 : TI := ⟨.struct #[⟨"tokens", 129, 0, false, "", "seedcorn/parse", 0⟩, ⟨"next", 3, 1, false, "", "seedcorn/parse", 24⟩, ⟨"end", 3, 2, false, "", "seedcorn/parse", 32⟩], 3, 40, [.nsl, .int .i64 0, .int .i64 0]⟩
theorem ty134 : TyOk Tryz.prog 134 ti134 := tyOk_of (by kernel_rfl) (z := .agg #[dV (.nsl), dV (.int .i64 0), dV (.int .i64 0)]) (by kernel_rfl) rfl rfl rfl (.inl rfl)
def ti135 : TI := ⟨.struct #[⟨"tokens", 129, 0, false, "", "seedcorn/parse", 0⟩, ⟨"next", 3, 1, false, "", "seedcorn/parse", 24⟩, ⟨"end", 3, 2, false, "", "seedcorn/parse", 32⟩], 3, 40, [.nsl, .int .i64 0, .int .i64 0]⟩
theorem ty135 : TyOk Tryz.prog 135 ti135 := tyOk_of (by kernel_rfl) (z := .agg #[dV (.nsl), dV (.int .i64 0), dV (.int .i64 0)]) (by kernel_rfl) rfl rfl rfl (.inl rfl)
def ti138 : TI := ⟨.struct #[⟨"Kind", 3, 0, false, "", "", 0⟩, ⟨"Text", 9, 1, false, "", "", 8⟩, ⟨"Num", 31, 2, false, "", "", 24⟩, ⟨"At", 3, 3, false, "", "", 32⟩], 4, 40, [.int .i64 0, .str [], .int .u32 0, .int .i64 0]⟩
theorem ty138 : TyOk Tryz.prog 138 ti138 := tyOk_of (by kernel_rfl) (z := .agg #[dV (.int .i64 0), dV (.str []), dV (.int .u32 0), dV (.int .i64 0)]) (by kernel_rfl) rfl rfl rfl (.inl rfl)
def ti139 : TI := ⟨.struct #[⟨"Kind", 3, 0, false, "", "", 0⟩, ⟨"Text", 9, 1, false, "", "", 8⟩, ⟨"Num", 31, 2, false, "", "", 24⟩, ⟨"At", 3, 3, false, "", "", 32⟩], 4, 40, [.int .i64 0, .str [], .int .u32 0, .int .i64 0]⟩
theorem ty139 : TyOk Tryz.prog 139 ti139 := tyOk_of (by kernel_rfl) (z := .agg #[dV (.int .i64 0), dV (.str []), dV (.int .u32 0), dV (.int .i64 0)]) (by kernel_rfl) rfl rfl rfl (.inl rfl)
def ti142 : TI := ⟨.struct #[⟨"Name", 9, 0, false, "", "", 0⟩, ⟨"Size", 3, 1, false, "", "", 16⟩], 2, 24, [.str [], .int .i64 0]⟩
theorem ty142 : TyOk Tryz.prog 142 ti142 := tyOk_of (by kernel_rfl) (z := .agg #[dV (.str []), dV (.int .i64 0)]) (by kernel_rfl) rfl rfl rfl (.inl rfl)
def ti143 : TI := ⟨.struct #[⟨"Name", 9, 0, false, "", "", 0⟩, ⟨"Size", 3, 1, false, "", "", 16⟩], 2, 24, [.str [], .int .i64 0]⟩
theorem ty143 : TyOk Tryz.prog 143 ti143 := tyOk_of (by kernel_rfl) (z := .agg #[dV (.str []), dV (.int .i64 0)]) (by kernel_rfl) rfl rfl rfl (.inl rfl)
def ti144 : TI := ⟨.slice 198, 1, 24, [.nsl]⟩
theorem ty144 : TyOk Tryz.prog 144 ti144 := tyOk_of (by kernel_rfl) (z := dV (.nsl)) (by kernel_rfl) rfl rfl rfl (.inr rfl)
def ti145 : TI := ⟨.struct #[⟨"Name", 9, 0, false, "", "", 0⟩, ⟨"Params", 32, 1, false, "", "", 16⟩, ⟨"Locals", 32, 2, false, "", "", 40⟩, ⟨"Word", 4, 3, false, "", "", 64⟩, ⟨"Body", 144, 4, false, "", "", 72⟩], 5, 96, [.str [], .nsl, .nsl, .bool false, .nsl]⟩
theorem ty145 : TyOk Tryz.prog 145 ti145 := tyOk_of (by kernel_rfl) (z := .agg #[dV (.str []), dV (.nsl), dV (.nsl), dV (.bool false), dV (.nsl)]) (by kernel_rfl) rfl rfl rfl (.inl rfl)
def ti146 : TI := ⟨.struct #[⟨"Name", 9, 0, false, "", "", 0⟩, ⟨"Params", 32, 1, false, "", "", 16⟩, ⟨"Locals", 32, 2, false, "", "", 40⟩, ⟨"Word", 4, 3, false, "", "", 64⟩, ⟨"Body", 144, 4, false, "", "", 72⟩], 5, 96, [.str [], .nsl, .nsl, .bool false, .nsl]⟩
theorem ty146 : TyOk Tryz.prog 146 ti146 := tyOk_of (by kernel_rfl) (z := .agg #[dV (.str []), dV (.nsl), dV (.nsl), dV (.bool false), dV (.nsl)]) (by kernel_rfl) rfl rfl rfl (.inl rfl)
def ti151 : TI := ⟨.map 9 157, 1, 8, [.nilm]⟩
theorem ty151 : TyOk Tryz.prog 151 ti151 := tyOk_of (by kernel_rfl) (z := dV (.nilm)) (by kernel_rfl) rfl rfl rfl (.inr rfl)
def ti154 : TI := ⟨.struct #[⟨"outside", 151, 0, false, "", "seedcorn/core", 0⟩, ⟨"inside", 151, 1, false, "", "seedcorn/core", 8⟩], 2, 16, [.nilm, .nilm]⟩
theorem ty154 : TyOk Tryz.prog 154 ti154 := tyOk_of (by kernel_rfl) (z := .agg #[dV (.nilm), dV (.nilm)]) (by kernel_rfl) rfl rfl rfl (.inl rfl)
def ti155 : TI := ⟨.struct #[⟨"outside", 151, 0, false, "", "seedcorn/core", 0⟩, ⟨"inside", 151, 1, false, "", "seedcorn/core", 8⟩], 2, 16, [.nilm, .nilm]⟩
theorem ty155 : TyOk Tryz.prog 155 ti155 := tyOk_of (by kernel_rfl) (z := .agg #[dV (.nilm), dV (.nilm)]) (by kernel_rfl) rfl rfl rfl (.inl rfl)
def ti156 : TI := ⟨.struct #[⟨"slot", 3, 0, false, "", "seedcorn/core", 0⟩, ⟨"size", 3, 1, false, "", "seedcorn/core", 8⟩], 2, 16, [.int .i64 0, .int .i64 0]⟩
theorem ty156 : TyOk Tryz.prog 156 ti156 := tyOk_of (by kernel_rfl) (z := .agg #[dV (.int .i64 0), dV (.int .i64 0)]) (by kernel_rfl) rfl rfl rfl (.inl rfl)
def ti157 : TI := ⟨.struct #[⟨"slot", 3, 0, false, "", "seedcorn/core", 0⟩, ⟨"size", 3, 1, false, "", "seedcorn/core", 8⟩], 2, 16, [.int .i64 0, .int .i64 0]⟩
theorem ty157 : TyOk Tryz.prog 157 ti157 := tyOk_of (by kernel_rfl) (z := .agg #[dV (.int .i64 0), dV (.int .i64 0)]) (by kernel_rfl) rfl rfl rfl (.inl rfl)
def ti158 : TI := ⟨.slice 205, 1, 24, [.nsl]⟩
theorem ty158 : TyOk Tryz.prog 158 ti158 := tyOk_of (by kernel_rfl) (z := dV (.nsl)) (by kernel_rfl) rfl rfl rfl (.inr rfl)
def ti160 : TI := ⟨.struct #[⟨"Params", 3, 0, false, "", "", 0⟩, ⟨"Slots", 3, 1, false, "", "", 8⟩, ⟨"First", 3, 2, false, "", "", 16⟩, ⟨"Word", 4, 3, false, "", "", 24⟩, ⟨"Body", 158, 4, false, "", "", 32⟩], 5, 56, [.int .i64 0, .int .i64 0, .int .i64 0, .bool false, .nsl]⟩
theorem ty160 : TyOk Tryz.prog 160 ti160 := tyOk_of (by kernel_rfl) (z := .agg #[dV (.int .i64 0), dV (.int .i64 0), dV (.int .i64 0), dV (.bool false), dV (.nsl)]) (by kernel_rfl) rfl rfl rfl (.inl rfl)
def ti161 : TI := ⟨.struct #[⟨"Params", 3, 0, false, "", "", 0⟩, ⟨"Slots", 3, 1, false, "", "", 8⟩, ⟨"First", 3, 2, false, "", "", 16⟩, ⟨"Word", 4, 3, false, "", "", 24⟩, ⟨"Body", 158, 4, false, "", "", 32⟩], 5, 56, [.int .i64 0, .int .i64 0, .int .i64 0, .bool false, .nsl]⟩
theorem ty161 : TyOk Tryz.prog 161 ti161 := tyOk_of (by kernel_rfl) (z := .agg #[dV (.int .i64 0), dV (.int .i64 0), dV (.int .i64 0), dV (.bool false), dV (.nsl)]) (by kernel_rfl) rfl rfl rfl (.inl rfl)
def ti162 : TI := ⟨.slice 59, 1, 24, [.nsl]⟩
theorem ty162 : TyOk Tryz.prog 162 ti162 := tyOk_of (by kernel_rfl) (z := dV (.nsl)) (by kernel_rfl) rfl rfl rfl (.inr rfl)
def ti163 : TI := ⟨.struct #[⟨"depths", 162, 0, false, "", "seedcorn/emit", 0⟩, ⟨"back", 59, 1, false, "", "seedcorn/emit", 24⟩, ⟨"base", 59, 2, false, "", "seedcorn/emit", 48⟩, ⟨"data", 3, 3, false, "", "seedcorn/emit", 72⟩], 4, 80, [.nsl, .nsl, .nsl, .int .i64 0]⟩
theorem ty163 : TyOk Tryz.prog 163 ti163 := tyOk_of (by kernel_rfl) (z := .agg #[dV (.nsl), dV (.nsl), dV (.nsl), dV (.int .i64 0)]) (by kernel_rfl) rfl rfl rfl (.inl rfl)
def ti164 : TI := ⟨.struct #[⟨"depths", 162, 0, false, "", "seedcorn/emit", 0⟩, ⟨"back", 59, 1, false, "", "seedcorn/emit", 24⟩, ⟨"base", 59, 2, false, "", "seedcorn/emit", 48⟩, ⟨"data", 3, 3, false, "", "seedcorn/emit", 72⟩], 4, 80, [.nsl, .nsl, .nsl, .int .i64 0]⟩
theorem ty164 : TyOk Tryz.prog 164 ti164 := tyOk_of (by kernel_rfl) (z := .agg #[dV (.nsl), dV (.nsl), dV (.nsl), dV (.int .i64 0)]) (by kernel_rfl) rfl rfl rfl (.inl rfl)
def ti166 : TI := ⟨.pointer 170, 1, 8, [.nilp]⟩
theorem ty166 : TyOk Tryz.prog 166 ti166 := tyOk_of (by kernel_rfl) (z := dV (.nilp)) (by kernel_rfl) rfl rfl rfl (.inr rfl)
def ti167 : TI := ⟨.slice 45, 1, 24, [.nsl]⟩
theorem ty167 : TyOk Tryz.prog 167 ti167 := tyOk_of (by kernel_rfl) (z := dV (.nsl)) (by kernel_rfl) rfl rfl rfl (.inr rfl)
def ti168 : TI := ⟨.slice 213, 1, 24, [.nsl]⟩
theorem ty168 : TyOk Tryz.prog 168 ti168 := tyOk_of (by kernel_rfl) (z := dV (.nsl)) (by kernel_rfl) rfl rfl rfl (.inr rfl)
def ti169 : TI := ⟨.struct #[⟨"s", 102, 0, false, "", "seedcorn/emit", 0⟩, ⟨"plan", 164, 2, false, "", "seedcorn/emit", 32⟩, ⟨"code", 167, 6, false, "", "seedcorn/emit", 112⟩, ⟨"entry", 59, 7, false, "", "seedcorn/emit", 136⟩, ⟨"places", 162, 8, false, "", "seedcorn/emit", 160⟩, ⟨"holes", 168, 9, false, "", "seedcorn/emit", 184⟩, ⟨"f", 3, 10, false, "", "seedcorn/emit", 208⟩, ⟨"depth", 3, 11, false, "", "seedcorn/emit", 216⟩], 12, 224, [.int .i64 0, .nsl, .nsl, .nsl, .nsl, .int .i64 0, .nsl, .nsl, .nsl, .nsl, .int .i64 0, .int .i64 0]⟩
theorem ty169 : TyOk Tryz.prog 169 ti169 := tyOk_of (by kernel_rfl) (z := .agg #[dV (.int .i64 0), dV (.nsl), dV (.nsl), dV (.nsl), dV (.nsl), dV (.int .i64 0), dV (.nsl), dV (.nsl), dV (.nsl), dV (.nsl), dV (.int .i64 0), dV (.int .i64 0)]) (by kernel_rfl) rfl rfl rfl (.inl rfl)
def ti170 : TI := ⟨.struct #[⟨"s", 102, 0, false, "", "seedcorn/emit", 0⟩, ⟨"plan", 164, 2, false, "", "seedcorn/emit", 32⟩, ⟨"code", 167, 6, false, "", "seedcorn/emit", 112⟩, ⟨"entry", 59, 7, false, "", "seedcorn/emit", 136⟩, ⟨"places", 162, 8, false, "", "seedcorn/emit", 160⟩, ⟨"holes", 168, 9, false, "", "seedcorn/emit", 184⟩, ⟨"f", 3, 10, false, "", "seedcorn/emit", 208⟩, ⟨"depth", 3, 11, false, "", "seedcorn/emit", 216⟩], 12, 224, [.int .i64 0, .nsl, .nsl, .nsl, .nsl, .int .i64 0, .nsl, .nsl, .nsl, .nsl, .int .i64 0, .int .i64 0]⟩
theorem ty170 : TyOk Tryz.prog 170 ti170 := tyOk_of (by kernel_rfl) (z := .agg #[dV (.int .i64 0), dV (.nsl), dV (.nsl), dV (.nsl), dV (.nsl), dV (.int .i64 0), dV (.nsl), dV (.nsl), dV (.nsl), dV (.nsl), dV (.int .i64 0), dV (.int .i64 0)]) (by kernel_rfl) rfl rfl rfl (.inl rfl)
def ti172 : TI := ⟨.slice 253, 1, 24, [.nsl]⟩
theorem ty172 : TyOk Tryz.prog 172 ti172 := tyOk_of (by kernel_rfl) (z := dV (.nsl)) (by kernel_rfl) rfl rfl rfl (.inr rfl)
def ti174 : TI := ⟨.struct #[⟨"Params", 3, 0, false, "", "", 0⟩, ⟨"Slots", 3, 1, false, "", "", 8⟩, ⟨"First", 3, 2, false, "", "", 16⟩, ⟨"Word", 4, 3, false, "", "", 24⟩, ⟨"Code", 172, 4, false, "", "", 32⟩], 5, 56, [.int .i64 0, .int .i64 0, .int .i64 0, .bool false, .nsl]⟩
theorem ty174 : TyOk Tryz.prog 174 ti174 := tyOk_of (by kernel_rfl) (z := .agg #[dV (.int .i64 0), dV (.int .i64 0), dV (.int .i64 0), dV (.bool false), dV (.nsl)]) (by kernel_rfl) rfl rfl rfl (.inl rfl)
def ti175 : TI := ⟨.struct #[⟨"Params", 3, 0, false, "", "", 0⟩, ⟨"Slots", 3, 1, false, "", "", 8⟩, ⟨"First", 3, 2, false, "", "", 16⟩, ⟨"Word", 4, 3, false, "", "", 24⟩, ⟨"Code", 172, 4, false, "", "", 32⟩], 5, 56, [.int .i64 0, .int .i64 0, .int .i64 0, .bool false, .nsl]⟩
theorem ty175 : TyOk Tryz.prog 175 ti175 := tyOk_of (by kernel_rfl) (z := .agg #[dV (.int .i64 0), dV (.int .i64 0), dV (.int .i64 0), dV (.bool false), dV (.nsl)]) (by kernel_rfl) rfl rfl rfl (.inl rfl)
def ti177 : TI := ⟨.func #[31] #[4] false, 1, 8, [.nilf]⟩
theorem ty177 : TyOk Tryz.prog 177 ti177 := tyOk_of (by kernel_rfl) (z := dV (.nilf)) (by kernel_rfl) rfl rfl rfl (.inr rfl)
def ti178 : TI := ⟨.pointer 219, 1, 8, [.nilp]⟩
theorem ty178 : TyOk Tryz.prog 178 ti178 := tyOk_of (by kernel_rfl) (z := dV (.nilp)) (by kernel_rfl) rfl rfl rfl (.inr rfl)
def ti186 : TI := ⟨.array 20 64, 20, 160, [.int .u64 0, .int .u64 0, .int .u64 0, .int .u64 0, .int .u64 0, .int .u64 0, .int .u64 0, .int .u64 0, .int .u64 0, .int .u64 0, .int .u64 0, .int .u64 0, .int .u64 0, .int .u64 0, .int .u64 0, .int .u64 0, .int .u64 0, .int .u64 0, .int .u64 0, .int .u64 0]⟩
theorem ty186 : TyOk Tryz.prog 186 ti186 := tyOk_of (by kernel_rfl) (z := .agg #[dV (.int .u64 0), dV (.int .u64 0), dV (.int .u64 0), dV (.int .u64 0), dV (.int .u64 0), dV (.int .u64 0), dV (.int .u64 0), dV (.int .u64 0), dV (.int .u64 0), dV (.int .u64 0), dV (.int .u64 0), dV (.int .u64 0), dV (.int .u64 0), dV (.int .u64 0), dV (.int .u64 0), dV (.int .u64 0), dV (.int .u64 0), dV (.int .u64 0), dV (.int .u64 0), dV (.int .u64 0)]) (by kernel_rfl) rfl rfl rfl (.inl rfl)
def ti191 : TI := ⟨.func #[5] #[4] false, 1, 8, [.nilf]⟩
theorem ty191 : TyOk Tryz.prog 191 ti191 := tyOk_of (by kernel_rfl) (z := dV (.nilf)) (by kernel_rfl) rfl rfl rfl (.inr rfl)
def ti196 : TI := ⟨.slice 225, 1, 24, [.nsl]⟩
theorem ty196 : TyOk Tryz.prog 196 ti196 := tyOk_of (by kernel_rfl) (z := dV (.nsl)) (by kernel_rfl) rfl rfl rfl (.inr rfl)
def ti197 : TI := ⟨.struct #[⟨"Kind", 3, 0, false, "", "", 0⟩, ⟨"Name", 9, 1, false, "", "", 8⟩, ⟨"E", 196, 2, false, "", "", 24⟩, ⟨"Then", 144, 3, false, "", "", 48⟩, ⟨"Else", 144, 4, false, "", "", 72⟩], 5, 96, [.int .i64 0, .str [], .nsl, .nsl, .nsl]⟩
theorem ty197 : TyOk Tryz.prog 197 ti197 := tyOk_of (by kernel_rfl) (z := .agg #[dV (.int .i64 0), dV (.str []), dV (.nsl), dV (.nsl), dV (.nsl)]) (by kernel_rfl) rfl rfl rfl (.inl rfl)
def ti198 : TI := ⟨.struct #[⟨"Kind", 3, 0, false, "", "", 0⟩, ⟨"Name", 9, 1, false, "", "", 8⟩, ⟨"E", 196, 2, false, "", "", 24⟩, ⟨"Then", 144, 3, false, "", "", 48⟩, ⟨"Else", 144, 4, false, "", "", 72⟩], 5, 96, [.int .i64 0, .str [], .nsl, .nsl, .nsl]⟩
theorem ty198 : TyOk Tryz.prog 198 ti198 := tyOk_of (by kernel_rfl) (z := .agg #[dV (.int .i64 0), dV (.str []), dV (.nsl), dV (.nsl), dV (.nsl)]) (by kernel_rfl) rfl rfl rfl (.inl rfl)
def ti202 : TI := ⟨.slice 246, 1, 24, [.nsl]⟩
theorem ty202 : TyOk Tryz.prog 202 ti202 := tyOk_of (by kernel_rfl) (z := dV (.nsl)) (by kernel_rfl) rfl rfl rfl (.inr rfl)
def ti204 : TI := ⟨.struct #[⟨"Kind", 3, 0, false, "", "", 0⟩, ⟨"Slot", 3, 1, false, "", "", 8⟩, ⟨"Size", 3, 2, false, "", "", 16⟩, ⟨"E", 202, 3, false, "", "", 24⟩, ⟨"Then", 158, 4, false, "", "", 48⟩, ⟨"Else", 158, 5, false, "", "", 72⟩], 6, 96, [.int .i64 0, .int .i64 0, .int .i64 0, .nsl, .nsl, .nsl]⟩
theorem ty204 : TyOk Tryz.prog 204 ti204 := tyOk_of (by kernel_rfl) (z := .agg #[dV (.int .i64 0), dV (.int .i64 0), dV (.int .i64 0), dV (.nsl), dV (.nsl), dV (.nsl)]) (by kernel_rfl) rfl rfl rfl (.inl rfl)
def ti205 : TI := ⟨.struct #[⟨"Kind", 3, 0, false, "", "", 0⟩, ⟨"Slot", 3, 1, false, "", "", 8⟩, ⟨"Size", 3, 2, false, "", "", 16⟩, ⟨"E", 202, 3, false, "", "", 24⟩, ⟨"Then", 158, 4, false, "", "", 48⟩, ⟨"Else", 158, 5, false, "", "", 72⟩], 6, 96, [.int .i64 0, .int .i64 0, .int .i64 0, .nsl, .nsl, .nsl]⟩
theorem ty205 : TyOk Tryz.prog 205 ti205 := tyOk_of (by kernel_rfl) (z := .agg #[dV (.int .i64 0), dV (.int .i64 0), dV (.int .i64 0), dV (.nsl), dV (.nsl), dV (.nsl)]) (by kernel_rfl) rfl rfl rfl (.inl rfl)
def ti208 : TI := ⟨.map 3 257, 1, 8, [.nilm]⟩
theorem ty208 : TyOk Tryz.prog 208 ti208 := tyOk_of (by kernel_rfl) (z := dV (.nilm)) (by kernel_rfl) rfl rfl rfl (.inr rfl)
def ti212 : TI := ⟨.struct #[⟨"at", 3, 0, false, "", "seedcorn/emit", 0⟩, ⟨"f", 3, 1, false, "", "seedcorn/emit", 8⟩, ⟨"place", 3, 2, false, "", "seedcorn/emit", 16⟩], 3, 24, [.int .i64 0, .int .i64 0, .int .i64 0]⟩
theorem ty212 : TyOk Tryz.prog 212 ti212 := tyOk_of (by kernel_rfl) (z := .agg #[dV (.int .i64 0), dV (.int .i64 0), dV (.int .i64 0)]) (by kernel_rfl) rfl rfl rfl (.inl rfl)
def ti213 : TI := ⟨.struct #[⟨"at", 3, 0, false, "", "seedcorn/emit", 0⟩, ⟨"f", 3, 1, false, "", "seedcorn/emit", 8⟩, ⟨"place", 3, 2, false, "", "seedcorn/emit", 16⟩], 3, 24, [.int .i64 0, .int .i64 0, .int .i64 0]⟩
theorem ty213 : TyOk Tryz.prog 213 ti213 := tyOk_of (by kernel_rfl) (z := .agg #[dV (.int .i64 0), dV (.int .i64 0), dV (.int .i64 0)]) (by kernel_rfl) rfl rfl rfl (.inl rfl)
def ti214 : TI := ⟨.struct #[⟨"word", 4, 0, false, "", "seedcorn/lower", 0⟩, ⟨"code", 172, 1, false, "", "seedcorn/lower", 8⟩], 2, 32, [.bool false, .nsl]⟩
theorem ty214 : TyOk Tryz.prog 214 ti214 := tyOk_of (by kernel_rfl) (z := .agg #[dV (.bool false), dV (.nsl)]) (by kernel_rfl) rfl rfl rfl (.inl rfl)
def ti215 : TI := ⟨.struct #[⟨"word", 4, 0, false, "", "seedcorn/lower", 0⟩, ⟨"code", 172, 1, false, "", "seedcorn/lower", 8⟩], 2, 32, [.bool false, .nsl]⟩
theorem ty215 : TyOk Tryz.prog 215 ti215 := tyOk_of (by kernel_rfl) (z := .agg #[dV (.bool false), dV (.nsl)]) (by kernel_rfl) rfl rfl rfl (.inl rfl)
def ti218 : TI := ⟨.struct #[⟨"code", 22, 0, false, "", "seedcorn/machine", 0⟩, ⟨"in", 9, 1, false, "", "seedcorn/machine", 24⟩, ⟨"s", 120, 2, false, "", "seedcorn/machine", 40⟩, ⟨"own", 4, 24, false, "", "seedcorn/machine", 176⟩, ⟨"more", 36, 25, false, "", "seedcorn/machine", 184⟩], 26, 208, [.nsl, .str [], .int .i64 0, .int .u32 0, .int .u32 0, .int .u32 0, .int .u32 0, .int .u32 0, .int .u32 0, .int .u32 0, .int .u32 0, .int .u32 0, .int .u32 0, .int .u32 0, .int .u32 0, .int .u32 0, .int .u32 0, .int .u32 0, .int .u32 0, .nsl, .int .i64 0, .str [], .int .i64 0, .int .i64 0, .bool false, .nsl]⟩
theorem ty218 : TyOk Tryz.prog 218 ti218 := tyOk_of (by kernel_rfl) (z := .agg #[dV (.nsl), dV (.str []), dV (.int .i64 0), dV (.int .u32 0), dV (.int .u32 0), dV (.int .u32 0), dV (.int .u32 0), dV (.int .u32 0), dV (.int .u32 0), dV (.int .u32 0), dV (.int .u32 0), dV (.int .u32 0), dV (.int .u32 0), dV (.int .u32 0), dV (.int .u32 0), dV (.int .u32 0), dV (.int .u32 0), dV (.int .u32 0), dV (.int .u32 0), dV (.nsl), dV (.int .i64 0), dV (.str []), dV (.int .i64 0), dV (.int .i64 0), dV (.bool false), dV (.nsl)]) (by kernel_rfl) rfl rfl rfl (.inl rfl)
def ti219 : TI := ⟨.struct #[⟨"code", 22, 0, false, "", "seedcorn/machine", 0⟩, ⟨"in", 9, 1, false, "", "seedcorn/machine", 24⟩, ⟨"s", 120, 2, false, "", "seedcorn/machine", 40⟩, ⟨"own", 4, 24, false, "", "seedcorn/machine", 176⟩, ⟨"more", 36, 25, false, "", "seedcorn/machine", 184⟩], 26, 208, [.nsl, .str [], .int .i64 0, .int .u32 0, .int .u32 0, .int .u32 0, .int .u32 0, .int .u32 0, .int .u32 0, .int .u32 0, .int .u32 0, .int .u32 0, .int .u32 0, .int .u32 0, .int .u32 0, .int .u32 0, .int .u32 0, .int .u32 0, .int .u32 0, .nsl, .int .i64 0, .str [], .int .i64 0, .int .i64 0, .bool false, .nsl]⟩
theorem ty219 : TyOk Tryz.prog 219 ti219 := tyOk_of (by kernel_rfl) (z := .agg #[dV (.nsl), dV (.str []), dV (.int .i64 0), dV (.int .u32 0), dV (.int .u32 0), dV (.int .u32 0), dV (.int .u32 0), dV (.int .u32 0), dV (.int .u32 0), dV (.int .u32 0), dV (.int .u32 0), dV (.int .u32 0), dV (.int .u32 0), dV (.int .u32 0), dV (.int .u32 0), dV (.int .u32 0), dV (.int .u32 0), dV (.int .u32 0), dV (.int .u32 0), dV (.nsl), dV (.int .i64 0), dV (.str []), dV (.int .i64 0), dV (.int .i64 0), dV (.bool false), dV (.nsl)]) (by kernel_rfl) rfl rfl rfl (.inl rfl)
def ti221 : TI := ⟨.array 24 9, 24, 384, [.str [], .str [], .str [], .str [], .str [], .str [], .str [], .str [], .str [], .str [], .str [], .str [], .str [], .str [], .str [], .str [], .str [], .str [], .str [], .str [], .str [], .str [], .str [], .str []]⟩
theorem ty221 : TyOk Tryz.prog 221 ti221 := tyOk_of (by kernel_rfl) (z := .agg #[dV (.str []), dV (.str []), dV (.str []), dV (.str []), dV (.str []), dV (.str []), dV (.str []), dV (.str []), dV (.str []), dV (.str []), dV (.str []), dV (.str []), dV (.str []), dV (.str []), dV (.str []), dV (.str []), dV (.str []), dV (.str []), dV (.str []), dV (.str []), dV (.str []), dV (.str []), dV (.str []), dV (.str [])]) (by kernel_rfl) rfl rfl rfl (.inl rfl)
def ti224 : TI := ⟨.struct #[⟨"Kind", 3, 0, false, "", "", 0⟩, ⟨"Op", 3, 1, false, "", "", 8⟩, ⟨"Num", 31, 2, false, "", "", 16⟩, ⟨"Name", 9, 3, false, "", "", 24⟩, ⟨"Kids", 196, 4, false, "", "", 40⟩], 5, 64, [.int .i64 0, .int .i64 0, .int .u32 0, .str [], .nsl]⟩
theorem ty224 : TyOk Tryz.prog 224 ti224 := tyOk_of (by kernel_rfl) (z := .agg #[dV (.int .i64 0), dV (.int .i64 0), dV (.int .u32 0), dV (.str []), dV (.nsl)]) (by kernel_rfl) rfl rfl rfl (.inl rfl)
def ti225 : TI := ⟨.struct #[⟨"Kind", 3, 0, false, "", "", 0⟩, ⟨"Op", 3, 1, false, "", "", 8⟩, ⟨"Num", 31, 2, false, "", "", 16⟩, ⟨"Name", 9, 3, false, "", "", 24⟩, ⟨"Kids", 196, 4, false, "", "", 40⟩], 5, 64, [.int .i64 0, .int .i64 0, .int .u32 0, .str [], .nsl]⟩
theorem ty225 : TyOk Tryz.prog 225 ti225 := tyOk_of (by kernel_rfl) (z := .agg #[dV (.int .i64 0), dV (.int .i64 0), dV (.int .u32 0), dV (.str []), dV (.nsl)]) (by kernel_rfl) rfl rfl rfl (.inl rfl)
def ti227 : TI := ⟨.map 9 237, 1, 8, [.nilm]⟩
theorem ty227 : TyOk Tryz.prog 227 ti227 := tyOk_of (by kernel_rfl) (z := dV (.nilm)) (by kernel_rfl) rfl rfl rfl (.inr rfl)
def ti231 : TI := ⟨.struct #[⟨"outside", 227, 0, false, "", "seedcorn/scope", 0⟩, ⟨"inside", 227, 1, false, "", "seedcorn/scope", 8⟩], 2, 16, [.nilm, .nilm]⟩
theorem ty231 : TyOk Tryz.prog 231 ti231 := tyOk_of (by kernel_rfl) (z := .agg #[dV (.nilm), dV (.nilm)]) (by kernel_rfl) rfl rfl rfl (.inl rfl)
def ti232 : TI := ⟨.struct #[⟨"outside", 227, 0, false, "", "seedcorn/scope", 0⟩, ⟨"inside", 227, 1, false, "", "seedcorn/scope", 8⟩], 2, 16, [.nilm, .nilm]⟩
theorem ty232 : TyOk Tryz.prog 232 ti232 := tyOk_of (by kernel_rfl) (z := .agg #[dV (.nilm), dV (.nilm)]) (by kernel_rfl) rfl rfl rfl (.inl rfl)
def ti234 : TI := ⟨.struct #[⟨"kind", 3, 0, false, "", "seedcorn/scope", 0⟩, ⟨"name", 9, 1, false, "", "seedcorn/scope", 8⟩, ⟨"arguments", 3, 2, false, "", "seedcorn/scope", 24⟩], 3, 32, [.int .i64 0, .str [], .int .i64 0]⟩
theorem ty234 : TyOk Tryz.prog 234 ti234 := tyOk_of (by kernel_rfl) (z := .agg #[dV (.int .i64 0), dV (.str []), dV (.int .i64 0)]) (by kernel_rfl) rfl rfl rfl (.inl rfl)
def ti235 : TI := ⟨.struct #[⟨"kind", 3, 0, false, "", "seedcorn/scope", 0⟩, ⟨"name", 9, 1, false, "", "seedcorn/scope", 8⟩, ⟨"arguments", 3, 2, false, "", "seedcorn/scope", 24⟩], 3, 32, [.int .i64 0, .str [], .int .i64 0]⟩
theorem ty235 : TyOk Tryz.prog 235 ti235 := tyOk_of (by kernel_rfl) (z := .agg #[dV (.int .i64 0), dV (.str []), dV (.int .i64 0)]) (by kernel_rfl) rfl rfl rfl (.inl rfl)
def ti236 : TI := ⟨.struct #[⟨"kind", 3, 0, false, "", "seedcorn/scope", 0⟩, ⟨"number", 3, 1, false, "", "seedcorn/scope", 8⟩], 2, 16, [.int .i64 0, .int .i64 0]⟩
theorem ty236 : TyOk Tryz.prog 236 ti236 := tyOk_of (by kernel_rfl) (z := .agg #[dV (.int .i64 0), dV (.int .i64 0)]) (by kernel_rfl) rfl rfl rfl (.inl rfl)
def ti237 : TI := ⟨.struct #[⟨"kind", 3, 0, false, "", "seedcorn/scope", 0⟩, ⟨"number", 3, 1, false, "", "seedcorn/scope", 8⟩], 2, 16, [.int .i64 0, .int .i64 0]⟩
theorem ty237 : TyOk Tryz.prog 237 ti237 := tyOk_of (by kernel_rfl) (z := .agg #[dV (.int .i64 0), dV (.int .i64 0)]) (by kernel_rfl) rfl rfl rfl (.inl rfl)
def ti239 : TI := ⟨.func #[235] #[] false, 1, 8, [.nilf]⟩
theorem ty239 : TyOk Tryz.prog 239 ti239 := tyOk_of (by kernel_rfl) (z := dV (.nilf)) (by kernel_rfl) rfl rfl rfl (.inr rfl)
def ti240 : TI := ⟨.pointer 278, 1, 8, [.nilp]⟩
theorem ty240 : TyOk Tryz.prog 240 ti240 := tyOk_of (by kernel_rfl) (z := dV (.nilp)) (by kernel_rfl) rfl rfl rfl (.inr rfl)
def ti245 : TI := ⟨.struct #[⟨"Kind", 3, 0, false, "", "", 0⟩, ⟨"Op", 3, 1, false, "", "", 8⟩, ⟨"Num", 31, 2, false, "", "", 16⟩, ⟨"Slot", 3, 3, false, "", "", 24⟩, ⟨"Size", 3, 4, false, "", "", 32⟩, ⟨"Kids", 202, 5, false, "", "", 40⟩], 6, 64, [.int .i64 0, .int .i64 0, .int .u32 0, .int .i64 0, .int .i64 0, .nsl]⟩
theorem ty245 : TyOk Tryz.prog 245 ti245 := tyOk_of (by kernel_rfl) (z := .agg #[dV (.int .i64 0), dV (.int .i64 0), dV (.int .u32 0), dV (.int .i64 0), dV (.int .i64 0), dV (.nsl)]) (by kernel_rfl) rfl rfl rfl (.inl rfl)
def ti246 : TI := ⟨.struct #[⟨"Kind", 3, 0, false, "", "", 0⟩, ⟨"Op", 3, 1, false, "", "", 8⟩, ⟨"Num", 31, 2, false, "", "", 16⟩, ⟨"Slot", 3, 3, false, "", "", 24⟩, ⟨"Size", 3, 4, false, "", "", 32⟩, ⟨"Kids", 202, 5, false, "", "", 40⟩], 6, 64, [.int .i64 0, .int .i64 0, .int .u32 0, .int .i64 0, .int .i64 0, .nsl]⟩
theorem ty246 : TyOk Tryz.prog 246 ti246 := tyOk_of (by kernel_rfl) (z := .agg #[dV (.int .i64 0), dV (.int .i64 0), dV (.int .u32 0), dV (.int .i64 0), dV (.int .i64 0), dV (.nsl)]) (by kernel_rfl) rfl rfl rfl (.inl rfl)
def ti247 : TI := ⟨.struct #[⟨"items", 59, 0, false, "", "seedcorn/stack", 0⟩], 1, 24, [.nsl]⟩
theorem ty247 : TyOk Tryz.prog 247 ti247 := tyOk_of (by kernel_rfl) (z := .agg #[dV (.nsl)]) (by kernel_rfl) rfl rfl rfl (.inl rfl)
def ti248 : TI := ⟨.struct #[⟨"items", 59, 0, false, "", "seedcorn/stack", 0⟩], 1, 24, [.nsl]⟩
theorem ty248 : TyOk Tryz.prog 248 ti248 := tyOk_of (by kernel_rfl) (z := .agg #[dV (.nsl)]) (by kernel_rfl) rfl rfl rfl (.inl rfl)
def ti252 : TI := ⟨.struct #[⟨"Op", 3, 0, false, "", "", 0⟩, ⟨"A", 3, 1, false, "", "", 8⟩, ⟨"B", 3, 2, false, "", "", 16⟩, ⟨"N", 31, 3, false, "", "", 24⟩], 4, 32, [.int .i64 0, .int .i64 0, .int .i64 0, .int .u32 0]⟩
theorem ty252 : TyOk Tryz.prog 252 ti252 := tyOk_of (by kernel_rfl) (z := .agg #[dV (.int .i64 0), dV (.int .i64 0), dV (.int .i64 0), dV (.int .u32 0)]) (by kernel_rfl) rfl rfl rfl (.inl rfl)
def ti253 : TI := ⟨.struct #[⟨"Op", 3, 0, false, "", "", 0⟩, ⟨"A", 3, 1, false, "", "", 8⟩, ⟨"B", 3, 2, false, "", "", 16⟩, ⟨"N", 31, 3, false, "", "", 24⟩], 4, 32, [.int .i64 0, .int .i64 0, .int .i64 0, .int .u32 0]⟩
theorem ty253 : TyOk Tryz.prog 253 ti253 := tyOk_of (by kernel_rfl) (z := .agg #[dV (.int .i64 0), dV (.int .i64 0), dV (.int .i64 0), dV (.int .u32 0)]) (by kernel_rfl) rfl rfl rfl (.inl rfl)
def ti257 : TI := ⟨.func #[166, 253] #[] false, 1, 8, [.nilf]⟩
theorem ty257 : TyOk Tryz.prog 257 ti257 := tyOk_of (by kernel_rfl) (z := dV (.nilf)) (by kernel_rfl) rfl rfl rfl (.inr rfl)
def ti259 : TI := ⟨.pointer 215, 1, 8, [.nilp]⟩
theorem ty259 : TyOk Tryz.prog 259 ti259 := tyOk_of (by kernel_rfl) (z := dV (.nilp)) (by kernel_rfl) rfl rfl rfl (.inr rfl)
def ti261 : TI := ⟨.pointer 205, 1, 8, [.nilp]⟩
theorem ty261 : TyOk Tryz.prog 261 ti261 := tyOk_of (by kernel_rfl) (z := dV (.nilp)) (by kernel_rfl) rfl rfl rfl (.inr rfl)
def ti264 : TI := ⟨.array 32 5, 32, 32, [.int .u8 0, .int .u8 0, .int .u8 0, .int .u8 0, .int .u8 0, .int .u8 0, .int .u8 0, .int .u8 0, .int .u8 0, .int .u8 0, .int .u8 0, .int .u8 0, .int .u8 0, .int .u8 0, .int .u8 0, .int .u8 0, .int .u8 0, .int .u8 0, .int .u8 0, .int .u8 0, .int .u8 0, .int .u8 0, .int .u8 0, .int .u8 0, .int .u8 0, .int .u8 0, .int .u8 0, .int .u8 0, .int .u8 0, .int .u8 0, .int .u8 0, .int .u8 0]⟩
theorem ty264 : TyOk Tryz.prog 264 ti264 := tyOk_of (by kernel_rfl) (z := .agg #[dV (.int .u8 0), dV (.int .u8 0), dV (.int .u8 0), dV (.int .u8 0), dV (.int .u8 0), dV (.int .u8 0), dV (.int .u8 0), dV (.int .u8 0), dV (.int .u8 0), dV (.int .u8 0), dV (.int .u8 0), dV (.int .u8 0), dV (.int .u8 0), dV (.int .u8 0), dV (.int .u8 0), dV (.int .u8 0), dV (.int .u8 0), dV (.int .u8 0), dV (.int .u8 0), dV (.int .u8 0), dV (.int .u8 0), dV (.int .u8 0), dV (.int .u8 0), dV (.int .u8 0), dV (.int .u8 0), dV (.int .u8 0), dV (.int .u8 0), dV (.int .u8 0), dV (.int .u8 0), dV (.int .u8 0), dV (.int .u8 0), dV (.int .u8 0)]) (by kernel_rfl) rfl rfl rfl (.inl rfl)
def ti268 : TI := ⟨.array 10 9, 10, 160, [.str [], .str [], .str [], .str [], .str [], .str [], .str [], .str [], .str [], .str []]⟩
theorem ty268 : TyOk Tryz.prog 268 ti268 := tyOk_of (by kernel_rfl) (z := .agg #[dV (.str []), dV (.str []), dV (.str []), dV (.str []), dV (.str []), dV (.str []), dV (.str []), dV (.str []), dV (.str []), dV (.str [])]) (by kernel_rfl) rfl rfl rfl (.inl rfl)
def ti272 : TI := ⟨.func #[144] #[] false, 1, 8, [.nilf]⟩
theorem ty272 : TyOk Tryz.prog 272 ti272 := tyOk_of (by kernel_rfl) (z := dV (.nilf)) (by kernel_rfl) rfl rfl rfl (.inr rfl)
def ti273 : TI := ⟨.func #[196] #[] false, 1, 8, [.nilf]⟩
theorem ty273 : TyOk Tryz.prog 273 ti273 := tyOk_of (by kernel_rfl) (z := dV (.nilf)) (by kernel_rfl) rfl rfl rfl (.inr rfl)
def ti274 : TI := ⟨.map 9 146, 1, 8, [.nilm]⟩
theorem ty274 : TyOk Tryz.prog 274 ti274 := tyOk_of (by kernel_rfl) (z := dV (.nilm)) (by kernel_rfl) rfl rfl rfl (.inr rfl)
def ti275 : TI := ⟨.func #[225] #[3] false, 1, 8, [.nilf]⟩
theorem ty275 : TyOk Tryz.prog 275 ti275 := tyOk_of (by kernel_rfl) (z := dV (.nilf)) (by kernel_rfl) rfl rfl rfl (.inr rfl)
def ti276 : TI := ⟨.array 10 275, 10, 80, [.nilf, .nilf, .nilf, .nilf, .nilf, .nilf, .nilf, .nilf, .nilf, .nilf]⟩
theorem ty276 : TyOk Tryz.prog 276 ti276 := tyOk_of (by kernel_rfl) (z := .agg #[dV (.nilf), dV (.nilf), dV (.nilf), dV (.nilf), dV (.nilf), dV (.nilf), dV (.nilf), dV (.nilf), dV (.nilf), dV (.nilf)]) (by kernel_rfl) rfl rfl rfl (.inl rfl)
def ti277 : TI := ⟨.struct #[⟨"funcs", 274, 0, false, "", "seedcorn/typing", 0⟩, ⟨"ask", 276, 1, false, "", "seedcorn/typing", 8⟩], 11, 88, [.nilm, .nilf, .nilf, .nilf, .nilf, .nilf, .nilf, .nilf, .nilf, .nilf, .nilf]⟩
theorem ty277 : TyOk Tryz.prog 277 ti277 := tyOk_of (by kernel_rfl) (z := .agg #[dV (.nilm), dV (.nilf), dV (.nilf), dV (.nilf), dV (.nilf), dV (.nilf), dV (.nilf), dV (.nilf), dV (.nilf), dV (.nilf), dV (.nilf)]) (by kernel_rfl) rfl rfl rfl (.inl rfl)
def ti278 : TI := ⟨.struct #[⟨"funcs", 274, 0, false, "", "seedcorn/typing", 0⟩, ⟨"ask", 276, 1, false, "", "seedcorn/typing", 8⟩], 11, 88, [.nilm, .nilf, .nilf, .nilf, .nilf, .nilf, .nilf, .nilf, .nilf, .nilf, .nilf]⟩
theorem ty278 : TyOk Tryz.prog 278 ti278 := tyOk_of (by kernel_rfl) (z := .agg #[dV (.nilm), dV (.nilf), dV (.nilf), dV (.nilf), dV (.nilf), dV (.nilf), dV (.nilf), dV (.nilf), dV (.nilf), dV (.nilf), dV (.nilf)]) (by kernel_rfl) rfl rfl rfl (.inl rfl)
def ti280 : TI := ⟨.pointer 248, 1, 8, [.nilp]⟩
theorem ty280 : TyOk Tryz.prog 280 ti280 := tyOk_of (by kernel_rfl) (z := dV (.nilp)) (by kernel_rfl) rfl rfl rfl (.inr rfl)
def ti282 : TI := ⟨.pointer 246, 1, 8, [.nilp]⟩
theorem ty282 : TyOk Tryz.prog 282 ti282 := tyOk_of (by kernel_rfl) (z := dV (.nilp)) (by kernel_rfl) rfl rfl rfl (.inr rfl)
def ti298 : TI := ⟨.int .u8, 1, 1, [.int .u8 0]⟩
theorem ty298 : TyOk Tryz.prog 298 ti298 := tyOk_of (by kernel_rfl) (z := dV (.int .u8 0)) (by kernel_rfl) rfl rfl rfl (.inr rfl)
def Tt : Nat → TI := tabOf [(2, ti2), (3, ti3), (4, ti4), (5, ti5), (6, ti6), (7, ti7), (8, ti8), (9, ti9), (10, ti10), (11, ti11), (12, ti12), (13, ti13), (14, ti14), (15, ti15), (16, ti16), (17, ti17), (18, ti18), (19, ti19), (20, ti20), (22, ti22), (23, ti23), (24, ti24), (27, ti27), (29, ti29), (31, ti31), (32, ti32), (35, ti35), (36, ti36), (37, ti37), (38, ti38), (44, ti44), (45, ti45), (53, ti53), (54, ti54), (55, ti55), (56, ti56), (59, ti59), (61, ti61), (64, ti64), (65, ti65), (66, ti66), (67, ti67), (68, ti68), (69, ti69), (74, ti74), (80, ti80), (82, ti82), (83, ti83), (84, ti84), (89, ti89), (91, ti91), (93, ti93), (94, ti94), (95, ti95), (100, ti100), (101, ti101), (102, ti102), (104, ti104), (106, ti106), (109, ti109), (110, ti110), (112, ti112), (114, ti114), (115, ti115), (118, ti118), (119, ti119), (120, ti120), (124, ti124), (129, ti129), (132, ti132), (133, ti133), (134, ti134), (135, ti135), (138, ti138), (139, ti139), (142, ti142), (143, ti143), (144, ti144), (145, ti145), (146, ti146), (151, ti151), (154, ti154), (155, ti155), (156, ti156), (157, ti157), (158, ti158), (160, ti160), (161, ti161), (162, ti162), (163, ti163), (164, ti164), (166, ti166), (167, ti167), (168, ti168), (169, ti169), (170, ti170), (172, ti172), (174, ti174), (175, ti175), (177, ti177), (178, ti178), (186, ti186), (191, ti191), (196, ti196), (197, ti197), (198, ti198), (202, ti202), (204, ti204), (205, ti205), (208, ti208), (212, ti212), (213, ti213), (214, ti214), (215, ti215), (218, ti218), (219, ti219), (221, ti221), (224, ti224), (225, ti225), (227, ti227), (231, ti231), (232, ti232), (234, ti234), (235, ti235), (236, ti236), (237, ti237), (239, ti239), (240, ti240), (245, ti245), (246, ti246), (247, ti247), (248, ti248), (252, ti252), (253, ti253), (257, ti257), (259, ti259), (261, ti261), (264, ti264), (268, ti268), (272, ti272), (273, ti273), (274, ti274), (275, ti275), (276, ti276), (277, ti277), (278, ti278), (280, ti280), (282, ti282), (298, ti298)]
theorem Tt_ok : TabOk Tryz.prog Tt := tabOk_of_list (List.forall_mem_cons.2 ⟨ty2, List.forall_mem_cons.2 ⟨ty3, List.forall_mem_cons.2 ⟨ty4, List.forall_mem_cons.2 ⟨ty5, List.forall_mem_cons.2 ⟨ty6, List.forall_mem_cons.2 ⟨ty7, List.forall_mem_cons.2 ⟨ty8, List.forall_mem_cons.2 ⟨ty9, List.forall_mem_cons.2 ⟨ty10, List.forall_mem_cons.2 ⟨ty11, List.forall_mem_cons.2 ⟨ty12, List.forall_mem_cons.2 ⟨ty13, List.forall_mem_cons.2 ⟨ty14, List.forall_mem_cons.2 ⟨ty15, List.forall_mem_cons.2 ⟨ty16, List.forall_mem_cons.2 ⟨ty17, List.forall_mem_cons.2 ⟨ty18, List.forall_mem_cons.2 ⟨ty19, List.forall_mem_cons.2 ⟨ty20, List.forall_mem_cons.2 ⟨ty22, List.forall_mem_cons.2 ⟨ty23, List.forall_mem_cons.2 ⟨ty24, List.forall_mem_cons.2 ⟨ty27, List.forall_mem_cons.2 ⟨ty29, List.forall_mem_cons.2 ⟨ty31, List.forall_mem_cons.2 ⟨ty32, List.forall_mem_cons.2 ⟨ty35, List.forall_mem_cons.2 ⟨ty36, List.forall_mem_cons.2 ⟨ty37, List.forall_mem_cons.2 ⟨ty38, List.forall_mem_cons.2 ⟨ty44, List.forall_mem_cons.2 ⟨ty45, List.forall_mem_cons.2 ⟨ty53, List.forall_mem_cons.2 ⟨ty54, List.forall_mem_cons.2 ⟨ty55, List.forall_mem_cons.2 ⟨ty56, List.forall_mem_cons.2 ⟨ty59, List.forall_mem_cons.2 ⟨ty61, List.forall_mem_cons.2 ⟨ty64, List.forall_mem_cons.2 ⟨ty65, List.forall_mem_cons.2 ⟨ty66, List.forall_mem_cons.2 ⟨ty67, List.forall_mem_cons.2 ⟨ty68, List.forall_mem_cons.2 ⟨ty69, List.forall_mem_cons.2 ⟨ty74, List.forall_mem_cons.2 ⟨ty80, List.forall_mem_cons.2 ⟨ty82, List.forall_mem_cons.2 ⟨ty83, List.forall_mem_cons.2 ⟨ty84, List.forall_mem_cons.2 ⟨ty89, List.forall_mem_cons.2 ⟨ty91, List.forall_mem_cons.2 ⟨ty93, List.forall_mem_cons.2 ⟨ty94, List.forall_mem_cons.2 ⟨ty95, List.forall_mem_cons.2 ⟨ty100, List.forall_mem_cons.2 ⟨ty101, List.forall_mem_cons.2 ⟨ty102, List.forall_mem_cons.2 ⟨ty104, List.forall_mem_cons.2 ⟨ty106, List.forall_mem_cons.2 ⟨ty109, List.forall_mem_cons.2 ⟨ty110, List.forall_mem_cons.2 ⟨ty112, List.forall_mem_cons.2 ⟨ty114, List.forall_mem_cons.2 ⟨ty115, List.forall_mem_cons.2 ⟨ty118, List.forall_mem_cons.2 ⟨ty119, List.forall_mem_cons.2 ⟨ty120, List.forall_mem_cons.2 ⟨ty124, List.forall_mem_cons.2 ⟨ty129, List.forall_mem_cons.2 ⟨ty132, List.forall_mem_cons.2 ⟨ty133, List.forall_mem_cons.2 ⟨ty134, List.forall_mem_cons.2 ⟨ty135, List.forall_mem_cons.2 ⟨ty138, List.forall_mem_cons.2 ⟨ty139, List.forall_mem_cons.2 ⟨ty142, List.forall_mem_cons.2 ⟨ty143, List.forall_mem_cons.2 ⟨ty144, List.forall_mem_cons.2 ⟨ty145, List.forall_mem_cons.2 ⟨ty146, List.forall_mem_cons.2 ⟨ty151, List.forall_mem_cons.2 ⟨ty154, List.forall_mem_cons.2 ⟨ty155, List.forall_mem_cons.2 ⟨ty156, List.forall_mem_cons.2 ⟨ty157, List.forall_mem_cons.2 ⟨ty158, List.forall_mem_cons.2 ⟨ty160, List.forall_mem_cons.2 ⟨ty161, List.forall_mem_cons.2 ⟨ty162, List.forall_mem_cons.2 ⟨ty163, List.forall_mem_cons.2 ⟨ty164, List.forall_mem_cons.2 ⟨ty166, List.forall_mem_cons.2 ⟨ty167, List.forall_mem_cons.2 ⟨ty168, List.forall_mem_cons.2 ⟨ty169, List.forall_mem_cons.2 ⟨ty170, List.forall_mem_cons.2 ⟨ty172, List.forall_mem_cons.2 ⟨ty174, List.forall_mem_cons.2 ⟨ty175, List.forall_mem_cons.2 ⟨ty177, List.forall_mem_cons.2 ⟨ty178, List.forall_mem_cons.2 ⟨ty186, List.forall_mem_cons.2 ⟨ty191, List.forall_mem_cons.2 ⟨ty196, List.forall_mem_cons.2 ⟨ty197, List.forall_mem_cons.2 ⟨ty198, List.forall_mem_cons.2 ⟨ty202, List.forall_mem_cons.2 ⟨ty204, List.forall_mem_cons.2 ⟨ty205, List.forall_mem_cons.2 ⟨ty208, List.forall_mem_cons.2 ⟨ty212, List.forall_mem_cons.2 ⟨ty213, List.forall_mem_cons.2 ⟨ty214, List.forall_mem_cons.2 ⟨ty215, List.forall_mem_cons.2 ⟨ty218, List.forall_mem_cons.2 ⟨ty219, List.forall_mem_cons.2 ⟨ty221, List.forall_mem_cons.2 ⟨ty224, List.forall_mem_cons.2 ⟨ty225, List.forall_mem_cons.2 ⟨ty227, List.forall_mem_cons.2 ⟨ty231, List.forall_mem_cons.2 ⟨ty232, List.forall_mem_cons.2 ⟨ty234, List.forall_mem_cons.2 ⟨ty235, List.forall_mem_cons.2 ⟨ty236, List.forall_mem_cons.2 ⟨ty237, List.forall_mem_cons.2 ⟨ty239, List.forall_mem_cons.2 ⟨ty240, List.forall_mem_cons.2 ⟨ty245, List.forall_mem_cons.2 ⟨ty246, List.forall_mem_cons.2 ⟨ty247, List.forall_mem_cons.2 ⟨ty248, List.forall_mem_cons.2 ⟨ty252, List.forall_mem_cons.2 ⟨ty253, List.forall_mem_cons.2 ⟨ty257, List.forall_mem_cons.2 ⟨ty259, List.forall_mem_cons.2 ⟨ty261, List.forall_mem_cons.2 ⟨ty264, List.forall_mem_cons.2 ⟨ty268, List.forall_mem_cons.2 ⟨ty272, List.forall_mem_cons.2 ⟨ty273, List.forall_mem_cons.2 ⟨ty274, List.forall_mem_cons.2 ⟨ty275, List.forall_mem_cons.2 ⟨ty276, List.forall_mem_cons.2 ⟨ty277, List.forall_mem_cons.2 ⟨ty278, List.forall_mem_cons.2 ⟨ty280, List.forall_mem_cons.2 ⟨ty282, List.forall_mem_cons.2 ⟨ty298, fun _ h => by cases h⟩⟩⟩⟩⟩⟩⟩⟩⟩⟩⟩⟩⟩⟩⟩⟩⟩⟩⟩⟩⟩⟩⟩⟩⟩⟩⟩⟩⟩⟩⟩⟩⟩⟩⟩⟩⟩⟩⟩⟩⟩⟩⟩⟩⟩⟩⟩⟩⟩⟩⟩⟩⟩⟩⟩⟩⟩⟩⟩⟩⟩⟩⟩⟩⟩⟩⟩⟩⟩⟩⟩⟩⟩⟩⟩⟩⟩⟩⟩⟩⟩⟩⟩⟩⟩⟩⟩⟩⟩⟩⟩⟩⟩⟩⟩⟩⟩⟩⟩⟩⟩⟩⟩⟩⟩⟩⟩⟩⟩⟩⟩⟩⟩⟩⟩⟩⟩⟩⟩⟩⟩⟩⟩⟩⟩⟩⟩⟩⟩⟩⟩⟩⟩⟩⟩⟩⟩⟩⟩⟩⟩⟩⟩⟩⟩⟩⟩⟩⟩)
theorem mixed : Tryz.prog.follows .mixedOrders = true := by kernel_rfl
@[go_sem] theorem Tt_2 : Tt 2 = ⟨.int .i64, 1, 8, [.int .i64 0]⟩ := Eq.trans rfl rfl
@[go_sem] theorem okSl_2 : okSl Tt 2 = false := Eq.trans rfl rfl
@[go_sem] theorem Tt_3 : Tt 3 = ⟨.int .i64, 1, 8, [.int .i64 0]⟩ := Eq.trans rfl rfl
@[go_sem] theorem okSl_3 : okSl Tt 3 = false := Eq.trans rfl rfl
@[go_sem] theorem Tt_4 : Tt 4 = ⟨.bool, 1, 1, [.bool false]⟩ := Eq.trans rfl rfl
@[go_sem] theorem okSl_4 : okSl Tt 4 = false := Eq.trans rfl rfl
@[go_sem] theorem Tt_5 : Tt 5 = ⟨.int .u8, 1, 1, [.int .u8 0]⟩ := Eq.trans rfl rfl
@[go_sem] theorem okSl_5 : okSl Tt 5 = false := Eq.trans rfl rfl
@[go_sem] theorem Tt_6 : Tt 6 = ⟨.int .u8, 1, 1, [.int .u8 0]⟩ := Eq.trans rfl rfl
@[go_sem] theorem okSl_6 : okSl Tt 6 = false := Eq.trans rfl rfl
@[go_sem] theorem Tt_7 : Tt 7 = ⟨.struct #[⟨"x", 2, 0, false, "", "runtime", 0⟩, ⟨"y", 3, 1, false, "", "runtime", 8⟩, ⟨"signed", 4, 2, false, "", "runtime", 16⟩, ⟨"code", 6, 3, false, "", "runtime", 17⟩], 4, 24, [.int .i64 0, .int .i64 0, .bool false, .int .u8 0]⟩ := Eq.trans rfl rfl
@[go_sem] theorem okSl_7 : okSl Tt 7 = false := Eq.trans rfl rfl
@[go_sem] theorem okSt_7 : okSt Tt 7 = true := Eq.trans rfl rfl
@[go_sem] theorem Tt_8 : Tt 8 = ⟨.struct #[⟨"x", 2, 0, false, "", "runtime", 0⟩, ⟨"y", 3, 1, false, "", "runtime", 8⟩, ⟨"signed", 4, 2, false, "", "runtime", 16⟩, ⟨"code", 6, 3, false, "", "runtime", 17⟩], 4, 24, [.int .i64 0, .int .i64 0, .bool false, .int .u8 0]⟩ := Eq.trans rfl rfl
@[go_sem] theorem okSl_8 : okSl Tt 8 = false := Eq.trans rfl rfl
@[go_sem] theorem okSt_8 : okSt Tt 8 = true := Eq.trans rfl rfl
@[go_sem] theorem Tt_9 : Tt 9 = ⟨.string, 1, 16, [.str []]⟩ := Eq.trans rfl rfl
@[go_sem] theorem okSl_9 : okSl Tt 9 = false := Eq.trans rfl rfl
@[go_sem] theorem Tt_10 : Tt 10 = ⟨.string, 1, 16, [.str []]⟩ := Eq.trans rfl rfl
@[go_sem] theorem okSl_10 : okSl Tt 10 = false := Eq.trans rfl rfl
@[go_sem] theorem Tt_11 : Tt 11 = ⟨.string, 1, 16, [.str []]⟩ := Eq.trans rfl rfl
@[go_sem] theorem okSl_11 : okSl Tt 11 = false := Eq.trans rfl rfl
@[go_sem] theorem Tt_12 : Tt 12 = ⟨.int .u64, 1, 8, [.int .u64 0]⟩ := Eq.trans rfl rfl
@[go_sem] theorem okSl_12 : okSl Tt 12 = false := Eq.trans rfl rfl
@[go_sem] theorem Tt_13 : Tt 13 = ⟨.struct #[⟨"msg", 9, 0, false, "", "runtime", 0⟩, ⟨"addr", 12, 1, false, "", "runtime", 16⟩], 2, 24, [.str [], .int .u64 0]⟩ := Eq.trans rfl rfl
@[go_sem] theorem okSl_13 : okSl Tt 13 = false := Eq.trans rfl rfl
@[go_sem] theorem okSt_13 : okSt Tt 13 = true := Eq.trans rfl rfl
@[go_sem] theorem Tt_14 : Tt 14 = ⟨.struct #[⟨"msg", 9, 0, false, "", "runtime", 0⟩, ⟨"addr", 12, 1, false, "", "runtime", 16⟩], 2, 24, [.str [], .int .u64 0]⟩ := Eq.trans rfl rfl
@[go_sem] theorem okSl_14 : okSl Tt 14 = false := Eq.trans rfl rfl
@[go_sem] theorem okSt_14 : okSt Tt 14 = true := Eq.trans rfl rfl
@[go_sem] theorem Tt_15 : Tt 15 = ⟨.pointer 293, 1, 8, [.nilp]⟩ := Eq.trans rfl rfl
@[go_sem] theorem okSl_15 : okSl Tt 15 = false := Eq.trans rfl rfl
@[go_sem] theorem Tt_16 : Tt 16 = ⟨.pointer 296, 1, 8, [.nilp]⟩ := Eq.trans rfl rfl
@[go_sem] theorem okSl_16 : okSl Tt 16 = false := Eq.trans rfl rfl
@[go_sem] theorem Tt_17 : Tt 17 = ⟨.pointer 303, 1, 8, [.nilp]⟩ := Eq.trans rfl rfl
@[go_sem] theorem okSl_17 : okSl Tt 17 = false := Eq.trans rfl rfl
@[go_sem] theorem Tt_18 : Tt 18 = ⟨.struct #[⟨"typ", 17, 0, false, "", "internal/runtime/maps", 0⟩], 1, 8, [.nilp]⟩ := Eq.trans rfl rfl
@[go_sem] theorem okSl_18 : okSl Tt 18 = false := Eq.trans rfl rfl
@[go_sem] theorem okSt_18 : okSt Tt 18 = true := Eq.trans rfl rfl
@[go_sem] theorem Tt_19 : Tt 19 = ⟨.struct #[⟨"typ", 17, 0, false, "", "internal/runtime/maps", 0⟩], 1, 8, [.nilp]⟩ := Eq.trans rfl rfl
@[go_sem] theorem okSl_19 : okSl Tt 19 = false := Eq.trans rfl rfl
@[go_sem] theorem okSt_19 : okSt Tt 19 = true := Eq.trans rfl rfl
@[go_sem] theorem Tt_20 : Tt 20 = ⟨.interface #[], 1, 16, [.nili]⟩ := Eq.trans rfl rfl
@[go_sem] theorem okSl_20 : okSl Tt 20 = false := Eq.trans rfl rfl
@[go_sem] theorem Tt_22 : Tt 22 = ⟨.slice 31, 1, 24, [.nsl]⟩ := Eq.trans rfl rfl
@[go_sem] theorem elem_22 : elemTI Tt 22 = ⟨.int .u32, 1, 4, [.int .u32 0]⟩ := Eq.trans rfl rfl
@[go_sem] theorem okSl_22 : okSl Tt 22 = true := Eq.trans rfl rfl
@[go_sem] theorem Tt_23 : Tt 23 = ⟨.struct #[⟨"Code", 22, 0, false, "", "", 0⟩, ⟨"Data", 3, 1, false, "", "", 24⟩], 2, 32, [.nsl, .int .i64 0]⟩ := Eq.trans rfl rfl
@[go_sem] theorem okSl_23 : okSl Tt 23 = false := Eq.trans rfl rfl
@[go_sem] theorem okSt_23 : okSt Tt 23 = true := Eq.trans rfl rfl
@[go_sem] theorem Tt_24 : Tt 24 = ⟨.struct #[⟨"Code", 22, 0, false, "", "", 0⟩, ⟨"Data", 3, 1, false, "", "", 24⟩], 2, 32, [.nsl, .int .i64 0]⟩ := Eq.trans rfl rfl
@[go_sem] theorem okSl_24 : okSl Tt 24 = false := Eq.trans rfl rfl
@[go_sem] theorem okSt_24 : okSt Tt 24 = true := Eq.trans rfl rfl
@[go_sem] theorem Tt_27 : Tt 27 = ⟨.int .i64, 1, 8, [.int .i64 0]⟩ := Eq.trans rfl rfl
@[go_sem] theorem okSl_27 : okSl Tt 27 = false := Eq.trans rfl rfl
@[go_sem] theorem Tt_29 : Tt 29 = ⟨.func #[24] #[9, 27] false, 1, 8, [.nilf]⟩ := Eq.trans rfl rfl
@[go_sem] theorem okSl_29 : okSl Tt 29 = false := Eq.trans rfl rfl
@[go_sem] theorem Tt_31 : Tt 31 = ⟨.int .u32, 1, 4, [.int .u32 0]⟩ := Eq.trans rfl rfl
@[go_sem] theorem okSl_31 : okSl Tt 31 = false := Eq.trans rfl rfl
@[go_sem] theorem Tt_32 : Tt 32 = ⟨.slice 9, 1, 24, [.nsl]⟩ := Eq.trans rfl rfl
@[go_sem] theorem elem_32 : elemTI Tt 32 = ⟨.string, 1, 16, [.str []]⟩ := Eq.trans rfl rfl
@[go_sem] theorem okSl_32 : okSl Tt 32 = true := Eq.trans rfl rfl
@[go_sem] theorem Tt_35 : Tt 35 = ⟨.pointer 38, 1, 8, [.nilp]⟩ := Eq.trans rfl rfl
@[go_sem] theorem okSl_35 : okSl Tt 35 = false := Eq.trans rfl rfl
@[go_sem] theorem Tt_36 : Tt 36 = ⟨.slice 5, 1, 24, [.nsl]⟩ := Eq.trans rfl rfl
@[go_sem] theorem elem_36 : elemTI Tt 36 = ⟨.int .u8, 1, 1, [.int .u8 0]⟩ := Eq.trans rfl rfl
@[go_sem] theorem okSl_36 : okSl Tt 36 = true := Eq.trans rfl rfl
@[go_sem] theorem Tt_37 : Tt 37 = ⟨.struct #[⟨"addr", 35, 0, false, "", "strings", 0⟩, ⟨"buf", 36, 1, false, "", "strings", 8⟩], 2, 32, [.nilp, .nsl]⟩ := Eq.trans rfl rfl
@[go_sem] theorem okSl_37 : okSl Tt 37 = false := Eq.trans rfl rfl
@[go_sem] theorem okSt_37 : okSt Tt 37 = true := Eq.trans rfl rfl
@[go_sem] theorem Tt_38 : Tt 38 = ⟨.struct #[⟨"addr", 35, 0, false, "", "strings", 0⟩, ⟨"buf", 36, 1, false, "", "strings", 8⟩], 2, 32, [.nilp, .nsl]⟩ := Eq.trans rfl rfl
@[go_sem] theorem okSl_38 : okSl Tt 38 = false := Eq.trans rfl rfl
@[go_sem] theorem okSt_38 : okSt Tt 38 = true := Eq.trans rfl rfl
@[go_sem] theorem Tt_44 : Tt 44 = ⟨.struct #[⟨"Op", 3, 0, false, "", "", 0⟩, ⟨"A", 3, 1, false, "", "", 8⟩, ⟨"B", 3, 2, false, "", "", 16⟩, ⟨"C", 3, 3, false, "", "", 24⟩], 4, 32, [.int .i64 0, .int .i64 0, .int .i64 0, .int .i64 0]⟩ := Eq.trans rfl rfl
@[go_sem] theorem okSl_44 : okSl Tt 44 = false := Eq.trans rfl rfl
@[go_sem] theorem okSt_44 : okSt Tt 44 = true := Eq.trans rfl rfl
@[go_sem] theorem Tt_45 : Tt 45 = ⟨.struct #[⟨"Op", 3, 0, false, "", "", 0⟩, ⟨"A", 3, 1, false, "", "", 8⟩, ⟨"B", 3, 2, false, "", "", 16⟩, ⟨"C", 3, 3, false, "", "", 24⟩], 4, 32, [.int .i64 0, .int .i64 0, .int .i64 0, .int .i64 0]⟩ := Eq.trans rfl rfl
@[go_sem] theorem okSl_45 : okSl Tt 45 = false := Eq.trans rfl rfl
@[go_sem] theorem okSt_45 : okSt Tt 45 = true := Eq.trans rfl rfl
@[go_sem] theorem Tt_53 : Tt 53 = ⟨.func #[] #[9, 27] false, 1, 8, [.nilf]⟩ := Eq.trans rfl rfl
@[go_sem] theorem okSl_53 : okSl Tt 53 = false := Eq.trans rfl rfl
@[go_sem] theorem Tt_54 : Tt 54 = ⟨.slice 53, 1, 24, [.nsl]⟩ := Eq.trans rfl rfl
@[go_sem] theorem elem_54 : elemTI Tt 54 = ⟨.func #[] #[9, 27] false, 1, 8, [.nilf]⟩ := Eq.trans rfl rfl
@[go_sem] theorem okSl_54 : okSl Tt 54 = true := Eq.trans rfl rfl
@[go_sem] theorem Tt_55 : Tt 55 = ⟨.struct #[⟨"End", 3, 0, false, "", "", 0⟩, ⟨"Out", 9, 1, false, "", "", 8⟩, ⟨"Steps", 3, 2, false, "", "", 24⟩], 3, 32, [.int .i64 0, .str [], .int .i64 0]⟩ := Eq.trans rfl rfl
@[go_sem] theorem okSl_55 : okSl Tt 55 = false := Eq.trans rfl rfl
@[go_sem] theorem okSt_55 : okSt Tt 55 = true := Eq.trans rfl rfl
@[go_sem] theorem Tt_56 : Tt 56 = ⟨.struct #[⟨"End", 3, 0, false, "", "", 0⟩, ⟨"Out", 9, 1, false, "", "", 8⟩, ⟨"Steps", 3, 2, false, "", "", 24⟩], 3, 32, [.int .i64 0, .str [], .int .i64 0]⟩ := Eq.trans rfl rfl
@[go_sem] theorem okSl_56 : okSl Tt 56 = false := Eq.trans rfl rfl
@[go_sem] theorem okSt_56 : okSt Tt 56 = true := Eq.trans rfl rfl
@[go_sem] theorem Tt_59 : Tt 59 = ⟨.slice 3, 1, 24, [.nsl]⟩ := Eq.trans rfl rfl
@[go_sem] theorem elem_59 : elemTI Tt 59 = ⟨.int .i64, 1, 8, [.int .i64 0]⟩ := Eq.trans rfl rfl
@[go_sem] theorem okSl_59 : okSl Tt 59 = true := Eq.trans rfl rfl
@[go_sem] theorem Tt_61 : Tt 61 = ⟨.int .u64, 1, 8, [.int .u64 0]⟩ := Eq.trans rfl rfl
@[go_sem] theorem okSl_61 : okSl Tt 61 = false := Eq.trans rfl rfl
@[go_sem] theorem Tt_64 : Tt 64 = ⟨.int .u64, 1, 8, [.int .u64 0]⟩ := Eq.trans rfl rfl
@[go_sem] theorem okSl_64 : okSl Tt 64 = false := Eq.trans rfl rfl
@[go_sem] theorem Tt_65 : Tt 65 = ⟨.pointer 5, 1, 8, [.nilp]⟩ := Eq.trans rfl rfl
@[go_sem] theorem okSl_65 : okSl Tt 65 = false := Eq.trans rfl rfl
@[go_sem] theorem Tt_66 : Tt 66 = ⟨.slice 143, 1, 24, [.nsl]⟩ := Eq.trans rfl rfl
@[go_sem] theorem elem_66 : elemTI Tt 66 = ⟨.struct #[⟨"Name", 9, 0, false, "", "", 0⟩, ⟨"Size", 3, 1, false, "", "", 16⟩], 2, 24, [.str [], .int .i64 0]⟩ := Eq.trans rfl rfl
@[go_sem] theorem okSl_66 : okSl Tt 66 = true := Eq.trans rfl rfl
@[go_sem] theorem Tt_67 : Tt 67 = ⟨.slice 146, 1, 24, [.nsl]⟩ := Eq.trans rfl rfl
@[go_sem] theorem elem_67 : elemTI Tt 67 = ⟨.struct #[⟨"Name", 9, 0, false, "", "", 0⟩, ⟨"Params", 32, 1, false, "", "", 16⟩, ⟨"Locals", 32, 2, false, "", "", 40⟩, ⟨"Word", 4, 3, false, "", "", 64⟩, ⟨"Body", 144, 4, false, "", "", 72⟩], 5, 96, [.str [], .nsl, .nsl, .bool false, .nsl]⟩ := Eq.trans rfl rfl
@[go_sem] theorem okSl_67 : okSl Tt 67 = true := Eq.trans rfl rfl
@[go_sem] theorem Tt_68 : Tt 68 = ⟨.struct #[⟨"Vars", 32, 0, false, "", "", 0⟩, ⟨"Arrays", 66, 1, false, "", "", 24⟩, ⟨"Funcs", 67, 2, false, "", "", 48⟩], 3, 72, [.nsl, .nsl, .nsl]⟩ := Eq.trans rfl rfl
@[go_sem] theorem okSl_68 : okSl Tt 68 = false := Eq.trans rfl rfl
@[go_sem] theorem okSt_68 : okSt Tt 68 = true := Eq.trans rfl rfl
@[go_sem] theorem Tt_69 : Tt 69 = ⟨.struct #[⟨"Vars", 32, 0, false, "", "", 0⟩, ⟨"Arrays", 66, 1, false, "", "", 24⟩, ⟨"Funcs", 67, 2, false, "", "", 48⟩], 3, 72, [.nsl, .nsl, .nsl]⟩ := Eq.trans rfl rfl
@[go_sem] theorem okSl_69 : okSl Tt 69 = false := Eq.trans rfl rfl
@[go_sem] theorem okSt_69 : okSt Tt 69 = true := Eq.trans rfl rfl
@[go_sem] theorem Tt_74 : Tt 74 = ⟨.func #[69] #[24, 27] false, 1, 8, [.nilf]⟩ := Eq.trans rfl rfl
@[go_sem] theorem okSl_74 : okSl Tt 74 = false := Eq.trans rfl rfl
@[go_sem] theorem Tt_80 : Tt 80 = ⟨.unsafePointer, 1, 8, [.nilp]⟩ := Eq.trans rfl rfl
@[go_sem] theorem okSl_80 : okSl Tt 80 = false := Eq.trans rfl rfl
@[go_sem] theorem Tt_82 : Tt 82 = ⟨.func #[3] #[4] false, 1, 8, [.nilf]⟩ := Eq.trans rfl rfl
@[go_sem] theorem okSl_82 : okSl Tt 82 = false := Eq.trans rfl rfl
@[go_sem] theorem Tt_83 : Tt 83 = ⟨.struct #[⟨"name", 9, 0, false, "", "seedcorn/inst", 0⟩, ⟨"a", 4, 1, false, "", "seedcorn/inst", 16⟩, ⟨"b", 4, 2, false, "", "seedcorn/inst", 17⟩, ⟨"c", 3, 3, false, "", "seedcorn/inst", 24⟩], 4, 32, [.str [], .bool false, .bool false, .int .i64 0]⟩ := Eq.trans rfl rfl
@[go_sem] theorem okSl_83 : okSl Tt 83 = false := Eq.trans rfl rfl
@[go_sem] theorem okSt_83 : okSt Tt 83 = true := Eq.trans rfl rfl
@[go_sem] theorem Tt_84 : Tt 84 = ⟨.struct #[⟨"name", 9, 0, false, "", "seedcorn/inst", 0⟩, ⟨"a", 4, 1, false, "", "seedcorn/inst", 16⟩, ⟨"b", 4, 2, false, "", "seedcorn/inst", 17⟩, ⟨"c", 3, 3, false, "", "seedcorn/inst", 24⟩], 4, 32, [.str [], .bool false, .bool false, .int .i64 0]⟩ := Eq.trans rfl rfl
@[go_sem] theorem okSl_84 : okSl Tt 84 = false := Eq.trans rfl rfl
@[go_sem] theorem okSt_84 : okSt Tt 84 = true := Eq.trans rfl rfl
@[go_sem] theorem Tt_89 : Tt 89 = ⟨.pointer 135, 1, 8, [.nilp]⟩ := Eq.trans rfl rfl
@[go_sem] theorem okSl_89 : okSl Tt 89 = false := Eq.trans rfl rfl
@[go_sem] theorem Tt_91 : Tt 91 = ⟨.func #[89] #[] false, 1, 8, [.nilf]⟩ := Eq.trans rfl rfl
@[go_sem] theorem okSl_91 : okSl Tt 91 = false := Eq.trans rfl rfl
@[go_sem] theorem Tt_93 : Tt 93 = ⟨.slice 161, 1, 24, [.nsl]⟩ := Eq.trans rfl rfl
@[go_sem] theorem elem_93 : elemTI Tt 93 = ⟨.struct #[⟨"Params", 3, 0, false, "", "", 0⟩, ⟨"Slots", 3, 1, false, "", "", 8⟩, ⟨"First", 3, 2, false, "", "", 16⟩, ⟨"Word", 4, 3, false, "", "", 24⟩, ⟨"Body", 158, 4, false, "", "", 32⟩], 5, 56, [.int .i64 0, .int .i64 0, .int .i64 0, .bool false, .nsl]⟩ := Eq.trans rfl rfl
@[go_sem] theorem okSl_93 : okSl Tt 93 = true := Eq.trans rfl rfl
@[go_sem] theorem Tt_94 : Tt 94 = ⟨.struct #[⟨"Words", 3, 0, false, "", "", 0⟩, ⟨"Funcs", 93, 1, false, "", "", 8⟩], 2, 32, [.int .i64 0, .nsl]⟩ := Eq.trans rfl rfl
@[go_sem] theorem okSl_94 : okSl Tt 94 = false := Eq.trans rfl rfl
@[go_sem] theorem okSt_94 : okSt Tt 94 = true := Eq.trans rfl rfl
@[go_sem] theorem Tt_95 : Tt 95 = ⟨.struct #[⟨"Words", 3, 0, false, "", "", 0⟩, ⟨"Funcs", 93, 1, false, "", "", 8⟩], 2, 32, [.int .i64 0, .nsl]⟩ := Eq.trans rfl rfl
@[go_sem] theorem okSl_95 : okSl Tt 95 = false := Eq.trans rfl rfl
@[go_sem] theorem okSt_95 : okSt Tt 95 = true := Eq.trans rfl rfl
@[go_sem] theorem Tt_100 : Tt 100 = ⟨.slice 175, 1, 24, [.nsl]⟩ := Eq.trans rfl rfl
@[go_sem] theorem elem_100 : elemTI Tt 100 = ⟨.struct #[⟨"Params", 3, 0, false, "", "", 0⟩, ⟨"Slots", 3, 1, false, "", "", 8⟩, ⟨"First", 3, 2, false, "", "", 16⟩, ⟨"Word", 4, 3, false, "", "", 24⟩, ⟨"Code", 172, 4, false, "", "", 32⟩], 5, 56, [.int .i64 0, .int .i64 0, .int .i64 0, .bool false, .nsl]⟩ := Eq.trans rfl rfl
@[go_sem] theorem okSl_100 : okSl Tt 100 = true := Eq.trans rfl rfl
@[go_sem] theorem Tt_101 : Tt 101 = ⟨.struct #[⟨"Words", 3, 0, false, "", "", 0⟩, ⟨"Funcs", 100, 1, false, "", "", 8⟩], 2, 32, [.int .i64 0, .nsl]⟩ := Eq.trans rfl rfl
@[go_sem] theorem okSl_101 : okSl Tt 101 = false := Eq.trans rfl rfl
@[go_sem] theorem okSt_101 : okSt Tt 101 = true := Eq.trans rfl rfl
@[go_sem] theorem Tt_102 : Tt 102 = ⟨.struct #[⟨"Words", 3, 0, false, "", "", 0⟩, ⟨"Funcs", 100, 1, false, "", "", 8⟩], 2, 32, [.int .i64 0, .nsl]⟩ := Eq.trans rfl rfl
@[go_sem] theorem okSl_102 : okSl Tt 102 = false := Eq.trans rfl rfl
@[go_sem] theorem okSt_102 : okSt Tt 102 = true := Eq.trans rfl rfl
@[go_sem] theorem Tt_104 : Tt 104 = ⟨.func #[95] #[24, 27] false, 1, 8, [.nilf]⟩ := Eq.trans rfl rfl
@[go_sem] theorem okSl_104 : okSl Tt 104 = false := Eq.trans rfl rfl
@[go_sem] theorem Tt_106 : Tt 106 = ⟨.array 16 5, 16, 16, [.int .u8 0, .int .u8 0, .int .u8 0, .int .u8 0, .int .u8 0, .int .u8 0, .int .u8 0, .int .u8 0, .int .u8 0, .int .u8 0, .int .u8 0, .int .u8 0, .int .u8 0, .int .u8 0, .int .u8 0, .int .u8 0]⟩ := Eq.trans rfl rfl
@[go_sem] theorem okSl_106 : okSl Tt 106 = false := Eq.trans rfl rfl
@[go_sem] theorem okSt_106 : okSt Tt 106 = true := Eq.trans rfl rfl
@[go_sem] theorem Tt_109 : Tt 109 = ⟨.func #[177] #[] false, 1, 8, [.nilf]⟩ := Eq.trans rfl rfl
@[go_sem] theorem okSl_109 : okSl Tt 109 = false := Eq.trans rfl rfl
@[go_sem] theorem Tt_110 : Tt 110 = ⟨.func #[177] #[] false, 1, 8, [.nilf]⟩ := Eq.trans rfl rfl
@[go_sem] theorem okSl_110 : okSl Tt 110 = false := Eq.trans rfl rfl
@[go_sem] theorem Tt_112 : Tt 112 = ⟨.slice 115, 1, 24, [.nsl]⟩ := Eq.trans rfl rfl
@[go_sem] theorem elem_112 : elemTI Tt 112 = ⟨.struct #[⟨"Ins", 45, 0, true, "", "", 0⟩, ⟨"note", 9, 4, false, "", "seedcorn/seed", 32⟩], 5, 48, [.int .i64 0, .int .i64 0, .int .i64 0, .int .i64 0, .str []]⟩ := Eq.trans rfl rfl
@[go_sem] theorem okSl_112 : okSl Tt 112 = true := Eq.trans rfl rfl
@[go_sem] theorem Tt_114 : Tt 114 = ⟨.struct #[⟨"Ins", 45, 0, true, "", "", 0⟩, ⟨"note", 9, 4, false, "", "seedcorn/seed", 32⟩], 5, 48, [.int .i64 0, .int .i64 0, .int .i64 0, .int .i64 0, .str []]⟩ := Eq.trans rfl rfl
@[go_sem] theorem okSl_114 : okSl Tt 114 = false := Eq.trans rfl rfl
@[go_sem] theorem okSt_114 : okSt Tt 114 = true := Eq.trans rfl rfl
@[go_sem] theorem Tt_115 : Tt 115 = ⟨.struct #[⟨"Ins", 45, 0, true, "", "", 0⟩, ⟨"note", 9, 4, false, "", "seedcorn/seed", 32⟩], 5, 48, [.int .i64 0, .int .i64 0, .int .i64 0, .int .i64 0, .str []]⟩ := Eq.trans rfl rfl
@[go_sem] theorem okSl_115 : okSl Tt 115 = false := Eq.trans rfl rfl
@[go_sem] theorem okSt_115 : okSt Tt 115 = true := Eq.trans rfl rfl
@[go_sem] theorem Tt_118 : Tt 118 = ⟨.array 16 31, 16, 64, [.int .u32 0, .int .u32 0, .int .u32 0, .int .u32 0, .int .u32 0, .int .u32 0, .int .u32 0, .int .u32 0, .int .u32 0, .int .u32 0, .int .u32 0, .int .u32 0, .int .u32 0, .int .u32 0, .int .u32 0, .int .u32 0]⟩ := Eq.trans rfl rfl
@[go_sem] theorem okSl_118 : okSl Tt 118 = false := Eq.trans rfl rfl
@[go_sem] theorem okSt_118 : okSt Tt 118 = true := Eq.trans rfl rfl
@[go_sem] theorem Tt_119 : Tt 119 = ⟨.struct #[⟨"PC", 3, 0, false, "", "", 0⟩, ⟨"Reg", 118, 1, false, "", "", 8⟩, ⟨"Mem", 22, 17, false, "", "", 72⟩, ⟨"Read", 3, 18, false, "", "", 96⟩, ⟨"Out", 9, 19, false, "", "", 104⟩, ⟨"Steps", 3, 20, false, "", "", 120⟩, ⟨"End", 3, 21, false, "", "", 128⟩], 22, 136, [.int .i64 0, .int .u32 0, .int .u32 0, .int .u32 0, .int .u32 0, .int .u32 0, .int .u32 0, .int .u32 0, .int .u32 0, .int .u32 0, .int .u32 0, .int .u32 0, .int .u32 0, .int .u32 0, .int .u32 0, .int .u32 0, .int .u32 0, .nsl, .int .i64 0, .str [], .int .i64 0, .int .i64 0]⟩ := Eq.trans rfl rfl
@[go_sem] theorem okSl_119 : okSl Tt 119 = false := Eq.trans rfl rfl
@[go_sem] theorem okSt_119 : okSt Tt 119 = true := Eq.trans rfl rfl
@[go_sem] theorem Tt_120 : Tt 120 = ⟨.struct #[⟨"PC", 3, 0, false, "", "", 0⟩, ⟨"Reg", 118, 1, false, "", "", 8⟩, ⟨"Mem", 22, 17, false, "", "", 72⟩, ⟨"Read", 3, 18, false, "", "", 96⟩, ⟨"Out", 9, 19, false, "", "", 104⟩, ⟨"Steps", 3, 20, false, "", "", 120⟩, ⟨"End", 3, 21, false, "", "", 128⟩], 22, 136, [.int .i64 0, .int .u32 0, .int .u32 0, .int .u32 0, .int .u32 0, .int .u32 0, .int .u32 0, .int .u32 0, .int .u32 0, .int .u32 0, .int .u32 0, .int .u32 0, .int .u32 0, .int .u32 0, .int .u32 0, .int .u32 0, .int .u32 0, .nsl, .int .i64 0, .str [], .int .i64 0, .int .i64 0]⟩ := Eq.trans rfl rfl
@[go_sem] theorem okSl_120 : okSl Tt 120 = false := Eq.trans rfl rfl
@[go_sem] theorem okSt_120 : okSt Tt 120 = true := Eq.trans rfl rfl
@[go_sem] theorem Tt_124 : Tt 124 = ⟨.array 24 5, 24, 24, [.int .u8 0, .int .u8 0, .int .u8 0, .int .u8 0, .int .u8 0, .int .u8 0, .int .u8 0, .int .u8 0, .int .u8 0, .int .u8 0, .int .u8 0, .int .u8 0, .int .u8 0, .int .u8 0, .int .u8 0, .int .u8 0, .int .u8 0, .int .u8 0, .int .u8 0, .int .u8 0, .int .u8 0, .int .u8 0, .int .u8 0, .int .u8 0]⟩ := Eq.trans rfl rfl
@[go_sem] theorem okSl_124 : okSl Tt 124 = false := Eq.trans rfl rfl
@[go_sem] theorem okSt_124 : okSt Tt 124 = true := Eq.trans rfl rfl
@[go_sem] theorem Tt_129 : Tt 129 = ⟨.slice 139, 1, 24, [.nsl]⟩ := Eq.trans rfl rfl
@[go_sem] theorem elem_129 : elemTI Tt 129 = ⟨.struct #[⟨"Kind", 3, 0, false, "", "", 0⟩, ⟨"Text", 9, 1, false, "", "", 8⟩, ⟨"Num", 31, 2, false, "", "", 24⟩, ⟨"At", 3, 3, false, "", "", 32⟩], 4, 40, [.int .i64 0, .str [], .int .u32 0, .int .i64 0]⟩ := Eq.trans rfl rfl
@[go_sem] theorem okSl_129 : okSl Tt 129 = true := Eq.trans rfl rfl
@[go_sem] theorem Tt_132 : Tt 132 = ⟨.struct #[⟨"at", 3, 0, false, "", "seedcorn/parse", 0⟩], 1, 8, [.int .i64 0]⟩ := Eq.trans rfl rfl
@[go_sem] theorem okSl_132 : okSl Tt 132 = false := Eq.trans rfl rfl
@[go_sem] theorem okSt_132 : okSt Tt 132 = true := Eq.trans rfl rfl
@[go_sem] theorem Tt_133 : Tt 133 = ⟨.struct #[⟨"at", 3, 0, false, "", "seedcorn/parse", 0⟩], 1, 8, [.int .i64 0]⟩ := Eq.trans rfl rfl
@[go_sem] theorem okSl_133 : okSl Tt 133 = false := Eq.trans rfl rfl
@[go_sem] theorem okSt_133 : okSt Tt 133 = true := Eq.trans rfl rfl
@[go_sem] theorem Tt_134 : Tt 134 = ⟨.struct #[⟨"tokens", 129, 0, false, "", "seedcorn/parse", 0⟩, ⟨"next", 3, 1, false, "", "seedcorn/parse", 24⟩, ⟨"end", 3, 2, false, "", "seedcorn/parse", 32⟩], 3, 40, [.nsl, .int .i64 0, .int .i64 0]⟩ := Eq.trans rfl rfl
@[go_sem] theorem okSl_134 : okSl Tt 134 = false := Eq.trans rfl rfl
@[go_sem] theorem okSt_134 : okSt Tt 134 = true := Eq.trans rfl rfl
@[go_sem] theorem Tt_135 : Tt 135 = ⟨.struct #[⟨"tokens", 129, 0, false, "", "seedcorn/parse", 0⟩, ⟨"next", 3, 1, false, "", "seedcorn/parse", 24⟩, ⟨"end", 3, 2, false, "", "seedcorn/parse", 32⟩], 3, 40, [.nsl, .int .i64 0, .int .i64 0]⟩ := Eq.trans rfl rfl
@[go_sem] theorem okSl_135 : okSl Tt 135 = false := Eq.trans rfl rfl
@[go_sem] theorem okSt_135 : okSt Tt 135 = true := Eq.trans rfl rfl
@[go_sem] theorem Tt_138 : Tt 138 = ⟨.struct #[⟨"Kind", 3, 0, false, "", "", 0⟩, ⟨"Text", 9, 1, false, "", "", 8⟩, ⟨"Num", 31, 2, false, "", "", 24⟩, ⟨"At", 3, 3, false, "", "", 32⟩], 4, 40, [.int .i64 0, .str [], .int .u32 0, .int .i64 0]⟩ := Eq.trans rfl rfl
@[go_sem] theorem okSl_138 : okSl Tt 138 = false := Eq.trans rfl rfl
@[go_sem] theorem okSt_138 : okSt Tt 138 = true := Eq.trans rfl rfl
@[go_sem] theorem Tt_139 : Tt 139 = ⟨.struct #[⟨"Kind", 3, 0, false, "", "", 0⟩, ⟨"Text", 9, 1, false, "", "", 8⟩, ⟨"Num", 31, 2, false, "", "", 24⟩, ⟨"At", 3, 3, false, "", "", 32⟩], 4, 40, [.int .i64 0, .str [], .int .u32 0, .int .i64 0]⟩ := Eq.trans rfl rfl
@[go_sem] theorem okSl_139 : okSl Tt 139 = false := Eq.trans rfl rfl
@[go_sem] theorem okSt_139 : okSt Tt 139 = true := Eq.trans rfl rfl
@[go_sem] theorem Tt_142 : Tt 142 = ⟨.struct #[⟨"Name", 9, 0, false, "", "", 0⟩, ⟨"Size", 3, 1, false, "", "", 16⟩], 2, 24, [.str [], .int .i64 0]⟩ := Eq.trans rfl rfl
@[go_sem] theorem okSl_142 : okSl Tt 142 = false := Eq.trans rfl rfl
@[go_sem] theorem okSt_142 : okSt Tt 142 = true := Eq.trans rfl rfl
@[go_sem] theorem Tt_143 : Tt 143 = ⟨.struct #[⟨"Name", 9, 0, false, "", "", 0⟩, ⟨"Size", 3, 1, false, "", "", 16⟩], 2, 24, [.str [], .int .i64 0]⟩ := Eq.trans rfl rfl
@[go_sem] theorem okSl_143 : okSl Tt 143 = false := Eq.trans rfl rfl
@[go_sem] theorem okSt_143 : okSt Tt 143 = true := Eq.trans rfl rfl
@[go_sem] theorem Tt_144 : Tt 144 = ⟨.slice 198, 1, 24, [.nsl]⟩ := Eq.trans rfl rfl
@[go_sem] theorem elem_144 : elemTI Tt 144 = ⟨.struct #[⟨"Kind", 3, 0, false, "", "", 0⟩, ⟨"Name", 9, 1, false, "", "", 8⟩, ⟨"E", 196, 2, false, "", "", 24⟩, ⟨"Then", 144, 3, false, "", "", 48⟩, ⟨"Else", 144, 4, false, "", "", 72⟩], 5, 96, [.int .i64 0, .str [], .nsl, .nsl, .nsl]⟩ := Eq.trans rfl rfl
@[go_sem] theorem okSl_144 : okSl Tt 144 = true := Eq.trans rfl rfl
@[go_sem] theorem Tt_145 : Tt 145 = ⟨.struct #[⟨"Name", 9, 0, false, "", "", 0⟩, ⟨"Params", 32, 1, false, "", "", 16⟩, ⟨"Locals", 32, 2, false, "", "", 40⟩, ⟨"Word", 4, 3, false, "", "", 64⟩, ⟨"Body", 144, 4, false, "", "", 72⟩], 5, 96, [.str [], .nsl, .nsl, .bool false, .nsl]⟩ := Eq.trans rfl rfl
@[go_sem] theorem okSl_145 : okSl Tt 145 = false := Eq.trans rfl rfl
@[go_sem] theorem okSt_145 : okSt Tt 145 = true := Eq.trans rfl rfl
@[go_sem] theorem Tt_146 : Tt 146 = ⟨.struct #[⟨"Name", 9, 0, false, "", "", 0⟩, ⟨"Params", 32, 1, false, "", "", 16⟩, ⟨"Locals", 32, 2, false, "", "", 40⟩, ⟨"Word", 4, 3, false, "", "", 64⟩, ⟨"Body", 144, 4, false, "", "", 72⟩], 5, 96, [.str [], .nsl, .nsl, .bool false, .nsl]⟩ := Eq.trans rfl rfl
@[go_sem] theorem okSl_146 : okSl Tt 146 = false := Eq.trans rfl rfl
@[go_sem] theorem okSt_146 : okSt Tt 146 = true := Eq.trans rfl rfl
@[go_sem] theorem Tt_151 : Tt 151 = ⟨.map 9 157, 1, 8, [.nilm]⟩ := Eq.trans rfl rfl
@[go_sem] theorem okSl_151 : okSl Tt 151 = false := Eq.trans rfl rfl
@[go_sem] theorem Tt_154 : Tt 154 = ⟨.struct #[⟨"outside", 151, 0, false, "", "seedcorn/core", 0⟩, ⟨"inside", 151, 1, false, "", "seedcorn/core", 8⟩], 2, 16, [.nilm, .nilm]⟩ := Eq.trans rfl rfl
@[go_sem] theorem okSl_154 : okSl Tt 154 = false := Eq.trans rfl rfl
@[go_sem] theorem okSt_154 : okSt Tt 154 = true := Eq.trans rfl rfl
@[go_sem] theorem Tt_155 : Tt 155 = ⟨.struct #[⟨"outside", 151, 0, false, "", "seedcorn/core", 0⟩, ⟨"inside", 151, 1, false, "", "seedcorn/core", 8⟩], 2, 16, [.nilm, .nilm]⟩ := Eq.trans rfl rfl
@[go_sem] theorem okSl_155 : okSl Tt 155 = false := Eq.trans rfl rfl
@[go_sem] theorem okSt_155 : okSt Tt 155 = true := Eq.trans rfl rfl
@[go_sem] theorem Tt_156 : Tt 156 = ⟨.struct #[⟨"slot", 3, 0, false, "", "seedcorn/core", 0⟩, ⟨"size", 3, 1, false, "", "seedcorn/core", 8⟩], 2, 16, [.int .i64 0, .int .i64 0]⟩ := Eq.trans rfl rfl
@[go_sem] theorem okSl_156 : okSl Tt 156 = false := Eq.trans rfl rfl
@[go_sem] theorem okSt_156 : okSt Tt 156 = true := Eq.trans rfl rfl
@[go_sem] theorem Tt_157 : Tt 157 = ⟨.struct #[⟨"slot", 3, 0, false, "", "seedcorn/core", 0⟩, ⟨"size", 3, 1, false, "", "seedcorn/core", 8⟩], 2, 16, [.int .i64 0, .int .i64 0]⟩ := Eq.trans rfl rfl
@[go_sem] theorem okSl_157 : okSl Tt 157 = false := Eq.trans rfl rfl
@[go_sem] theorem okSt_157 : okSt Tt 157 = true := Eq.trans rfl rfl
@[go_sem] theorem Tt_158 : Tt 158 = ⟨.slice 205, 1, 24, [.nsl]⟩ := Eq.trans rfl rfl
@[go_sem] theorem elem_158 : elemTI Tt 158 = ⟨.struct #[⟨"Kind", 3, 0, false, "", "", 0⟩, ⟨"Slot", 3, 1, false, "", "", 8⟩, ⟨"Size", 3, 2, false, "", "", 16⟩, ⟨"E", 202, 3, false, "", "", 24⟩, ⟨"Then", 158, 4, false, "", "", 48⟩, ⟨"Else", 158, 5, false, "", "", 72⟩], 6, 96, [.int .i64 0, .int .i64 0, .int .i64 0, .nsl, .nsl, .nsl]⟩ := Eq.trans rfl rfl
@[go_sem] theorem okSl_158 : okSl Tt 158 = true := Eq.trans rfl rfl
@[go_sem] theorem Tt_160 : Tt 160 = ⟨.struct #[⟨"Params", 3, 0, false, "", "", 0⟩, ⟨"Slots", 3, 1, false, "", "", 8⟩, ⟨"First", 3, 2, false, "", "", 16⟩, ⟨"Word", 4, 3, false, "", "", 24⟩, ⟨"Body", 158, 4, false, "", "", 32⟩], 5, 56, [.int .i64 0, .int .i64 0, .int .i64 0, .bool false, .nsl]⟩ := Eq.trans rfl rfl
@[go_sem] theorem okSl_160 : okSl Tt 160 = false := Eq.trans rfl rfl
@[go_sem] theorem okSt_160 : okSt Tt 160 = true := Eq.trans rfl rfl
@[go_sem] theorem Tt_161 : Tt 161 = ⟨.struct #[⟨"Params", 3, 0, false, "", "", 0⟩, ⟨"Slots", 3, 1, false, "", "", 8⟩, ⟨"First", 3, 2, false, "", "", 16⟩, ⟨"Word", 4, 3, false, "", "", 24⟩, ⟨"Body", 158, 4, false, "", "", 32⟩], 5, 56, [.int .i64 0, .int .i64 0, .int .i64 0, .bool false, .nsl]⟩ := Eq.trans rfl rfl
@[go_sem] theorem okSl_161 : okSl Tt 161 = false := Eq.trans rfl rfl
@[go_sem] theorem okSt_161 : okSt Tt 161 = true := Eq.trans rfl rfl
@[go_sem] theorem Tt_162 : Tt 162 = ⟨.slice 59, 1, 24, [.nsl]⟩ := Eq.trans rfl rfl
@[go_sem] theorem elem_162 : elemTI Tt 162 = ⟨.slice 3, 1, 24, [.nsl]⟩ := Eq.trans rfl rfl
@[go_sem] theorem okSl_162 : okSl Tt 162 = true := Eq.trans rfl rfl
@[go_sem] theorem Tt_163 : Tt 163 = ⟨.struct #[⟨"depths", 162, 0, false, "", "seedcorn/emit", 0⟩, ⟨"back", 59, 1, false, "", "seedcorn/emit", 24⟩, ⟨"base", 59, 2, false, "", "seedcorn/emit", 48⟩, ⟨"data", 3, 3, false, "", "seedcorn/emit", 72⟩], 4, 80, [.nsl, .nsl, .nsl, .int .i64 0]⟩ := Eq.trans rfl rfl
@[go_sem] theorem okSl_163 : okSl Tt 163 = false := Eq.trans rfl rfl
@[go_sem] theorem okSt_163 : okSt Tt 163 = true := Eq.trans rfl rfl
@[go_sem] theorem Tt_164 : Tt 164 = ⟨.struct #[⟨"depths", 162, 0, false, "", "seedcorn/emit", 0⟩, ⟨"back", 59, 1, false, "", "seedcorn/emit", 24⟩, ⟨"base", 59, 2, false, "", "seedcorn/emit", 48⟩, ⟨"data", 3, 3, false, "", "seedcorn/emit", 72⟩], 4, 80, [.nsl, .nsl, .nsl, .int .i64 0]⟩ := Eq.trans rfl rfl
@[go_sem] theorem okSl_164 : okSl Tt 164 = false := Eq.trans rfl rfl
@[go_sem] theorem okSt_164 : okSt Tt 164 = true := Eq.trans rfl rfl
@[go_sem] theorem Tt_166 : Tt 166 = ⟨.pointer 170, 1, 8, [.nilp]⟩ := Eq.trans rfl rfl
@[go_sem] theorem okSl_166 : okSl Tt 166 = false := Eq.trans rfl rfl
@[go_sem] theorem Tt_167 : Tt 167 = ⟨.slice 45, 1, 24, [.nsl]⟩ := Eq.trans rfl rfl
@[go_sem] theorem elem_167 : elemTI Tt 167 = ⟨.struct #[⟨"Op", 3, 0, false, "", "", 0⟩, ⟨"A", 3, 1, false, "", "", 8⟩, ⟨"B", 3, 2, false, "", "", 16⟩, ⟨"C", 3, 3, false, "", "", 24⟩], 4, 32, [.int .i64 0, .int .i64 0, .int .i64 0, .int .i64 0]⟩ := Eq.trans rfl rfl
@[go_sem] theorem okSl_167 : okSl Tt 167 = true := Eq.trans rfl rfl
@[go_sem] theorem Tt_168 : Tt 168 = ⟨.slice 213, 1, 24, [.nsl]⟩ := Eq.trans rfl rfl
@[go_sem] theorem elem_168 : elemTI Tt 168 = ⟨.struct #[⟨"at", 3, 0, false, "", "seedcorn/emit", 0⟩, ⟨"f", 3, 1, false, "", "seedcorn/emit", 8⟩, ⟨"place", 3, 2, false, "", "seedcorn/emit", 16⟩], 3, 24, [.int .i64 0, .int .i64 0, .int .i64 0]⟩ := Eq.trans rfl rfl
@[go_sem] theorem okSl_168 : okSl Tt 168 = true := Eq.trans rfl rfl
@[go_sem] theorem Tt_169 : Tt 169 = ⟨.struct #[⟨"s", 102, 0, false, "", "seedcorn/emit", 0⟩, ⟨"plan", 164, 2, false, "", "seedcorn/emit", 32⟩, ⟨"code", 167, 6, false, "", "seedcorn/emit", 112⟩, ⟨"entry", 59, 7, false, "", "seedcorn/emit", 136⟩, ⟨"places", 162, 8, false, "", "seedcorn/emit", 160⟩, ⟨"holes", 168, 9, false, "", "seedcorn/emit", 184⟩, ⟨"f", 3, 10, false, "", "seedcorn/emit", 208⟩, ⟨"depth", 3, 11, false, "", "seedcorn/emit", 216⟩], 12, 224, [.int .i64 0, .nsl, .nsl, .nsl, .nsl, .int .i64 0, .nsl, .nsl, .nsl, .nsl, .int .i64 0, .int .i64 0]⟩ := Eq.trans rfl rfl
@[go_sem] theorem okSl_169 : okSl Tt 169 = false := Eq.trans rfl rfl
@[go_sem] theorem okSt_169 : okSt Tt 169 = true := Eq.trans rfl rfl
@[go_sem] theorem Tt_170 : Tt 170 = ⟨.struct #[⟨"s", 102, 0, false, "", "seedcorn/emit", 0⟩, ⟨"plan", 164, 2, false, "", "seedcorn/emit", 32⟩, ⟨"code", 167, 6, false, "", "seedcorn/emit", 112⟩, ⟨"entry", 59, 7, false, "", "seedcorn/emit", 136⟩, ⟨"places", 162, 8, false, "", "seedcorn/emit", 160⟩, ⟨"holes", 168, 9, false, "", "seedcorn/emit", 184⟩, ⟨"f", 3, 10, false, "", "seedcorn/emit", 208⟩, ⟨"depth", 3, 11, false, "", "seedcorn/emit", 216⟩], 12, 224, [.int .i64 0, .nsl, .nsl, .nsl, .nsl, .int .i64 0, .nsl, .nsl, .nsl, .nsl, .int .i64 0, .int .i64 0]⟩ := Eq.trans rfl rfl
@[go_sem] theorem okSl_170 : okSl Tt 170 = false := Eq.trans rfl rfl
@[go_sem] theorem okSt_170 : okSt Tt 170 = true := Eq.trans rfl rfl
@[go_sem] theorem Tt_172 : Tt 172 = ⟨.slice 253, 1, 24, [.nsl]⟩ := Eq.trans rfl rfl
@[go_sem] theorem elem_172 : elemTI Tt 172 = ⟨.struct #[⟨"Op", 3, 0, false, "", "", 0⟩, ⟨"A", 3, 1, false, "", "", 8⟩, ⟨"B", 3, 2, false, "", "", 16⟩, ⟨"N", 31, 3, false, "", "", 24⟩], 4, 32, [.int .i64 0, .int .i64 0, .int .i64 0, .int .u32 0]⟩ := Eq.trans rfl rfl
@[go_sem] theorem okSl_172 : okSl Tt 172 = true := Eq.trans rfl rfl
@[go_sem] theorem Tt_174 : Tt 174 = ⟨.struct #[⟨"Params", 3, 0, false, "", "", 0⟩, ⟨"Slots", 3, 1, false, "", "", 8⟩, ⟨"First", 3, 2, false, "", "", 16⟩, ⟨"Word", 4, 3, false, "", "", 24⟩, ⟨"Code", 172, 4, false, "", "", 32⟩], 5, 56, [.int .i64 0, .int .i64 0, .int .i64 0, .bool false, .nsl]⟩ := Eq.trans rfl rfl
@[go_sem] theorem okSl_174 : okSl Tt 174 = false := Eq.trans rfl rfl
@[go_sem] theorem okSt_174 : okSt Tt 174 = true := Eq.trans rfl rfl
@[go_sem] theorem Tt_175 : Tt 175 = ⟨.struct #[⟨"Params", 3, 0, false, "", "", 0⟩, ⟨"Slots", 3, 1, false, "", "", 8⟩, ⟨"First", 3, 2, false, "", "", 16⟩, ⟨"Word", 4, 3, false, "", "", 24⟩, ⟨"Code", 172, 4, false, "", "", 32⟩], 5, 56, [.int .i64 0, .int .i64 0, .int .i64 0, .bool false, .nsl]⟩ := Eq.trans rfl rfl
@[go_sem] theorem okSl_175 : okSl Tt 175 = false := Eq.trans rfl rfl
@[go_sem] theorem okSt_175 : okSt Tt 175 = true := Eq.trans rfl rfl
@[go_sem] theorem Tt_177 : Tt 177 = ⟨.func #[31] #[4] false, 1, 8, [.nilf]⟩ := Eq.trans rfl rfl
@[go_sem] theorem okSl_177 : okSl Tt 177 = false := Eq.trans rfl rfl
@[go_sem] theorem Tt_178 : Tt 178 = ⟨.pointer 219, 1, 8, [.nilp]⟩ := Eq.trans rfl rfl
@[go_sem] theorem okSl_178 : okSl Tt 178 = false := Eq.trans rfl rfl
@[go_sem] theorem Tt_186 : Tt 186 = ⟨.array 20 64, 20, 160, [.int .u64 0, .int .u64 0, .int .u64 0, .int .u64 0, .int .u64 0, .int .u64 0, .int .u64 0, .int .u64 0, .int .u64 0, .int .u64 0, .int .u64 0, .int .u64 0, .int .u64 0, .int .u64 0, .int .u64 0, .int .u64 0, .int .u64 0, .int .u64 0, .int .u64 0, .int .u64 0]⟩ := Eq.trans rfl rfl
@[go_sem] theorem okSl_186 : okSl Tt 186 = false := Eq.trans rfl rfl
@[go_sem] theorem okSt_186 : okSt Tt 186 = true := Eq.trans rfl rfl
@[go_sem] theorem Tt_191 : Tt 191 = ⟨.func #[5] #[4] false, 1, 8, [.nilf]⟩ := Eq.trans rfl rfl
@[go_sem] theorem okSl_191 : okSl Tt 191 = false := Eq.trans rfl rfl
@[go_sem] theorem Tt_196 : Tt 196 = ⟨.slice 225, 1, 24, [.nsl]⟩ := Eq.trans rfl rfl
@[go_sem] theorem elem_196 : elemTI Tt 196 = ⟨.struct #[⟨"Kind", 3, 0, false, "", "", 0⟩, ⟨"Op", 3, 1, false, "", "", 8⟩, ⟨"Num", 31, 2, false, "", "", 16⟩, ⟨"Name", 9, 3, false, "", "", 24⟩, ⟨"Kids", 196, 4, false, "", "", 40⟩], 5, 64, [.int .i64 0, .int .i64 0, .int .u32 0, .str [], .nsl]⟩ := Eq.trans rfl rfl
@[go_sem] theorem okSl_196 : okSl Tt 196 = true := Eq.trans rfl rfl
@[go_sem] theorem Tt_197 : Tt 197 = ⟨.struct #[⟨"Kind", 3, 0, false, "", "", 0⟩, ⟨"Name", 9, 1, false, "", "", 8⟩, ⟨"E", 196, 2, false, "", "", 24⟩, ⟨"Then", 144, 3, false, "", "", 48⟩, ⟨"Else", 144, 4, false, "", "", 72⟩], 5, 96, [.int .i64 0, .str [], .nsl, .nsl, .nsl]⟩ := Eq.trans rfl rfl
@[go_sem] theorem okSl_197 : okSl Tt 197 = false := Eq.trans rfl rfl
@[go_sem] theorem okSt_197 : okSt Tt 197 = true := Eq.trans rfl rfl
@[go_sem] theorem Tt_198 : Tt 198 = ⟨.struct #[⟨"Kind", 3, 0, false, "", "", 0⟩, ⟨"Name", 9, 1, false, "", "", 8⟩, ⟨"E", 196, 2, false, "", "", 24⟩, ⟨"Then", 144, 3, false, "", "", 48⟩, ⟨"Else", 144, 4, false, "", "", 72⟩], 5, 96, [.int .i64 0, .str [], .nsl, .nsl, .nsl]⟩ := Eq.trans rfl rfl
@[go_sem] theorem okSl_198 : okSl Tt 198 = false := Eq.trans rfl rfl
@[go_sem] theorem okSt_198 : okSt Tt 198 = true := Eq.trans rfl rfl
@[go_sem] theorem Tt_202 : Tt 202 = ⟨.slice 246, 1, 24, [.nsl]⟩ := Eq.trans rfl rfl
@[go_sem] theorem elem_202 : elemTI Tt 202 = ⟨.struct #[⟨"Kind", 3, 0, false, "", "", 0⟩, ⟨"Op", 3, 1, false, "", "", 8⟩, ⟨"Num", 31, 2, false, "", "", 16⟩, ⟨"Slot", 3, 3, false, "", "", 24⟩, ⟨"Size", 3, 4, false, "", "", 32⟩, ⟨"Kids", 202, 5, false, "", "", 40⟩], 6, 64, [.int .i64 0, .int .i64 0, .int .u32 0, .int .i64 0, .int .i64 0, .nsl]⟩ := Eq.trans rfl rfl
@[go_sem] theorem okSl_202 : okSl Tt 202 = true := Eq.trans rfl rfl
@[go_sem] theorem Tt_204 : Tt 204 = ⟨.struct #[⟨"Kind", 3, 0, false, "", "", 0⟩, ⟨"Slot", 3, 1, false, "", "", 8⟩, ⟨"Size", 3, 2, false, "", "", 16⟩, ⟨"E", 202, 3, false, "", "", 24⟩, ⟨"Then", 158, 4, false, "", "", 48⟩, ⟨"Else", 158, 5, false, "", "", 72⟩], 6, 96, [.int .i64 0, .int .i64 0, .int .i64 0, .nsl, .nsl, .nsl]⟩ := Eq.trans rfl rfl
@[go_sem] theorem okSl_204 : okSl Tt 204 = false := Eq.trans rfl rfl
@[go_sem] theorem okSt_204 : okSt Tt 204 = true := Eq.trans rfl rfl
@[go_sem] theorem Tt_205 : Tt 205 = ⟨.struct #[⟨"Kind", 3, 0, false, "", "", 0⟩, ⟨"Slot", 3, 1, false, "", "", 8⟩, ⟨"Size", 3, 2, false, "", "", 16⟩, ⟨"E", 202, 3, false, "", "", 24⟩, ⟨"Then", 158, 4, false, "", "", 48⟩, ⟨"Else", 158, 5, false, "", "", 72⟩], 6, 96, [.int .i64 0, .int .i64 0, .int .i64 0, .nsl, .nsl, .nsl]⟩ := Eq.trans rfl rfl
@[go_sem] theorem okSl_205 : okSl Tt 205 = false := Eq.trans rfl rfl
@[go_sem] theorem okSt_205 : okSt Tt 205 = true := Eq.trans rfl rfl
@[go_sem] theorem Tt_208 : Tt 208 = ⟨.map 3 257, 1, 8, [.nilm]⟩ := Eq.trans rfl rfl
@[go_sem] theorem okSl_208 : okSl Tt 208 = false := Eq.trans rfl rfl
@[go_sem] theorem Tt_212 : Tt 212 = ⟨.struct #[⟨"at", 3, 0, false, "", "seedcorn/emit", 0⟩, ⟨"f", 3, 1, false, "", "seedcorn/emit", 8⟩, ⟨"place", 3, 2, false, "", "seedcorn/emit", 16⟩], 3, 24, [.int .i64 0, .int .i64 0, .int .i64 0]⟩ := Eq.trans rfl rfl
@[go_sem] theorem okSl_212 : okSl Tt 212 = false := Eq.trans rfl rfl
@[go_sem] theorem okSt_212 : okSt Tt 212 = true := Eq.trans rfl rfl
@[go_sem] theorem Tt_213 : Tt 213 = ⟨.struct #[⟨"at", 3, 0, false, "", "seedcorn/emit", 0⟩, ⟨"f", 3, 1, false, "", "seedcorn/emit", 8⟩, ⟨"place", 3, 2, false, "", "seedcorn/emit", 16⟩], 3, 24, [.int .i64 0, .int .i64 0, .int .i64 0]⟩ := Eq.trans rfl rfl
@[go_sem] theorem okSl_213 : okSl Tt 213 = false := Eq.trans rfl rfl
@[go_sem] theorem okSt_213 : okSt Tt 213 = true := Eq.trans rfl rfl
@[go_sem] theorem Tt_214 : Tt 214 = ⟨.struct #[⟨"word", 4, 0, false, "", "seedcorn/lower", 0⟩, ⟨"code", 172, 1, false, "", "seedcorn/lower", 8⟩], 2, 32, [.bool false, .nsl]⟩ := Eq.trans rfl rfl
@[go_sem] theorem okSl_214 : okSl Tt 214 = false := Eq.trans rfl rfl
@[go_sem] theorem okSt_214 : okSt Tt 214 = true := Eq.trans rfl rfl
@[go_sem] theorem Tt_215 : Tt 215 = ⟨.struct #[⟨"word", 4, 0, false, "", "seedcorn/lower", 0⟩, ⟨"code", 172, 1, false, "", "seedcorn/lower", 8⟩], 2, 32, [.bool false, .nsl]⟩ := Eq.trans rfl rfl
@[go_sem] theorem okSl_215 : okSl Tt 215 = false := Eq.trans rfl rfl
@[go_sem] theorem okSt_215 : okSt Tt 215 = true := Eq.trans rfl rfl
@[go_sem] theorem Tt_218 : Tt 218 = ⟨.struct #[⟨"code", 22, 0, false, "", "seedcorn/machine", 0⟩, ⟨"in", 9, 1, false, "", "seedcorn/machine", 24⟩, ⟨"s", 120, 2, false, "", "seedcorn/machine", 40⟩, ⟨"own", 4, 24, false, "", "seedcorn/machine", 176⟩, ⟨"more", 36, 25, false, "", "seedcorn/machine", 184⟩], 26, 208, [.nsl, .str [], .int .i64 0, .int .u32 0, .int .u32 0, .int .u32 0, .int .u32 0, .int .u32 0, .int .u32 0, .int .u32 0, .int .u32 0, .int .u32 0, .int .u32 0, .int .u32 0, .int .u32 0, .int .u32 0, .int .u32 0, .int .u32 0, .int .u32 0, .nsl, .int .i64 0, .str [], .int .i64 0, .int .i64 0, .bool false, .nsl]⟩ := Eq.trans rfl rfl
@[go_sem] theorem okSl_218 : okSl Tt 218 = false := Eq.trans rfl rfl
@[go_sem] theorem okSt_218 : okSt Tt 218 = true := Eq.trans rfl rfl
@[go_sem] theorem Tt_219 : Tt 219 = ⟨.struct #[⟨"code", 22, 0, false, "", "seedcorn/machine", 0⟩, ⟨"in", 9, 1, false, "", "seedcorn/machine", 24⟩, ⟨"s", 120, 2, false, "", "seedcorn/machine", 40⟩, ⟨"own", 4, 24, false, "", "seedcorn/machine", 176⟩, ⟨"more", 36, 25, false, "", "seedcorn/machine", 184⟩], 26, 208, [.nsl, .str [], .int .i64 0, .int .u32 0, .int .u32 0, .int .u32 0, .int .u32 0, .int .u32 0, .int .u32 0, .int .u32 0, .int .u32 0, .int .u32 0, .int .u32 0, .int .u32 0, .int .u32 0, .int .u32 0, .int .u32 0, .int .u32 0, .int .u32 0, .nsl, .int .i64 0, .str [], .int .i64 0, .int .i64 0, .bool false, .nsl]⟩ := Eq.trans rfl rfl
@[go_sem] theorem okSl_219 : okSl Tt 219 = false := Eq.trans rfl rfl
@[go_sem] theorem okSt_219 : okSt Tt 219 = true := Eq.trans rfl rfl
@[go_sem] theorem Tt_221 : Tt 221 = ⟨.array 24 9, 24, 384, [.str [], .str [], .str [], .str [], .str [], .str [], .str [], .str [], .str [], .str [], .str [], .str [], .str [], .str [], .str [], .str [], .str [], .str [], .str [], .str [], .str [], .str [], .str [], .str []]⟩ := Eq.trans rfl rfl
@[go_sem] theorem okSl_221 : okSl Tt 221 = false := Eq.trans rfl rfl
@[go_sem] theorem okSt_221 : okSt Tt 221 = true := Eq.trans rfl rfl
@[go_sem] theorem Tt_224 : Tt 224 = ⟨.struct #[⟨"Kind", 3, 0, false, "", "", 0⟩, ⟨"Op", 3, 1, false, "", "", 8⟩, ⟨"Num", 31, 2, false, "", "", 16⟩, ⟨"Name", 9, 3, false, "", "", 24⟩, ⟨"Kids", 196, 4, false, "", "", 40⟩], 5, 64, [.int .i64 0, .int .i64 0, .int .u32 0, .str [], .nsl]⟩ := Eq.trans rfl rfl
@[go_sem] theorem okSl_224 : okSl Tt 224 = false := Eq.trans rfl rfl
@[go_sem] theorem okSt_224 : okSt Tt 224 = true := Eq.trans rfl rfl
@[go_sem] theorem Tt_225 : Tt 225 = ⟨.struct #[⟨"Kind", 3, 0, false, "", "", 0⟩, ⟨"Op", 3, 1, false, "", "", 8⟩, ⟨"Num", 31, 2, false, "", "", 16⟩, ⟨"Name", 9, 3, false, "", "", 24⟩, ⟨"Kids", 196, 4, false, "", "", 40⟩], 5, 64, [.int .i64 0, .int .i64 0, .int .u32 0, .str [], .nsl]⟩ := Eq.trans rfl rfl
@[go_sem] theorem okSl_225 : okSl Tt 225 = false := Eq.trans rfl rfl
@[go_sem] theorem okSt_225 : okSt Tt 225 = true := Eq.trans rfl rfl
@[go_sem] theorem Tt_227 : Tt 227 = ⟨.map 9 237, 1, 8, [.nilm]⟩ := Eq.trans rfl rfl
@[go_sem] theorem okSl_227 : okSl Tt 227 = false := Eq.trans rfl rfl
@[go_sem] theorem Tt_231 : Tt 231 = ⟨.struct #[⟨"outside", 227, 0, false, "", "seedcorn/scope", 0⟩, ⟨"inside", 227, 1, false, "", "seedcorn/scope", 8⟩], 2, 16, [.nilm, .nilm]⟩ := Eq.trans rfl rfl
@[go_sem] theorem okSl_231 : okSl Tt 231 = false := Eq.trans rfl rfl
@[go_sem] theorem okSt_231 : okSt Tt 231 = true := Eq.trans rfl rfl
@[go_sem] theorem Tt_232 : Tt 232 = ⟨.struct #[⟨"outside", 227, 0, false, "", "seedcorn/scope", 0⟩, ⟨"inside", 227, 1, false, "", "seedcorn/scope", 8⟩], 2, 16, [.nilm, .nilm]⟩ := Eq.trans rfl rfl
@[go_sem] theorem okSl_232 : okSl Tt 232 = false := Eq.trans rfl rfl
@[go_sem] theorem okSt_232 : okSt Tt 232 = true := Eq.trans rfl rfl
@[go_sem] theorem Tt_234 : Tt 234 = ⟨.struct #[⟨"kind", 3, 0, false, "", "seedcorn/scope", 0⟩, ⟨"name", 9, 1, false, "", "seedcorn/scope", 8⟩, ⟨"arguments", 3, 2, false, "", "seedcorn/scope", 24⟩], 3, 32, [.int .i64 0, .str [], .int .i64 0]⟩ := Eq.trans rfl rfl
@[go_sem] theorem okSl_234 : okSl Tt 234 = false := Eq.trans rfl rfl
@[go_sem] theorem okSt_234 : okSt Tt 234 = true := Eq.trans rfl rfl
@[go_sem] theorem Tt_235 : Tt 235 = ⟨.struct #[⟨"kind", 3, 0, false, "", "seedcorn/scope", 0⟩, ⟨"name", 9, 1, false, "", "seedcorn/scope", 8⟩, ⟨"arguments", 3, 2, false, "", "seedcorn/scope", 24⟩], 3, 32, [.int .i64 0, .str [], .int .i64 0]⟩ := Eq.trans rfl rfl
@[go_sem] theorem okSl_235 : okSl Tt 235 = false := Eq.trans rfl rfl
@[go_sem] theorem okSt_235 : okSt Tt 235 = true := Eq.trans rfl rfl
@[go_sem] theorem Tt_236 : Tt 236 = ⟨.struct #[⟨"kind", 3, 0, false, "", "seedcorn/scope", 0⟩, ⟨"number", 3, 1, false, "", "seedcorn/scope", 8⟩], 2, 16, [.int .i64 0, .int .i64 0]⟩ := Eq.trans rfl rfl
@[go_sem] theorem okSl_236 : okSl Tt 236 = false := Eq.trans rfl rfl
@[go_sem] theorem okSt_236 : okSt Tt 236 = true := Eq.trans rfl rfl
@[go_sem] theorem Tt_237 : Tt 237 = ⟨.struct #[⟨"kind", 3, 0, false, "", "seedcorn/scope", 0⟩, ⟨"number", 3, 1, false, "", "seedcorn/scope", 8⟩], 2, 16, [.int .i64 0, .int .i64 0]⟩ := Eq.trans rfl rfl
@[go_sem] theorem okSl_237 : okSl Tt 237 = false := Eq.trans rfl rfl
@[go_sem] theorem okSt_237 : okSt Tt 237 = true := Eq.trans rfl rfl
@[go_sem] theorem Tt_239 : Tt 239 = ⟨.func #[235] #[] false, 1, 8, [.nilf]⟩ := Eq.trans rfl rfl
@[go_sem] theorem okSl_239 : okSl Tt 239 = false := Eq.trans rfl rfl
@[go_sem] theorem Tt_240 : Tt 240 = ⟨.pointer 278, 1, 8, [.nilp]⟩ := Eq.trans rfl rfl
@[go_sem] theorem okSl_240 : okSl Tt 240 = false := Eq.trans rfl rfl
@[go_sem] theorem Tt_245 : Tt 245 = ⟨.struct #[⟨"Kind", 3, 0, false, "", "", 0⟩, ⟨"Op", 3, 1, false, "", "", 8⟩, ⟨"Num", 31, 2, false, "", "", 16⟩, ⟨"Slot", 3, 3, false, "", "", 24⟩, ⟨"Size", 3, 4, false, "", "", 32⟩, ⟨"Kids", 202, 5, false, "", "", 40⟩], 6, 64, [.int .i64 0, .int .i64 0, .int .u32 0, .int .i64 0, .int .i64 0, .nsl]⟩ := Eq.trans rfl rfl
@[go_sem] theorem okSl_245 : okSl Tt 245 = false := Eq.trans rfl rfl
@[go_sem] theorem okSt_245 : okSt Tt 245 = true := Eq.trans rfl rfl
@[go_sem] theorem Tt_246 : Tt 246 = ⟨.struct #[⟨"Kind", 3, 0, false, "", "", 0⟩, ⟨"Op", 3, 1, false, "", "", 8⟩, ⟨"Num", 31, 2, false, "", "", 16⟩, ⟨"Slot", 3, 3, false, "", "", 24⟩, ⟨"Size", 3, 4, false, "", "", 32⟩, ⟨"Kids", 202, 5, false, "", "", 40⟩], 6, 64, [.int .i64 0, .int .i64 0, .int .u32 0, .int .i64 0, .int .i64 0, .nsl]⟩ := Eq.trans rfl rfl
@[go_sem] theorem okSl_246 : okSl Tt 246 = false := Eq.trans rfl rfl
@[go_sem] theorem okSt_246 : okSt Tt 246 = true := Eq.trans rfl rfl
@[go_sem] theorem Tt_247 : Tt 247 = ⟨.struct #[⟨"items", 59, 0, false, "", "seedcorn/stack", 0⟩], 1, 24, [.nsl]⟩ := Eq.trans rfl rfl
@[go_sem] theorem okSl_247 : okSl Tt 247 = false := Eq.trans rfl rfl
@[go_sem] theorem okSt_247 : okSt Tt 247 = true := Eq.trans rfl rfl
@[go_sem] theorem Tt_248 : Tt 248 = ⟨.struct #[⟨"items", 59, 0, false, "", "seedcorn/stack", 0⟩], 1, 24, [.nsl]⟩ := Eq.trans rfl rfl
@[go_sem] theorem okSl_248 : okSl Tt 248 = false := Eq.trans rfl rfl
@[go_sem] theorem okSt_248 : okSt Tt 248 = true := Eq.trans rfl rfl
@[go_sem] theorem Tt_252 : Tt 252 = ⟨.struct #[⟨"Op", 3, 0, false, "", "", 0⟩, ⟨"A", 3, 1, false, "", "", 8⟩, ⟨"B", 3, 2, false, "", "", 16⟩, ⟨"N", 31, 3, false, "", "", 24⟩], 4, 32, [.int .i64 0, .int .i64 0, .int .i64 0, .int .u32 0]⟩ := Eq.trans rfl rfl
@[go_sem] theorem okSl_252 : okSl Tt 252 = false := Eq.trans rfl rfl
@[go_sem] theorem okSt_252 : okSt Tt 252 = true := Eq.trans rfl rfl
@[go_sem] theorem Tt_253 : Tt 253 = ⟨.struct #[⟨"Op", 3, 0, false, "", "", 0⟩, ⟨"A", 3, 1, false, "", "", 8⟩, ⟨"B", 3, 2, false, "", "", 16⟩, ⟨"N", 31, 3, false, "", "", 24⟩], 4, 32, [.int .i64 0, .int .i64 0, .int .i64 0, .int .u32 0]⟩ := Eq.trans rfl rfl
@[go_sem] theorem okSl_253 : okSl Tt 253 = false := Eq.trans rfl rfl
@[go_sem] theorem okSt_253 : okSt Tt 253 = true := Eq.trans rfl rfl
@[go_sem] theorem Tt_257 : Tt 257 = ⟨.func #[166, 253] #[] false, 1, 8, [.nilf]⟩ := Eq.trans rfl rfl
@[go_sem] theorem okSl_257 : okSl Tt 257 = false := Eq.trans rfl rfl
@[go_sem] theorem Tt_259 : Tt 259 = ⟨.pointer 215, 1, 8, [.nilp]⟩ := Eq.trans rfl rfl
@[go_sem] theorem okSl_259 : okSl Tt 259 = false := Eq.trans rfl rfl
@[go_sem] theorem Tt_261 : Tt 261 = ⟨.pointer 205, 1, 8, [.nilp]⟩ := Eq.trans rfl rfl
@[go_sem] theorem okSl_261 : okSl Tt 261 = false := Eq.trans rfl rfl
@[go_sem] theorem Tt_264 : Tt 264 = ⟨.array 32 5, 32, 32, [.int .u8 0, .int .u8 0, .int .u8 0, .int .u8 0, .int .u8 0, .int .u8 0, .int .u8 0, .int .u8 0, .int .u8 0, .int .u8 0, .int .u8 0, .int .u8 0, .int .u8 0, .int .u8 0, .int .u8 0, .int .u8 0, .int .u8 0, .int .u8 0, .int .u8 0, .int .u8 0, .int .u8 0, .int .u8 0, .int .u8 0, .int .u8 0, .int .u8 0, .int .u8 0, .int .u8 0, .int .u8 0, .int .u8 0, .int .u8 0, .int .u8 0, .int .u8 0]⟩ := Eq.trans rfl rfl
@[go_sem] theorem okSl_264 : okSl Tt 264 = false := Eq.trans rfl rfl
@[go_sem] theorem okSt_264 : okSt Tt 264 = true := Eq.trans rfl rfl
@[go_sem] theorem Tt_268 : Tt 268 = ⟨.array 10 9, 10, 160, [.str [], .str [], .str [], .str [], .str [], .str [], .str [], .str [], .str [], .str []]⟩ := Eq.trans rfl rfl
@[go_sem] theorem okSl_268 : okSl Tt 268 = false := Eq.trans rfl rfl
@[go_sem] theorem okSt_268 : okSt Tt 268 = true := Eq.trans rfl rfl
@[go_sem] theorem Tt_272 : Tt 272 = ⟨.func #[144] #[] false, 1, 8, [.nilf]⟩ := Eq.trans rfl rfl
@[go_sem] theorem okSl_272 : okSl Tt 272 = false := Eq.trans rfl rfl
@[go_sem] theorem Tt_273 : Tt 273 = ⟨.func #[196] #[] false, 1, 8, [.nilf]⟩ := Eq.trans rfl rfl
@[go_sem] theorem okSl_273 : okSl Tt 273 = false := Eq.trans rfl rfl
@[go_sem] theorem Tt_274 : Tt 274 = ⟨.map 9 146, 1, 8, [.nilm]⟩ := Eq.trans rfl rfl
@[go_sem] theorem okSl_274 : okSl Tt 274 = false := Eq.trans rfl rfl
@[go_sem] theorem Tt_275 : Tt 275 = ⟨.func #[225] #[3] false, 1, 8, [.nilf]⟩ := Eq.trans rfl rfl
@[go_sem] theorem okSl_275 : okSl Tt 275 = false := Eq.trans rfl rfl
@[go_sem] theorem Tt_276 : Tt 276 = ⟨.array 10 275, 10, 80, [.nilf, .nilf, .nilf, .nilf, .nilf, .nilf, .nilf, .nilf, .nilf, .nilf]⟩ := Eq.trans rfl rfl
@[go_sem] theorem okSl_276 : okSl Tt 276 = false := Eq.trans rfl rfl
@[go_sem] theorem okSt_276 : okSt Tt 276 = true := Eq.trans rfl rfl
@[go_sem] theorem Tt_277 : Tt 277 = ⟨.struct #[⟨"funcs", 274, 0, false, "", "seedcorn/typing", 0⟩, ⟨"ask", 276, 1, false, "", "seedcorn/typing", 8⟩], 11, 88, [.nilm, .nilf, .nilf, .nilf, .nilf, .nilf, .nilf, .nilf, .nilf, .nilf, .nilf]⟩ := Eq.trans rfl rfl
@[go_sem] theorem okSl_277 : okSl Tt 277 = false := Eq.trans rfl rfl
@[go_sem] theorem okSt_277 : okSt Tt 277 = true := Eq.trans rfl rfl
@[go_sem] theorem Tt_278 : Tt 278 = ⟨.struct #[⟨"funcs", 274, 0, false, "", "seedcorn/typing", 0⟩, ⟨"ask", 276, 1, false, "", "seedcorn/typing", 8⟩], 11, 88, [.nilm, .nilf, .nilf, .nilf, .nilf, .nilf, .nilf, .nilf, .nilf, .nilf, .nilf]⟩ := Eq.trans rfl rfl
@[go_sem] theorem okSl_278 : okSl Tt 278 = false := Eq.trans rfl rfl
@[go_sem] theorem okSt_278 : okSt Tt 278 = true := Eq.trans rfl rfl
@[go_sem] theorem Tt_280 : Tt 280 = ⟨.pointer 248, 1, 8, [.nilp]⟩ := Eq.trans rfl rfl
@[go_sem] theorem okSl_280 : okSl Tt 280 = false := Eq.trans rfl rfl
@[go_sem] theorem Tt_282 : Tt 282 = ⟨.pointer 246, 1, 8, [.nilp]⟩ := Eq.trans rfl rfl
@[go_sem] theorem okSl_282 : okSl Tt 282 = false := Eq.trans rfl rfl
@[go_sem] theorem Tt_298 : Tt 298 = ⟨.int .u8, 1, 1, [.int .u8 0]⟩ := Eq.trans rfl rfl
@[go_sem] theorem okSl_298 : okSl Tt 298 = false := Eq.trans rfl rfl
end Go.Proofs.YtiaalcpkhlnpcabGreatDoor

/- The assembler, plain: a line's parts. -/
namespace Go.Asm

abbrev Str := List UInt8

/-! ### Blanks -/
def wht (c : UInt8) : Bool := c == 32 || c == 9
def trimL (s : Str) : Str := s.dropWhile wht
def trimR (s : Str) : Str := (s.reverse.dropWhile wht).reverse
def trimW (s : Str) : Str := trimL (trimR s)

theorem trimL_cons_w {c : UInt8} {s : Str} (h : wht c = true) : trimL (c :: s) = trimL s := by simp [trimL, h]
theorem trimL_cons {c : UInt8} {s : Str} (h : wht c = false) : trimL (c :: s) = c :: s := by simp [trimL, h]
theorem trimR_snoc_w {c : UInt8} {s : Str} (h : wht c = true) : trimR (s ++ [c]) = trimR s := by simp [trimR, h]
theorem trimR_snoc {c : UInt8} {s : Str} (h : wht c = false) : trimR (s ++ [c]) = s ++ [c] := by simp [trimR, h]
theorem trimL_nil : trimL [] = [] := rfl
theorem trimR_nil : trimR [] = [] := rfl

theorem trimL_app {s t : Str} : trimL (s ++ t) = if trimL s = [] then trimL t else trimL s ++ t := by
  induction s with
  | nil => simp [trimL]
  | cons c s ih =>
    cases hc : wht c
    · rw [List.cons_append, trimL_cons hc, trimL_cons hc]; simp
    · rw [List.cons_append, trimL_cons_w hc, trimL_cons_w hc, ih]
theorem trimL_white {s : Str} (h : s.all wht = true) : trimL s = [] := by
  induction s with
  | nil => rfl
  | cons c s ih =>
    simp only [List.all_cons, Bool.and_eq_true] at h
    rw [trimL_cons_w h.1, ih h.2]
theorem trimL_none {s : Str} : trimL s = [] ↔ s.all wht = true := by
  induction s with
  | nil => simp [trimL]
  | cons c s ih =>
    cases hc : wht c
    · rw [trimL_cons hc]; simp [hc]
    · rw [trimL_cons_w hc, ih]; simp [hc]
theorem trimL_head {s r : Str} {c : UInt8} (h : trimL s = c :: r) : wht c = false := by
  have := List.head?_dropWhile_not wht s
  unfold trimL at h
  rw [h] at this
  simpa using this
theorem trimL_idem (s : Str) : trimL (trimL s) = trimL s := by
  cases h : trimL s with
  | nil => rfl
  | cons c r => rw [trimL_cons (trimL_head h)]

theorem trimR_eq (s : Str) : (trimR s).reverse = trimL s.reverse := by simp [trimR, trimL]
theorem trimR_rev (s : Str) : trimR s.reverse = (trimL s).reverse := by simp [trimR, trimL]
theorem trimR_idem (s : Str) : trimR (trimR s) = trimR s := by
  have h := trimL_idem s.reverse
  rw [← trimR_eq, ← trimR_eq] at h
  exact List.reverse_inj.1 h
theorem trimR_app {s t : Str} : trimR (s ++ t) = if trimR t = [] then trimR s else s ++ trimR t := by
  apply List.reverse_inj.1
  rw [trimR_eq, List.reverse_append, trimL_app, ← trimR_eq, ← trimR_eq]
  by_cases h : trimR t = []
  · rw [if_pos h, if_pos (by rw [h]; rfl)]
  · rw [if_neg h, if_neg (by simpa using h)]; simp
theorem trimR_none {s : Str} : trimR s = [] ↔ s.all wht = true := by
  rw [← List.reverse_eq_nil_iff, trimR_eq, trimL_none, List.all_reverse]

/-- From both ends: in either order. -/
theorem trim_comm (s : Str) : trimL (trimR s) = trimR (trimL s) := by
  induction s with
  | nil => rfl
  | cons c s ih =>
    have e : c :: s = [c] ++ s := rfl
    cases hc : wht c
    · rw [trimL_cons hc, e, trimR_app]
      by_cases h : trimR s = []
      · rw [if_pos h, show trimR [c] = [c] from by simp [trimR, hc]]
        exact trimL_cons hc
      · rw [if_neg h]
        exact trimL_cons hc
    · rw [trimL_cons_w hc, ← ih]
      rw [e, trimR_app]
      by_cases h : trimR s = []
      · rw [if_pos h, h, show trimR [c] = [] from by simp [trimR, hc]]
      · rw [if_neg h]
        exact trimL_cons_w hc
theorem trimW_idem (s : Str) : trimW (trimW s) = trimW s := by
  unfold trimW
  rw [← trim_comm (trimR s), trimR_idem, trimL_idem]
theorem trimW_white_app {s t : Str} (h : s.all wht = true) : trimW (s ++ t) = trimW t := by
  unfold trimW
  rw [trim_comm, trim_comm, trimL_app, if_pos (trimL_none.2 h)]
theorem trimW_app_white {s t : Str} (h : t.all wht = true) : trimW (s ++ t) = trimW s := by
  unfold trimW
  rw [trimR_app, if_pos (trimR_none.2 h)]
theorem trimW_none {s : Str} : trimW s = [] ↔ s.all wht = true := by
  constructor
  · intro h
    unfold trimW at h
    have h1 := trimL_none.1 h
    have h2 : trimR s = trimR (trimR s) := (trimR_idem s).symm
    rw [trimR_none.2 h1] at h2
    exact trimR_none.1 h2
  · intro h
    unfold trimW
    rw [trimR_none.2 h]; rfl
theorem trimL_le (s : Str) : (trimL s).length ≤ s.length := (List.dropWhile_suffix _).length_le
theorem trimR_le (s : Str) : (trimR s).length ≤ s.length := by
  have := trimL_le s.reverse
  rw [← trimR_eq, List.length_reverse, List.length_reverse] at this; exact this
theorem trimW_le (s : Str) : (trimW s).length ≤ s.length := Nat.le_trans (trimL_le _) (trimR_le _)

/-! ### Bytes -/
def small (c : UInt8) : Bool := decide (97 ≤ c.toNat) && decide (c.toNat ≤ 122)
def letter (c : UInt8) : Bool := small c || (decide (65 ≤ c.toNat) && decide (c.toNat ≤ 90))
def digit (c : UInt8) : Bool := decide (48 ≤ c.toNat) && decide (c.toNat ≤ 57)
def nameC (c : UInt8) : Bool := letter c || digit c || c == 95

def isLabel (s : Str) : Bool := decide (s.length ≤ 20) && (match s with | [] => false | c :: _ => letter c) && s.all nameC
/-- Without a point ahead. -/
def bareWord (s : Str) : Str := if s.head? = some 46 then s.drop 1 else s
def isWord (s : Str) : Bool := decide (0 < (bareWord s).length) && (bareWord s).all small

/-! ### Cutting -/
/-- What stands ahead of the first byte c. -/
def upto (c : UInt8) (s : Str) : Str := s.takeWhile (· != c)
theorem upto_none {c : UInt8} : ∀ {s : Str}, c ∉ s → upto c s = s
  | [], _ => rfl
  | b :: s, h => by
    simp only [List.mem_cons, not_or] at h
    have : (b != c) = true := by simpa using fun e => h.1 e.symm
    unfold upto; rw [List.takeWhile_cons, if_pos this]
    rw [show s.takeWhile (· != c) = upto c s from rfl, upto_none h.2]
theorem upto_app {c : UInt8} : ∀ {s : Str} (t : Str), c ∉ s → upto c (s ++ c :: t) = s
  | [], t, _ => by simp [upto]
  | b :: s, t, h => by
    simp only [List.mem_cons, not_or] at h
    have : (b != c) = true := by simpa using fun e => h.1 e.symm
    unfold upto; rw [List.cons_append, List.takeWhile_cons, if_pos this]
    rw [show (s ++ c :: t).takeWhile (· != c) = upto c (s ++ c :: t) from rfl, upto_app t h.2]
theorem upto_free (c : UInt8) : ∀ s : Str, c ∉ upto c s
  | [] => by simp [upto]
  | b :: s => by
    unfold upto
    rw [List.takeWhile_cons]
    split
    · rename_i h
      simp only [List.mem_cons, not_or]
      exact ⟨fun e => by simp [e] at h, upto_free c s⟩
    · simp
theorem upto_split {c : UInt8} : ∀ {s : Str}, c ∈ s → ∃ t, s = upto c s ++ c :: t
  | [], h => by simp at h
  | b :: s, h => by
    by_cases hb : b = c
    · exact ⟨s, by simp [upto, hb]⟩
    · obtain ⟨t, ht⟩ := upto_split (c := c) (s := s) (by simpa [Ne.symm hb, eq_comm, hb] using h)
      have : (b != c) = true := by simpa using hb
      refine ⟨t, ?_⟩
      have e : upto c (b :: s) = b :: upto c s := by unfold upto; rw [List.takeWhile_cons, if_pos this]
      rw [e, List.cons_append, ← ht]

/-- A text, cut at the byte c. -/
def splitC (c : UInt8) : Str → List Str
  | [] => [[]]
  | b :: l => if b = c then [] :: splitC c l else
    match splitC c l with
    | [] => [[b]]
    | x :: xs => (b :: x) :: xs
theorem splitC_cons (c b : UInt8) (l : Str) : splitC c (b :: l) = if b = c then [] :: splitC c l else match splitC c l with | [] => [[b]] | x :: xs => (b :: x) :: xs := rfl
theorem splitC_ne (c : UInt8) (l : Str) : splitC c l ≠ [] := by
  cases l with
  | nil => simp [splitC]
  | cons b l => rw [splitC_cons]; split; simp; split <;> simp
theorem splitC_none {c : UInt8} : ∀ {s : Str}, c ∉ s → splitC c s = [s]
  | [], _ => rfl
  | b :: l, h => by
    simp only [List.mem_cons, not_or] at h
    rw [splitC_cons, if_neg (fun e => h.1 e.symm), splitC_none h.2]
theorem splitC_join {c : UInt8} : ∀ (a b : Str), splitC c (a ++ c :: b) = splitC c a ++ splitC c b
  | [], b => by rw [List.nil_append, splitC_cons]; simp [splitC]
  | d :: a, b => by
    rw [List.cons_append, splitC_cons, splitC_cons, splitC_join a b]
    by_cases hc : d = c
    · simp [hc]
    · simp only [hc, if_false]
      have := splitC_ne c a
      cases hs : splitC c a with
      | nil => exact absurd hs this
      | cons x xs => rfl
theorem splitC_free {c : UInt8} : ∀ (s : Str), ∀ x ∈ splitC c s, c ∉ x
  | [], x, h => by simp [splitC] at h; simp [h]
  | b :: l, x, h => by
    have ih := splitC_free (c := c) l
    rw [splitC_cons] at h
    split at h
    · rcases List.mem_cons.1 h with rfl | h
      · simp
      · exact ih x h
    · rename_i hb
      split at h
      · simp at h; subst h; simp; exact fun e => hb e.symm
      · rename_i y ys hy
        rcases List.mem_cons.1 h with rfl | h
        · simp only [List.mem_cons, not_or]
          exact ⟨fun e => hb e.symm, ih y (by rw [hy]; simp)⟩
        · exact ih x (by rw [hy]; simp [h])
theorem splitC_len {c : UInt8} : ∀ s : Str, (splitC c s).length ≤ s.length + 1
  | [] => by simp [splitC]
  | b :: l => by
    have ih := splitC_len (c := c) l
    rw [splitC_cons]
    split
    · simp only [List.length_cons]; omega
    · split
      · simp
      · rename_i h; rw [h] at ih; simp only [List.length_cons] at ih ⊢; omega
theorem splitC_text {c : UInt8} : ∀ s : Str, ∀ x ∈ splitC c s, x.length ≤ s.length
  | [], x, h => by simp [splitC] at h; simp [h]
  | b :: l, x, h => by
    have ih := splitC_text (c := c) l
    rw [splitC_cons] at h
    split at h
    · rcases List.mem_cons.1 h with rfl | h
      · simp
      · have := ih x h; simp only [List.length_cons]; omega
    · split at h
      · simp at h; simp [h]
      · rename_i y ys hy
        rcases List.mem_cons.1 h with rfl | h
        · have := ih y (by rw [hy]; simp); simp only [List.length_cons]; omega
        · have := ih x (by rw [hy]; simp [h]); simp only [List.length_cons]; omega

/-! ### A line -/
def argsOf (rest : Str) : Option (List Str) :=
  if rest = [] then some [] else if ((splitC 44 rest).map trimW).all (fun x => decide (x ≠ [])) = true then some ((splitC 44 rest).map trimW) else none
/-- A line's label (none: empty), and what stands behind it. -/
def labelOf (s : Str) : Option (Str × Str) :=
  if 58 ∈ s then (if isLabel (upto 58 s) = true then some (upto 58 s, trimW (s.drop ((upto 58 s).length + 1))) else none) else some ([], s)
def opOf (s : Str) : Str := s.takeWhile (fun c => !wht c)
/-- A line's label, its word, its operands; none: it is no line. -/
def lineA (s : Str) : Option (Str × Str × List Str) :=
  (labelOf (trimW (upto 35 s))).bind fun x =>
    if x.2 = [] then some (x.1, [], []) else
    if isWord (opOf x.2) = true then (argsOf (trimW (x.2.drop (opOf x.2).length))).map fun a => (x.1, opOf x.2, a) else none

end Go.Asm
