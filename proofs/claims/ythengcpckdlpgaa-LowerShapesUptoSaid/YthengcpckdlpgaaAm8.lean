/- All operations; regions; code. -/
import Derived.Test.YthengcpckdlpgaaAm7
import Derived.Scope
set_option linter.unusedSimpArgs false
set_option linter.unusedVariables false
namespace Go.Am

/-- All slots that a region's operations write lie in the frame. -/
def dstsOk (N : Nat) (l : List Oper) : Bool := l.all fun o => match o.dst with | some d => decide (d < N) | none => true

/-- All slots that a code writes lie in the frame. -/
def codeOk (N : Nat) : Code → Bool
  | .region _ ops _ => dstsOk N ops.toList
  | .seq x y => codeOk N x && codeOk N y
  | .cond _ x y => codeOk N x && codeOk N y
  | .block _ c => codeOk N c
  | .loop c => codeOk N c
  | .scope c => codeOk N c
  | _ => true

/-- What an abstract triple of an operation means. -/
def SemOp (P : Program) (o : Oper) (s : St) (R : St → Prop) : Prop := ∀ (b₀ : Bs) (N : Nat) (β : Loc) (a : Act) (w : World), Rel b₀ N s β a w → (∀ d, o.dst = some d → d < N) → ∀ (next : Act → World → Prop) (Q : Exit → Act → World → Prop),
  (∀ s' β' a' w', R s' → Rel b₀ N s' β' a' w' → Tr b₀ β s w β' s' w' → next a' w') → o.wp P a w next Q

/-- .. of a piece of code. -/
def SemCode (P : Program) (c : Code) (s : St) (R : Exit → St → Prop) : Prop := ∀ (b₀ : Bs) (N : Nat) (β : Loc) (a : Act) (w : World), codeOk N c = true → Rel b₀ N s β a w →
  c.wp P (fun e a' w' => ∃ s' β', R e s' ∧ Rel b₀ N s' β' a' w' ∧ Tr b₀ β s w β' s' w') a w

/-- One state may be told as another one. -/
def SemVs (s s₁ : St) : Prop := ∀ (b₀ : Bs) (N : Nat) (β : Loc) (a : Act) (w : World), Rel b₀ N s β a w → ∃ β', Rel b₀ N s₁ β' a w ∧ Tr b₀ β s w β' s₁ w

theorem SemVs.refl (s : St) : SemVs s s := fun _ _ β _ _ h => ⟨β, h, Tr.refl⟩

/-- New objects have numbers from B on. -/
def spB (P : Program) (B : Nat) : Sp := ⟨SemOp P, SemCode P, SemVs, B⟩
def sp (P : Program) : Sp := spB P 0
@[go_sem] theorem sp_base (P : Program) : (sp P).base = 0 := Eq.trans rfl rfl
@[go_sem] theorem spB_base (P : Program) (B : Nat) : (spB P B).base = B := Eq.trans rfl rfl

section
variable {P : Program} {T : Nat → TI} {b₀ : Bs} {β : Loc} {w : World} {B : Nat}

theorem wp_value {o : Oper} {a : Act} {next : Act → World → Prop} {Q : Exit → Act → World → Prop} {cv : Value} {w' : World} (hrun : (execOp a.eval o).run P w = .ok (.value cv) w') (hn : next (a.put o.dst cv) w') : o.wp P a w next Q := by
  unfold Oper.wp; rw [hrun]; exact hn

theorem wp_skip' {o : Oper} {a : Act} {next : Act → World → Prop} {Q : Exit → Act → World → Prop} {w' : World} (hrun : (execOp a.eval o).run P w = .ok .skip w') (hn : next (a.put o.dst undef) w') : o.wp P a w next Q := by
  unfold Oper.wp; rw [hrun]; exact hn

theorem undefRep {g : Nat → Nat} {ob : Obs} : RepV b₀ β g ob w uv undef := by
  simp only [RepV, RepVs]; exact ⟨[], rfl, rfl⟩

theorem getD_eval (a : Act) (c : Call) (i : Nat) : (c.args.map a.eval).getD i .nilFunc = a.eval (c.args.getD i (.const .nilFunc)) := by
  simp only [Array.getD_eq_getD_getElem?, Array.getElem?_map]
  cases c.args[i]? <;> rfl

theorem arr_one {α : Type} {xs : Array α} (h : xs.size = 1) (d : α) : xs = #[xs.getD 0 d] := by
  apply Array.ext
  · simp [h]
  · intro i h1 h2
    have : i = 0 := by omega
    subst this
    simp [Array.getD, h]

theorem arr_two {α : Type} {xs : Array α} (h : xs.size = 2) (d : α) : xs = #[xs.getD 0 d, xs.getD 1 d] := by
  apply Array.ext
  · simp [h]
  · intro i h1 h2
    have : i = 0 ∨ i = 1 := by omega
    rcases this with rfl | rfl <;> simp [Array.getD, h]

/-- A field's place. -/
theorem fieldOf_inv {d : TypeDesc} {f : Nat} {fl : Field} (h : fieldOf d f = some fl) : ∃ fs, d = .struct fs ∧ fs[f]? = some fl := by
  cases d <;> simp [fieldOf] at h
  exact ⟨_, rfl, by simpa using h⟩

theorem run_fieldPlace (hT : TabOk P T) {fl : Field} (h1 : okD (T fl.type).desc = true) (h2 : (T fl.type).size ≠ 0) (b o : Nat) : (fieldPlace ⟨b, o, none⟩ fl).run P w = .ok ⟨b, o + fl.offset, none⟩ w := by
  unfold fieldPlace
  rw [Sem.run_bind, run_sizeOf' (hT _ h1)]
  simp [h2, addr_add]

theorem fieldAddrA_sound (hT : TabOk P T) {s : St} {t f : Nat} {x : AV} {v : Value} {K : AV → Prop} {k : Box K} (h : fieldAddrA T t f s x k) (hv : RepV b₀ β s.gen s.obj w x v) :
    ∃ y cv, K y ∧ (∀ w', Ext w w' → (Instr.fieldAt t v f).run P w' = .ok cv w') ∧ RepV b₀ β s.gen s.obj w y cv := by
  unfold fieldAddrA at h
  split at h
  · rename_i id g off
    obtain ⟨hg, ho, h⟩ := h
    obtain ⟨fl, hfl, ⟨h1, h2⟩, hK⟩ := onSome_inv h
    obtain ⟨fs, hd, hf⟩ := fieldOf_inv hfl
    have hu := (hT t (by rw [hd]; rfl)).desc
    rw [hd] at hu
    simp only [RepV, RepC] at hv
    obtain ⟨ad, hβ, hsp, rfl⟩ := hv.2.2 hg ho
    refine ⟨_, .pointer (some ⟨ad.block, ad.off + off + fl.offset, none⟩), hK, fun w' _ => ?_, ?_⟩
    · simp [Instr.fieldAt, run_underlying hu, hf, Instr.sureAddr, run_fieldPlace hT h1 h2]
    · simp only [RepV, RepC]
      exact ⟨rfl, hv.2.1, fun _ _ => ⟨ad, hβ, hsp, by simp [Nat.add_assoc]⟩⟩
  · rename_i cs
    obtain ⟨fl, hfl, ⟨h1, h2⟩, hK⟩ := onSome_inv h
    obtain ⟨fs, hd, hf⟩ := fieldOf_inv hfl
    have hu := (hT t (by rw [hd]; rfl)).desc
    rw [hd] at hu
    simp only [RepV, RepC] at hv
    cases hv with
    | iptr vals hJ hcl hrd =>
      rename_i b off
      refine ⟨_, .pointer (some ⟨b, off + fl.offset, none⟩), hK, fun w' _ => ?_, ?_⟩
      · simp [Instr.fieldAt, run_underlying hu, hf, Instr.sureAddr, run_fieldPlace hT h1 h2]
      · simp only [RepV, RepC]
        refine .iptr (fun j => vals (fl.offset + j)) (fun hne => hJ (by rintro rfl; simp at hne)) (fun j x hx => ?_) (fun j x hx => hrd _ x (by rw [List.getElem?_drop] at hx; exact hx))
        rw [List.getElem?_drop] at hx
        rw [Nat.add_assoc]; exact hcl _ x hx
  · exact h.elim

theorem RepCs.part {g : Nat → Nat} {ob : Obs} {cs : List C} {vs : Array Value} (h : RepCs b₀ β g ob w cs vs) {o n : Nat} (hfit : o + n ≤ cs.length) : RepV b₀ β g ob w (.agg ((cs.drop o).take n)) (.agg (vs.extract o (o + n))) := by
  simp only [RepV]
  refine ⟨_, rfl, by simp [h.1]; omega, fun i c hc => ?_⟩
  rw [List.getElem?_take] at hc
  split at hc
  · rename_i hi
    rw [List.getElem?_drop] at hc
    obtain ⟨u, hu, hr⟩ := h.2 _ c hc
    refine ⟨u, ?_, hr⟩
    rw [Array.getElem?_extract]
    have : i < min (o + n) vs.size - o := by rw [h.1]; omega
    rw [if_pos this]; exact hu
  · cases hc

theorem fieldA_sound (hT : TabOk P T) {s : St} {t f : Nat} {x : AV} {v : Value} {K : AV → Prop} {k : Box K} (h : fieldA T t f x k) (hv : RepV b₀ β s.gen s.obj w x v) :
    ∃ y cv, K y ∧ (∀ w', Ext w w' → (Instr.field t v f).run P w' = .ok cv w') ∧ RepV b₀ β s.gen s.obj w y cv := by
  unfold fieldA at h
  split at h
  · rename_i cs
    obtain ⟨fl, hfl, h1, h⟩ := onSome_inv h
    obtain ⟨fs, hd, hf⟩ := fieldOf_inv hfl
    have hu := (hT t (by rw [hd]; rfl)).desc
    rw [hd] at hu
    have hty := hT _ h1
    simp only [RepV] at hv
    obtain ⟨vs, rfl, hvs⟩ := hv
    unfold readC at h
    split at h
    · rename_i hagg
      refine ⟨_, _, h.2, fun w' _ => ?_, RepCs.part hvs h.1⟩
      simp [Instr.field, run_underlying hu, hf, asAgg, part, run_isAgg hty, hagg, run_sizeOf' hty]
    · rename_i hagg
      obtain ⟨c, hc, hK⟩ := onSome_inv h
      obtain ⟨u, hu', hr⟩ := hvs.2 _ c hc
      refine ⟨_, u, hK, fun w' _ => ?_, by simpa only [RepV] using hr⟩
      simp [Instr.field, run_underlying hu, hf, asAgg, part, run_isAgg hty, hagg, hu']
  · exact h.elim

theorem nilCheckA_sound {s : St} {o : Oper} {ox : Operand} {a : Act} (ho : o.op = .nilCheck ox) {x : AV} {K : AV → Prop} {k : Box K} (h : nilCheckA s x k) (hv : RepV b₀ β s.gen s.obj w x (a.eval ox)) :
    ∃ y cv, K y ∧ (∀ w', Ext w w' → (execOp a.eval o).run P w' = .ok (.value cv) w') ∧ RepV b₀ β s.gen s.obj w y cv := by
  have hv0 := hv
  unfold nilCheckA at h
  split at h
  · obtain ⟨hg, hob, hK⟩ := h
    simp only [RepV, RepC] at hv
    obtain ⟨ad, hβ, hsp, he⟩ := hv.2.2 hg hob
    exact ⟨_, _, hK, fun w' _ => by simp [execOp, ho, he], hv0⟩
  · simp only [RepV, RepC] at hv
    generalize hg : a.eval ox = v at hv
    cases hv with
    | iptr vals hJ hcl hrd => exact ⟨_, .pointer (some ⟨_, _, none⟩), h, fun w' _ => by simp [execOp, ho, hg]; exact ⟨rfl, rfl⟩, by rw [hg] at hv0; exact hv0⟩
  · exact h.elim

theorem RepVs.get {g : Nat → Nat} {ob : Obs} : ∀ {ts : List AV} {vs : List Value} {i : Nat} {t : AV}, RepVs b₀ β g ob w ts vs → ts[i]? = some t → ∃ v, vs[i]? = some v ∧ RepV b₀ β g ob w t v
  | [], _, _, _, _, h => by simp at h
  | x :: ts, vs, i, t, h, hi => by
    simp only [RepVs] at h
    obtain ⟨u, us, rfl, h1, h2⟩ := h
    cases i with
    | zero => simp at hi; subst hi; exact ⟨u, rfl, h1⟩
    | succ i => simpa using RepVs.get h2 (by simpa using hi)

theorem opA_pure (hT : TabOk P T) {S : Sp} {N : Nat} {s : St} {a : Act} (hr : Rel b₀ N s β a w) {o : Oper} (hp : pureOp o.op = true) {K : St → Prop} {k : Box K} (h : opA S T o s k) :
    ∃ y cv, K (s.put o.dst y) ∧ (∀ w', Ext w w' → (execOp a.eval o).run P w' = .ok (.value cv) w') ∧ RepV b₀ β s.gen s.obj w y cv := by
  obtain ⟨dst, op, ty, ps, af, gd⟩ := o
  cases op with
  | move x => exact ⟨_, _, h, fun _ _ => rfl, hr.ev x⟩
  | assign x => exact ⟨_, _, h, fun _ _ => rfl, hr.ev x⟩
  | pick c x y =>
    obtain ⟨b, hb, hK⟩ := onBool_inv h (hr.ev c)
    refine ⟨_, if b then a.eval x else a.eval y, hK, fun w' _ => ?_, ?_⟩
    · simp [execOp, hb, asBool]
    · cases b
      · exact hr.ev y
      · exact hr.ev x
  | load t x =>
    obtain ⟨y, cv, h1, h2, h3⟩ := loadA_sound hT hr h (hr.ev x)
    exact ⟨y, cv, h1, fun w' hw' => by simp [execOp, h2 w' hw'], h3⟩
  | indexAddr t x ix =>
    obtain ⟨y, cv, h1, h2, h3⟩ := indexAddrA_sound hT h.1 h.2 (hr.ev x) (hr.ev ix)
    exact ⟨y, cv, h1, fun w' hw' => by simp [execOp, h2 w' hw'], h3⟩
  | index t x ix =>
    have hu := (hT t (by rw [isStr_of h.1]; rfl)).desc
    rw [isStr_of h.1] at hu
    obtain ⟨y, cv, h1, h2, h3⟩ := indexA_sound (s := s) hu h.2 (hr.ev x) (hr.ev ix)
    exact ⟨y, cv, h1, fun w' hw' => by simp [execOp, h2 w' hw'], h3⟩
  | binOp bo t x y u =>
    obtain ⟨z, cv, h1, h2, h3⟩ := binA_sound hT h (hr.ev x) (hr.ev y) x y
    refine ⟨z, cv, h1, fun w' hw' => ?_, h3⟩
    simp only [execOp]
    rw [Sem.run_bind, h2 w' hw']
    rfl
  | unOp uo t x =>
    have h : unA uo (s.ev x) (bx fun v => K (s.put dst v)) := h
    obtain ⟨z, cv, h1, h2, h3⟩ := unA_sound (P := P) h (hr.ev x)
    exact ⟨z, cv, h1, fun w' hw' => by simp [execOp, h2 w' hw'], h3⟩
  | convert t u x =>
    have h : convA s (elemTI T t).desc (T t).desc (T u).desc (s.ev x) (bx fun v => K (s.put dst v)) := h
    obtain ⟨z, cv, h1, h2, h3⟩ := convA_sound hT hr h (hr.ev x)
    exact ⟨z, cv, h1, fun w' hw' => by simp [execOp, h2 w' hw'], h3⟩
  | slice t x lo hi mx =>
    cases mx with
    | some _ => simp [pureOp] at hp
    | none =>
      have e1 : RepO b₀ β s.gen s.obj w (lo.map s.ev) (lo.map a.eval) := by cases lo; exact .none; exact .some (hr.ev _)
      have e2 : RepO b₀ β s.gen s.obj w (hi.map s.ev) (hi.map a.eval) := by cases hi; exact .none; exact .some (hr.ev _)
      have h : sliceA s (isStr (T t).desc) (okSl T t) (elemTI T t).size (s.ev x) (lo.map s.ev) (hi.map s.ev) (bx fun v => K (s.put dst v)) := h
      obtain ⟨z, cv, h1, h2, h3⟩ := sliceA_sound hT h (hr.ev x) e1 e2
      exact ⟨z, cv, h1, fun w' hw' => by simp [execOp, h2 w' hw'], h3⟩
  | fieldAddr t x f =>
    have h : fieldAddrA T t f s (s.ev x) (bx fun v => K (s.put dst v)) := h
    obtain ⟨z, cv, h1, h2, h3⟩ := fieldAddrA_sound hT h (hr.ev x)
    exact ⟨z, cv, h1, fun w' hw' => by simp [execOp, h2 w' hw'], h3⟩
  | field t x f =>
    have h : fieldA T t f (s.ev x) (bx fun v => K (s.put dst v)) := h
    obtain ⟨z, cv, h1, h2, h3⟩ := fieldA_sound hT h (hr.ev x)
    exact ⟨z, cv, h1, fun w' hw' => by simp [execOp, h2 w' hw'], h3⟩
  | lookup t x ix ok =>
    have h : lookupA T t s (s.ev x) (s.ev ix) ok (bx fun v => K (s.put dst v)) := h
    obtain ⟨z, cv, h1, h2, h3⟩ := lookupA_sound hT hr h (hr.ev x) (hr.ev ix)
    exact ⟨z, cv, h1, fun w' hw' => by simp [execOp, h2 w' hw'], h3⟩
  | makeFunc fn first caps =>
    cases fn with
    | func f =>
      have h : makeFuncA f first.size (caps.toList.map s.ev) (bx fun v => K (s.put dst v)) := h
      obtain ⟨z, cv, h1, h2, h3⟩ := makeFuncA_sound (P := P) hr h
      exact ⟨z, cv, h1, fun w' hw' => by simp [execOp, h2 w' hw'], h3⟩
    | _ => simp [pureOp] at hp
  | nilCheck x =>
    have h : nilCheckA s (s.ev x) (bx fun v => K (s.put dst v)) := h
    exact nilCheckA_sound rfl h (hr.ev x)
  | extract x i =>
    have h : extractA (s.ev x) i (bx fun v => K (s.put dst v)) := h
    have hx := hr.ev x
    unfold extractA at h
    split at h
    · rename_i ts he
      obtain ⟨t, ht, hK⟩ := onSome_inv h
      rw [he] at hx
      simp only [RepV] at hx
      obtain ⟨vs, hv, hvs⟩ := hx
      obtain ⟨v, hv1, hv2⟩ := hvs.get ht
      exact ⟨_, v, hK, fun w' _ => by simp [execOp, hv, Instr.extract, hv1], hv2⟩
    · exact h.elim
  | build t ps =>
    have h : buildA T t (ps.toList.map fun p => (p.1, s.ev p.2)) (bx fun v => K (s.put dst v)) := h
    obtain ⟨hst, h⟩ := h
    obtain ⟨fs, hd, hall⟩ : ∃ fs, (T t).desc = .struct fs ∧ ∀ f ∈ fs.toList, okD (T f.type).desc = true := by
      unfold okSt at hst
      split at hst
      · rename_i fs hq; exact ⟨fs, hq, List.all_eq_true.1 hst⟩
      · cases hst
    have hty := hT t (by rw [hd]; rfl)
    have hu := hty.desc
    rw [hd] at hu
    obtain ⟨inf, hi, hsz, hby, z, hz, hzc⟩ := hty.info
    have hc0 : CellsAre b₀ β s w ((T t).zero.map .d) z.cells.toList := by
      refine ⟨by rw [hzc]; simp, fun j c hc => ?_⟩
      rw [hzc]
      rw [List.getElem?_map] at hc ⊢
      cases hq : (T t).zero[j]? with
      | none => rw [hq] at hc; cases hc
      | some x =>
        rw [hq] at hc
        simp only [Option.map_some, Option.some.injEq] at hc
        subst hc
        refine ⟨_, rfl, ?_⟩
        simp only [RepC]
        exact RepD.of_plain (by have := hty.plain; rw [List.all_eq_true] at this; exact this x (List.mem_of_getElem? hq))
    obtain ⟨cells, carr, hK, hf, hc⟩ := fillA_sound hr ps.toList hc0 h
    refine ⟨_, .agg carr, hK, fun w' _ => ?_, by simp only [RepV]; exact ⟨_, rfl, by simpa using hc.1, fun i c hi => by simpa using hc.2 i c hi⟩⟩
    have hpl : ∀ l : List Field, (∀ f ∈ l, okD (T f.type).desc = true) → (l.mapM fun f => do pure (f.offset, ← sizeOf f.type) : Sem (List (Nat × Nat))).run P w' = .ok (l.map fun f => (f.offset, (T f.type).size)) w' := by
      intro l
      induction l with
      | nil => intro _; simp
      | cons f l ih =>
        intro h
        have hf := run_sizeOf' (P := P) (w := w') (hT _ (h f (by simp)))
        simp only [List.mapM_cons, Sem.run_bind, hf, Result.andThen_ok, Sem.run_pure, ih (fun f hf => h f (by simp [hf])), List.map_cons]
    have hfe : (fun i => ((fs.toList.map fun f => (f.offset, (T f.type).size)).toArray)[i]?) = placeOf T (T t).desc := by
      funext i
      rw [hd]
      simp only [placeOf, fieldOf, List.getElem?_toArray, List.getElem?_map, Array.getElem?_toList]
      cases hq : fs[i]? with
      | none => rfl
      | some fl =>
        have : okD (T fl.type).desc = true := hall fl (by have := Array.mem_of_getElem? hq; simpa using this)
        simp [this]
    have hps : (ps.map fun x => (x.1, a.eval x.2)) = (ps.toList.map fun p => (p.1, a.eval p.2)).toArray := Array.ext' (by simp)
    simp only [execOp, Sem.run_bind]
    rw [show (ps.map fun (i, x) => (i, a.eval x)) = (ps.toList.map fun p => (p.1, a.eval p.2)).toArray from hps]
    unfold Instr.build
    simp only [Sem.run_bind, zeroValue, typeInfo, run_program, Sem.run_pure, Result.andThen_ok, hi, hz, run_underlying hu]
    have hm := hpl fs.toList hall
    rw [← Array.toArray_toList (xs := fs), List.mapM_toArray, Sem.run_map, hm]
    simp only [Result.andThen_ok]
    rw [hfe, hf]
    simp
  | call c =>
    simp only [pureOp] at hp
    split at hp
    · rename_i hc
      obtain ⟨callee, args, tys⟩ := c
      simp only at hc
      subst hc
      have h : (args.size = 1 ∧ tys.size = 1) ∧ lenA s (isStr (T (tys.getD 0 0)).desc) (okSl T (tys.getD 0 0)) (s.ev (args.getD 0 (.const .nilFunc))) (bx fun v => K (s.put dst v)) := h
      obtain ⟨⟨ha, ht⟩, h⟩ := h
      obtain ⟨z, cv, h1, h2, h3⟩ := lenA_sound (ty := ty) hT h (hr.ev (args.getD 0 (.const .nilFunc)))
      refine ⟨z, cv, h1, fun w' hw' => ?_, h3⟩
      have h2 := h2 w' hw'
      rw [arr_one ha (.const .nilFunc), arr_one ht 0]
      generalize args.getD 0 (.const .nilFunc) = x0 at *
      generalize tys.getD 0 0 = t0 at *
      simp [execOp, resolve, invoke, builtin, h2]
    · rename_i hc
      obtain ⟨callee, args, tys⟩ := c
      simp only at hc
      subst hc
      have h : args.size = 2 ∧ mxA true (s.ev (args.getD 0 (.const .nilFunc))) (s.ev (args.getD 1 (.const .nilFunc))) (bx fun v => K (s.put dst v)) := h
      obtain ⟨ha, h⟩ := h
      rw [arr_two ha (.const .nilFunc)]
      generalize args.getD 0 (.const .nilFunc) = x0 at *
      generalize args.getD 1 (.const .nilFunc) = x1 at *
      have e0 := hr.ev x0
      have e1 := hr.ev x1
      unfold mxA at h
      split at h
      · rename_i k1 n1 k2 n2 he0 he1
        rw [he0] at e0; rw [he1] at e1
        simp only [RepV, RepC] at e0 e1
        have e0 := e0.inv_int
        have e1 := e1.inv_int
        refine ⟨_, .int k1 (max n1 n2), h, fun w' _ => ?_, by simp only [RepV, RepC]; exact .int _ _⟩
        simp [execOp, resolve, invoke, builtin, Builtin.max_, Builtin.max2, e0, e1]
        omega
      · exact h.elim
    · rename_i hc
      obtain ⟨callee, args, tys⟩ := c
      simp only at hc
      subst hc
      have h : args.size = 2 ∧ mxA false (s.ev (args.getD 0 (.const .nilFunc))) (s.ev (args.getD 1 (.const .nilFunc))) (bx fun v => K (s.put dst v)) := h
      obtain ⟨ha, h⟩ := h
      rw [arr_two ha (.const .nilFunc)]
      generalize args.getD 0 (.const .nilFunc) = x0 at *
      generalize args.getD 1 (.const .nilFunc) = x1 at *
      have e0 := hr.ev x0
      have e1 := hr.ev x1
      unfold mxA at h
      split at h
      · rename_i k1 n1 k2 n2 he0 he1
        rw [he0] at e0; rw [he1] at e1
        simp only [RepV, RepC] at e0 e1
        have e0 := e0.inv_int
        have e1 := e1.inv_int
        refine ⟨_, .int k1 (min n1 n2), h, fun w' _ => ?_, by simp only [RepV, RepC]; exact .int _ _⟩
        simp [execOp, resolve, invoke, builtin, Builtin.min_, Builtin.min2, e0, e1]
        omega
      · exact h.elim
    · cases hp
  | _ => simp [pureOp] at hp

theorem opA_sound (hT : TabOk P T) {N : Nat} {s : St} {a : Act} (hr : Rel b₀ N s β a w) {o : Oper} (hd : ∀ d, o.dst = some d → d < N) {K : St → Prop} {k : Box K} (h : opA (spB P B) T o s k)
    {next : Act → World → Prop} {Q : Exit → Act → World → Prop} (hn : ∀ s' β' a' w', K s' → Rel b₀ N s' β' a' w' → Tr b₀ β s w β' s' w' → next a' w') : o.wp P a w next Q := by
  by_cases hp : pureOp o.op = true
  · obtain ⟨y, cv, h1, h2, h3⟩ := opA_pure hT hr hp h
    exact wp_value (h2 w .refl) (hn _ _ _ _ h1 (hr.put hd h3) (Tr.same (St.put_gen _ _ _) (St.put_obj _ _ _) rfl))
  · have hhook : hookA (spB P B) o s k → o.wp P a w next Q := fun ⟨R, hR, hK⟩ => hR b₀ N β a w hr hd next Q (fun s' β' a' w' hs => hn s' β' a' w' (hK s' hs))
    obtain ⟨dst, op, ty, ps, af, gd⟩ := o
    cases op with
    | store t x y =>
      have h : storeA (T t) s (s.ev x) (s.ev y) (bx fun s' => K (s'.put dst uv)) := h
      obtain ⟨s', w', h1, h2, h3, h4⟩ := storeA_sound hT hr h (hr.ev x) (hr.ev y)
      refine wp_skip' (w' := w') (by simp [execOp, h2]) (hn _ _ _ _ h1 (h3.put hd undefRep) (h4.trans (Tr.same (St.put_gen _ _ _) (St.put_obj _ _ _) rfl)))
    | buildSlice t n p =>
      cases dst with
      | none => exact hhook h
      | some d =>
        have h : okSl T t = true ∧ buildSliceA (elemTI T t).size (B + d) d n s (p.toList.map fun p => (p.1, s.ev p.2)) k := h
        obtain ⟨s', β', w', cv, h1, h2, h3, h4⟩ := buildSliceA_sound hT hr h.1 (hd d rfl) h.2
        refine wp_value ?_ (hn _ _ _ _ h1 h3 h4)
        have : (p.map fun x => (x.1, a.eval x.2)) = (p.toList.map fun p => (p.1, a.eval p.2)).toArray := Array.ext' (by simp)
        simp only [execOp, Sem.run_bind]
        rw [show (p.map fun (i, x) => (i, a.eval x)) = (p.toList.map fun p => (p.1, a.eval p.2)).toArray from this, h2]
        rfl
    | box t x =>
      cases dst with
      | none => exact hhook h
      | some d =>
        have h : boxA (B + d) d s (s.ev x) k := h
        obtain ⟨cs, hcs, hK⟩ := onSome_inv h
        obtain ⟨vs, e1, e2, e3, e4⟩ := RepV.cells hcs (hr.ev x)
        obtain ⟨r1, r2⟩ := newPtr hr (B + d) d (hd d rfl) (el := t) (cs := cs) (arr := vs.toArray) ⟨by simpa using e2, fun j c hc => by simpa using e3 j c hc⟩
        exact wp_value (by simp [execOp, Instr.box, newVar, newRow, e1]) (hn _ _ _ _ hK r1 r2)
    | alloc t =>
      cases dst with
      | none => exact hhook h
      | some d =>
        have h : allocA (T t) (B + d) d s k := h
        obtain ⟨hok, hK⟩ := h
        have hty := hT t hok
        obtain ⟨inf, hi, hsz, hby, z, hz, hzc⟩ := hty.info
        have hc0 : CellsAre b₀ β s w ((T t).zero.map .d) z.cells.toList := by
          refine ⟨by rw [hzc]; simp, fun j c hc => ?_⟩
          rw [hzc]
          rw [List.getElem?_map] at hc ⊢
          cases hq : (T t).zero[j]? with
          | none => rw [hq] at hc; cases hc
          | some x =>
            rw [hq] at hc
            simp only [Option.map_some, Option.some.injEq] at hc
            subst hc
            refine ⟨_, rfl, ?_⟩
            simp only [RepC]
            exact RepD.of_plain (by have := hty.plain; rw [List.all_eq_true] at this; exact this x (List.mem_of_getElem? hq))
        obtain ⟨r1, r2⟩ := newPtr hr (B + d) d (hd d rfl) (el := t) hc0
        exact wp_value (by simp [execOp, Instr.alloc, newVar, newRow, zeroValue, typeInfo, hi, hz]) (hn _ _ _ _ hK r1 r2)
    | makeSlice t l c =>
      cases dst with
      | none => exact hhook h
      | some d =>
        have h : okSl T t = true ∧ makeSliceA (elemTI T t) (B + d) d s (s.ev l) (s.ev c) k := h
        obtain ⟨s', β', w', cv, h1, h2, h3, h4⟩ := makeSliceA_sound hT hr h.1 (hd d rfl) h.2 (hr.ev l) (hr.ev c)
        exact wp_value (by simp [execOp, h2]) (hn _ _ _ _ h1 h3 h4)
    | call c =>
      obtain ⟨callee, args, tys⟩ := c
      cases callee with
      | value f => exact hhook h
      | invoke r m => exact hhook h
      | builtin b =>
        cases b
        case append =>
          cases dst with
          | none => exact hhook h
          | some d =>
            have h : (args.size = 2 ∧ tys.size = 2) ∧ okSl T (tys.getD 0 0) = true ∧ appendA (elemTI T (tys.getD 0 0)) (isStr (T (tys.getD 1 0)).desc) (okSl T (tys.getD 1 0)) (B + d) d s (s.ev (args.getD 0 (.const .nilFunc))) (s.ev (args.getD 1 (.const .nilFunc))) k := h
            obtain ⟨⟨ha, ht⟩, hsl, h⟩ := h
            obtain ⟨s', β', w', cv, h1, h2, h3, h4⟩ := appendA_sound hT hr hsl (hd d rfl) h (hr.ev _) (hr.ev _) ty
            refine wp_value ?_ (hn _ _ _ _ h1 h3 h4)
            rw [arr_two ha (.const .nilFunc), arr_two ht 0]
            generalize args.getD 0 (.const .nilFunc) = x0 at *
            generalize tys.getD 0 0 = t0 at *
            generalize args.getD 1 (.const .nilFunc) = x1 at *
            generalize tys.getD 1 0 = t1 at *
            simp [execOp, resolve, invoke, builtin, h2]
        case len => exact absurd rfl hp
        case max => exact absurd rfl hp
        case min => exact absurd rfl hp
        all_goals exact hhook h
    | slice t x lo hi mx =>
      cases mx with
      | none => exact absurd rfl hp
      | some m => exact hhook h
    | lookup => exact absurd rfl hp
    | makeFunc fn first caps =>
      cases fn with
      | func f => exact absurd rfl hp
      | _ => exact hhook h
    | makeMap t res =>
      cases res with
      | some _ => exact hhook h
      | none =>
        cases dst with
        | none => exact hhook h
        | some d =>
          have h : makeMapA T t (B + d) d s k := h
          obtain ⟨s', β', w', cv, h1, h2, h3, h4⟩ := makeMapA_sound (P := P) hr (hd d rfl) h
          exact wp_value (by simp [execOp, h2]) (hn _ _ _ _ h1 h3 h4)
    | mapUpdate t m ix x =>
      have h : mapUpdateA T t s (s.ev m) (s.ev ix) (s.ev x) (bx fun s' => K (s'.put dst uv)) := h
      obtain ⟨s', w', h1, h2, h3, h4⟩ := mapUpdateA_sound hT hr h (hr.ev m) (hr.ev ix) (hr.ev x)
      exact wp_skip' (w' := w') (by simp [execOp, h2]) (hn _ _ _ _ h1 (h3.put hd undefRep) (h4.trans (Tr.same (St.put_gen _ _ _) (St.put_obj _ _ _) rfl)))
    | move => exact absurd rfl hp
    | assign => exact absurd rfl hp
    | pick => exact absurd rfl hp
    | load => exact absurd rfl hp
    | indexAddr => exact absurd rfl hp
    | index => exact absurd rfl hp
    | binOp => exact absurd rfl hp
    | unOp => exact absurd rfl hp
    | convert => exact absurd rfl hp
    | fieldAddr => exact absurd rfl hp
    | field => exact absurd rfl hp
    | build => exact absurd rfl hp
    | nilCheck => exact absurd rfl hp
    | extract => exact absurd rfl hp
    | _ => exact hhook h

theorem dstsOk_cons {N : Nat} {o : Oper} {l : List Oper} (h : dstsOk N (o :: l) = true) : (∀ d, o.dst = some d → d < N) ∧ dstsOk N l = true := by
  simp only [dstsOk, List.all_cons, Bool.and_eq_true] at h ⊢
  refine ⟨fun d hd => ?_, h.2⟩
  have := h.1
  rw [hd] at this
  simpa using this

theorem RepV.inv_bool {g : Nat → Nat} {ob : Obs} {b : Bool} {v : Value} (h : RepV b₀ β g ob w (bv b) v) : v = .bool b := by
  simp only [RepV, RepC] at h; exact h.inv_bool

theorem RepV.inv_uv {g : Nat → Nat} {ob : Obs} {v : Value} (h : RepV b₀ β g ob w uv v) : v = undef := by
  simp only [RepV, RepVs] at h
  obtain ⟨vs, rfl, rfl⟩ := h
  rfl

/-- A slot's value is what it is. -/
theorem Rel.reput {N : Nat} {s : St} {a : Act} (hr : Rel b₀ N s β a w) {d : Nat} {x : AV} (hx : s.f d = x) : Rel b₀ N { s with f := upd s.f d x } β a w := by
  have : upd s.f d x = s.f := by funext j; simp only [upd]; split <;> simp_all
  rw [this]; exact hr

theorem Rel.yielded {N : Nat} {s : St} {a : Act} (hr : Rel b₀ N s β a w) {ops : Array Oper} {j d : Nat} (hj : (ops[j]?).bind (·.dst) = some d) {b : Bool} (hx : s.f d = bv b) : Go.yielded ops a.tmps j = some b := by
  have hv := hr.f d
  rw [hx] at hv
  have hv := hv.inv_bool
  unfold Go.yielded
  rw [hj]
  simp only [Option.bind_some]
  rw [Array.getD_eq_getD_getElem?] at hv
  cases h : a.tmps[d]? with
  | none => rw [h] at hv; simp [undef] at hv
  | some v => rw [h] at hv; simp at hv; rw [hv]

theorem Rel.yielded_u {N : Nat} {s : St} {a : Act} (hr : Rel b₀ N s β a w) {ops : Array Oper} {j d : Nat} (hj : (ops[j]?).bind (·.dst) = some d) (hx : s.f d = uv) : Go.yielded ops a.tmps j = none := by
  have hv := hr.f d
  rw [hx] at hv
  have hv := hv.inv_uv
  unfold Go.yielded
  rw [hj]
  simp only [Option.bind_some]
  rw [Array.getD_eq_getD_getElem?] at hv
  cases h : a.tmps[d]? with
  | none => rfl
  | some v => rw [h] at hv; simp at hv; rw [hv]; rfl

theorem wpO_sound (hT : TabOk P T) {N : Nat} {ops : Array Oper} {Q : Exit → Act → World → Prop} {K : St → Prop} {k : Box K} : ∀ (l : List Oper) {s : St} {β : Loc} {a : Act} {w : World}, Rel b₀ N s β a w → dstsOk N l = true → wpO (spB P B) T ops l s k →
    (∀ s' β' a' w', K s' → Rel b₀ N s' β' a' w' → Tr b₀ β s w β' s' w' → Q .normal a' w') → wpList P ops Q l a w
  | [], s, β, a, w, hr, _, h, hQ => hQ s β a w h hr Tr.refl
  | o :: rest, s, β, a, w, hr, hds, h, hQ => by
    obtain ⟨hd, hds'⟩ := dstsOk_cons hds
    unfold wpO at h
    unfold wpList
    cases hg : o.guard with
    | none =>
      rw [hg] at h
      simp only at h
      rw [if_pos (by simp [Region.wanted, hg])]
      exact .inl (opA_sound hT hr hd h (fun s' β' a' w' h1 h2 h3 => wpO_sound hT rest h2 hds' h1 (fun s2 β2 a2 w2 k1 k2 k3 => hQ _ _ _ _ k1 k2 (h3.trans k3))))
    | some p =>
      obtain ⟨j, want⟩ := p
      rw [hg] at h
      simp only at h
      obtain ⟨d, hj, h⟩ := onSome_inv h
      unfold guardA at h
      split at h
      · rename_i b hb
        have hy := hr.yielded hj hb
        have h := BSplit_inv h
        have hr' := hr.reput hb
        by_cases hw : b = want
        · rw [if_pos hw] at h
          rw [if_pos (by simp [Region.wanted, hg, hy, hw])]
          exact .inl (opA_sound hT hr' hd h (fun s' β' a' w' h1 h2 h3 => wpO_sound hT rest h2 hds' h1 (fun s2 β2 a2 w2 k1 k2 k3 => hQ _ _ _ _ k1 k2 (Tr.trans ⟨h3.size, h3.old, h3.keep, h3.os⟩ k3))))
        · rw [if_neg hw] at h
          rw [if_neg (by simp [Region.wanted, hg, hy, hw])]
          have hp := hr'.put hd (x := uv) (v := undef) undefRep
          exact wpO_sound hT rest hp hds' h (fun s2 β2 a2 w2 k1 k2 k3 => hQ _ _ _ _ k1 k2 (Tr.trans (Tr.same (by rw [St.put_gen]) (by rw [St.put_obj]) rfl) k3))
      · rename_i hb
        have hy := hr.yielded_u hj hb
        rw [if_neg (by simp [Region.wanted, hg, hy])]
        have hp := hr.put hd (x := uv) (v := undef) undefRep
        exact wpO_sound hT rest hp hds' h (fun s2 β2 a2 w2 k1 k2 k3 => hQ _ _ _ _ k1 k2 (Tr.trans (Tr.same (by rw [St.put_gen]) (by rw [St.put_obj]) rfl) k3))
      · exact h.elim

/-- Quiet operations, one by one, whatever order is drawn. -/
theorem wpStill_sound (hT : TabOk P T) {N : Nat} {ops : Array Oper} {Q : Act → Prop} {K : St → Prop} {k : Box K} (more : List Oper) : ∀ (l : List Oper) {s : St} {a : Act}, Rel b₀ N s β a w → dstsOk N l = true → l.all (pureOp ·.op) = true → wpO (spB P B) T ops (l ++ more) s k →
    (∀ s' a', wpO (spB P B) T ops more s' k → Rel b₀ N s' β a' w → Tr b₀ β s w β s' w → Q a') → wpStill P ops w Q l a
  | [], s, a, hr, _, _, h, hQ => hQ s a h hr Tr.refl
  | o :: rest, s, a, hr, hds, hp, h, hQ => by
    obtain ⟨hd, hds'⟩ := dstsOk_cons hds
    simp only [List.all_cons, Bool.and_eq_true] at hp
    rw [List.cons_append] at h
    unfold wpO at h
    unfold wpStill
    have hop : ∀ {s0 : St}, Rel b₀ N s0 β a w → Tr b₀ β s w β s0 w → opA (spB P B) T o s0 (bx fun s' => wpO (spB P B) T ops (rest ++ more) s' k) → o.still P a w (wpStill P ops w Q rest) := fun {s0} hr0 ht0 h0 => by
      obtain ⟨y, cv, h1, h2, h3⟩ := opA_pure hT hr0 hp.1 h0
      unfold Oper.still
      rw [h2 w .refl]
      refine ⟨rfl, wpStill_sound hT more rest (hr0.put hd h3) hds' hp.2 h1 (fun s' a' k1 k2 k3 => hQ s' a' k1 k2 (ht0.trans (Tr.trans (Tr.same (St.put_gen _ _ _) (St.put_obj _ _ _) rfl) k3)))⟩
    cases hg : o.guard with
    | none =>
      rw [hg] at h
      simp only at h
      rw [if_pos (by simp [Region.wanted, hg])]
      exact hop hr Tr.refl h
    | some p =>
      obtain ⟨j, want⟩ := p
      rw [hg] at h
      simp only at h
      obtain ⟨d, hj, h⟩ := onSome_inv h
      unfold guardA at h
      split at h
      · rename_i b hb
        have hy := hr.yielded hj hb
        have h := BSplit_inv h
        have hr' := hr.reput hb
        by_cases hw : b = want
        · rw [if_pos hw] at h
          rw [if_pos (by simp [Region.wanted, hg, hy, hw])]
          exact hop hr' (Tr.same rfl rfl rfl) h
        · rw [if_neg hw] at h
          rw [if_neg (by simp [Region.wanted, hg, hy, hw])]
          have hp' := hr'.put hd (x := uv) (v := undef) undefRep
          exact wpStill_sound hT more rest hp' hds' hp.2 h (fun s2 a2 k1 k2 k3 => hQ _ _ k1 k2 (Tr.trans (Tr.same (by rw [St.put_gen]) (by rw [St.put_obj]) rfl) k3))
      · rename_i hb
        have hy := hr.yielded_u hj hb
        rw [if_neg (by simp [Region.wanted, hg, hy])]
        have hp' := hr.put hd (x := uv) (v := undef) undefRep
        exact wpStill_sound hT more rest hp' hds' hp.2 h (fun s2 a2 k1 k2 k3 => hQ _ _ k1 k2 (Tr.trans (Tr.same (by rw [St.put_gen]) (by rw [St.put_obj]) rfl) k3))
      · exact h.elim

theorem dstsOk_take {N : Nat} {l : List Oper} (h : dstsOk N l = true) (n : Nat) : dstsOk N (l.take n) = true ∧ dstsOk N (l.drop n) = true := by
  unfold dstsOk at *
  rw [List.all_eq_true] at h
  exact ⟨List.all_eq_true.2 fun x hx => h x (List.mem_of_mem_take hx), List.all_eq_true.2 fun x hx => h x (List.mem_of_mem_drop hx)⟩

/-- The end of a drawn region, which is carried out in its text's order. -/
theorem wpList_tail (hT : TabOk P T) {N : Nat} {ops : Array Oper} {Q : Exit → Act → World → Prop} {K : St → Prop} {k : Box K} {l : List Oper} {s : St} {a : Act} (hr : Rel b₀ N s β a w) (hd : dstsOk N l = true) (h : wpO (spB P B) T ops l s k)
    (hQ : ∀ s' β' a' w', K s' → Rel b₀ N s' β' a' w' → Tr b₀ β s w β' s' w' → Q .normal a' w') : wpList P ops Q l a w := wpO_sound hT l hr hd h hQ

theorem region_draw_sound (hT : TabOk P T) (hm : P.follows .mixedOrders = true) {N id : Nat} {ops : Array Oper} {K : St → Prop} {k : Box K} {s : St} {a : Act} (hr : Rel b₀ N s β a w) (hd : dstsOk N ops.toList = true) (hok : drawOk ops = true)
    (h : wpO (spB P B) T ops ops.toList s k) {Q : Exit → Act → World → Prop} (hQ : ∀ s' β' a' w', K s' → Rel b₀ N s' β' a' w' → Tr b₀ β s w β' s' w' → Q .normal a' w') : (Code.region id ops true).wp P Q a w := by
  have hr1 : Rel b₀ N s β a { w with drawn := w.drawn + 1 } := hr.of_heap rfl
  have ht1 : Tr b₀ β s w β s { w with drawn := w.drawn + 1 } := Tr.same rfl rfl rfl
  simp only [drawOk, Bool.or_eq_true, Bool.and_eq_true, List.any_eq_true] at hok
  rcases hok with ⟨hp, hB⟩ | ⟨n, _, hp, hB⟩
  · refine wp_region_still hm hB (wpStill_sound hT [] ops.toList hr1 hd hp (by rw [List.append_nil]; exact h) (fun s' a' k1 k2 k3 => hQ _ _ _ _ k1 k2 (ht1.trans k3)))
  · have hl := wp_region_still_tail (P := P) (id := id) (Q := Q) (a := a) (w := w) (l := ops.toList) (ops.size - n) hm (by simpa using hB) ?_
    · simpa using hl
    · obtain ⟨d1, d2⟩ := dstsOk_take hd (ops.size - n)
      refine wpStill_sound hT (ops.toList.drop (ops.size - n)) (ops.toList.take (ops.size - n)) hr1 d1 hp (by rw [List.take_append_drop]; simpa using h) (fun s' a' k1 k2 k3 => ?_)
      exact wpList_tail hT k2 d2 k1 (fun s2 β2 a2 w2 j1 j2 j3 => hQ _ _ _ _ j1 j2 (ht1.trans (k3.trans j3)))

/-- What the machine's code comes to, where the abstract code comes to Q. -/
def Post (b₀ : Bs) (N : Nat) (β : Loc) (s : St) (w : World) (Q : Exit → St → Prop) (e : Exit) (a' : Act) (w' : World) : Prop := ∃ s' β', Q e s' ∧ Rel b₀ N s' β' a' w' ∧ Tr b₀ β s w β' s' w'

theorem Post.of {N : Nat} {s s1 : St} {β1 : Loc} {w1 : World} {Q Q' : Exit → St → Prop} {e : Exit} {a' : Act} {w' : World} (ht : Tr b₀ β s w β1 s1 w1) (h : Post b₀ N β1 s1 w1 Q e a' w') (hq : ∀ s', Q e s' → Q' e s') : Post b₀ N β s w Q' e a' w' :=
  let ⟨s', β', h1, h2, h3⟩ := h
  ⟨s', β', hq _ h1, h2, ht.trans h3⟩

theorem wpC_sound (hT : TabOk P T) (hm : P.follows .mixedOrders = true) {N : Nat} : ∀ (c : Code) {Q : Exit → St → Prop} {q : Box Q} {s : St} {β : Loc} {a : Act} {w : World}, codeOk N c = true → Rel b₀ N s β a w → wpC (spB P B) T c q s → c.wp P (Post b₀ N β s w Q) a w
  | .skip, _, _, s, β, _, _, _, hr, h => wp_skip ⟨s, β, h, hr, Tr.refl⟩
  | .label _, _, _, s, β, _, _, _, hr, h => wp_label ⟨s, β, h, hr, Tr.refl⟩
  | .exit _, _, _, s, β, _, _, _, hr, h => wp_exit ⟨s, β, h, hr, Tr.refl⟩
  | .goto _, _, _, s, β, _, _, _, hr, h => wp_goto ⟨s, β, h, hr, Tr.refl⟩
  | .ret, _, _, s, β, _, _, _, hr, h => wp_ret ⟨s, β, h, hr, Tr.refl⟩
  | .region id ops b, Q, q, s, β, a, w, hc, hr, h => by
    cases b with
    | false =>
      have h : wpO (spB P B) T ops ops.toList s (bx fun s' => Q .normal s') := h
      refine wp_region ?_
      have := wpOps_eq_wpList (P := P) (ops := ops) (Q := Post b₀ N β s w Q) ops.toList 0 (by simp)
      rw [← List.range_eq_range', Array.length_toList] at this
      rw [this]
      exact wpO_sound hT ops.toList hr hc h (fun s' β' a' w' h1 h2 h3 => ⟨s', β', h1, h2, h3⟩)
    | true =>
      rcases h with ⟨hok, h⟩ | ⟨R, hR, hK⟩
      · exact region_draw_sound hT hm hr hc hok h (fun s' β' a' w' h1 h2 h3 => ⟨s', β', h1, h2, h3⟩)
      · exact wp_mono (hR b₀ N β a w hc hr) (fun e a' w' ⟨s', β', h1, h2, h3⟩ => ⟨s', β', hK _ _ h1, h2, h3⟩)
  | .seq x y, Q, q, s, β, a, w, hc, hr, h => by
    simp only [codeOk, Bool.and_eq_true] at hc
    have h : wpC (spB P B) T x (bx (thenA (bx fun s' => wpC (spB P B) T y q s') q)) s := h
    refine wp_seq (wp_mono (wpC_sound hT hm x hc.1 hr h) (fun e a' w' hp => ?_))
    obtain ⟨s', β', h1, h2, h3⟩ := hp
    cases e with
    | normal => exact wp_mono (wpC_sound hT hm y hc.2 h2 h1) (fun e a2 w2 hp => Post.of h3 hp (fun _ h => h))
    | _ => exact ⟨s', β', h1, h2, h3⟩
  | .cond c x y, Q, q, s, β, a, w, hc, hr, h => by
    simp only [codeOk, Bool.and_eq_true] at hc
    obtain ⟨b, hb, h⟩ := onBool_inv h (hr.ev c)
    refine wp_cond hb ?_
    cases b
    · exact wpC_sound hT hm y hc.2 hr h
    · exact wpC_sound hT hm x hc.1 hr h
  | .block id c, Q, q, s, β, a, w, hc, hr, h => by
    have h : wpC (spB P B) T c (bx (inBlockA id q)) s := h
    refine wp_block (wp_mono (wpC_sound hT hm c hc hr h) (fun e a' w' hp => ?_))
    obtain ⟨s', β', h1, h2, h3⟩ := hp
    cases e with
    | exit i =>
      simp only [Exit.inBlock, inBlockA] at h1 ⊢
      split at h1
      · rename_i he; rw [if_pos he]; exact ⟨s', β', h1, h2, h3⟩
      · rename_i he; rw [if_neg he]; exact ⟨s', β', h1, h2, h3⟩
    | _ => exact ⟨s', β', h1, h2, h3⟩
  | .scope c, Q, q, s, β, a, w, hc, hr, h => by
    have h : wpC (spB P B) T c (bx (noGotoA q)) s := h
    refine wp_scope_straight (wp_mono (wpC_sound hT hm c hc hr h) (fun e a' w' hp => ?_))
    obtain ⟨s', β', h1, h2, h3⟩ := hp
    cases e with
    | goto l => exact h1.elim
    | _ => exact ⟨s', β', h1, h2, h3⟩
  | .loop c, Q, q, s, β, a, w, hc, hr, h => by
    obtain ⟨I, ⟨n, s₁, hvs, h0⟩, hround⟩ := h
    obtain ⟨β₁, hr1, ht1⟩ := hvs b₀ N β a w hr
    refine wp_loop_ghost (fun n a' w' => ∃ s' β', I n s' ∧ Rel b₀ N s' β' a' w' ∧ Tr b₀ β s w β' s' w') n ⟨s₁, β₁, h0, hr1, ht1⟩ ?_
    rintro n a' w' ⟨s', β', h1, h2, h3⟩
    refine wp_mono (wpC_sound hT hm c hc h2 (hround n s' h1)) (fun e a2 w2 hp => ?_)
    obtain ⟨s2, β2, k1, k2, k3⟩ := hp
    cases e with
    | normal =>
      obtain ⟨n', s3, hlt, hvs', hI⟩ := k1
      obtain ⟨β3, hr3, ht3⟩ := hvs' b₀ N β2 a2 w2 k2
      exact ⟨n', hlt, s3, β3, hI, hr3, h3.trans (k3.trans ht3)⟩
    | _ => exact ⟨s2, β2, k1, k2, h3.trans k3⟩
  | .rangeFunc f ps x y, Q, q, s, β, a, w, hc, hr, h => by
    obtain ⟨R, hR, hK⟩ := h
    exact wp_mono (hR b₀ N β a w hc hr) (fun e a' w' ⟨s', β', h1, h2, h3⟩ => ⟨s', β', hK _ _ h1, h2, h3⟩)
  | .refuse y, Q, q, s, β, a, w, hc, hr, h => by
    obtain ⟨R, hR, hK⟩ := h
    exact wp_mono (hR b₀ N β a w hc hr) (fun e a' w' ⟨s', β', h1, h2, h3⟩ => ⟨s', β', hK _ _ h1, h2, h3⟩)

end
end Go.Am
