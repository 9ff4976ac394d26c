/- A part of the proof; no conditions. -/
import Derived.Test.YtiaalcpkhlnpcabGreatDoorPart11
set_option linter.unusedSimpArgs false
set_option linter.unusedVariables false

namespace Go.Proofs.YtiaalcpkhlnpcabGreatDoor
open Go Go.Am Go.Asm

/-- A byte between two marks. -/
def byteT : Str → Src.R (Nat × Str × Nat)
  | c :: x :: y :: _ => if y = 39 ∧ 32 ≤ x.toNat ∧ x.toNat ≤ 126 ∧ x ≠ 39 ∧ x ≠ 92 then .ok (2, [c, x, y], x.toNat) else .err 3
  | _ => .err 3

set_option maxHeartbeats 4000000 in
theorem byteOf_A (s : Str) : PureR Tryz.prog 122 [sv s] (· = oneV (byteT s)) := by
  refine pure_of_wpR Tt_ok mixed Tryz.func122 rfl (by rfl) [.cell 2 139, .tmp 3] rfl (by kernel_rfl) (by simp [Tryz.ntmps122]) fun g => ?_
  by_cases hlen : s.length < 3
  · have hi : (s.length : Int) < 3 := by omega
    have hb : byteT s = .err 3 := by
      match s, hlen with
      | [], _ => rfl
      | [_], _ => rfl
      | [_, _], _ => rfl
      | _ :: _ :: _ :: _, h => simp at h; omega
    rw [hb]
    simp (config := { maxSteps := 1000000 }) only [go_sem,↓reduceIte,hi]
    exact ⟨_, frz_tok (k := 0) (v := 0) (e := 3), rfl⟩
  obtain ⟨c, x, y, r, rfl⟩ : ∃ c x y r, s = c :: x :: y :: r := by
    match s, hlen with
    | c :: x :: y :: r, _ => exact ⟨c, x, y, r, rfl⟩
    | [], h => simp at h
    | [_], h => simp at h
    | [_, _], h => simp at h
  have hi : ¬ ((c :: x :: y :: r).length : Int) < 3 := by omega
  have h2 : (c :: x :: y :: r)[2]? = some y := rfl
  have h1 : (c :: x :: y :: r)[1]? = some x := rfl
  have ht : (c :: x :: y :: r).take 3 = [c, x, y] := rfl
  have hl3 : 3 ≤ (c :: x :: y :: r).length := by simp
  rw [show byteT (c :: x :: y :: r) = (if y = 39 ∧ 32 ≤ x.toNat ∧ x.toNat ≤ 126 ∧ x ≠ 39 ∧ x ≠ 92 then .ok (2, [c, x, y], x.toNat) else .err 3) from rfl]
  generalize (c :: x :: y :: r) = s at hi h2 h1 ht hl3
  by_cases e1 : y = 39
  case neg =>
    have e1i : ¬ ((y.toNat : Nat) : Int) = 39 := u8_ne (d := 39) e1
    rw [if_neg (fun h => e1 h.1)]
    simp (config := { maxSteps := 1000000 }) only [go_sem,↓reduceIte,hi, h2, e1i]
    exact ⟨_, frz_tok (k := 0) (v := 0) (e := 3), rfl⟩
  have e1i : ((y.toNat : Nat) : Int) = 39 := by rw [e1]; rfl
  by_cases e2 : 32 ≤ x.toNat
  case neg =>
    have e2i : ((x.toNat : Nat) : Int) < 32 := by omega
    rw [if_neg (fun h => e2 h.2.1)]
    simp (config := { maxSteps := 1000000 }) only [go_sem,↓reduceIte,hi, h2, h1, e1i, e2i]
    exact ⟨_, frz_tok (k := 0) (v := 0) (e := 3), rfl⟩
  have e2i : ¬ ((x.toNat : Nat) : Int) < 32 := by omega
  by_cases e3 : x.toNat ≤ 126
  case neg =>
    have e3i : (126 : Int) < ((x.toNat : Nat) : Int) := by omega
    rw [if_neg (fun h => e3 h.2.2.1)]
    simp (config := { maxSteps := 1000000 }) only [go_sem,↓reduceIte,hi, h2, h1, e1i, e2i, e3i]
    exact ⟨_, frz_tok (k := 0) (v := 0) (e := 3), rfl⟩
  have e3i : ¬ (126 : Int) < ((x.toNat : Nat) : Int) := by omega
  by_cases e4 : x = 39
  · have e4i : ((x.toNat : Nat) : Int) = 39 := by rw [e4]; rfl
    rw [if_neg (fun h => h.2.2.2.1 e4)]
    simp (config := { maxSteps := 1000000 }) only [go_sem,↓reduceIte,hi, h2, h1, e1i, e2i, e3i, e4i]
    exact ⟨_, frz_tok (k := 0) (v := 0) (e := 3), rfl⟩
  have e4i : ¬ ((x.toNat : Nat) : Int) = 39 := u8_ne (d := 39) e4
  by_cases e5 : x = 92
  · have e5i : ((x.toNat : Nat) : Int) = 92 := by rw [e5]; rfl
    rw [if_neg (fun h => h.2.2.2.2 e5)]
    simp (config := { maxSteps := 1000000 }) only [go_sem,↓reduceIte,hi, h2, h1, e1i, e2i, e3i, e4i, e5i]
    exact ⟨_, frz_tok (k := 0) (v := 0) (e := 3), rfl⟩
  have e5i : ¬ ((x.toNat : Nat) : Int) = 92 := u8_ne (d := 92) e5
  rw [if_pos ⟨e1, e2, e3, e4, e5⟩]
  have w5 : IntKind.u32.wrap ((x.toNat : Nat) : Int) = ((x.toNat : Nat) : Int) := by have := x.toNat_lt; rw [IntKind.wrap_u32]; omega
  simp (config := { maxSteps := 1000000 }) only [go_sem,↓reduceIte,hi, h2, h1, e1i, e2i, e3i, e4i, e5i]
  refine draw_introB (by decide +kernel) ?_
  simp (config := { maxSteps := 1000000 }) only [go_sem,↓reduceIte,h1, w5, List.drop_zero, ht]
  exact ⟨hl3, _, frz_tok (k := 2) (e := 0), rfl⟩

end Go.Proofs.YtiaalcpkhlnpcabGreatDoor

namespace Go.Am
section
variable {P : Program} {T : Nat → TI} {b₀ : Bs} {β : Loc} {g : Nat → Nat} {ob : Obs} {n₀ : Nat} {w w' : World}

/-- An iterator that may hold drawn regions, by its body's abstract code. -/
theorem iter_of_wp2 {α : Type} (B : Nat) (hT : TabOk P T) (hm : P.follows .mixedOrders = true) {f : FuncId} {fn : Func} {c : Code} (hf : P.funcs[f]? = some fn) (hb : fn.body = some c) (hn : (fn.name == "runtime.NumGoroutine") = false)
    (hres : fn.results = #[]) (hcm : calm2 c = true) (hok : codeOk fn.ntmps c = true) {caps : List AV} (hargs : caps.length + 1 ≤ fn.ntmps) {own : Nat → Prop} {enc : α → List AV} {g0 : Nat → Nat} {ob0 : Obs} {xs : List α} {Fin : (Nat → Nat) → Obs → Prop}
    (h : ∀ (b₀ : Bs) (Φ : (Nat → Nat) → Obs → Loc → World → Prop) (l : Nat) (J : Nat → (Nat → Nat) → Obs → Prop) (Jx : (Nat → Nat) → Obs → Prop), KeptTr b₀ (onObj Φ) →
      (∀ k g ob g' ob', J k g ob → (∀ id, ¬ own id → g' id = g id ∧ ob' id = ob id) → J k g' ob') → (∀ g ob g' ob', Jx g ob → (∀ id, ¬ own id → g' id = g id ∧ ob' id = ob id) → Jx g' ob') →
      (∀ k x g ob, xs[k]? = some x → J k g ob → YieldF P b₀ Φ l (enc x) g ob (fun r g' ob' => (∀ id, own id → g' id = g id ∧ ob' id = ob id) ∧ ((r = bv true ∧ J (k + 1) g' ob') ∨ (r = bv false ∧ Jx g' ob')))) →
      J 0 g0 ob0 → wpC (spF P none b₀ (onObj Φ) B noPan) T c (bx (RetI (fun g ob => J xs.length g ob ∧ Fin g ob) Jx)) ⟨initF (.one (.d (.yld l)) :: caps), g0, ob0⟩) : IterR P f caps own enc g0 ob0 xs Fin := by
  refine ⟨⟨fn, hf, by rw [hb]; rfl, hn⟩, fun b₀ Φ l J Jx hΦ hJ hJx hY h0 N β a fa w vs hr0 hφ hv => ?_⟩
  refine callsIn_of_wp hf hb trivial ?_
  have hv' : RepVs b₀ β g0 ob0 w (.one (.d (.yld l)) :: caps) (.func (.yield l) #[] #[] :: vs) := by
    simp only [RepVs]
    exact ⟨_, _, rfl, by simp only [RepV, RepC]; exact .yld l, hv⟩
  have hr := rel_init (N := fn.ntmps) (by simpa using hargs) hr0 hv'
  rw [show (Value.func (.yield l) #[] #[] :: vs).toArray = #[.func (.yield l) #[] #[]] ++ vs.toArray from Array.ext' (by simp)] at hr
  refine wpIn_mono (wpC_soundF2 (rd := none) (B := B) (ds := []) hT hm hΦ c hcm hok hr ⟨rfl, hφ⟩ (h b₀ Φ l J Jx hΦ hJ hJx hY h0)) (fun e a' w' hp => ?_)
  obtain ⟨s', β', a0, ds', rfl, hQ, hr', rfl, hφ'⟩ := hp.plain
  have hres' : RetI (fun g ob => J xs.length g ob ∧ Fin g ob) Jx .ret s' → ∃ v, (results fn a0.tmps).run P w' = .ok v w' ∧ ∃ v' g' ob' β', Ending.returned v = .returned v' ∧ ((J xs.length g' ob' ∧ Fin g' ob') ∨ Jx g' ob') ∧
      (∀ id cells, ob' id = some cells → ObjAt b₀ β' g' ob' w' (g' id) cells (β' id)) ∧ (∀ id id' a a', (ob' id).isSome = true → (ob' id').isSome = true → β' id = some a → β' id' = some a' → a.block = a'.block → id = id') ∧ b₀.B ≤ w'.heap.size ∧ Φ g' ob' β' w' := by
    rintro ⟨s2, hvs, hR⟩
    obtain ⟨β2, hr2, ht2⟩ := hvs b₀ fn.ntmps β' a0 w' hr'
    exact ⟨_, run_results [] hres a0.tmps, _, _, _, β2, rfl, hR, hr2.obj, hr2.inj, hr2.base, (hΦ _ _ [] _ _ _ _ ⟨rfl, hφ'⟩ ht2).2⟩
  cases e with
  | normal => exact ⟨rfl, hres' hQ⟩
  | ret => exact ⟨rfl, hres' hQ⟩
  | exit id => exact hQ.elim
  | goto l => exact hQ.elim
  | panic ch => exact hQ.elim
  | outgrown => exact hQ.elim

/-- A function that hands back data, and may hold loops over functions and drawn regions. -/
theorem pure_of_wpRF2 (B : Nat) (hT : TabOk P T) (hm : P.follows .mixedOrders = true) {f : FuncId} {fn : Func} {c : Code} (hf : P.funcs[f]? = some fn) (hb : fn.body = some c) (hn : (fn.name == "runtime.NumGoroutine") = false)
    (rs : List ResultVar) (hres : fn.results = rs.toArray) (hcm : calm2 c = true) (hok : codeOk fn.ntmps c = true) {args : List AV} (hargs : args.length ≤ fn.ntmps) {R : AV → Prop}
    (h : ∀ b₀ β0 s0 w0 g, wpC (spF P none b₀ (PhiC b₀ β0 s0 w0) B noPan) T c (bx (RetQR T rs R)) ⟨initF args, g, fun _ => none⟩) : PureR P f args R := by
  refine ⟨⟨fn, hf, by rw [hb]; rfl, hn⟩, fun J w vs hJ hv => ?_⟩
  refine calls_of_fen (n := 0) (callsIn_of_wp_marks hf hb trivial ?_)
  have hlen : ∀ (l : List AV) (vs : List Value), RVs J w l vs → vs.length = l.length := by
    intro l
    induction l with
    | nil => intro vs h; simp only [RVs] at h; subst h; rfl
    | cons x l ih => intro vs h; simp only [RVs] at h; obtain ⟨u, us, rfl, _, h⟩ := h; simp [ih us h]
  have hl := hlen _ _ hv
  let J' : Nat → Prop := J
  have hr : Rel ⟨w.heap.size, J'⟩ fn.ntmps ⟨initF args, fun _ => 0, fun _ => none⟩ (fun _ => none) { tmps := vs.toArray ++ Array.replicate (fn.ntmps - vs.toArray.size) undef, defers := [] } w := by
    refine ⟨rfl, by simp; omega, fun i => ?_, fun id cells ho => (by cases ho), fun id id' a a' ho => (by cases ho), Nat.le_refl _⟩
    have hget : ∀ (l : List AV) (vs : List Value), RVs J w l vs → ∀ (i : Nat) (x : AV), l[i]? = some x → ∃ v, vs[i]? = some v ∧ RV J w x v := by
      intro l
      induction l with
      | nil => intro vs _ i x h; simp at h
      | cons y l ih =>
        intro vs h i x hx
        simp only [RVs] at h
        obtain ⟨u, us, rfl, h1, h2⟩ := h
        cases i with
        | zero => simp at hx; subst hx; exact ⟨u, rfl, h1⟩
        | succ i => simpa using ih us h2 i x (by simpa using hx)
    simp only [initF]
    cases hx : args[i]? with
    | some x =>
      obtain ⟨v, h1, h2⟩ := hget _ _ hv i x hx
      have hlt : i < vs.length := (List.getElem?_eq_some_iff.1 h1).1
      have : (vs.toArray ++ Array.replicate (fn.ntmps - vs.toArray.size) undef).getD i undef = v := by
        rw [Array.getD_eq_getD_getElem?, Array.getElem?_append_left (by simpa using hlt)]
        simp [h1]
      rw [this]
      simp only [Option.getD_some]
      exact RV.rep x (RV.mono (fun b hb => ⟨⟨hJ b hb, fun _ => hb, fun id a ho => by cases ho⟩, rfl⟩) x h2)
    | none =>
      have hge : args.length ≤ i := by simpa using hx
      have : (vs.toArray ++ Array.replicate (fn.ntmps - vs.toArray.size) undef).getD i undef = undef := by
        rw [Array.getD_eq_getD_getElem?, Array.getElem?_append_right (by simp; omega)]
        simp [Array.getElem?_replicate]
        split <;> rfl
      rw [this]
      exact undefRep
  refine wpIn_mono (wpC_soundF2 (rd := none) (B := B) (ds := []) hT hm kept_phiC c hcm hok hr ⟨Tr.refl, trivial⟩ (h _ _ _ w _)) (fun e a' w' hp => ?_)
  obtain ⟨s', β', a0, ds', rfl, hQ, hr', ht, hmk⟩ := hp.plain
  have hres' : RetQR T rs R .ret s' → bodyPostM (fen none) 0 P fn (fun e w' => ∃ v r, e = .returned v ∧ R r ∧ w.heap.size ≤ w'.heap.size ∧ (∀ b, b < w.heap.size → w'.heap[b]? = w.heap[b]?) ∧ (w'.os = w.os ∧ w'.output = w.output) ∧ RV (Own ⟨w.heap.size, J'⟩ w') w' r v) .ret { a0 with defers := ds' } w' := by
    intro hQ
    refine leaves_marks hmk (fun w5 h5 => ?_)
    obtain ⟨v, avs, h1, ⟨r, h2, h3⟩, _, vs', rfl, h4⟩ := evalR_results hT (hr'.shut h5) hres hQ
    refine ⟨_, h1, _, r, rfl, h3, by rw [h5.size]; exact ht.size, fun b hb => ?_, ⟨h5.os.1.trans ht.os.1, h5.os.2.trans ht.os.2⟩, h2.rep (hr'.shut h5) h4⟩
    rcases h5.same b with e | ⟨e, _⟩
    · rw [e]; exact ht.old b hb
    · omega
  cases e with
  | normal => exact hres' hQ
  | ret => exact hres' hQ
  | exit id => exact hQ.elim
  | goto l => exact hQ.elim
  | panic ch => exact hQ.elim
  | outgrown => exact hQ.elim


/-- Marks that have been taken up, behind a change. -/
theorem Tr.shut {s s' : St} {β' : Loc} {w5 : World} (hB : b₀.B ≤ w.heap.size) (h : Tr b₀ β s w β' s' w') (hs : Shut b₀ β' s'.obj w.heap.size w' w5) : Tr b₀ β s w β' s' w5 := by
  refine ⟨by rw [hs.size]; exact h.size, fun b hb => ?_, ⟨fun b hb => ?_, h.keep.gen, fun id hg ho => ?_⟩, ⟨hs.os.1.trans h.os.1, hs.os.2.trans h.os.2⟩⟩
  · rcases hs.same b with e | ⟨e, _⟩
    · rw [e]; exact h.old b hb
    · omega
  · obtain ⟨h1, h2⟩ := h.keep.imm b hb
    refine ⟨hs.imm h1, ?_⟩
    rcases hs.same b with e | ⟨e, _⟩
    · rw [e]; exact h2
    · have := hb.1; omega
  · obtain ⟨h1, h2, h3⟩ := h.keep.live id hg ho
    refine ⟨h1, h2, fun a ha arr el fr hc => ?_⟩
    rcases hs.same a.block with e | ⟨_, _, _, x, e⟩
    · exact h3 a ha arr el fr (by rw [← e]; exact hc)
    · rw [e] at hc; cases hc

/-- A function that works on objects, and may hold loops over functions and drawn regions. -/
theorem fun_of_wpRF2 (B : Nat) (hT : TabOk P T) (hm : P.follows .mixedOrders = true) {f : FuncId} {fn : Func} {c : Code} (hf : P.funcs[f]? = some fn) (hb : fn.body = some c) (hn : (fn.name == "runtime.NumGoroutine") = false)
    (rs : List ResultVar) (hres : fn.results = rs.toArray) (hcm : calm2 c = true) (hok : codeOk fn.ntmps c = true) {xs : List AV} (hargs : xs.length ≤ fn.ntmps) {g : Nat → Nat} {ob : Obs} {R : AV → (Nat → Nat) → Obs → Prop}
    (h : ∀ b₀ β0 s0 w0, wpC (spF P none b₀ (PhiC b₀ β0 s0 w0) B noPan) T c (bx (RetFR T rs R)) ⟨initF xs, g, ob⟩) : FunR P f xs g ob R := by
  refine ⟨⟨fn, hf, by rw [hb]; rfl, hn⟩, fun b₀ N β a fa w vs hr0 hv => ?_⟩
  refine calls_of_fen (n := 0) (callsIn_of_wp_marks hf hb trivial ?_)
  have hr := rel_init (N := fn.ntmps) hargs hr0 hv
  refine wpIn_mono (wpC_soundF2 (rd := none) (B := B) (ds := []) hT hm kept_phiC c hcm hok hr ⟨Tr.refl, trivial⟩ (h b₀ β ⟨initF xs, g, ob⟩ w)) (fun e a' w' hp => ?_)
  obtain ⟨s', β', a0, ds', rfl, hQ, hr', ht, hmk⟩ := hp.plain
  have hres' : RetFR T rs R .ret s' → bodyPostM (fen none) 0 P fn (fun e w' => ∃ v r g' ob' β', e = .returned v ∧ R r g' ob' ∧ RepV b₀ β' g' ob' w' r v ∧
      (∀ id cells, ob' id = some cells → ObjAt b₀ β' g' ob' w' (g' id) cells (β' id)) ∧ (∀ id id' a a', (ob' id).isSome = true → (ob' id').isSome = true → β' id = some a → β' id' = some a' → a.block = a'.block → id = id') ∧
      Tr b₀ β ⟨fa, g, ob⟩ w β' ⟨fa, g', ob'⟩ w') .ret { a0 with defers := ds' } w' := by
    rintro ⟨s2, hvs, hR⟩
    obtain ⟨β2, hr2, ht2⟩ := hvs b₀ fn.ntmps β' a0 w' hr'
    refine leaves_marks (hmk.keep ht2) (fun w5 h5 => ?_)
    have hr5 := hr2.shut h5
    have hta := (ht.trans ht2).shut hr0.base h5
    obtain ⟨v, avs, h1, h2, h3, _⟩ := evalR_results hT hr5 hres hR
    exact ⟨v, h1, v, _, _, _, β2, rfl, h2, h3, hr5.obj, hr5.inj, ⟨hta.size, hta.old, hta.keep, hta.os⟩⟩
  cases e with
  | normal => exact hres' hQ
  | ret => exact hres' hQ
  | exit id => exact hQ.elim
  | goto l => exact hQ.elim
  | panic ch => exact hQ.elim
  | outgrown => exact hQ.elim

end
end Go.Am


namespace Go.Proofs.YtiaalcpkhlnpcabGreatDoor
open Go Go.Am Go.Asm

/-- The tables of words and of signs. -/
def TokO (o : Hold) : Prop := ∀ w : World, Held 5 o w → (∀ (i : Nat) t, Src.wordsT[i]? = some t → w.cell? ⟨5, i, none⟩ = some (.string ⟨t.toArray⟩)) ∧ (∀ (i : Nat) t, Src.signsT[i]? = some t → w.cell? ⟨2, i, none⟩ = some (.string ⟨t.toArray⟩))

set_option maxHeartbeats 4000000 in
theorem isWord_G {o : Hold} (ho : TokO o) (s : Str) : PureG Tryz.prog 5 o 127 [sv s] (· = bv (decide (s ∈ Src.wordsT))) := by
  refine pure_of_wpG2 0 5 o Tt_ok mixed Tryz.func127 rfl (by rfl) [.tmp 2] rfl (by kernel_rfl) (by kernel_rfl) (by simp [Tryz.ntmps127]) fun b₀ β0 s0 w0 g => ?_
  have hwl : Src.wordsT.length = 10 := rfl
  simp (config := { maxSteps := 1000000 }) only [go_sem,↓reduceIte]
  refine loop_introF (fun n st => ∃ k : Nat, n + k = 10 ∧ st.f 0 = sv s ∧ st.f 4 = iv .i64 k ∧ s ∉ Src.wordsT.take k) 10 ?_ ?_
  · refine ⟨0, rfl, ?_⟩
    simp (config := { maxSteps := 1000000 }) only [go_sem,↓reduceIte]
    simp
  rintro n f g' ob ⟨k, hk, q0, q4, hno⟩
  simp only at q0 q4
  have hw := wrap_succ (k := k) (by omega)
  by_cases hlt : k < 10
  · have hlti : (k : Int) < 10 := by omega
    obtain ⟨t, ht⟩ := getq (l := Src.wordsT) (k := k) (by omega)
    simp (config := { maxSteps := 1000000 }) only [go_sem,↓reduceIte,q0, q4, hlti]
    refine hook_gidx kept_phiG (fun s β ds w h => h.1.2) Tt_ok (n := 10) (e := 9) rfl rfl (by decide) (kd := .i64) (i := k) (by simp (config := { maxSteps := 1000000 }) only [go_sem,↓reduceIte,q4]) hlt (cs := [.str t]) (fun j x hx => by match j, hx with | 0, hx => cases hx; rfl) (fun w hw j x hx => by
      match j, hx with
      | 0, hx => cases hx; rw [show k * (Tt 9).size + 0 = k from by show k * 1 + 0 = k; omega]; exact (ho w hw).1 k t ht) ?_
    by_cases he : t = s
    · have hin : s ∈ Src.wordsT := he ▸ List.mem_of_getElem? ht
      simp (config := { maxSteps := 1000000 }) only [go_sem,↓reduceIte,q0, he]
      exact (decide_eq_true hin).symm
    · simp (config := { maxSteps := 1000000 }) only [go_sem,↓reduceIte,q0, q4, he, hw]
      refine round_endF (n - 1) (by omega) ⟨k + 1, by omega, ?_⟩
      simp (config := { maxSteps := 1000000 }) only [go_sem,↓reduceIte,q0]
      rw [List.take_add_one, ht]
      simp [hno, Ne.symm he]
  · obtain rfl : k = 10 := by omega
    rw [List.take_of_length_le (by rw [hwl]; decide)] at hno
    simp (config := { maxSteps := 1000000 }) only [go_sem,↓reduceIte,q0, q4, show ¬ ((10 : Nat) : Int) < 10 by decide]
    exact (decide_eq_false hno).symm

/-- A name, or a word. -/
def nameT (s : Str) : Src.R (Nat × Str × Nat) := if 20 < s.length then .err 2 else if s ∈ Src.wordsT then .ok (3, s, 0) else .ok (1, s, 0)

set_option maxHeartbeats 4000000 in
theorem nameOf_G {o : Hold} (ho : TokO o) (s : Str) : PureG Tryz.prog 5 o 124 [sv s] (· = oneV (nameT s)) := by
  refine pure_of_wpG2 0 5 o Tt_ok mixed Tryz.func124 rfl (by rfl) [.cell 2 139, .tmp 3] rfl (by kernel_rfl) (by kernel_rfl) (by simp [Tryz.ntmps124]) fun b₀ β0 s0 w0 g => ?_
  unfold nameT
  by_cases h20 : 20 < s.length
  · have h20i : (20 : Int) < (s.length : Int) := by omega
    rw [if_pos h20]
    simp (config := { maxSteps := 1000000 }) only [go_sem,↓reduceIte,h20i, buildA]
    exact ⟨_, frz_tok (k := 0) (v := 0) (e := 2), rfl⟩
  have h20i : ¬ (20 : Int) < (s.length : Int) := by omega
  rw [if_neg h20]
  simp (config := { maxSteps := 1000000 }) only [go_sem,↓reduceIte,h20i]
  refine hook_callG kept_phiG (fun s β ds w h => h.1.2) rfl (by simp (config := { maxSteps := 1000000 }) only [go_sem,↓reduceIte]; exact isWord_G ho s) (by simp (config := { maxSteps := 1000000 }) only [go_sem,↓reduceIte]; rfl) ?_
  rintro _ rfl
  by_cases hin : s ∈ Src.wordsT
  · rw [if_pos hin, decide_eq_true hin]
    simp (config := { maxSteps := 1000000 }) only [go_sem,↓reduceIte,buildA]
    exact ⟨_, frz_tok (k := 3) (v := 0) (e := 0), rfl⟩
  · rw [if_neg hin, decide_eq_false hin]
    simp (config := { maxSteps := 1000000 }) only [go_sem,↓reduceIte,buildA]
    exact ⟨_, frz_tok (k := 1) (v := 0) (e := 0), rfl⟩

end Go.Proofs.YtiaalcpkhlnpcabGreatDoor
