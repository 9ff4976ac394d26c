/- A part of the proof; no conditions. -/
import Derived.Test.YtiaalcpkhlnpcabGreatDoorPart7
import Derived.Below
set_option linter.unusedSimpArgs false
set_option linter.unusedVariables false
namespace Go.Am
section
variable {P : Program} {T : Nat → TI} {b₀ : Bs} {β : Loc} {w : World}

theorem mk_fresh {β : Loc} {ob : Obs} {n₀ : Nat} : ∀ {ds : List Deferred}, Mk b₀ β ob w n₀ ds → ∀ d ∈ ds, d ≠ { target := .collected w.heap.size, args := #[] }
  | [], _, d, hd, _ => by cases hd
  | d0 :: ds, hm, d, hd, he => by
    obtain ⟨⟨D, h1, _, h3, _, _⟩, hr⟩ := hm
    rcases List.mem_cons.1 hd with rfl | hd
    · rw [h1] at he
      simp only [Deferred.mk.injEq, Target.collected.injEq, and_true] at he
      have := h3.1
      omega
    · exact mk_fresh hr d hd he

theorem hook_range {α : Type} {Fin : (Nat → Nat) → Obs → Prop} (hT : TabOk P T) {gop : Operand} {ps : Array Tmp} {assign body : Code} {s : St} {Q : Exit → St → Prop} {q : Box Q} {B : Nat} {β0 : Loc} {s0 : St} {w0 : World} {fid : FuncId} {caps : List PC} (hg : s.ev gop = .one (.clo fid caps))
    (lam : Nat) (Pr own : Nat → Prop) (hPl : Pr lam) (hol : ¬ own lam) (hop : ∀ id, own id → Pr id) (enc : α → List AV) (xs : List α) (henc : ∀ x, (enc x).length = ps.size)
    (hcm : calm assign = true) (hcm2 : calm body = true)
    (hit : ∀ g ob, (∀ id, id ≠ lam → g id = s.gen id ∧ ob id = s.obj id) → IterR P fid (caps.map pcAV) own enc g ob xs Fin)
    (hFin : ∀ g ob g' ob', Fin g ob → (∀ id, id ≠ lam → g' id = g id ∧ ob' id = ob id) → Fin g' ob')
    (J : Nat → (Nat → Nat) → Obs → Prop) (Jx : (Nat → Nat) → Obs → Prop) (hJ : ∀ k g ob g' ob', J k g ob → (∀ id, ¬ Pr id → g' id = g id ∧ ob' id = ob id) → J k g' ob') (hJx : ∀ g ob g' ob', Jx g ob → (∀ id, ¬ Pr id → g' id = g id ∧ ob' id = ob id) → Jx g' ob')
    (h0 : J 0 s.gen s.obj)
    (hround : ∀ (k : Nat) (x : α) (g : Nat → Nat) (ob : Obs), xs[k]? = some x → J k g ob → ∀ (l : Nat) (Φ : St → Loc → List Deferred → World → Prop), KeptTr b₀ Φ →
      wpC (spF P (some l) b₀ Φ B noPan) T assign (bx (AsgQ P T b₀ B lam l Pr body (J (k + 1)) Jx g ob)) ⟨setPs s.f ps.toList (enc x), g, ob⟩)
    (hdone : ∀ g' ob', J xs.length g' ob' → Fin g' ob' → Q .normal ⟨s.f, g', ob'⟩) (hret : ∀ g' ob', Jx g' ob' → Q .ret ⟨s.f, g', ob'⟩) (hf1 : fid < 1000000 := by decide) :
    hookC (spF P none b₀ (PhiC b₀ β0 s0 w0) B noPan) (.rangeFunc gop ps assign body) s q := by
  refine ⟨Q, fun N β a ds w hc hr hφ => ?_, fun _ _ h => h⟩
  simp only [codeOk, Bool.and_eq_true] at hc
  have hsl : ∀ p ∈ ps.toList, p < N := fun p hp => of_decide_eq_true (List.all_eq_true.1 hc.1.1 p hp)
  have hc : codeOk N assign = true ∧ codeOk N body = true := ⟨hc.1.2, hc.2⟩
  refine wpIn_rangeFunc fun fn _ => ?_
  obtain ⟨rec, hrec⟩ : ∃ rec : LoopState → Option Code → Loop, rec = fun st pe => { state := st, pending := pe, fn, tmps := a.tmps, params := ps, assign, body, defers := w.heap.size } := ⟨_, rfl⟩
  obtain ⟨f, g, ob⟩ := s
  -- the two blocks
  obtain ⟨hrD, htD⟩ := hr.grow (w' := w.alloc (.deferred (some []))) (by simp) (fun b hb => RowKit.Below.heap_alloc w _ b hb) ⟨rfl, rfl⟩
  have hD0 : (w.alloc (.deferred (some []))).heap[w.heap.size]? = some (.deferred (some [])) := World.alloc_heap_new w _
  have himD : Imm b₀ β ob (w.alloc (.deferred (some []))) w.heap.size := by
    refine ⟨by simp, fun h => absurd hr.base (by omega), fun id a' ho hβ he => ?_⟩
    obtain ⟨cells, hcells⟩ := Option.isSome_iff_exists.1 ho
    have := hr.obj id cells hcells
    rw [hβ] at this
    have := this.block.2
    omega
  obtain ⟨W1, hW1⟩ : ∃ W1, (w.alloc (.deferred (some []))).alloc (.loop (rec .ready none)) = W1 := ⟨_, rfl⟩
  have hsz1 : (w.alloc (.deferred (some []))).heap.size = w.heap.size + 1 := by simp
  obtain ⟨hr1, ht1⟩ := hrD.newAny (c := 0) lam (w' := (w.alloc (.deferred (some []))).alloc (.loop (rec .ready none))) (o := .loop (rec .ready none)) (ad := ⟨w.heap.size + 1, 0, some 100⟩) (cs := [.raw (.loop (rec .ready none))]) (by simp) rfl ⟨rfl, rfl⟩
    (fun _ => .ofMap (kd := 100) rfl ⟨by have := hrD.base; simp at this ⊢; omega, .inr ⟨rfl, _, rfl, by have := World.alloc_heap_new (w.alloc (.deferred (some []))) (.loop (rec .ready none)); rwa [hsz1] at this⟩⟩)
  rw [hW1] at hr1 ht1
  obtain ⟨l, hl⟩ : ∃ l, w.heap.size + 1 = l := ⟨_, rfl⟩
  rw [hl] at hr1 ht1
  obtain ⟨g1, hg1⟩ : ∃ g1, upd g lam (nxC 0 (g lam)) = g1 := ⟨_, rfl⟩
  obtain ⟨ob1, hob1⟩ : ∃ ob1, upd ob lam (some [C.raw (.loop (rec .ready none))]) = ob1 := ⟨_, rfl⟩
  obtain ⟨β1, hβ1⟩ : ∃ β1, upd β lam (some (⟨l, 0, some 100⟩ : Addr)) = β1 := ⟨_, rfl⟩
  have hr1 : Rel b₀ N ⟨f, g1, ob1⟩ β1 a W1 := by rw [← hg1, ← hob1, ← hβ1]; exact hr1
  have ht1 : Tr b₀ β ⟨f, g, ob⟩ (w.alloc (.deferred (some []))) β1 ⟨f, g1, ob1⟩ W1 := by rw [← hg1, ← hob1, ← hβ1]; exact ht1
  have htW : Tr b₀ β ⟨f, g, ob⟩ w β1 ⟨f, g1, ob1⟩ W1 := htD.trans ht1
  have hob1l : ob1 lam = some [C.raw (.loop (rec .ready none))] := by rw [← hob1]; simp [upd]
  have hβ1l : β1 lam = some ⟨l, 0, some 100⟩ := by rw [← hβ1]; simp [upd]
  have hagree : ∀ id, id ≠ lam → g1 id = g id ∧ ob1 id = ob id := fun id hid => by rw [← hg1, ← hob1]; simp [upd, hid]
  -- the iterator
  obtain ⟨hfine, hiter⟩ := hit g1 ob1 hagree
  have hvg := hr.ev gop
  rw [hg] at hvg
  simp only [RepV, RepC] at hvg
  obtain ⟨vs, hv1, hv2, hv3⟩ := hvg
  rw [cloV_fn hf1] at hv1
  have hcv : RepVs b₀ β g ob w (caps.map pcAV) vs.toList := caps_rep (by simpa using hv2) (fun i pc hi => let ⟨u, h1, h2⟩ := hv3 i pc hi; ⟨u, by simpa using h1, h2⟩)
  have hcv1 : RepVs b₀ β1 g1 ob1 W1 (caps.map pcAV) vs.toList := RepVs.keep htW.keep _ hcv
  obtain ⟨Φ, hΦd⟩ : ∃ Φ : (Nat → Nat) → Obs → Loc → World → Prop, Φ = fun g' ob' β' w' => Tr b₀ β1 ⟨f, g1, ob1⟩ W1 β' ⟨f, g', ob'⟩ w' := ⟨_, rfl⟩
  have hΦ : KeptTr b₀ (onObj Φ) := fun s β ds w s' β' w' h ht => ⟨h.1, by
    have h2 := h.2
    rw [hΦd] at h2 ⊢
    have ht' : Tr b₀ β ⟨f, s.gen, s.obj⟩ w β' ⟨f, s'.gen, s'.obj⟩ w' := ⟨ht.size, ht.old, ht.keep, ht.os⟩
    exact h2.trans ht'⟩
  -- the record's place stays
  have hplace : ∀ {g' : Nat → Nat} {ob' : Obs} {β' : Loc} {w' : World} {o : Obj}, Φ g' ob' β' w' → g' lam = g1 lam → ob' lam = some [.raw o] → β' lam = some ⟨l, 0, some 100⟩ := fun h h1 h2 => by
    rw [hΦd] at h
    obtain ⟨_, h3, _⟩ := h.keep.live lam h1 (by simp [h2])
    rw [h3]; exact hβ1l
  have hcalls := hiter b₀ Φ l (fun k g' ob' => J k g' ob' ∧ g' lam = g1 lam ∧ ob' lam = some [.raw (.loop (rec .ready none))]) (fun g' ob' => Jx g' ob' ∧ g' lam = g1 lam ∧ ob' lam = some [.raw (.loop (rec .done (some .ret)))]) hΦ
    (fun k g2 ob2 g' ob' h hs => ⟨hJ _ _ _ _ _ h.1 (fun id hid => hs id (fun ho => hid (hop id ho))), by rw [(hs lam hol).1]; exact h.2.1, by rw [(hs lam hol).2]; exact h.2.2⟩)
    (fun g2 ob2 g' ob' h hs => ⟨hJx _ _ _ _ h.1 (fun id hid => hs id (fun ho => hid (hop id ho))), by rw [(hs lam hol).1]; exact h.2.1, by rw [(hs lam hol).2]; exact h.2.2⟩)
    ?round ⟨hJ 0 g ob g1 ob1 h0 (fun id hid => hagree id (fun h => hid (h ▸ hPl))), by rfl, hob1l⟩ N β1 a f W1 vs.toList hr1 (by rw [hΦd]; exact Tr.refl) hcv1
  case round =>
    rintro k x g2 ob2 hx ⟨hJk, hgl, hol2⟩ N2 β2 a2 fa w2 us hr2 hφ2 hus
    have hβ2 := hplace hφ2 hgl hol2
    have hl2 := raw_at hr2 hol2 hβ2
    have ht2 : Tr b₀ β1 ⟨f, g1, ob1⟩ W1 β2 ⟨f, g2, ob2⟩ w2 := by rw [hΦd] at hφ2; exact hφ2
    have hlen : us.length = ps.size := by rw [hus.len, henc]
    have hy := run_yield (P := P) (args := us.toArray) hl2 (by rw [hrec]; simpa using hlen)
    obtain ⟨hset, hsize⟩ := setPs_rep (ps := ps.toList) (xs := enc x) (vs := us) (f := f) (t := a.tmps) (fun p hp => by rw [hr.size]; exact hsl p hp) (fun i => RepV.keep ht2.keep _ (hr1.f i)) hus
    obtain ⟨T0, hT0⟩ : ∃ T0, (ps.toList.zip us).foldl (fun t (p : Nat × Value) => t.setIfInBounds p.1 p.2) a.tmps = T0 := ⟨_, rfl⟩
    rw [hT0] at hset hsize
    have hfold : ((ps.zip us.toArray).foldl (fun tmps (t, v) => tmps.setIfInBounds t v) a.tmps) = T0 := by
      rw [← hT0, ← Array.foldl_toList]
      simp
    have hy : (Instr.yield l us.toArray).run P w2 = .ok (.round l fn T0 assign body) w2 := by rw [hy, hrec]; simp only; rw [hfold]
    refine ⟨fn, T0, assign, body, hy, roundIn_of_wpIn trivial ?_⟩
    show Code.wpIn (fen (some l)) 0 P assign _ _ _
    have hrR : Rel b₀ N ⟨setPs f ps.toList (enc x), g2, ob2⟩ β2 { tmps := T0, defers := [] } w2 := ⟨rfl, by simp only; rw [hsize, hr.size], hset, hr2.obj, hr2.inj, hr2.base⟩
    obtain ⟨ΦR, hΦRd⟩ : ∃ ΦR : (Nat → Nat) → Obs → Loc → World → Prop, ΦR = fun g' ob' β' w' => Tr b₀ β2 ⟨fa, g2, ob2⟩ w2 β' ⟨fa, g', ob'⟩ w' := ⟨_, rfl⟩
    have hΦR : KeptTr b₀ (onObj ΦR) := fun s β ds w s' β' w' h ht => ⟨h.1, by
      have h2 := h.2
      rw [hΦRd] at h2 ⊢
      have ht' : Tr b₀ β ⟨fa, s.gen, s.obj⟩ w β' ⟨fa, s'.gen, s'.obj⟩ w' := ⟨ht.size, ht.old, ht.keep, ht.os⟩
      exact h2.trans ht'⟩
    refine wpIn_mono (wpC_soundF (rd := some l) (B := B) (ds := []) hT hΦR assign hcm hc.1 hrR ⟨rfl, by rw [hΦRd]; exact Tr.refl⟩ (hround k x g2 ob2 hx hJk l _ hΦR)) (fun e a' w3 hp => ?_)
    obtain ⟨s3, β3, a3, ds3, rfl, hQ, hr3, rfl, hφ3⟩ := hp.plain
    cases e with
    | normal =>
      obtain ⟨hsame, hbody⟩ := hQ
      obtain ⟨f3, g3, ob3⟩ := s3
      have ht3 : Tr b₀ β2 ⟨fa, g2, ob2⟩ w2 β3 ⟨fa, g3, ob3⟩ w3 := by rw [hΦRd] at hφ3; exact hφ3
      have hs3 := hsame lam hPl
      simp only at hs3
      have hol3 : ob3 lam = some [C.raw (.loop (rec .ready none))] := by rw [hs3.2]; exact hol2
      have hβ3 : β3 lam = some ⟨l, 0, some 100⟩ := by rw [(ht3.keep.live lam hs3.1 (by simp [hol3])).2.1]; exact hβ2
      have hl3 := raw_at hr3 hol3 hβ3
      have hbeg := run_beginRound (P := P) hl3 (by rw [hrec])
      obtain ⟨o4, ho4, hno4⟩ : ∃ o4, Obj.loop { rec .ready none with state := .busy } = o4 ∧ ∀ arr el fr, o4 ≠ .cells arr el fr := ⟨_, rfl, by intro _ _ _ h; cases h⟩
      rw [ho4] at hbeg
      obtain ⟨hr4, t4⟩ := rel_setRaw hr3 hol3 hβ3 o4 hno4
      have t4' : Tr b₀ β3 ⟨fa, g3, ob3⟩ w3 β3 ⟨fa, g3, upd ob3 lam (some [.raw o4])⟩ (w3.putObj l o4) := ⟨t4.size, t4.old, t4.keep, t4.os⟩
      refine ⟨_, hbeg, ?_⟩
      show Code.wpIn (fen (some l)) 0 P body _ _ _
      refine wpIn_mono (wpC_soundF (rd := some l) (B := B) (ds := []) hT hΦR body hcm2 hc.2 hr4 ⟨rfl, by rw [hΦRd]; exact ht3.trans t4'⟩ (hbody o4 _ hΦR)) (fun e a' w5 hp => ?_)
      obtain ⟨s5, β5, a5, ds5, rfl, hQ, hr5, rfl, hφ5⟩ := hp.plain
      obtain ⟨f5, g5, ob5⟩ := s5
      have ht5 : Tr b₀ β2 ⟨fa, g2, ob2⟩ w2 β5 ⟨fa, g5, ob5⟩ w5 := by rw [hΦRd] at hφ5; exact hφ5
      have fin : (∀ id, Pr id → g5 id = g3 id ∧ ob5 id = upd ob3 lam (some [C.raw o4]) id) → ∀ (jump : Option Code) (st : LoopState), (if jump.isNone then LoopState.ready else .done) = st →
          ∃ w6, (Instr.endRound l jump).run P w5 = .ok (.bool jump.isNone) w6 ∧ Rel b₀ N ⟨f5, g5, upd ob5 lam (some [.raw (.loop (rec st jump))])⟩ β5 a5 w6 ∧ Tr b₀ β2 ⟨fa, g2, ob2⟩ w2 β5 ⟨fa, g5, upd ob5 lam (some [.raw (.loop (rec st jump))])⟩ w6 ∧
            (∀ id, own id → g5 id = g2 id ∧ upd ob5 lam (some [.raw (.loop (rec st jump))]) id = ob2 id) ∧ g5 lam = g1 lam := by
        intro hs jump st hst
        have h5 := hs lam hPl
        have hol5 : ob5 lam = some [C.raw o4] := by rw [h5.2]; simp [upd]
        have hβ5 : β5 lam = some ⟨l, 0, some 100⟩ := by rw [(ht5.keep.live lam (by simp only; rw [h5.1, hs3.1]) (by simp [hol5])).2.1]; exact hβ2
        have hl5 := raw_at hr5 hol5 hβ5
        rw [← ho4] at hl5
        have hend := run_endRound (P := P) jump hl5
        have ho6 : Obj.loop { ({ rec .ready none with state := .busy } : Loop) with state := if jump.isNone then .ready else .done, pending := jump } = .loop (rec st jump) := by rw [hst, hrec]
        rw [ho6] at hend
        obtain ⟨r6, t6⟩ := rel_setRaw hr5 hol5 hβ5 (.loop (rec st jump)) (by intro _ _ _ h; cases h)
        have t6' : Tr b₀ β5 ⟨fa, g5, ob5⟩ w5 β5 ⟨fa, g5, upd ob5 lam (some [.raw (.loop (rec st jump))])⟩ (w5.putObj l (.loop (rec st jump))) := ⟨t6.size, t6.old, t6.keep, t6.os⟩
        refine ⟨_, hend, r6, ht5.trans t6', fun id ho => ?_, by rw [h5.1, hs3.1, hgl]⟩
        have hne : id ≠ lam := fun he => hol (he ▸ ho)
        have e5 := hs id (hop id ho)
        have e3 := hsame id (hop id ho)
        simp only [upd, hne, if_false] at e5 ⊢
        exact ⟨e5.1.trans e3.1, e5.2.trans e3.2⟩
      cases e with
      | normal =>
        obtain ⟨hs, hJ1⟩ := hQ
        obtain ⟨w6, e1, e2, e3, e4, e5⟩ := fin hs none .ready rfl
        refine ⟨_, w6, e1, _, bv true, g5, _, β5, rfl, ⟨e4, .inl ⟨rfl, hJ _ _ _ _ _ hJ1 (fun id hid => ⟨rfl, ?_⟩), e5, by simp [upd]⟩⟩, by simp only [RepV, RepC]; exact .bool _, e2.obj, e2.inj, e3⟩
        simp only [upd]; rw [if_neg (fun he => hid (by rw [he]; exact hPl))]
      | ret =>
        obtain ⟨hs, hJ1⟩ := hQ
        obtain ⟨w6, e1, e2, e3, e4, e5⟩ := fin hs (some .ret) .done rfl
        refine ⟨_, w6, e1, _, bv false, g5, _, β5, rfl, ⟨e4, .inr ⟨rfl, hJx _ _ _ _ hJ1 (fun id hid => ⟨rfl, ?_⟩), e5, by simp [upd]⟩⟩, by simp only [RepV, RepC]; exact .bool _, e2.obj, e2.inj, e3⟩
        simp only [upd]; rw [if_neg (fun he => hid (by rw [he]; exact hPl))]
      | exit id => exact hQ.elim
      | goto t => exact hQ.elim
      | panic ch => exact hQ.elim
      | outgrown => exact hQ.elim
    | exit id => exact hQ.elim
    | goto t => exact hQ.elim
    | ret => exact hQ.elim
    | panic ch => exact hQ.elim
    | outgrown => exact hQ.elim
  have henter := run_enterLoop_outer (P := P) (w := w) fn a.tmps ps assign body
  rw [show ((w.alloc (.deferred (some []))).alloc (.loop { state := .ready, pending := none, fn, tmps := a.tmps, params := ps, assign, body, defers := w.heap.size })) = W1 from by rw [← hW1, hrec], hl] at henter
  refine ⟨l, [{ target := .collected w.heap.size, args := #[] }], W1, { target := .fn (.func fid) vs, args := #[.func (.yield l) #[] #[]] }, W1, fid, #[.func (.yield l) #[] #[]] ++ vs, W1, henter, ?_, fun _ _ => trivial, ?_, fun h => (by cases h), ?_⟩
  · have : ({ a with defers := ds } : Act).eval gop = a.eval gop := rfl
    simp only [resolve, this, hv1]
    simp [go_sem]
  · obtain ⟨fn', h1, h2, h3⟩ := hfine
    have h2 : ¬ fn'.body = none := by intro h; rw [h] at h2; simp at h2
    have h3 : ¬ fn'.name = "runtime.NumGoroutine" := by simpa using h3
    simp [invoke, callFunc, h1, h2, h3]
  · rw [show vs.toList.toArray = vs from Array.ext' (by simp)] at hcalls
    refine hcalls.mono ?_
    rintro e W3 ⟨v, g3, ob3, β3, rfl, hout, hob3, hin3, hB3, hφ3⟩
    have ht3 : Tr b₀ β1 ⟨f, g1, ob1⟩ W1 β3 ⟨f, g3, ob3⟩ W3 := by rw [hΦd] at hφ3; exact hφ3
    have hr3 : Rel b₀ N ⟨f, g3, ob3⟩ β3 a W3 := ⟨hr.defers, hr.size, fun i => RepV.keep ht3.keep _ (hr1.f i), hob3, hin3, hB3⟩
    have fin : ∀ (st : LoopState) (pe : Option Code), st ≠ .busy → g3 lam = g1 lam → ob3 lam = some [C.raw (.loop (rec st pe))] →
        ∃ w4 o4, (Instr.endLoop l).run P W3 = .ok pe w4 ∧ Rel b₀ N ⟨f, g3, upd ob3 lam (some [.raw o4])⟩ β3 a w4 ∧
          PhiC b₀ β0 s0 w0 ⟨f, g3, upd ob3 lam (some [.raw o4])⟩ β3 ([{ target := .collected w.heap.size, args := #[] }] ++ ds) w4 := by
      intro st pe hst h1 h2
      have hβ3 := hplace hφ3 h1 h2
      have hl3 := raw_at hr3 h2 hβ3
      have hend := run_endLoop (P := P) hl3 (by rw [hrec]; exact hst)
      have hpe : (rec st pe).pending = pe := by rw [hrec]
      obtain ⟨o4, ho4, hno⟩ : ∃ o4, Obj.loop { rec st pe with state := .exhausted } = o4 ∧ ∀ arr el fr, o4 ≠ .cells arr el fr := ⟨_, rfl, by intro _ _ _ h; cases h⟩
      rw [ho4, hpe] at hend
      obtain ⟨r4, t4⟩ := rel_setRaw hr3 h2 hβ3 o4 hno
      refine ⟨_, o4, hend, r4, hφ.1.trans (htW.trans (ht3.trans t4)), ⟨w.heap.size, rfl, hφ.1.size, ?_, ?_, fun d' hd' he => ?_⟩, hφ.2.keep (htW.trans (ht3.trans t4))⟩
      · exact ((ht1.trans (ht3.trans t4)).imm _ himD).1
      · rw [((ht1.trans (ht3.trans t4)).imm _ himD).2]; exact hD0
      · exact mk_fresh hφ.2 d' hd' he
    rcases hout with ⟨⟨hJn, h1, h2⟩, hFn⟩ | ⟨hJxn, h1, h2⟩
    · obtain ⟨w4, o4, e1, e2, e3⟩ := fin _ _ (by simp) h1 h2
      refine ⟨none, w4, e1, _, β3, a, _, rfl, .inl <| hdone _ _ (hJ _ _ _ _ _ hJn (fun id hid => ⟨rfl, ?_⟩)) (hFin _ _ _ _ hFn (fun id hid => ⟨rfl, by simp [upd, hid]⟩)), e2, e3⟩
      simp only [upd]; rw [if_neg (fun he => hid (by rw [he]; exact hPl))]
    · obtain ⟨w4, o4, e1, e2, e3⟩ := fin _ _ (by simp) h1 h2
      refine ⟨some .ret, w4, e1, wpIn_ret ⟨_, β3, a, _, rfl, .inl <| hret _ _ (hJx _ _ _ _ hJxn (fun id hid => ⟨rfl, ?_⟩)), e2, e3⟩⟩
      simp only [upd]; rw [if_neg (fun he => hid (by rw [he]; exact hPl))]
end
end Go.Am

namespace Go.Am

section
variable {P : Program} {T : Nat → TI} {b₀ : Bs} {β : Loc} {w : World}

def St.claimAt (s : St) (o b j sz : Nat) (cells : List C) : St := ⟨s.f, upd s.gen b (s.gen b + 1), upd (upd s.obj o (some (cells.set j (.osl b (s.gen b + 1) sz 0 0)))) b (some [])⟩

theorem vs_claimAt' {s : St} {t o b j sz : Nat} {cells : List C} (ht : (∃ off, s.f t = .one (.ptr o (s.gen o) off)) ∨ ∃ sz off len, s.f t = .one (.osl o (s.gen o) sz off len)) (ho : s.obj o = some cells) (hj : cells[j]? = some (.d .nsl)) (n1 : o ≠ b) : SemVs s (s.claimAt o b j sz cells) := by
  intro b₀ N β a w hr
  let β' : Loc := fun i => if i = b then none else β i
  have hlive : ∀ i, i ≠ b → ((s.claimAt o b j sz cells).obj i).isSome = true → (s.obj i).isSome = true := fun i hib hi => by
    simp only [St.claimAt, upd, if_neg hib] at hi
    by_cases e2 : i = o
    · subst e2; rw [ho]; rfl
    · rwa [if_neg e2] at hi
  have hkeep : Keep b₀ β s.gen s.obj w β' (s.claimAt o b j sz cells).gen (s.claimAt o b j sz cells).obj w := by
    refine ⟨fun x hx => ⟨⟨hx.1, hx.2.1, fun i a' hi hβ => ?_⟩, rfl⟩, fun i => ?_, fun i hg hi => ?_⟩
    · by_cases hib : i = b
      · simp [β', hib] at hβ
      · simp only [β', if_neg hib] at hβ
        exact hx.2.2 i a' (hlive i hib hi) hβ
    · simp only [St.claimAt, upd]; split
      · rename_i e; subst e; omega
      · omega
    · by_cases hib : i = b
      · subst hib; simp [St.claimAt, upd] at hg
      · exact ⟨hlive i hib hi, by simp [β', hib], fun a' _ arr el fr h => ⟨arr, el, fr, h, Nat.le_refl _⟩⟩
  have hspot : ∀ ad, β o = some ad → ad.spot = none := fun ad hβ => by
    have hv := hr.f t
    rcases ht with ⟨off, ht⟩ | ⟨sz, off, len, ht⟩
    · rw [ht] at hv
      simp only [RepV, RepC] at hv
      obtain ⟨a', h1, h2, _⟩ := hv.2.2 trivial (by rw [ho]; rfl)
      rw [hβ] at h1; cases h1; exact h2
    · rw [ht] at hv
      simp only [RepV] at hv
      exact (osl_live hv rfl (by rw [ho]; rfl)).spot ad hβ
  refine ⟨β', ⟨hr.defers, hr.size, fun i => RepV.keep hkeep _ (hr.f i), fun i cells' hc' => ?_, fun i1 i2 a1 a2 l1 l2 b1 b2 hb => ?_, hr.base⟩, Nat.le_refl _, fun _ _ => rfl, hkeep, rfl, rfl⟩
  · by_cases hib : i = b
    · subst hib
      simp only [St.claimAt, upd, if_true, Option.some.injEq] at hc'
      subst hc'
      simp only [β', if_true]
      rfl
    · by_cases e2 : i = o
      · subst e2
        simp only [St.claimAt, upd, if_neg hib, if_true, Option.some.injEq] at hc'
        subst hc'
        have hob := hr.obj i cells ho
        have hβ' : β' i = β i := by simp [β', n1]
        rw [hβ']
        cases hβ : β i with
        | none => rw [hβ] at hob; have : cells = [] := hob; subst this; simp at hj
        | some ad =>
          rw [hβ] at hob
          obtain ⟨g1, arr, el, lo, hi, g2, g3, g4, g5⟩ := hob.cells (hspot ad hβ)
          refine .ofCells (hspot ad hβ) ⟨g1, arr, el, lo, hi, g2, by simpa [St.claimAt, upd, hib] using g3, by simpa using g4, fun k c hk => ?_⟩
          by_cases hkj : k = j
          · subst hkj
            have hlt := (List.getElem?_eq_some_iff.1 hj).1
            rw [List.getElem?_set_self hlt] at hk
            cases hk
            obtain ⟨v, hv, hrv⟩ := g5 k _ hj
            simp only [RepC] at hrv
            obtain rfl := hrv.inv_nsl
            refine ⟨_, hv, rfl, by simp [St.claimAt, upd], fun _ _ => ?_⟩
            simp only [β', if_true]
            exact ⟨rfl, rfl⟩
          · rw [List.getElem?_set_ne (Ne.symm hkj)] at hk
            obtain ⟨v, hv, hrv⟩ := g5 k c hk
            exact ⟨v, hv, hrv.keep hkeep⟩
      · simp only [St.claimAt, upd, if_neg hib, if_neg e2] at hc'
        have := (hr.obj i cells' hc').keep hkeep (fun _ _ => rfl)
        simpa [β', hib, St.claimAt, upd] using this
  · have h1 : i1 ≠ b := fun e => by simp [β', e] at b1
    have h2 : i2 ≠ b := fun e => by simp [β', e] at b2
    simp only [β', if_neg h1] at b1
    simp only [β', if_neg h2] at b2
    exact hr.inj i1 i2 a1 a2 (hlive i1 h1 l1) (hlive i2 h2 l2) b1 b2 hb

theorem vs_claimAt {s : St} {t o b j sz off : Nat} {cells : List C} (ht : s.f t = .one (.ptr o (s.gen o) off)) (ho : s.obj o = some cells) (hj : cells[j]? = some (.d .nsl)) (n1 : o ≠ b) : SemVs s (s.claimAt o b j sz cells) :=
  vs_claimAt' (.inl ⟨off, ht⟩) ho hj n1

end
end Go.Am

namespace Go.Am

section
variable {P : Program} {T : Nat → TI} {b₀ : Bs} {β : Loc} {w : World}

/-- The results' values. -/
def evalR (T : Nat → TI) (s : St) : List ResultVar → {K : List AV → Prop} → Box K → Prop
  | [], K, _ => K []
  | .tmp t :: r, K, _ => evalR T s r (bx fun vs => K (s.f t :: vs))
  | .cell a ty :: r, K, _ => loadA (T ty) s (s.f a) (bx fun v => evalR T s r (bx fun vs => K (v :: vs)))

theorem evalR_sound (hT : TabOk P T) {N : Nat} {s : St} {a : Act} (hr : Rel b₀ N s β a w) :
    ∀ (rs : List ResultVar) {K : List AV → Prop} {k : Box K}, evalR T s rs k → ∃ vs avs, (∀ g : ResultVar → Sem Value, (∀ t, g (.tmp t) = pure (a.tmps.getD t undef)) → (∀ x t, g (.cell x t) = do loadVar t (← asAddr (a.tmps.getD x undef))) → (rs.mapM g).run P w = .ok vs w) ∧ K avs ∧ RepVs b₀ β s.gen s.obj w avs vs
  | [], K, k, h => ⟨[], [], fun _ _ _ => by simp, h, by simp only [RepVs]⟩
  | .tmp t :: r, K, k, h => by
    obtain ⟨vs, avs, h1, h2, h3⟩ := evalR_sound hT hr r h
    refine ⟨_ :: vs, _ :: avs, fun g hg hg2 => ?_, h2, by simp only [RepVs]; exact ⟨_, _, rfl, hr.f t, h3⟩⟩
    simp only [List.mapM_cons, Sem.run_bind, hg, Sem.run_pure, Result.andThen_ok, h1 g hg hg2]
  | .cell x ty :: r, K, k, h => by
    unfold evalR at h
    obtain ⟨y, cv, hK, hrun, hrep⟩ := loadA_sound hT hr h (hr.f x)
    obtain ⟨vs, avs, h1, h2, h3⟩ := evalR_sound hT hr r hK
    refine ⟨cv :: vs, y :: avs, fun g hg hg2 => ?_, h2, by simp only [RepVs]; exact ⟨_, _, rfl, hrep, h3⟩⟩
    have hl := hrun w .refl
    have hcell : (g (.cell x ty)).run P w = .ok cv w := by
      rw [hg2]
      unfold Instr.loadAt at hl
      cases hv : a.tmps.getD x undef with
      | pointer p =>
        rw [hv] at hl
        cases p with
        | some p => simpa [Instr.sureAddr, asAddr] using hl
        | none => simp [Instr.sureAddr] at hl
      | _ => rw [hv] at hl; simp [Instr.sureAddr] at hl
    simp only [List.mapM_cons, Sem.run_bind, hcell, Sem.run_pure, Result.andThen_ok, h1 g hg hg2]

def pack : List AV → AV
  | [t] => t
  | ts => .tup ts
def packV : List Value → Value
  | [v] => v
  | vs => .tuple vs.toArray

theorem pack_rep {g : Nat → Nat} {ob : Obs} : ∀ {avs : List AV} {vs : List Value}, RepVs b₀ β g ob w avs vs → RepV b₀ β g ob w (pack avs) (packV vs)
  | [], vs, h => by simp only [RepVs] at h; subst h; simp only [pack, packV, RepV, RepVs]; exact ⟨[], rfl, rfl⟩
  | [t], vs, h => by simp only [RepVs] at h; obtain ⟨u, us, rfl, h1, rfl⟩ := h; exact h1
  | t :: t' :: ts, vs, h => by
    have h0 := h
    simp only [RepVs] at h
    obtain ⟨u, us, rfl, h1, u', us', rfl, h2, h3⟩ := h
    simp only [pack, packV, RepV]
    exact ⟨_, rfl, h0⟩

theorem evalR_results (hT : TabOk P T) {N : Nat} {s : St} {a : Act} (hr : Rel b₀ N s β a w) {fn : Func} {rs : List ResultVar} (hres : fn.results = rs.toArray) {K : List AV → Prop} {k : Box K} (h : evalR T s rs k) :
    ∃ v avs, (results fn a.tmps).run P w = .ok v w ∧ K avs ∧ RepV b₀ β s.gen s.obj w (pack avs) v ∧ ∃ vs, v = packV vs ∧ RepVs b₀ β s.gen s.obj w avs vs := by
  obtain ⟨vs, avs, h1, h2, h3⟩ := evalR_sound hT hr rs h
  refine ⟨packV vs, avs, ?_, h2, pack_rep h3, vs, rfl, h3⟩
  unfold results
  simp only [hres, List.mapM_toArray, Sem.run_bind, Sem.run_map]
  rw [h1 _ (fun _ => rfl) (fun _ _ => rfl)]
  simp only [Result.andThen_ok, Sem.run_pure]
  match vs with
  | [] => simp [packV]
  | [t] => simp [packV]
  | t :: t' :: ts => simp [packV]

/-- At a function's end: R of its results and its objects, perhaps told anew. -/
def RetFR (T : Nat → TI) (rs : List ResultVar) (R : AV → (Nat → Nat) → Obs → Prop) : Exit → St → Prop
  | .normal, s | .ret, s => ∃ s', SemVs s s' ∧ evalR T s' rs (bx fun avs => R (pack avs) s'.gen s'.obj)
  | _, _ => False

/-- A function, by its body's abstract code. -/
theorem fun_of_wpR (B : Nat) (hT : TabOk P T) (hm : P.follows .mixedOrders = true) {f : FuncId} {fn : Func} {c : Code} (hf : P.funcs[f]? = some fn) (hb : fn.body = some c) (hn : (fn.name == "runtime.NumGoroutine") = false)
    (rs : List ResultVar) (hres : fn.results = rs.toArray) (hok : codeOk fn.ntmps c = true) {xs : List AV} (hargs : xs.length ≤ fn.ntmps) {g : Nat → Nat} {ob : Obs} {R : AV → (Nat → Nat) → Obs → Prop}
    (h : wpC (spB P B) T c (bx (RetFR T rs R)) ⟨initF xs, g, ob⟩) : FunR P f xs g ob R := by
  refine ⟨⟨fn, hf, by rw [hb]; rfl, hn⟩, fun b₀ N β a fa w vs hr0 hv => ?_⟩
  refine calls_of_wp hf hb ?_
  have hl := hv.len
  have hr : Rel b₀ fn.ntmps ⟨initF xs, g, ob⟩ β { tmps := vs.toArray ++ Array.replicate (fn.ntmps - vs.toArray.size) undef, defers := [] } w := by
    refine ⟨rfl, by simp; omega, fun i => ?_, hr0.obj, hr0.inj, hr0.base⟩
    simp only [initF]
    cases hx : xs[i]? with
    | some x =>
      obtain ⟨v, h1, h2⟩ := hv.get hx
      have hlt : i < vs.length := (List.getElem?_eq_some_iff.1 h1).1
      have : (vs.toArray ++ Array.replicate (fn.ntmps - vs.toArray.size) undef).getD i undef = v := by
        rw [Array.getD_eq_getD_getElem?, Array.getElem?_append_left (by simpa using hlt)]
        simp [h1]
      rw [this]
      simpa only [Option.getD_some] using h2
    | none =>
      have hge : xs.length ≤ i := by simpa using hx
      have : (vs.toArray ++ Array.replicate (fn.ntmps - vs.toArray.size) undef).getD i undef = undef := by
        rw [Array.getD_eq_getD_getElem?, Array.getElem?_append_right (by simp; omega)]
        simp [Array.getElem?_replicate]
        split <;> rfl
      rw [this]
      exact undefRep
  refine wp_mono (wpC_sound (B := B) hT hm c hok hr h) (fun e a' w' hp => ?_)
  obtain ⟨s', β', hQ, hr', ht⟩ := hp
  have hres' : RetFR T rs R .ret s' → ∃ v, (results fn a'.tmps).run P w' = .ok v w' ∧ ∃ v' r g' ob' β', Ending.returned v = .returned v' ∧ R r g' ob' ∧ RepV b₀ β' g' ob' w' r v' ∧
      (∀ id cells, ob' id = some cells → ObjAt b₀ β' g' ob' w' (g' id) cells (β' id)) ∧ (∀ id id' a a', (ob' id).isSome = true → (ob' id').isSome = true → β' id = some a → β' id' = some a' → a.block = a'.block → id = id') ∧
      Tr b₀ β ⟨fa, g, ob⟩ w β' ⟨fa, g', ob'⟩ w' := by
    rintro ⟨s2, hvs, hR⟩
    obtain ⟨β2, hr2, ht2⟩ := hvs b₀ fn.ntmps β' a' w' hr'
    have hta := ht.trans ht2
    obtain ⟨v, avs, h1, h2, h3, _⟩ := evalR_results hT hr2 hres hR
    exact ⟨v, h1, v, _, _, _, β2, rfl, h2, h3, hr2.obj, hr2.inj, ⟨hta.size, hta.old, hta.keep, hta.os⟩⟩
  cases e with
  | normal => exact ⟨hr'.defers, hres' hQ⟩
  | ret => exact ⟨hr'.defers, hres' hQ⟩
  | exit id => exact hQ.elim
  | goto l => exact hQ.elim
  | panic ch => exact hQ.elim
  | outgrown => exact hQ.elim

/-- Frozen results. -/
def FrzR (s : St) : List AV → AV → Prop
  | [t], r => FrzV s t r
  | ts, r => ∃ rs, FrzVs s ts rs ∧ r = .tup rs

theorem FrzR.rep {N : Nat} {s : St} {a : Act} (hr : Rel b₀ N s β a w) : ∀ {ts : List AV} {r : AV} {vs : List Value}, FrzR s ts r → RepVs b₀ β s.gen s.obj w ts vs → RV (Own b₀ w) w r (packV vs) := by
  have hmany : ∀ (ts rs : List AV) (vs : List Value), FrzVs s ts rs → RepVs b₀ β s.gen s.obj w ts vs → RVs (Own b₀ w) w rs vs := by
    intro ts
    induction ts with
    | nil => intro rs vs h hv; simp only [FrzVs] at h; simp only [RepVs] at hv; subst h hv; simp only [RVs]
    | cons t ts ih =>
      intro rs vs h hv
      simp only [FrzVs] at h
      simp only [RepVs] at hv
      obtain ⟨r, rs', rfl, h1, h2⟩ := h
      obtain ⟨u, us, rfl, h3, h4⟩ := hv
      simp only [RVs]
      exact ⟨_, _, rfl, h1.rep hr h3, ih _ _ h2 h4⟩
  intro ts r vs h hv
  match ts, h with
  | [], ⟨rs, h1, h2⟩ =>
    subst h2
    have := hmany _ _ _ h1 hv
    simp only [RepVs] at hv
    subst hv
    simp only [RV, packV]; exact ⟨_, rfl, this⟩
  | [t], h =>
    simp only [RepVs] at hv
    obtain ⟨u, us, rfl, h1, rfl⟩ := hv
    exact FrzV.rep hr h h1
  | t :: t' :: ts, ⟨rs, h1, h2⟩ =>
    subst h2
    have := hmany _ _ _ h1 hv
    simp only [RepVs] at hv
    obtain ⟨u, us, rfl, _, u', us', rfl, _, _⟩ := hv
    simp only [RV, packV]; exact ⟨_, rfl, this⟩

/-- At a function's end: R of its results. -/
def RetQR (T : Nat → TI) (rs : List ResultVar) (R : AV → Prop) : Exit → St → Prop
  | .normal, s | .ret, s => evalR T s rs (bx fun avs => ∃ r, FrzR s avs r ∧ R r)
  | _, _ => False

theorem pure_of_wpR (hT : TabOk P T) (hm : P.follows .mixedOrders = true) {f : FuncId} {fn : Func} {c : Code} (hf : P.funcs[f]? = some fn) (hb : fn.body = some c) (hn : (fn.name == "runtime.NumGoroutine") = false)
    (rs : List ResultVar) (hres : fn.results = rs.toArray) (hok : codeOk fn.ntmps c = true) {args : List AV} (hargs : args.length ≤ fn.ntmps) {R : AV → Prop}
    (h : ∀ g, wpC (sp P) T c (bx (RetQR T rs R)) ⟨initF args, g, fun _ => none⟩) : PureR P f args R := by
  refine ⟨⟨fn, hf, by rw [hb]; rfl, hn⟩, fun J w vs hJ hv => ?_⟩
  refine calls_of_wp hf hb ?_
  have hlen : ∀ (l : List AV) (vs : List Value), RVs J w l vs → vs.length = l.length := by
    intro l
    induction l with
    | nil => intro vs h; simp only [RVs] at h; subst h; rfl
    | cons x l ih => intro vs h; simp only [RVs] at h; obtain ⟨u, us, rfl, _, h⟩ := h; simp [ih us h]
  have hl := hlen _ _ hv
  let J' : Nat → Prop := J
  have hr : Rel ⟨w.heap.size, J'⟩ fn.ntmps ⟨initF args, fun _ => 0, fun _ => none⟩ (fun _ => none) { tmps := vs.toArray ++ Array.replicate (fn.ntmps - vs.toArray.size) undef, defers := [] } w := by
    refine ⟨rfl, by simp; omega, fun i => ?_, fun id cells ho => (by cases ho), fun id id' a a' ho => (by cases ho), Nat.le_refl _⟩
    have hget : ∀ (l : List AV) (vs : List Value), RVs J w l vs → ∀ (i : Nat) (x : AV), l[i]? = some x → ∃ v, vs[i]? = some v ∧ RV J w x v := by
      intro l
      induction l with
      | nil => intro vs _ i x h; simp at h
      | cons y l ih =>
        intro vs h i x hx
        simp only [RVs] at h
        obtain ⟨u, us, rfl, h1, h2⟩ := h
        cases i with
        | zero => simp at hx; subst hx; exact ⟨u, rfl, h1⟩
        | succ i => simpa using ih us h2 i x (by simpa using hx)
    simp only [initF]
    cases hx : args[i]? with
    | some x =>
      obtain ⟨v, h1, h2⟩ := hget _ _ hv i x hx
      have hlt : i < vs.length := (List.getElem?_eq_some_iff.1 h1).1
      have : (vs.toArray ++ Array.replicate (fn.ntmps - vs.toArray.size) undef).getD i undef = v := by
        rw [Array.getD_eq_getD_getElem?, Array.getElem?_append_left (by simpa using hlt)]
        simp [h1]
      rw [this]
      simp only [Option.getD_some]
      exact RV.rep x (RV.mono (fun b hb => ⟨⟨hJ b hb, fun _ => hb, fun id a ho => by cases ho⟩, rfl⟩) x h2)
    | none =>
      have hge : args.length ≤ i := by simpa using hx
      have : (vs.toArray ++ Array.replicate (fn.ntmps - vs.toArray.size) undef).getD i undef = undef := by
        rw [Array.getD_eq_getD_getElem?, Array.getElem?_append_right (by simp; omega)]
        simp [Array.getElem?_replicate]
        split <;> rfl
      rw [this]
      exact undefRep
  refine wp_mono (wpC_sound hT hm c hok hr (h _)) (fun e a' w' hp => ?_)
  obtain ⟨s', β', hQ, hr', ht⟩ := hp
  have hres' : RetQR T rs R .ret s' → ∃ v, (results fn a'.tmps).run P w' = .ok v w' ∧ ∃ r, R r ∧ RV (Own ⟨w.heap.size, J'⟩ w') w' r v := by
    intro hQ
    obtain ⟨v, avs, h1, ⟨r, h2, h3⟩, _, vs', rfl, h4⟩ := evalR_results hT hr' hres hQ
    exact ⟨_, h1, r, h3, h2.rep hr' h4⟩
  cases e with
  | normal =>
    obtain ⟨v, h1, r, h2, h3⟩ := hres' hQ
    exact ⟨hr'.defers, v, h1, v, r, rfl, h2, ht.size, fun b hb => ht.old b hb, ht.os, h3⟩
  | ret =>
    obtain ⟨v, h1, r, h2, h3⟩ := hres' hQ
    exact ⟨hr'.defers, v, h1, v, r, rfl, h2, ht.size, fun b hb => ht.old b hb, ht.os, h3⟩
  | exit id => exact hQ.elim
  | goto l => exact hQ.elim
  | panic ch => exact hQ.elim
  | outgrown => exact hQ.elim

end

@[go_sem] theorem evalR_nil {T : Nat → TI} {s : St} {K : List AV → Prop} {k : Box K} : evalR T s [] k = K [] := Eq.trans rfl rfl
@[go_sem] theorem evalR_tmp {T : Nat → TI} {s : St} {t : Nat} {r : List ResultVar} {K : List AV → Prop} {k : Box K} : evalR T s (.tmp t :: r) k = evalR T s r (bx fun vs => K (s.f t :: vs)) := Eq.trans rfl rfl
@[go_sem] theorem evalR_cell {T : Nat → TI} {s : St} {a ty : Nat} {r : List ResultVar} {K : List AV → Prop} {k : Box K} : evalR T s (.cell a ty :: r) k = loadA (T ty) s (s.f a) (bx fun v => evalR T s r (bx fun vs => K (v :: vs))) := Eq.trans rfl rfl
@[go_sem] theorem RetQR_ret {T : Nat → TI} {rs : List ResultVar} {R : AV → Prop} {s : St} : RetQR T rs R .ret s = evalR T s rs (bx fun avs => ∃ r, FrzR s avs r ∧ R r) := Eq.trans rfl rfl
@[go_sem] theorem RetQR_normal {T : Nat → TI} {rs : List ResultVar} {R : AV → Prop} {s : St} : RetQR T rs R .normal s = evalR T s rs (bx fun avs => ∃ r, FrzR s avs r ∧ R r) := Eq.trans rfl rfl
@[go_sem] theorem frzR_one {s : St} {t r : AV} : FrzR s [t] r = FrzV s t r := Eq.trans rfl rfl

/-- Rows of plain data. -/
theorem frz_rows {α : Type} {s : St} {id g sz n : Nat} {cells : List C} (hg : s.gen id = g) (l : List α) (enc : α → List D) (ho : s.obj id = some cells) (hc : cells = l.flatMap (fun a => (enc a).map .d)) (hn : ∀ a ∈ l, ∀ x ∈ enc a, normD x = x) (hs : ∀ a ∈ l, (enc a).length = sz) (hl : l.length = n) :
    Frz s (.osl id g sz 0 n) (.sl (l.map enc)) := by
  have hfl : cells = (l.map enc).flatten.map .d := by rw [hc]; clear hn hs hl hc ho; induction l with | nil => rfl | cons a l ih => simp [ih]
  have hlen : cells.length = n * sz := by
    rw [hfl, List.length_map]
    clear hfl hc hn ho
    subst hl
    induction l with
    | nil => simp
    | cons a l ih =>
      simp only [List.map_cons, List.flatten_cons, List.length_append, List.length_cons, hs a (by simp), ih (fun b hb => hs b (by simp [hb]))]
      rw [Nat.add_mul]; omega
  refine .osl hg ho (by omega) (by simpa using hl) (fun e he => by obtain ⟨a, ha, rfl⟩ := List.mem_map.1 he; exact hs a ha) (fun j => (cells[0 + j]?).getD (.d .nsl)) (fun j x hx => ?_) (fun j x hx => ?_)
  · rw [hfl, Nat.zero_add, List.getElem?_map, hx]; rfl
  · rw [hfl, Nat.zero_add, List.getElem?_map, hx]
    simp only [Option.map_some, Option.getD_some]
    have hxn : normD x = x := by
      have hm := List.mem_of_getElem? hx
      obtain ⟨e, he, hxe⟩ := List.mem_flatten.1 hm
      obtain ⟨a, ha, rfl⟩ := List.mem_map.1 he
      exact hn a ha x hxe
    have := Frz.d (s := s) x
    rwa [hxn] at this

end Go.Am
