/- A part of the proof; no conditions. -/
import Derived.Test.YtdlogfbbcbbllaaDoorPart2
import Derived.Below
import Derived.Lib.UnsafeStr
import Derived.Laws.Externs
import Derived.WalkKit
import Derived.Lib.Builder
import Derived.Lib.Bytealg
set_option linter.unusedSimpArgs false
set_option linter.unusedVariables false
namespace Go.Am
section
variable {P : Program} {T : Nat → TI} {b₀ : Bs} {β : Loc} {w : World}

theorem mk_fresh {β : Loc} {ob : Obs} {n₀ : Nat} : ∀ {ds : List Deferred}, Mk b₀ β ob w n₀ ds → ∀ d ∈ ds, d ≠ { target := .collected w.heap.size, args := #[] }
  | [], _, d, hd, _ => by cases hd
  | d0 :: ds, hm, d, hd, he => by
    obtain ⟨⟨D, h1, _, h3, _, _⟩, hr⟩ := hm
    rcases List.mem_cons.1 hd with rfl | hd
    · rw [h1] at he
      simp only [Deferred.mk.injEq, Target.collected.injEq, and_true] at he
      have := h3.1
      omega
    · exact mk_fresh hr d hd he

theorem hook_range {α : Type} (hT : TabOk P T) {gop : Operand} {ps : Array Tmp} {assign body : Code} {s : St} {Q : Exit → St → Prop} {q : Box Q} {B : Nat} {β0 : Loc} {s0 : St} {w0 : World} {fid : FuncId} {caps : List PC} (hg : s.ev gop = .one (.clo fid caps))
    (lam : Nat) (Pr own : Nat → Prop) (hPl : Pr lam) (hol : ¬ own lam) (hop : ∀ id, own id → Pr id) (enc : α → List AV) (xs : List α) (henc : ∀ x, (enc x).length = ps.size)
    (hcm : calm assign = true) (hcm2 : calm body = true)
    (hit : ∀ g ob, (∀ id, id ≠ lam → g id = s.gen id ∧ ob id = s.obj id) → IterR P fid (caps.map pcAV) own enc g ob xs)
    (J : Nat → (Nat → Nat) → Obs → Prop) (Jx : (Nat → Nat) → Obs → Prop) (hJ : ∀ k g ob g' ob', J k g ob → (∀ id, ¬ Pr id → g' id = g id ∧ ob' id = ob id) → J k g' ob') (hJx : ∀ g ob g' ob', Jx g ob → (∀ id, ¬ Pr id → g' id = g id ∧ ob' id = ob id) → Jx g' ob')
    (h0 : J 0 s.gen s.obj)
    (hround : ∀ (k : Nat) (x : α) (g : Nat → Nat) (ob : Obs), xs[k]? = some x → J k g ob → ∀ (l : Nat) (Φ : St → Loc → List Deferred → World → Prop), KeptTr b₀ Φ →
      wpC (spF P (some l) b₀ Φ B) T assign (bx (AsgQ P T b₀ B lam l Pr body (J (k + 1)) Jx g ob)) ⟨setPs s.f ps.toList (enc x), g, ob⟩)
    (hdone : ∀ g' ob', J xs.length g' ob' → Q .normal ⟨s.f, g', ob'⟩) (hret : ∀ g' ob', Jx g' ob' → Q .ret ⟨s.f, g', ob'⟩) :
    hookC (spF P none b₀ (PhiC b₀ β0 s0 w0) B) (.rangeFunc gop ps assign body) s q := by
  refine ⟨Q, fun N β a ds w hc hr hφ => ?_, fun _ _ h => h⟩
  simp only [codeOk, Bool.and_eq_true] at hc
  have hsl : ∀ p ∈ ps.toList, p < N := fun p hp => of_decide_eq_true (List.all_eq_true.1 hc.1.1 p hp)
  have hc : codeOk N assign = true ∧ codeOk N body = true := ⟨hc.1.2, hc.2⟩
  refine wpIn_rangeFunc fun fn _ => ?_
  obtain ⟨rec, hrec⟩ : ∃ rec : LoopState → Option Code → Loop, rec = fun st pe => { state := st, pending := pe, fn, tmps := a.tmps, params := ps, assign, body, defers := w.heap.size } := ⟨_, rfl⟩
  obtain ⟨f, g, ob⟩ := s
  -- the two blocks
  obtain ⟨hrD, htD⟩ := hr.grow (w' := w.alloc (.deferred (some []))) (by simp) (fun b hb => RowKit.Below.heap_alloc w _ b hb) ⟨rfl, rfl⟩
  have hD0 : (w.alloc (.deferred (some []))).heap[w.heap.size]? = some (.deferred (some [])) := World.alloc_heap_new w _
  have himD : Imm b₀ β ob (w.alloc (.deferred (some []))) w.heap.size := by
    refine ⟨by simp, fun h => absurd hr.base (by omega), fun id a' ho hβ he => ?_⟩
    obtain ⟨cells, hcells⟩ := Option.isSome_iff_exists.1 ho
    have := hr.obj id cells hcells
    rw [hβ] at this
    have := this.block.2
    omega
  obtain ⟨W1, hW1⟩ : ∃ W1, (w.alloc (.deferred (some []))).alloc (.loop (rec .ready none)) = W1 := ⟨_, rfl⟩
  have hsz1 : (w.alloc (.deferred (some []))).heap.size = w.heap.size + 1 := by simp
  obtain ⟨hr1, ht1⟩ := hrD.newAny (c := 0) lam (w' := (w.alloc (.deferred (some []))).alloc (.loop (rec .ready none))) (o := .loop (rec .ready none)) (ad := ⟨w.heap.size + 1, 0, some 100⟩) (cs := [.raw (.loop (rec .ready none))]) (by simp) rfl ⟨rfl, rfl⟩
    (fun _ => .ofMap (kd := 100) rfl ⟨by have := hrD.base; simp at this ⊢; omega, .inr ⟨rfl, _, rfl, by have := World.alloc_heap_new (w.alloc (.deferred (some []))) (.loop (rec .ready none)); rwa [hsz1] at this⟩⟩)
  rw [hW1] at hr1 ht1
  obtain ⟨l, hl⟩ : ∃ l, w.heap.size + 1 = l := ⟨_, rfl⟩
  rw [hl] at hr1 ht1
  obtain ⟨g1, hg1⟩ : ∃ g1, upd g lam (nxC 0 (g lam)) = g1 := ⟨_, rfl⟩
  obtain ⟨ob1, hob1⟩ : ∃ ob1, upd ob lam (some [C.raw (.loop (rec .ready none))]) = ob1 := ⟨_, rfl⟩
  obtain ⟨β1, hβ1⟩ : ∃ β1, upd β lam (some (⟨l, 0, some 100⟩ : Addr)) = β1 := ⟨_, rfl⟩
  have hr1 : Rel b₀ N ⟨f, g1, ob1⟩ β1 a W1 := by rw [← hg1, ← hob1, ← hβ1]; exact hr1
  have ht1 : Tr b₀ β ⟨f, g, ob⟩ (w.alloc (.deferred (some []))) β1 ⟨f, g1, ob1⟩ W1 := by rw [← hg1, ← hob1, ← hβ1]; exact ht1
  have htW : Tr b₀ β ⟨f, g, ob⟩ w β1 ⟨f, g1, ob1⟩ W1 := htD.trans ht1
  have hob1l : ob1 lam = some [C.raw (.loop (rec .ready none))] := by rw [← hob1]; simp [upd]
  have hβ1l : β1 lam = some ⟨l, 0, some 100⟩ := by rw [← hβ1]; simp [upd]
  have hagree : ∀ id, id ≠ lam → g1 id = g id ∧ ob1 id = ob id := fun id hid => by rw [← hg1, ← hob1]; simp [upd, hid]
  -- the iterator
  obtain ⟨hfine, hiter⟩ := hit g1 ob1 hagree
  have hvg := hr.ev gop
  rw [hg] at hvg
  simp only [RepV, RepC] at hvg
  obtain ⟨vs, hv1, hv2, hv3⟩ := hvg
  have hcv : RepVs b₀ β g ob w (caps.map pcAV) vs.toList := caps_rep (by simpa using hv2) (fun i pc hi => let ⟨u, h1, h2⟩ := hv3 i pc hi; ⟨u, by simpa using h1, h2⟩)
  have hcv1 : RepVs b₀ β1 g1 ob1 W1 (caps.map pcAV) vs.toList := RepVs.keep htW.keep _ hcv
  obtain ⟨Φ, hΦd⟩ : ∃ Φ : (Nat → Nat) → Obs → Loc → World → Prop, Φ = fun g' ob' β' w' => Tr b₀ β1 ⟨f, g1, ob1⟩ W1 β' ⟨f, g', ob'⟩ w' := ⟨_, rfl⟩
  have hΦ : KeptTr b₀ (onObj Φ) := fun s β ds w s' β' w' h ht => ⟨h.1, by
    have h2 := h.2
    rw [hΦd] at h2 ⊢
    have ht' : Tr b₀ β ⟨f, s.gen, s.obj⟩ w β' ⟨f, s'.gen, s'.obj⟩ w' := ⟨ht.size, ht.old, ht.keep, ht.os⟩
    exact h2.trans ht'⟩
  -- the record's place stays
  have hplace : ∀ {g' : Nat → Nat} {ob' : Obs} {β' : Loc} {w' : World} {o : Obj}, Φ g' ob' β' w' → g' lam = g1 lam → ob' lam = some [.raw o] → β' lam = some ⟨l, 0, some 100⟩ := fun h h1 h2 => by
    rw [hΦd] at h
    obtain ⟨_, h3, _⟩ := h.keep.live lam h1 (by simp [h2])
    rw [h3]; exact hβ1l
  have hcalls := hiter b₀ Φ l (fun k g' ob' => J k g' ob' ∧ g' lam = g1 lam ∧ ob' lam = some [.raw (.loop (rec .ready none))]) (fun g' ob' => Jx g' ob' ∧ g' lam = g1 lam ∧ ob' lam = some [.raw (.loop (rec .done (some .ret)))]) hΦ
    (fun k g2 ob2 g' ob' h hs => ⟨hJ _ _ _ _ _ h.1 (fun id hid => hs id (fun ho => hid (hop id ho))), by rw [(hs lam hol).1]; exact h.2.1, by rw [(hs lam hol).2]; exact h.2.2⟩)
    (fun g2 ob2 g' ob' h hs => ⟨hJx _ _ _ _ h.1 (fun id hid => hs id (fun ho => hid (hop id ho))), by rw [(hs lam hol).1]; exact h.2.1, by rw [(hs lam hol).2]; exact h.2.2⟩)
    ?round ⟨hJ 0 g ob g1 ob1 h0 (fun id hid => hagree id (fun h => hid (h ▸ hPl))), by rfl, hob1l⟩ N β1 a f W1 vs.toList hr1 (by rw [hΦd]; exact Tr.refl) hcv1
  case round =>
    rintro k x g2 ob2 hx ⟨hJk, hgl, hol2⟩ N2 β2 a2 fa w2 us hr2 hφ2 hus
    have hβ2 := hplace hφ2 hgl hol2
    have hl2 := raw_at hr2 hol2 hβ2
    have ht2 : Tr b₀ β1 ⟨f, g1, ob1⟩ W1 β2 ⟨f, g2, ob2⟩ w2 := by rw [hΦd] at hφ2; exact hφ2
    have hlen : us.length = ps.size := by rw [hus.len, henc]
    have hy := run_yield (P := P) (args := us.toArray) hl2 (by rw [hrec]; simpa using hlen)
    obtain ⟨hset, hsize⟩ := setPs_rep (ps := ps.toList) (xs := enc x) (vs := us) (f := f) (t := a.tmps) (fun p hp => by rw [hr.size]; exact hsl p hp) (fun i => RepV.keep ht2.keep _ (hr1.f i)) hus
    obtain ⟨T0, hT0⟩ : ∃ T0, (ps.toList.zip us).foldl (fun t (p : Nat × Value) => t.setIfInBounds p.1 p.2) a.tmps = T0 := ⟨_, rfl⟩
    rw [hT0] at hset hsize
    have hfold : ((ps.zip us.toArray).foldl (fun tmps (t, v) => tmps.setIfInBounds t v) a.tmps) = T0 := by
      rw [← hT0, ← Array.foldl_toList]
      simp
    have hy : (Instr.yield l us.toArray).run P w2 = .ok (.round l fn T0 assign body) w2 := by rw [hy, hrec]; simp only; rw [hfold]
    refine ⟨fn, T0, assign, body, hy, roundIn_of_wpIn trivial ?_⟩
    show Code.wpIn (fen (some l)) 0 P assign _ _ _
    have hrR : Rel b₀ N ⟨setPs f ps.toList (enc x), g2, ob2⟩ β2 { tmps := T0, defers := [] } w2 := ⟨rfl, by simp only; rw [hsize, hr.size], hset, hr2.obj, hr2.inj, hr2.base⟩
    obtain ⟨ΦR, hΦRd⟩ : ∃ ΦR : (Nat → Nat) → Obs → Loc → World → Prop, ΦR = fun g' ob' β' w' => Tr b₀ β2 ⟨fa, g2, ob2⟩ w2 β' ⟨fa, g', ob'⟩ w' := ⟨_, rfl⟩
    have hΦR : KeptTr b₀ (onObj ΦR) := fun s β ds w s' β' w' h ht => ⟨h.1, by
      have h2 := h.2
      rw [hΦRd] at h2 ⊢
      have ht' : Tr b₀ β ⟨fa, s.gen, s.obj⟩ w β' ⟨fa, s'.gen, s'.obj⟩ w' := ⟨ht.size, ht.old, ht.keep, ht.os⟩
      exact h2.trans ht'⟩
    refine wpIn_mono (wpC_soundF (rd := some l) (B := B) (ds := []) hT hΦR assign hcm hc.1 hrR ⟨rfl, by rw [hΦRd]; exact Tr.refl⟩ (hround k x g2 ob2 hx hJk l _ hΦR)) (fun e a' w3 hp => ?_)
    obtain ⟨s3, β3, a3, ds3, rfl, hQ, hr3, rfl, hφ3⟩ := hp
    cases e with
    | normal =>
      obtain ⟨hsame, hbody⟩ := hQ
      obtain ⟨f3, g3, ob3⟩ := s3
      have ht3 : Tr b₀ β2 ⟨fa, g2, ob2⟩ w2 β3 ⟨fa, g3, ob3⟩ w3 := by rw [hΦRd] at hφ3; exact hφ3
      have hs3 := hsame lam hPl
      simp only at hs3
      have hol3 : ob3 lam = some [C.raw (.loop (rec .ready none))] := by rw [hs3.2]; exact hol2
      have hβ3 : β3 lam = some ⟨l, 0, some 100⟩ := by rw [(ht3.keep.live lam hs3.1 (by simp [hol3])).2.1]; exact hβ2
      have hl3 := raw_at hr3 hol3 hβ3
      have hbeg := run_beginRound (P := P) hl3 (by rw [hrec])
      obtain ⟨o4, ho4, hno4⟩ : ∃ o4, Obj.loop { rec .ready none with state := .busy } = o4 ∧ ∀ arr el fr, o4 ≠ .cells arr el fr := ⟨_, rfl, by intro _ _ _ h; cases h⟩
      rw [ho4] at hbeg
      obtain ⟨hr4, t4⟩ := rel_setRaw hr3 hol3 hβ3 o4 hno4
      have t4' : Tr b₀ β3 ⟨fa, g3, ob3⟩ w3 β3 ⟨fa, g3, upd ob3 lam (some [.raw o4])⟩ (w3.putObj l o4) := ⟨t4.size, t4.old, t4.keep, t4.os⟩
      refine ⟨_, hbeg, ?_⟩
      show Code.wpIn (fen (some l)) 0 P body _ _ _
      refine wpIn_mono (wpC_soundF (rd := some l) (B := B) (ds := []) hT hΦR body hcm2 hc.2 hr4 ⟨rfl, by rw [hΦRd]; exact ht3.trans t4'⟩ (hbody o4 _ hΦR)) (fun e a' w5 hp => ?_)
      obtain ⟨s5, β5, a5, ds5, rfl, hQ, hr5, rfl, hφ5⟩ := hp
      obtain ⟨f5, g5, ob5⟩ := s5
      have ht5 : Tr b₀ β2 ⟨fa, g2, ob2⟩ w2 β5 ⟨fa, g5, ob5⟩ w5 := by rw [hΦRd] at hφ5; exact hφ5
      have fin : (∀ id, Pr id → g5 id = g3 id ∧ ob5 id = upd ob3 lam (some [C.raw o4]) id) → ∀ (jump : Option Code) (st : LoopState), (if jump.isNone then LoopState.ready else .done) = st →
          ∃ w6, (Instr.endRound l jump).run P w5 = .ok (.bool jump.isNone) w6 ∧ Rel b₀ N ⟨f5, g5, upd ob5 lam (some [.raw (.loop (rec st jump))])⟩ β5 a5 w6 ∧ Tr b₀ β2 ⟨fa, g2, ob2⟩ w2 β5 ⟨fa, g5, upd ob5 lam (some [.raw (.loop (rec st jump))])⟩ w6 ∧
            (∀ id, own id → g5 id = g2 id ∧ upd ob5 lam (some [.raw (.loop (rec st jump))]) id = ob2 id) ∧ g5 lam = g1 lam := by
        intro hs jump st hst
        have h5 := hs lam hPl
        have hol5 : ob5 lam = some [C.raw o4] := by rw [h5.2]; simp [upd]
        have hβ5 : β5 lam = some ⟨l, 0, some 100⟩ := by rw [(ht5.keep.live lam (by simp only; rw [h5.1, hs3.1]) (by simp [hol5])).2.1]; exact hβ2
        have hl5 := raw_at hr5 hol5 hβ5
        rw [← ho4] at hl5
        have hend := run_endRound (P := P) jump hl5
        have ho6 : Obj.loop { ({ rec .ready none with state := .busy } : Loop) with state := if jump.isNone then .ready else .done, pending := jump } = .loop (rec st jump) := by rw [hst, hrec]
        rw [ho6] at hend
        obtain ⟨r6, t6⟩ := rel_setRaw hr5 hol5 hβ5 (.loop (rec st jump)) (by intro _ _ _ h; cases h)
        have t6' : Tr b₀ β5 ⟨fa, g5, ob5⟩ w5 β5 ⟨fa, g5, upd ob5 lam (some [.raw (.loop (rec st jump))])⟩ (w5.putObj l (.loop (rec st jump))) := ⟨t6.size, t6.old, t6.keep, t6.os⟩
        refine ⟨_, hend, r6, ht5.trans t6', fun id ho => ?_, by rw [h5.1, hs3.1, hgl]⟩
        have hne : id ≠ lam := fun he => hol (he ▸ ho)
        have e5 := hs id (hop id ho)
        have e3 := hsame id (hop id ho)
        simp only [upd, hne, if_false] at e5 ⊢
        exact ⟨e5.1.trans e3.1, e5.2.trans e3.2⟩
      cases e with
      | normal =>
        obtain ⟨hs, hJ1⟩ := hQ
        obtain ⟨w6, e1, e2, e3, e4, e5⟩ := fin hs none .ready rfl
        refine ⟨_, w6, e1, _, bv true, g5, _, β5, rfl, ⟨e4, .inl ⟨rfl, hJ _ _ _ _ _ hJ1 (fun id hid => ⟨rfl, ?_⟩), e5, by simp [upd]⟩⟩, by simp only [RepV, RepC]; exact .bool _, e2.obj, e2.inj, e3⟩
        simp only [upd]; rw [if_neg (fun he => hid (by rw [he]; exact hPl))]
      | ret =>
        obtain ⟨hs, hJ1⟩ := hQ
        obtain ⟨w6, e1, e2, e3, e4, e5⟩ := fin hs (some .ret) .done rfl
        refine ⟨_, w6, e1, _, bv false, g5, _, β5, rfl, ⟨e4, .inr ⟨rfl, hJx _ _ _ _ hJ1 (fun id hid => ⟨rfl, ?_⟩), e5, by simp [upd]⟩⟩, by simp only [RepV, RepC]; exact .bool _, e2.obj, e2.inj, e3⟩
        simp only [upd]; rw [if_neg (fun he => hid (by rw [he]; exact hPl))]
      | exit id => exact hQ.elim
      | goto t => exact hQ.elim
      | panic ch => exact hQ.elim
      | outgrown => exact hQ.elim
    | exit id => exact hQ.elim
    | goto t => exact hQ.elim
    | ret => exact hQ.elim
    | panic ch => exact hQ.elim
    | outgrown => exact hQ.elim
  have henter := run_enterLoop_outer (P := P) (w := w) fn a.tmps ps assign body
  rw [show ((w.alloc (.deferred (some []))).alloc (.loop { state := .ready, pending := none, fn, tmps := a.tmps, params := ps, assign, body, defers := w.heap.size })) = W1 from by rw [← hW1, hrec], hl] at henter
  refine ⟨l, [{ target := .collected w.heap.size, args := #[] }], W1, { target := .fn (.func fid) vs, args := #[.func (.yield l) #[] #[]] }, W1, fid, #[.func (.yield l) #[] #[]] ++ vs, W1, henter, ?_, fun _ _ => trivial, ?_, fun h => (by cases h), ?_⟩
  · have : ({ a with defers := ds } : Act).eval gop = a.eval gop := rfl
    simp only [resolve, this, hv1]
    simp [go_sem]
  · obtain ⟨fn', h1, h2, h3⟩ := hfine
    have h2 : ¬ fn'.body = none := by intro h; rw [h] at h2; simp at h2
    have h3 : ¬ fn'.name = "runtime.NumGoroutine" := by simpa using h3
    simp [invoke, callFunc, h1, h2, h3]
  · rw [show vs.toList.toArray = vs from Array.ext' (by simp)] at hcalls
    refine hcalls.mono ?_
    rintro e W3 ⟨v, g3, ob3, β3, rfl, hout, hob3, hin3, hB3, hφ3⟩
    have ht3 : Tr b₀ β1 ⟨f, g1, ob1⟩ W1 β3 ⟨f, g3, ob3⟩ W3 := by rw [hΦd] at hφ3; exact hφ3
    have hr3 : Rel b₀ N ⟨f, g3, ob3⟩ β3 a W3 := ⟨hr.defers, hr.size, fun i => RepV.keep ht3.keep _ (hr1.f i), hob3, hin3, hB3⟩
    have fin : ∀ (st : LoopState) (pe : Option Code), st ≠ .busy → g3 lam = g1 lam → ob3 lam = some [C.raw (.loop (rec st pe))] →
        ∃ w4 o4, (Instr.endLoop l).run P W3 = .ok pe w4 ∧ Rel b₀ N ⟨f, g3, upd ob3 lam (some [.raw o4])⟩ β3 a w4 ∧
          PhiC b₀ β0 s0 w0 ⟨f, g3, upd ob3 lam (some [.raw o4])⟩ β3 ([{ target := .collected w.heap.size, args := #[] }] ++ ds) w4 := by
      intro st pe hst h1 h2
      have hβ3 := hplace hφ3 h1 h2
      have hl3 := raw_at hr3 h2 hβ3
      have hend := run_endLoop (P := P) hl3 (by rw [hrec]; exact hst)
      have hpe : (rec st pe).pending = pe := by rw [hrec]
      obtain ⟨o4, ho4, hno⟩ : ∃ o4, Obj.loop { rec st pe with state := .exhausted } = o4 ∧ ∀ arr el fr, o4 ≠ .cells arr el fr := ⟨_, rfl, by intro _ _ _ h; cases h⟩
      rw [ho4, hpe] at hend
      obtain ⟨r4, t4⟩ := rel_setRaw hr3 h2 hβ3 o4 hno
      refine ⟨_, o4, hend, r4, hφ.1.trans (htW.trans (ht3.trans t4)), ⟨w.heap.size, rfl, hφ.1.size, ?_, ?_, fun d' hd' he => ?_⟩, hφ.2.keep (htW.trans (ht3.trans t4))⟩
      · exact ((ht1.trans (ht3.trans t4)).imm _ himD).1
      · rw [((ht1.trans (ht3.trans t4)).imm _ himD).2]; exact hD0
      · exact mk_fresh hφ.2 d' hd' he
    rcases hout with ⟨hJn, h1, h2⟩ | ⟨hJxn, h1, h2⟩
    · obtain ⟨w4, o4, e1, e2, e3⟩ := fin _ _ (by simp) h1 h2
      refine ⟨none, w4, e1, _, β3, a, _, rfl, hdone _ _ (hJ _ _ _ _ _ hJn (fun id hid => ⟨rfl, ?_⟩)), e2, e3⟩
      simp only [upd]; rw [if_neg (fun he => hid (by rw [he]; exact hPl))]
    · obtain ⟨w4, o4, e1, e2, e3⟩ := fin _ _ (by simp) h1 h2
      refine ⟨some .ret, w4, e1, wpIn_ret ⟨_, β3, a, _, rfl, hret _ _ (hJx _ _ _ _ hJxn (fun id hid => ⟨rfl, ?_⟩)), e2, e3⟩⟩
      simp only [upd]; rw [if_neg (fun he => hid (by rw [he]; exact hPl))]
end
end Go.Am

namespace Go.Am

section
variable {P : Program} {T : Nat → TI} {b₀ : Bs} {β : Loc} {w : World}

def St.claimAt (s : St) (o b j sz : Nat) (cells : List C) : St := ⟨s.f, upd s.gen b (s.gen b + 1), upd (upd s.obj o (some (cells.set j (.osl b (s.gen b + 1) sz 0 0)))) b (some [])⟩

theorem vs_claimAt' {s : St} {t o b j sz : Nat} {cells : List C} (ht : (∃ off, s.f t = .one (.ptr o (s.gen o) off)) ∨ ∃ sz off len, s.f t = .one (.osl o (s.gen o) sz off len)) (ho : s.obj o = some cells) (hj : cells[j]? = some (.d .nsl)) (n1 : o ≠ b) : SemVs s (s.claimAt o b j sz cells) := by
  intro b₀ N β a w hr
  let β' : Loc := fun i => if i = b then none else β i
  have hlive : ∀ i, i ≠ b → ((s.claimAt o b j sz cells).obj i).isSome = true → (s.obj i).isSome = true := fun i hib hi => by
    simp only [St.claimAt, upd, if_neg hib] at hi
    by_cases e2 : i = o
    · subst e2; rw [ho]; rfl
    · rwa [if_neg e2] at hi
  have hkeep : Keep b₀ β s.gen s.obj w β' (s.claimAt o b j sz cells).gen (s.claimAt o b j sz cells).obj w := by
    refine ⟨fun x hx => ⟨⟨hx.1, hx.2.1, fun i a' hi hβ => ?_⟩, rfl⟩, fun i => ?_, fun i hg hi => ?_⟩
    · by_cases hib : i = b
      · simp [β', hib] at hβ
      · simp only [β', if_neg hib] at hβ
        exact hx.2.2 i a' (hlive i hib hi) hβ
    · simp only [St.claimAt, upd]; split
      · rename_i e; subst e; omega
      · omega
    · by_cases hib : i = b
      · subst hib; simp [St.claimAt, upd] at hg
      · exact ⟨hlive i hib hi, by simp [β', hib], fun a' _ arr el fr h => ⟨arr, el, fr, h, Nat.le_refl _⟩⟩
  have hspot : ∀ ad, β o = some ad → ad.spot = none := fun ad hβ => by
    have hv := hr.f t
    rcases ht with ⟨off, ht⟩ | ⟨sz, off, len, ht⟩
    · rw [ht] at hv
      simp only [RepV, RepC] at hv
      obtain ⟨a', h1, h2, _⟩ := hv.2.2 trivial (by rw [ho]; rfl)
      rw [hβ] at h1; cases h1; exact h2
    · rw [ht] at hv
      simp only [RepV] at hv
      exact (osl_live hv rfl (by rw [ho]; rfl)).spot ad hβ
  refine ⟨β', ⟨hr.defers, hr.size, fun i => RepV.keep hkeep _ (hr.f i), fun i cells' hc' => ?_, fun i1 i2 a1 a2 l1 l2 b1 b2 hb => ?_, hr.base⟩, Nat.le_refl _, fun _ _ => rfl, hkeep, rfl, rfl⟩
  · by_cases hib : i = b
    · subst hib
      simp only [St.claimAt, upd, if_true, Option.some.injEq] at hc'
      subst hc'
      simp only [β', if_true]
      rfl
    · by_cases e2 : i = o
      · subst e2
        simp only [St.claimAt, upd, if_neg hib, if_true, Option.some.injEq] at hc'
        subst hc'
        have hob := hr.obj i cells ho
        have hβ' : β' i = β i := by simp [β', n1]
        rw [hβ']
        cases hβ : β i with
        | none => rw [hβ] at hob; have : cells = [] := hob; subst this; simp at hj
        | some ad =>
          rw [hβ] at hob
          obtain ⟨g1, arr, el, lo, hi, g2, g3, g4, g5⟩ := hob.cells (hspot ad hβ)
          refine .ofCells (hspot ad hβ) ⟨g1, arr, el, lo, hi, g2, by simpa [St.claimAt, upd, hib] using g3, by simpa using g4, fun k c hk => ?_⟩
          by_cases hkj : k = j
          · subst hkj
            have hlt := (List.getElem?_eq_some_iff.1 hj).1
            rw [List.getElem?_set_self hlt] at hk
            cases hk
            obtain ⟨v, hv, hrv⟩ := g5 k _ hj
            simp only [RepC] at hrv
            obtain rfl := hrv.inv_nsl
            refine ⟨_, hv, rfl, by simp [St.claimAt, upd], fun _ _ => ?_⟩
            simp only [β', if_true]
            exact ⟨rfl, rfl⟩
          · rw [List.getElem?_set_ne (Ne.symm hkj)] at hk
            obtain ⟨v, hv, hrv⟩ := g5 k c hk
            exact ⟨v, hv, hrv.keep hkeep⟩
      · simp only [St.claimAt, upd, if_neg hib, if_neg e2] at hc'
        have := (hr.obj i cells' hc').keep hkeep (fun _ _ => rfl)
        simpa [β', hib, St.claimAt, upd] using this
  · have h1 : i1 ≠ b := fun e => by simp [β', e] at b1
    have h2 : i2 ≠ b := fun e => by simp [β', e] at b2
    simp only [β', if_neg h1] at b1
    simp only [β', if_neg h2] at b2
    exact hr.inj i1 i2 a1 a2 (hlive i1 h1 l1) (hlive i2 h2 l2) b1 b2 hb

theorem vs_claimAt {s : St} {t o b j sz off : Nat} {cells : List C} (ht : s.f t = .one (.ptr o (s.gen o) off)) (ho : s.obj o = some cells) (hj : cells[j]? = some (.d .nsl)) (n1 : o ≠ b) : SemVs s (s.claimAt o b j sz cells) :=
  vs_claimAt' (.inl ⟨off, ht⟩) ho hj n1

end
end Go.Am

namespace Go.Am

section
variable {P : Program} {T : Nat → TI} {b₀ : Bs} {β : Loc} {w : World}

/-- The results' values. -/
def evalR (T : Nat → TI) (s : St) : List ResultVar → {K : List AV → Prop} → Box K → Prop
  | [], K, _ => K []
  | .tmp t :: r, K, _ => evalR T s r (bx fun vs => K (s.f t :: vs))
  | .cell a ty :: r, K, _ => loadA (T ty) s (s.f a) (bx fun v => evalR T s r (bx fun vs => K (v :: vs)))

theorem evalR_sound (hT : TabOk P T) {N : Nat} {s : St} {a : Act} (hr : Rel b₀ N s β a w) :
    ∀ (rs : List ResultVar) {K : List AV → Prop} {k : Box K}, evalR T s rs k → ∃ vs avs, (∀ g : ResultVar → Sem Value, (∀ t, g (.tmp t) = pure (a.tmps.getD t undef)) → (∀ x t, g (.cell x t) = do loadVar t (← asAddr (a.tmps.getD x undef))) → (rs.mapM g).run P w = .ok vs w) ∧ K avs ∧ RepVs b₀ β s.gen s.obj w avs vs
  | [], K, k, h => ⟨[], [], fun _ _ _ => by simp, h, by simp only [RepVs]⟩
  | .tmp t :: r, K, k, h => by
    obtain ⟨vs, avs, h1, h2, h3⟩ := evalR_sound hT hr r h
    refine ⟨_ :: vs, _ :: avs, fun g hg hg2 => ?_, h2, by simp only [RepVs]; exact ⟨_, _, rfl, hr.f t, h3⟩⟩
    simp only [List.mapM_cons, Sem.run_bind, hg, Sem.run_pure, Result.andThen_ok, h1 g hg hg2]
  | .cell x ty :: r, K, k, h => by
    unfold evalR at h
    obtain ⟨y, cv, hK, hrun, hrep⟩ := loadA_sound hT hr h (hr.f x)
    obtain ⟨vs, avs, h1, h2, h3⟩ := evalR_sound hT hr r hK
    refine ⟨cv :: vs, y :: avs, fun g hg hg2 => ?_, h2, by simp only [RepVs]; exact ⟨_, _, rfl, hrep, h3⟩⟩
    have hl := hrun w .refl
    have hcell : (g (.cell x ty)).run P w = .ok cv w := by
      rw [hg2]
      unfold Instr.loadAt at hl
      cases hv : a.tmps.getD x undef with
      | pointer p =>
        rw [hv] at hl
        cases p with
        | some p => simpa [Instr.sureAddr, asAddr] using hl
        | none => simp [Instr.sureAddr] at hl
      | _ => rw [hv] at hl; simp [Instr.sureAddr] at hl
    simp only [List.mapM_cons, Sem.run_bind, hcell, Sem.run_pure, Result.andThen_ok, h1 g hg hg2]

def pack : List AV → AV
  | [t] => t
  | ts => .tup ts
def packV : List Value → Value
  | [v] => v
  | vs => .tuple vs.toArray

theorem pack_rep {g : Nat → Nat} {ob : Obs} : ∀ {avs : List AV} {vs : List Value}, RepVs b₀ β g ob w avs vs → RepV b₀ β g ob w (pack avs) (packV vs)
  | [], vs, h => by simp only [RepVs] at h; subst h; simp only [pack, packV, RepV, RepVs]; exact ⟨[], rfl, rfl⟩
  | [t], vs, h => by simp only [RepVs] at h; obtain ⟨u, us, rfl, h1, rfl⟩ := h; exact h1
  | t :: t' :: ts, vs, h => by
    have h0 := h
    simp only [RepVs] at h
    obtain ⟨u, us, rfl, h1, u', us', rfl, h2, h3⟩ := h
    simp only [pack, packV, RepV]
    exact ⟨_, rfl, h0⟩

theorem evalR_results (hT : TabOk P T) {N : Nat} {s : St} {a : Act} (hr : Rel b₀ N s β a w) {fn : Func} {rs : List ResultVar} (hres : fn.results = rs.toArray) {K : List AV → Prop} {k : Box K} (h : evalR T s rs k) :
    ∃ v avs, (results fn a.tmps).run P w = .ok v w ∧ K avs ∧ RepV b₀ β s.gen s.obj w (pack avs) v ∧ ∃ vs, v = packV vs ∧ RepVs b₀ β s.gen s.obj w avs vs := by
  obtain ⟨vs, avs, h1, h2, h3⟩ := evalR_sound hT hr rs h
  refine ⟨packV vs, avs, ?_, h2, pack_rep h3, vs, rfl, h3⟩
  unfold results
  simp only [hres, List.mapM_toArray, Sem.run_bind, Sem.run_map]
  rw [h1 _ (fun _ => rfl) (fun _ _ => rfl)]
  simp only [Result.andThen_ok, Sem.run_pure]
  match vs with
  | [] => simp [packV]
  | [t] => simp [packV]
  | t :: t' :: ts => simp [packV]

/-- At a function's end: R of its results and its objects, perhaps told anew. -/
def RetFR (T : Nat → TI) (rs : List ResultVar) (R : AV → (Nat → Nat) → Obs → Prop) : Exit → St → Prop
  | .normal, s | .ret, s => ∃ s', SemVs s s' ∧ evalR T s' rs (bx fun avs => R (pack avs) s'.gen s'.obj)
  | _, _ => False

/-- A function, by its body's abstract code. -/
theorem fun_of_wpR (B : Nat) (hT : TabOk P T) (hm : P.follows .mixedOrders = true) {f : FuncId} {fn : Func} {c : Code} (hf : P.funcs[f]? = some fn) (hb : fn.body = some c) (hn : (fn.name == "runtime.NumGoroutine") = false)
    (rs : List ResultVar) (hres : fn.results = rs.toArray) (hok : codeOk fn.ntmps c = true) {xs : List AV} (hargs : xs.length ≤ fn.ntmps) {g : Nat → Nat} {ob : Obs} {R : AV → (Nat → Nat) → Obs → Prop}
    (h : wpC (spB P B) T c (bx (RetFR T rs R)) ⟨initF xs, g, ob⟩) : FunR P f xs g ob R := by
  refine ⟨⟨fn, hf, by rw [hb]; rfl, hn⟩, fun b₀ N β a fa w vs hr0 hv => ?_⟩
  refine calls_of_wp hf hb ?_
  have hl := hv.len
  have hr : Rel b₀ fn.ntmps ⟨initF xs, g, ob⟩ β { tmps := vs.toArray ++ Array.replicate (fn.ntmps - vs.toArray.size) undef, defers := [] } w := by
    refine ⟨rfl, by simp; omega, fun i => ?_, hr0.obj, hr0.inj, hr0.base⟩
    simp only [initF]
    cases hx : xs[i]? with
    | some x =>
      obtain ⟨v, h1, h2⟩ := hv.get hx
      have hlt : i < vs.length := (List.getElem?_eq_some_iff.1 h1).1
      have : (vs.toArray ++ Array.replicate (fn.ntmps - vs.toArray.size) undef).getD i undef = v := by
        rw [Array.getD_eq_getD_getElem?, Array.getElem?_append_left (by simpa using hlt)]
        simp [h1]
      rw [this]
      simpa only [Option.getD_some] using h2
    | none =>
      have hge : xs.length ≤ i := by simpa using hx
      have : (vs.toArray ++ Array.replicate (fn.ntmps - vs.toArray.size) undef).getD i undef = undef := by
        rw [Array.getD_eq_getD_getElem?, Array.getElem?_append_right (by simp; omega)]
        simp [Array.getElem?_replicate]
        split <;> rfl
      rw [this]
      exact undefRep
  refine wp_mono (wpC_sound (B := B) hT hm c hok hr h) (fun e a' w' hp => ?_)
  obtain ⟨s', β', hQ, hr', ht⟩ := hp
  have hres' : RetFR T rs R .ret s' → ∃ v, (results fn a'.tmps).run P w' = .ok v w' ∧ ∃ v' r g' ob' β', Ending.returned v = .returned v' ∧ R r g' ob' ∧ RepV b₀ β' g' ob' w' r v' ∧
      (∀ id cells, ob' id = some cells → ObjAt b₀ β' g' ob' w' (g' id) cells (β' id)) ∧ (∀ id id' a a', (ob' id).isSome = true → (ob' id').isSome = true → β' id = some a → β' id' = some a' → a.block = a'.block → id = id') ∧
      Tr b₀ β ⟨fa, g, ob⟩ w β' ⟨fa, g', ob'⟩ w' := by
    rintro ⟨s2, hvs, hR⟩
    obtain ⟨β2, hr2, ht2⟩ := hvs b₀ fn.ntmps β' a' w' hr'
    have hta := ht.trans ht2
    obtain ⟨v, avs, h1, h2, h3, _⟩ := evalR_results hT hr2 hres hR
    exact ⟨v, h1, v, _, _, _, β2, rfl, h2, h3, hr2.obj, hr2.inj, ⟨hta.size, hta.old, hta.keep, hta.os⟩⟩
  cases e with
  | normal => exact ⟨hr'.defers, hres' hQ⟩
  | ret => exact ⟨hr'.defers, hres' hQ⟩
  | exit id => exact hQ.elim
  | goto l => exact hQ.elim
  | panic ch => exact hQ.elim
  | outgrown => exact hQ.elim

/-- Frozen results. -/
def FrzR (s : St) : List AV → AV → Prop
  | [t], r => FrzV s t r
  | ts, r => ∃ rs, FrzVs s ts rs ∧ r = .tup rs

theorem FrzR.rep {N : Nat} {s : St} {a : Act} (hr : Rel b₀ N s β a w) : ∀ {ts : List AV} {r : AV} {vs : List Value}, FrzR s ts r → RepVs b₀ β s.gen s.obj w ts vs → RV (Own b₀ w) w r (packV vs) := by
  have hmany : ∀ (ts rs : List AV) (vs : List Value), FrzVs s ts rs → RepVs b₀ β s.gen s.obj w ts vs → RVs (Own b₀ w) w rs vs := by
    intro ts
    induction ts with
    | nil => intro rs vs h hv; simp only [FrzVs] at h; simp only [RepVs] at hv; subst h hv; simp only [RVs]
    | cons t ts ih =>
      intro rs vs h hv
      simp only [FrzVs] at h
      simp only [RepVs] at hv
      obtain ⟨r, rs', rfl, h1, h2⟩ := h
      obtain ⟨u, us, rfl, h3, h4⟩ := hv
      simp only [RVs]
      exact ⟨_, _, rfl, h1.rep hr h3, ih _ _ h2 h4⟩
  intro ts r vs h hv
  match ts, h with
  | [], ⟨rs, h1, h2⟩ =>
    subst h2
    have := hmany _ _ _ h1 hv
    simp only [RepVs] at hv
    subst hv
    simp only [RV, packV]; exact ⟨_, rfl, this⟩
  | [t], h =>
    simp only [RepVs] at hv
    obtain ⟨u, us, rfl, h1, rfl⟩ := hv
    exact FrzV.rep hr h h1
  | t :: t' :: ts, ⟨rs, h1, h2⟩ =>
    subst h2
    have := hmany _ _ _ h1 hv
    simp only [RepVs] at hv
    obtain ⟨u, us, rfl, _, u', us', rfl, _, _⟩ := hv
    simp only [RV, packV]; exact ⟨_, rfl, this⟩

/-- At a function's end: R of its results. -/
def RetQR (T : Nat → TI) (rs : List ResultVar) (R : AV → Prop) : Exit → St → Prop
  | .normal, s | .ret, s => evalR T s rs (bx fun avs => ∃ r, FrzR s avs r ∧ R r)
  | _, _ => False

theorem pure_of_wpR (hT : TabOk P T) (hm : P.follows .mixedOrders = true) {f : FuncId} {fn : Func} {c : Code} (hf : P.funcs[f]? = some fn) (hb : fn.body = some c) (hn : (fn.name == "runtime.NumGoroutine") = false)
    (rs : List ResultVar) (hres : fn.results = rs.toArray) (hok : codeOk fn.ntmps c = true) {args : List AV} (hargs : args.length ≤ fn.ntmps) {R : AV → Prop}
    (h : ∀ g, wpC (sp P) T c (bx (RetQR T rs R)) ⟨initF args, g, fun _ => none⟩) : PureR P f args R := by
  refine ⟨⟨fn, hf, by rw [hb]; rfl, hn⟩, fun J w vs hJ hv => ?_⟩
  refine calls_of_wp hf hb ?_
  have hlen : ∀ (l : List AV) (vs : List Value), RVs J w l vs → vs.length = l.length := by
    intro l
    induction l with
    | nil => intro vs h; simp only [RVs] at h; subst h; rfl
    | cons x l ih => intro vs h; simp only [RVs] at h; obtain ⟨u, us, rfl, _, h⟩ := h; simp [ih us h]
  have hl := hlen _ _ hv
  let J' : Nat → Prop := J
  have hr : Rel ⟨w.heap.size, J'⟩ fn.ntmps ⟨initF args, fun _ => 0, fun _ => none⟩ (fun _ => none) { tmps := vs.toArray ++ Array.replicate (fn.ntmps - vs.toArray.size) undef, defers := [] } w := by
    refine ⟨rfl, by simp; omega, fun i => ?_, fun id cells ho => (by cases ho), fun id id' a a' ho => (by cases ho), Nat.le_refl _⟩
    have hget : ∀ (l : List AV) (vs : List Value), RVs J w l vs → ∀ (i : Nat) (x : AV), l[i]? = some x → ∃ v, vs[i]? = some v ∧ RV J w x v := by
      intro l
      induction l with
      | nil => intro vs _ i x h; simp at h
      | cons y l ih =>
        intro vs h i x hx
        simp only [RVs] at h
        obtain ⟨u, us, rfl, h1, h2⟩ := h
        cases i with
        | zero => simp at hx; subst hx; exact ⟨u, rfl, h1⟩
        | succ i => simpa using ih us h2 i x (by simpa using hx)
    simp only [initF]
    cases hx : args[i]? with
    | some x =>
      obtain ⟨v, h1, h2⟩ := hget _ _ hv i x hx
      have hlt : i < vs.length := (List.getElem?_eq_some_iff.1 h1).1
      have : (vs.toArray ++ Array.replicate (fn.ntmps - vs.toArray.size) undef).getD i undef = v := by
        rw [Array.getD_eq_getD_getElem?, Array.getElem?_append_left (by simpa using hlt)]
        simp [h1]
      rw [this]
      simp only [Option.getD_some]
      exact RV.rep x (RV.mono (fun b hb => ⟨⟨hJ b hb, fun _ => hb, fun id a ho => by cases ho⟩, rfl⟩) x h2)
    | none =>
      have hge : args.length ≤ i := by simpa using hx
      have : (vs.toArray ++ Array.replicate (fn.ntmps - vs.toArray.size) undef).getD i undef = undef := by
        rw [Array.getD_eq_getD_getElem?, Array.getElem?_append_right (by simp; omega)]
        simp [Array.getElem?_replicate]
        split <;> rfl
      rw [this]
      exact undefRep
  refine wp_mono (wpC_sound hT hm c hok hr (h _)) (fun e a' w' hp => ?_)
  obtain ⟨s', β', hQ, hr', ht⟩ := hp
  have hres' : RetQR T rs R .ret s' → ∃ v, (results fn a'.tmps).run P w' = .ok v w' ∧ ∃ r, R r ∧ RV (Own ⟨w.heap.size, J'⟩ w') w' r v := by
    intro hQ
    obtain ⟨v, avs, h1, ⟨r, h2, h3⟩, _, vs', rfl, h4⟩ := evalR_results hT hr' hres hQ
    exact ⟨_, h1, r, h3, h2.rep hr' h4⟩
  cases e with
  | normal =>
    obtain ⟨v, h1, r, h2, h3⟩ := hres' hQ
    exact ⟨hr'.defers, v, h1, v, r, rfl, h2, ht.size, fun b hb => ht.old b hb, ht.os, h3⟩
  | ret =>
    obtain ⟨v, h1, r, h2, h3⟩ := hres' hQ
    exact ⟨hr'.defers, v, h1, v, r, rfl, h2, ht.size, fun b hb => ht.old b hb, ht.os, h3⟩
  | exit id => exact hQ.elim
  | goto l => exact hQ.elim
  | panic ch => exact hQ.elim
  | outgrown => exact hQ.elim

end

@[go_sem] theorem evalR_nil {T : Nat → TI} {s : St} {K : List AV → Prop} {k : Box K} : evalR T s [] k = K [] := Eq.trans rfl rfl
@[go_sem] theorem evalR_tmp {T : Nat → TI} {s : St} {t : Nat} {r : List ResultVar} {K : List AV → Prop} {k : Box K} : evalR T s (.tmp t :: r) k = evalR T s r (bx fun vs => K (s.f t :: vs)) := Eq.trans rfl rfl
@[go_sem] theorem evalR_cell {T : Nat → TI} {s : St} {a ty : Nat} {r : List ResultVar} {K : List AV → Prop} {k : Box K} : evalR T s (.cell a ty :: r) k = loadA (T ty) s (s.f a) (bx fun v => evalR T s r (bx fun vs => K (v :: vs))) := Eq.trans rfl rfl
@[go_sem] theorem RetQR_ret {T : Nat → TI} {rs : List ResultVar} {R : AV → Prop} {s : St} : RetQR T rs R .ret s = evalR T s rs (bx fun avs => ∃ r, FrzR s avs r ∧ R r) := Eq.trans rfl rfl
@[go_sem] theorem RetQR_normal {T : Nat → TI} {rs : List ResultVar} {R : AV → Prop} {s : St} : RetQR T rs R .normal s = evalR T s rs (bx fun avs => ∃ r, FrzR s avs r ∧ R r) := Eq.trans rfl rfl
@[go_sem] theorem frzR_one {s : St} {t r : AV} : FrzR s [t] r = FrzV s t r := Eq.trans rfl rfl

/-- Rows of plain data. -/
theorem frz_rows {α : Type} {s : St} {id g sz n : Nat} {cells : List C} (hg : s.gen id = g) (l : List α) (enc : α → List D) (ho : s.obj id = some cells) (hc : cells = l.flatMap (fun a => (enc a).map .d)) (hn : ∀ a ∈ l, ∀ x ∈ enc a, normD x = x) (hs : ∀ a ∈ l, (enc a).length = sz) (hl : l.length = n) :
    Frz s (.osl id g sz 0 n) (.sl (l.map enc)) := by
  have hfl : cells = (l.map enc).flatten.map .d := by rw [hc]; clear hn hs hl hc ho; induction l with | nil => rfl | cons a l ih => simp [ih]
  have hlen : cells.length = n * sz := by
    rw [hfl, List.length_map]
    clear hfl hc hn ho
    subst hl
    induction l with
    | nil => simp
    | cons a l ih =>
      simp only [List.map_cons, List.flatten_cons, List.length_append, List.length_cons, hs a (by simp), ih (fun b hb => hs b (by simp [hb]))]
      rw [Nat.add_mul]; omega
  refine .osl hg ho (by omega) (by simpa using hl) (fun e he => by obtain ⟨a, ha, rfl⟩ := List.mem_map.1 he; exact hs a ha) (fun j => (cells[0 + j]?).getD (.d .nsl)) (fun j x hx => ?_) (fun j x hx => ?_)
  · rw [hfl, Nat.zero_add, List.getElem?_map, hx]; rfl
  · rw [hfl, Nat.zero_add, List.getElem?_map, hx]
    simp only [Option.map_some, Option.getD_some]
    have hxn : normD x = x := by
      have hm := List.mem_of_getElem? hx
      obtain ⟨e, he, hxe⟩ := List.mem_flatten.1 hm
      obtain ⟨a, ha, rfl⟩ := List.mem_map.1 he
      exact hn a ha x hxe
    have := Frz.d (s := s) x
    rwa [hxn] at this

end Go.Am

namespace Go.Am

/-- The same memory, but for blocks of deferred calls that no object lies in. -/
structure Shut (b₀ : Bs) (β : Loc) (ob : Obs) (n₀ : Nat) (w w' : World) : Prop where
  size : w'.heap.size = w.heap.size
  os : w'.os = w.os ∧ w'.output = w.output
  same : ∀ b, w'.heap[b]? = w.heap[b]? ∨ (n₀ ≤ b ∧ Imm b₀ β ob w b ∧ (∃ x, w.heap[b]? = some (.deferred x)) ∧ ∃ x, w'.heap[b]? = some (.deferred x))

section
variable {P : Program} {T : Nat → TI} {b₀ : Bs} {β : Loc} {g : Nat → Nat} {ob : Obs} {n₀ : Nat} {w w' : World}

theorem Shut.refl : Shut b₀ β ob n₀ w w := ⟨rfl, ⟨rfl, rfl⟩, fun _ => .inl rfl⟩
theorem Shut.trans {w'' : World} (h : Shut b₀ β ob n₀ w w') (h' : Shut b₀ β ob n₀ w' w'') : Shut b₀ β ob n₀ w w'' := by
  refine ⟨h'.size.trans h.size, ⟨h'.os.1.trans h.os.1, h'.os.2.trans h.os.2⟩, fun b => ?_⟩
  rcases h.same b with e | ⟨e1, e2, e3, e4⟩
  · rcases h'.same b with e' | ⟨e1', e2', e3', e4'⟩
    · exact .inl (e'.trans e)
    · exact .inr ⟨e1', by unfold Imm at *; rw [h.size] at e2'; exact e2', by rw [← e]; exact e3', e4'⟩
  · rcases h'.same b with e' | ⟨e1', e2', e3', e4'⟩
    · exact .inr ⟨e1, e2, e3, by rw [e']; exact e4⟩
    · exact .inr ⟨e1, e2, e3, e4'⟩

theorem Shut.cell (h : Shut b₀ β ob n₀ w w') {a : Addr} {v : Value} (hc : w.cell? a = some v) : w'.cell? a = some v := by
  rcases h.same a.block with e | ⟨_, _, ⟨x, e⟩, _⟩
  · rw [cell?_of_heap e]; exact hc
  · simp [World.cell?, e] at hc

theorem Shut.imm (h : Shut b₀ β ob n₀ w w') {b : Nat} (hb : Imm b₀ β ob w b) : Imm b₀ β ob w' b := by unfold Imm at *; rw [h.size]; exact hb

theorem RepD.shut {J J' : Nat → Prop} {x : D} {v : Value} (h : RepD J w x v) (hJ : ∀ b, J b → J' b) (hc : ∀ a v, w.cell? a = some v → w'.cell? a = some v) : RepD J' w' x v := by
  induction h with
  | bool b => exact .bool b
  | int k n => exact .int k n
  | str s => exact .str s
  | nsl => exact .nsl
  | nilp => exact .nilp
  | nilf => exact .nilf
  | nili => exact .nili
  | nilm => exact .nilm
  | fn f => exact .fn f
  | yld l => exact .yld l
  | sl0 => exact .sl0
  | sl vals hcap hj hsz hcl hr ih => exact .sl vals hcap (fun h => hJ _ (hj h)) hsz (fun i e he j x hx => hc _ _ (hcl i e he j x hx)) ih
  | iptr vals hj hcl hr ih => exact .iptr vals (fun h => hJ _ (hj h)) (fun j x hx => hc _ _ (hcl j x hx)) ih

theorem RepPC.shut (h : Shut b₀ β ob n₀ w w') {c : PC} {v : Value} (hr : RepPC b₀ β g ob w c v) : RepPC b₀ β g ob w' c v := by
  cases c with
  | d x => exact RepD.shut hr (fun _ => h.imm) (fun _ _ => h.cell)
  | ptr id g1 off => exact hr

theorem RepC.shut (h : Shut b₀ β ob n₀ w w') {c : C} {v : Value} (hr : RepC b₀ β g ob w c v) : RepC b₀ β g ob w' c v := by
  cases c with
  | d x => exact RepD.shut hr (fun _ => h.imm) (fun _ _ => h.cell)
  | osl id g1 sz off len =>
    obtain ⟨h1, h2, h3⟩ := hr
    refine ⟨h1, h2, fun hg ho => ?_⟩
    have h4 := h3 hg ho
    cases hβ : β id with
    | none => rw [hβ] at h4; exact h4
    | some a =>
      rw [hβ] at h4
      obtain ⟨h5, h6⟩ := h4
      refine ⟨h5, ?_⟩
      rcases h6 with ⟨cap, q1, q2, q3⟩ | h6
      · refine .inl ⟨cap, q1, q2, fun arr el fr hh => ?_⟩
        rcases h.same a.block with e | ⟨_, _, _, ⟨x, e⟩⟩
        · exact q3 arr el fr (by rw [← e]; exact hh)
        · rw [e] at hh; cases hh
      · exact .inr h6
  | ptr id g1 off => exact hr
  | clo f caps =>
    obtain ⟨vs, h1, h2, h3⟩ := hr
    exact ⟨vs, h1, h2, fun i pc hp => let ⟨u, hu, hr⟩ := h3 i pc hp; ⟨u, hu, hr.shut h⟩⟩
  | mp id g1 kd => exact hr
  | lsl n => exact hr
  | raw o => exact hr

theorem RepCs.shut (h : Shut b₀ β ob n₀ w w') {cs : List C} {vs : Array Value} (hr : RepCs b₀ β g ob w cs vs) : RepCs b₀ β g ob w' cs vs :=
  ⟨hr.1, fun i c hc => let ⟨u, hu, hr⟩ := hr.2 i c hc; ⟨u, hu, hr.shut h⟩⟩

mutual
theorem RepV.shut (h : Shut b₀ β ob n₀ w w') : (x : AV) → {v : Value} → RepV b₀ β g ob w x v → RepV b₀ β g ob w' x v
  | .one _, _, hr => by simp only [RepV] at hr ⊢; exact RepC.shut h hr
  | .agg _, _, hr => by simp only [RepV] at hr ⊢; obtain ⟨vs, h1, h2⟩ := hr; exact ⟨vs, h1, h2.shut h⟩
  | .tup ts, _, hr => by simp only [RepV] at hr ⊢; obtain ⟨vs, h1, h2⟩ := hr; exact ⟨vs, h1, RepVs.shut h ts h2⟩
  | .junk, _, _ => by simp only [RepV]
theorem RepVs.shut (h : Shut b₀ β ob n₀ w w') : (x : List AV) → {v : List Value} → RepVs b₀ β g ob w x v → RepVs b₀ β g ob w' x v
  | [], _, hr => by simp only [RepVs] at hr ⊢; exact hr
  | t :: ts, _, hr => by simp only [RepVs] at hr ⊢; obtain ⟨u, us, h1, h2, h3⟩ := hr; exact ⟨u, us, h1, RepV.shut h t h2, RepVs.shut h ts h3⟩
end

theorem Rel.shut {N : Nat} {s : St} {a : Act} (hr : Rel b₀ N s β a w) (h : Shut b₀ β s.obj n₀ w w') : Rel b₀ N s β a w' := by
  refine ⟨hr.defers, hr.size, fun i => RepV.shut h _ (hr.f i), fun id cells ho => ?_, hr.inj, by rw [h.size]; exact hr.base⟩
  have h1 := hr.obj id cells ho
  cases hβ : β id with
  | none => rw [hβ] at h1; exact h1
  | some ad =>
    rw [hβ] at h1
    have he : w'.heap[ad.block]? = w.heap[ad.block]? := by
      rcases h.same ad.block with e | ⟨_, e, _⟩
      · exact e
      · exact absurd rfl (e.2.2 id ad (by simp [ho]) hβ)
    cases hs : ad.spot with
    | none =>
      obtain ⟨h2, arr, el, lo, hi, h3, h4, h5, h6⟩ := h1.cells hs
      exact .ofCells hs ⟨h2, arr, el, lo, hi, by rw [he]; exact h3, h4, h5, fun j c hc => let ⟨v, hv, hr⟩ := h6 j c hc; ⟨v, hv, hr.shut h⟩⟩
    | some kd =>
      obtain ⟨h2, ⟨es, clock, h3, h4⟩ | ⟨hk100, o, h3, h4⟩⟩ := h1.map hs
      · exact .ofMap hs ⟨h2, .inl ⟨es, clock, by rw [he]; exact h3, h4.mono fun _ _ => RepC.shut h⟩⟩
      · exact .ofMap hs ⟨h2, .inr ⟨hk100, o, h3, by rw [he]; exact h4⟩⟩

theorem Mk.put {D : Nat} {o : Obj} : ∀ {ds : List Deferred}, Mk b₀ β ob w n₀ ds → (∀ d' ∈ ds, d' ≠ { target := .collected D, args := #[] }) → Mk b₀ β ob (w.putObj D o) n₀ ds
  | [], _, _ => trivial
  | d :: ds, hm, hne => by
    obtain ⟨⟨E, h1, h2, h3, h4, h5⟩, hr⟩ := hm
    have hE : E ≠ D := fun he => hne d (by simp) (by rw [h1, he])
    exact ⟨⟨E, h1, h2, by unfold Imm at *; simpa using h3, by rw [World.putObj_heap_other hE]; exact h4, h5⟩, hr.put (fun d' hd' => hne d' (by simp [hd']))⟩

/-- An activation's marks are taken up. -/
theorem leaves_marks {fn : Func} {tmps : Array Value} {R : Ending → World → Prop} : ∀ {ds : List Deferred} {w : World}, Mk b₀ β ob w n₀ ds →
    (∀ w5, Shut b₀ β ob n₀ w w5 → ∃ v, (results fn tmps).run P w5 = .ok v w5 ∧ R (.returned v) w5) → LeavesInM (fen none) 0 P fn tmps R ds .returning w
  | [], w, _, h => h w .refl
  | d :: ds, w, hm, h => by
    obtain ⟨⟨D, h1, h2, h3, h4, h5⟩, hr⟩ := hm
    refine ⟨by simp, .inl ⟨D, _, by rw [h1], run_takeDeferred h4, ?_⟩⟩
    have hlt : D < w.heap.size := h3.1
    have hsh : Shut b₀ β ob n₀ w (w.putObj D (.deferred none)) := ⟨by simp, ⟨rfl, rfl⟩, fun b => by
      by_cases hb : b = D
      · subst hb
        exact .inr ⟨h2, h3, ⟨_, h4⟩, ⟨none, World.putObj_heap_same hlt⟩⟩
      · exact .inl (World.putObj_heap_other hb)⟩
    exact leaves_marks (hr.put (fun d' hd' => by rw [← h1]; exact h5 d' hd')) (fun w5 h6 => h w5 (hsh.trans h6))

/-- A function that hands back data, and may hold loops over functions. -/
theorem pure_of_wpRF (B : Nat) (hT : TabOk P T) {f : FuncId} {fn : Func} {c : Code} (hf : P.funcs[f]? = some fn) (hb : fn.body = some c) (hn : (fn.name == "runtime.NumGoroutine") = false)
    (rs : List ResultVar) (hres : fn.results = rs.toArray) (hcm : calm c = true) (hok : codeOk fn.ntmps c = true) {args : List AV} (hargs : args.length ≤ fn.ntmps) {R : AV → Prop}
    (h : ∀ b₀ β0 s0 w0 g, wpC (spF P none b₀ (PhiC b₀ β0 s0 w0) B) T c (bx (RetQR T rs R)) ⟨initF args, g, fun _ => none⟩) : PureR P f args R := by
  refine ⟨⟨fn, hf, by rw [hb]; rfl, hn⟩, fun J w vs hJ hv => ?_⟩
  refine calls_of_fen (n := 0) (callsIn_of_wp_marks hf hb trivial ?_)
  have hlen : ∀ (l : List AV) (vs : List Value), RVs J w l vs → vs.length = l.length := by
    intro l
    induction l with
    | nil => intro vs h; simp only [RVs] at h; subst h; rfl
    | cons x l ih => intro vs h; simp only [RVs] at h; obtain ⟨u, us, rfl, _, h⟩ := h; simp [ih us h]
  have hl := hlen _ _ hv
  let J' : Nat → Prop := J
  have hr : Rel ⟨w.heap.size, J'⟩ fn.ntmps ⟨initF args, fun _ => 0, fun _ => none⟩ (fun _ => none) { tmps := vs.toArray ++ Array.replicate (fn.ntmps - vs.toArray.size) undef, defers := [] } w := by
    refine ⟨rfl, by simp; omega, fun i => ?_, fun id cells ho => (by cases ho), fun id id' a a' ho => (by cases ho), Nat.le_refl _⟩
    have hget : ∀ (l : List AV) (vs : List Value), RVs J w l vs → ∀ (i : Nat) (x : AV), l[i]? = some x → ∃ v, vs[i]? = some v ∧ RV J w x v := by
      intro l
      induction l with
      | nil => intro vs _ i x h; simp at h
      | cons y l ih =>
        intro vs h i x hx
        simp only [RVs] at h
        obtain ⟨u, us, rfl, h1, h2⟩ := h
        cases i with
        | zero => simp at hx; subst hx; exact ⟨u, rfl, h1⟩
        | succ i => simpa using ih us h2 i x (by simpa using hx)
    simp only [initF]
    cases hx : args[i]? with
    | some x =>
      obtain ⟨v, h1, h2⟩ := hget _ _ hv i x hx
      have hlt : i < vs.length := (List.getElem?_eq_some_iff.1 h1).1
      have : (vs.toArray ++ Array.replicate (fn.ntmps - vs.toArray.size) undef).getD i undef = v := by
        rw [Array.getD_eq_getD_getElem?, Array.getElem?_append_left (by simpa using hlt)]
        simp [h1]
      rw [this]
      simp only [Option.getD_some]
      exact RV.rep x (RV.mono (fun b hb => ⟨⟨hJ b hb, fun _ => hb, fun id a ho => by cases ho⟩, rfl⟩) x h2)
    | none =>
      have hge : args.length ≤ i := by simpa using hx
      have : (vs.toArray ++ Array.replicate (fn.ntmps - vs.toArray.size) undef).getD i undef = undef := by
        rw [Array.getD_eq_getD_getElem?, Array.getElem?_append_right (by simp; omega)]
        simp [Array.getElem?_replicate]
        split <;> rfl
      rw [this]
      exact undefRep
  refine wpIn_mono (wpC_soundF (rd := none) (B := B) (ds := []) hT kept_phiC c hcm hok hr ⟨Tr.refl, trivial⟩ (h _ _ _ w _)) (fun e a' w' hp => ?_)
  obtain ⟨s', β', a0, ds', rfl, hQ, hr', ht, hmk⟩ := hp
  have hres' : RetQR T rs R .ret s' → bodyPostM (fen none) 0 P fn (fun e w' => ∃ v r, e = .returned v ∧ R r ∧ w.heap.size ≤ w'.heap.size ∧ (∀ b, b < w.heap.size → w'.heap[b]? = w.heap[b]?) ∧ (w'.os = w.os ∧ w'.output = w.output) ∧ RV (Own ⟨w.heap.size, J'⟩ w') w' r v) .ret { a0 with defers := ds' } w' := by
    intro hQ
    refine leaves_marks hmk (fun w5 h5 => ?_)
    obtain ⟨v, avs, h1, ⟨r, h2, h3⟩, _, vs', rfl, h4⟩ := evalR_results hT (hr'.shut h5) hres hQ
    refine ⟨_, h1, _, r, rfl, h3, by rw [h5.size]; exact ht.size, fun b hb => ?_, ⟨h5.os.1.trans ht.os.1, h5.os.2.trans ht.os.2⟩, h2.rep (hr'.shut h5) h4⟩
    rcases h5.same b with e | ⟨e, _⟩
    · rw [e]; exact ht.old b hb
    · omega
  cases e with
  | normal => exact hres' hQ
  | ret => exact hres' hQ
  | exit id => exact hQ.elim
  | goto l => exact hQ.elim
  | panic ch => exact hQ.elim
  | outgrown => exact hQ.elim

end
end Go.Am

namespace Go.Am
section
variable {P : Program} {T : Nat → TI} {b₀ : Bs} {β : Loc} {w : World}

theorem scArgs_eq {g : Nat → Nat} {ob : Obs} : ∀ {xs : List AV} {vs : List Value}, (xs.all fun x => match x with | .one c => scalarC c | _ => false) = true → RepVs b₀ β g ob w xs vs → vs = xs.map scVal
  | [], vs, _, h => by simp only [RepVs] at h; exact h
  | x :: xs, vs, hs, h => by
    simp only [RepVs] at h
    obtain ⟨u, us, rfl, h1, h2⟩ := h
    simp only [List.all_cons, Bool.and_eq_true] at hs
    rw [List.map_cons, ← scArgs_eq hs.2 h2]
    congr 1
    cases x with
    | one c =>
      simp only [RepV] at h1
      simp only [scVal]
      cases c with
      | d x => simp only [RepC] at h1; exact RepD.scalar hs.1 h1
      | _ => simp [scalarC] at hs
    | _ => simp at hs

/-- A call of a function without a body, that reads no memory. -/
theorem hook_extern {o : Oper} {s : St} {K : St → Prop} {k : Box K} {B : Nat} {f : FuncId} {args : Array Operand} {tys : Array TypeId} (ho : o.op = .call ⟨.value (.func f), args, tys⟩)
    (hs : ((args.toList.map s.ev).all fun x => match x with | .one c => scalarC c | _ => false) = true) {x : D} (hx : scalarD x = true)
    (hrun : ∀ w : World, (callFunc f ((args.toList.map s.ev).map scVal).toArray).run P w = .ok (.value (scD x)) w) (hk : K (s.put o.dst (.one (.d x)))) : hookA (spB P B) o s k := by
  refine ⟨fun s' => s' = s.put o.dst (.one (.d x)), fun b₀ N β a w hr hd next Q hn => ?_, fun _ e => e ▸ hk⟩
  have hv := scArgs_eq hs (args_rep hr args.toList)
  have h := hrun w
  rw [← hv, show (args.toList.map a.eval).toArray = args.map a.eval from Array.ext' (by simp)] at h
  have hex : (execOp a.eval o).run P w = .ok (.value (scD x)) w := by
    simp [execOp, ho, resolve, Act.eval, Deferred.ofValue, invoke]
    exact h
  exact wp_value hex (hn _ β _ w rfl (hr.put hd (by simp only [RepV, RepC]; exact scD_rep hx)) (Tr.same (St.put_gen _ _ _) (St.put_obj _ _ _) rfl))

theorem hook_usd_nil {o : Oper} {s : St} {K : St → Prop} {k : Box K} {B : Nat} {x : Operand} {tys : Array TypeId} (ho : o.op = .call ⟨.builtin .unsafeSliceData, #[x], tys⟩) (hx : s.ev x = .one (.d .nsl)) (hk : K (s.put o.dst (.one (.d .nilp)))) : hookA (spB P B) o s k := by
  refine ⟨fun s' => s' = s.put o.dst (.one (.d .nilp)), fun b₀ N β a w hr hd next Q hn => ?_, fun _ e => e ▸ hk⟩
  have hv := hr.ev x
  rw [hx] at hv
  simp only [RepV, RepC] at hv
  have hv := hv.inv_nsl
  have hex : (execOp a.eval o).run P w = .ok (.value (.pointer none)) w := by
    simp [execOp, ho, resolve, invoke, hv, builtin, Lib.run_unsafeSliceData_nil]
  exact wp_value hex (hn _ β _ w rfl (hr.put hd (by simp only [RepV, RepC]; exact .nilp)) (Tr.same (St.put_gen _ _ _) (St.put_obj _ _ _) rfl))

theorem hook_usd {o : Oper} {s : St} {K : St → Prop} {k : Box K} {B : Nat} {x : Operand} {tys : Array TypeId} (ho : o.op = .call ⟨.builtin .unsafeSliceData, #[x], tys⟩) {id g off len : Nat} (hx : s.ev x = .one (.osl id g 1 off len)) (hg : s.gen id = g) (hob : (s.obj id).isSome = true) (hl : 0 < len)
    (hk : K (s.put o.dst (.one (.ptr id g off)))) : hookA (spB P B) o s k := by
  refine ⟨fun s' => s' = s.put o.dst (.one (.ptr id g off)), fun b₀ N β a w hr hd next Q hn => ?_, fun _ e => e ▸ hk⟩
  have hv := hr.ev x
  rw [hx] at hv
  simp only [RepV, RepC] at hv
  obtain ⟨_, hle, hat⟩ := hv
  have hat := hat hg hob
  cases hβ : β id with
  | none => rw [hβ] at hat; have := hat.1; omega
  | some ad =>
    rw [hβ] at hat
    obtain ⟨hsp, ⟨cap, hv, hc, _⟩ | ⟨h0, _⟩⟩ := hat
    · have hex : (execOp a.eval o).run P w = .ok (.value (.pointer (some ⟨ad.block, ad.off + off, none⟩))) w := by
        have := Lib.run_unsafeSliceData_row (P := P) (w := w) tys o.type ⟨ad.block, ad.off + off, none⟩ len cap (by omega)
        simp [execOp, ho, resolve, invoke, hv, builtin, this]
      refine wp_value hex (hn _ β _ w rfl (hr.put hd ?_) (Tr.same (St.put_gen _ _ _) (St.put_obj _ _ _) rfl))
      simp only [RepV, RepC]
      exact ⟨rfl, hle, fun _ _ => ⟨ad, hβ, hsp, rfl⟩⟩
    · omega

theorem hook_ustr_nil {o : Oper} {s : St} {K : St → Prop} {k : Box K} {B : Nat} {p n : Operand} {t1 t2 : TypeId} (ho : o.op = .call ⟨.builtin .unsafeString, #[p, n], #[t1, t2]⟩) (hp : s.ev p = .one (.d .nilp)) (hn0 : s.ev n = iv .i64 0) (hk : K (s.put o.dst (sv []))) : hookA (spB P B) o s k := by
  refine ⟨fun s' => s' = s.put o.dst (sv []), fun b₀ N β a w hr hd next Q hn => ?_, fun _ e => e ▸ hk⟩
  have hv := hr.ev p
  have hw := hr.ev n
  rw [hp] at hv
  rw [hn0] at hw
  simp only [RepV, RepC] at hv hw
  have hw := hw.inv_int
  have hv : a.eval p = .pointer none := by generalize a.eval p = v at hv; cases hv; rfl
  have hex : (execOp a.eval o).run P w = .ok (.value (.string .empty)) w := by
    simp [execOp, ho, resolve, invoke, hv, hw, builtin, Lib.run_unsafeString_none]
  refine wp_value hex (hn _ β _ w rfl (hr.put hd ?_) (Tr.same (St.put_gen _ _ _) (St.put_obj _ _ _) rfl))
  simp only [RepV, RepC]
  exact .str []

theorem freeze_size (w : World) (a : Addr) (n : Nat) : (w.freeze a n).heap.size = w.heap.size := by unfold World.freeze; split <;> simp
theorem freeze_os (w : World) (a : Addr) (n : Nat) : (w.freeze a n).os = w.os ∧ (w.freeze a n).output = w.output := by unfold World.freeze; split <;> exact ⟨rfl, rfl⟩
theorem freeze_other (w : World) (a : Addr) (n : Nat) {b : Nat} (hb : b ≠ a.block) : (w.freeze a n).heap[b]? = w.heap[b]? := by
  unfold World.freeze
  split
  · rfl
  · simp only [Array.getElem?_modify]
    rw [if_neg (fun e => hb e.symm)]

/-- An object is given up, and its block turns. -/
theorem rel_gone {N : Nat} {s : St} {a : Act} (hr : Rel b₀ N s β a w) {id : Nat} {ad : Addr} (ho : (s.obj id).isSome = true) (hβ : β id = some ad) {w' : World} (hsz : w'.heap.size = w.heap.size) (hos : w'.os = w.os ∧ w'.output = w.output) (hoth : ∀ b, b ≠ ad.block → w'.heap[b]? = w.heap[b]?) :
    Rel b₀ N { s with obj := upd s.obj id none } β a w' ∧ Tr b₀ β s w β { s with obj := upd s.obj id none } w' := by
  have hB : b₀.B ≤ ad.block := by
    obtain ⟨cells, hc⟩ := Option.isSome_iff_exists.1 ho
    have := hr.obj id cells hc
    rw [hβ] at this
    exact this.block.1
  have hlive : ∀ i, (upd s.obj id none i).isSome = true → i ≠ id ∧ (s.obj i).isSome = true := fun i hi => by
    simp only [upd] at hi
    by_cases hid : i = id
    · simp [hid] at hi
    · rw [if_neg hid] at hi; exact ⟨hid, hi⟩
  have hne : ∀ i a', (upd s.obj id none i).isSome = true → β i = some a' → a'.block ≠ ad.block := fun i a' hi ha' hb => (hlive i hi).1 (hr.inj i id a' ad (hlive i hi).2 ho ha' hβ hb)
  have hkeep : Keep b₀ β s.gen s.obj w β s.gen (upd s.obj id none) w' := by
    refine ⟨fun b hb => ?_, fun _ => Nat.le_refl _, fun i _ hi => ?_⟩
    · have hnb : b ≠ ad.block := fun he => hb.2.2 id ad ho hβ he.symm
      exact ⟨⟨by rw [hsz]; exact hb.1, hb.2.1, fun i a' hi => hb.2.2 i a' (hlive i hi).2⟩, hoth b hnb⟩
    · refine ⟨(hlive i hi).2, rfl, fun a' ha' arr1 el1 fr1 h1 => ?_⟩
      rw [hoth _ (hne i a' hi ha')] at h1
      exact ⟨arr1, el1, fr1, h1, Nat.le_refl _⟩
  refine ⟨⟨hr.defers, hr.size, fun i => RepV.keep hkeep _ (hr.f i), fun i cells' hc' => ?_, fun i i' a1 a2 h1 h2 => hr.inj i i' a1 a2 (hlive i h1).2 (hlive i' h2).2, by rw [hsz]; exact hr.base⟩, by rw [hsz]; exact Nat.le_refl _, fun b hb => hoth b (by omega), hkeep, hos⟩
  have hi : (upd s.obj id none i).isSome = true := by
    have : upd s.obj id none i = some cells' := hc'
    rw [this]; rfl
  have hc'' : s.obj i = some cells' := by
    have h := hc'
    simp only [upd, if_neg (hlive i hi).1] at h
    exact h
  exact (hr.obj i cells' hc'').keep hkeep (fun a' ha' => hoth _ (hne i a' hi ha'))

theorem hook_ustr {o : Oper} {s : St} {K : St → Prop} {k : Box K} {B : Nat} {p n : Operand} {t1 t2 e : TypeId} (ho : o.op = .call ⟨.builtin .unsafeString, #[p, n], #[t1, t2]⟩) (ht : P.underlying t1 = some (.pointer e)) (hce : P.cellsOf e = 1) {id g : Nat} {l : List UInt8}
    (hp : s.ev p = .one (.ptr id g 0)) (hn0 : s.ev n = iv .i64 l.length) (hg : s.gen id = g) (hcode : code g = e + 1) {cells : List C} (hob : s.obj id = some cells) (hfit : cells.take l.length = l.map fun b => .d (byteD b)) (hl : l ≠ []) (h63 : l.length ≤ 9223372036854775807)
    (hk : K (St.put { s with obj := upd s.obj id none } o.dst (sv l))) : hookA (spB P B) o s k := by
  refine ⟨fun s' => s' = St.put { s with obj := upd s.obj id none } o.dst (sv l), fun b₀ N β a w hr hd next Q hn => ?_, fun _ e => e ▸ hk⟩
  have hv := hr.ev p
  have hw := hr.ev n
  rw [hp] at hv
  rw [hn0] at hw
  simp only [RepV, RepC] at hv hw
  have hw := hw.inv_int
  obtain ⟨ad, hβ, hsp, hv⟩ := hv.2.2 hg (by rw [hob]; rfl)
  have hobj := hr.obj id cells hob
  rw [hβ] at hobj
  obtain ⟨_, arr, el, lo, hi, hblk, ⟨_, hcl⟩, hlen, hcells⟩ := hobj.cells hsp
  rw [hg, hcode] at hcl
  obtain ⟨hel, hoff⟩ := hcl (by omega)
  have hel : el = e := Nat.add_right_cancel hel
  subst hel
  have hll : l.length ≤ cells.length := by
    have := congrArg List.length hfit
    simp at this
    omega
  have hrun := Lib.run_unsafeString_row (P := P) (w := w) t1 t2 o.type el ht hce ad.block (arr.size) (by simp [World.shape?, hblk]) l hl (by omega) h63 (fun j x hx => by
    have hjl := (List.getElem?_eq_some_iff.1 hx).1
    have hcj : cells[j]? = some (.d (byteD x)) := by
      have := congrArg (fun m : List C => m[j]?) hfit
      simp only [List.getElem?_take, hjl, if_true, List.getElem?_map, hx, Option.map_some] at this
      exact this
    obtain ⟨u, hu, hru⟩ := hcells j _ hcj
    simp only [RepC, byteD] at hru
    have hru := hru.inv_int
    rw [hoff, Nat.zero_add] at hu
    rw [addr_add, Nat.zero_add, cell?_of_arr hblk, hu, hru])
  have hex : (execOp a.eval o).run P w = .ok (.value (.string ⟨l.toArray⟩)) (w.freeze ⟨ad.block, 0, none⟩ l.length) := by
    rw [hoff] at hv
    simp [execOp, ho, resolve, invoke, hv, hw, builtin, hrun]
  obtain ⟨r1, t1⟩ := rel_gone hr (by rw [hob]; rfl) hβ (freeze_size w ⟨ad.block, 0, none⟩ l.length) (freeze_os _ _ _) (fun b hb => freeze_other w ⟨ad.block, 0, none⟩ l.length hb)
  refine wp_value hex (hn _ β _ _ rfl (r1.put hd ?_) (t1.trans (Tr.same (St.put_gen _ _ _) (St.put_obj _ _ _) rfl)))
  simp only [RepV, RepC]
  exact .str l

end
end Go.Am

namespace Go.Proofs.YtdlogfbbcbbllaaDoor
open Go Go.Am

/-- May a byte stand in a bare word? -/
def bareC (c : UInt8) : Bool := decide (33 ≤ c.toNat) && decide (c.toNat ≤ 126) && decide (c.toNat ≠ 34) && decide (c.toNat ≠ 35)
/-- May a word be a verb? -/
def verbOk (s : List UInt8) : Bool := decide (1 ≤ s.length) && decide (s.length ≤ 20) && s.all fun c => decide (97 ≤ c.toNat) && decide (c.toNat ≤ 122)

theorem bareC_of {c : UInt8} : bareC c = true ↔ 33 ≤ c.toNat ∧ c.toNat ≤ 126 ∧ c.toNat ≠ 34 ∧ c.toNat ≠ 35 := by
  unfold bareC; simp [and_assoc]

theorem bare_goal {c : UInt8} : (33 ≤ (c.toNat : Int) → ((c.toNat : Int) ≤ 126 → (¬(c.toNat : Int) = 34 → (decide ¬(c.toNat : Int) = 35) = bareC c) ∧ (¬¬(c.toNat : Int) = 34 → false = bareC c)) ∧ (¬(c.toNat : Int) ≤ 126 → false = bareC c)) ∧ (¬33 ≤ (c.toNat : Int) → false = bareC c) := by
  have e := @bareC_of c
  cases h : bareC c
  · have : ¬ (33 ≤ c.toNat ∧ c.toNat ≤ 126 ∧ c.toNat ≠ 34 ∧ c.toNat ≠ 35) := fun hc => by rw [e.2 hc] at h; cases h
    refine ⟨fun h1 => ⟨fun h2 => ⟨fun h3 => ?_, fun _ => rfl⟩, fun _ => rfl⟩, fun _ => rfl⟩
    simp; omega
  · have := e.1 h
    refine ⟨fun h1 => ⟨fun h2 => ⟨fun h3 => ?_, fun h3 => ?_⟩, fun h2 => ?_⟩, fun h1 => ?_⟩
    · simp; omega
    · omega
    · omega
    · omega

theorem isBare_A (c : UInt8) : PureR Tryd.prog 47 [iv .u8 c.toNat] (· = bv (bareC c)) := by
  refine pure_of_wp Tt_ok mixed Tryd.func47 rfl (by rfl) [2] rfl (by kernel_rfl) (by simp [Tryd.ntmps47]) fun g => ?_
  simp (config := { maxSteps := 1000000 }) only [go_sem, ↓reduceIte, Nat.reduceEqDiff, Nat.reduceAdd, Nat.reduceMul, Nat.reduceSub, Nat.reduceLT, Nat.reduceLeDiff, Int.reduceLT, Int.reduceLE, Int.reduceEq, Int.reduceNe, Int.reduceAdd, Int.reduceNeg, Int.reduceToNat]
  exact bare_goal

theorem bare_A (c : UInt8) : PureR Tryd.prog 35 [iv .u8 c.toNat] (· = bv (bareC c)) := by
  refine pure_of_wp Tt_ok mixed Tryd.func35 rfl (by rfl) [2] rfl (by kernel_rfl) (by simp [Tryd.ntmps35]) fun g => ?_
  simp (config := { maxSteps := 1000000 }) only [go_sem, ↓reduceIte, Nat.reduceEqDiff, Nat.reduceAdd, Nat.reduceMul, Nat.reduceSub, Nat.reduceLT, Nat.reduceLeDiff, Int.reduceLT, Int.reduceLE, Int.reduceEq, Int.reduceNe, Int.reduceAdd, Int.reduceNeg, Int.reduceToNat]
  exact bare_goal

theorem getq {α : Type} {l : List α} {k : Nat} (h : k < l.length) : ∃ x, l[k]? = some x := ⟨_, List.getElem?_eq_getElem h⟩
theorem all_take {α : Type} {l : List α} {k : Nat} {p : α → Bool} {x : α} (hx : l[k]? = some x) (h : (l.take k).all p = true) (hp : p x = true) : (l.take (k + 1)).all p = true := by
  rw [List.take_add_one, hx, List.all_append, h]; simpa using hp

abbrev lowC (c : UInt8) : Bool := decide (97 ≤ c.toNat) && decide (c.toNat ≤ 122)

theorem u8_le (c : UInt8) : c.toNat < 256 := c.toNat_lt

theorem isVerb_A (s : List UInt8) (hs : s.length ≤ 4000000000000000000) : PureR Tryd.prog 33 [sv s] (· = bv (verbOk s)) := by
  refine pure_of_wp Tt_ok mixed Tryd.func33 rfl (by rfl) [2] rfl (by kernel_rfl) (by simp [Tryd.ntmps33]) fun g => ?_
  simp (config := { maxSteps := 1000000 }) only [go_sem, ↓reduceIte, Nat.reduceEqDiff, Nat.reduceAdd, Nat.reduceMul, Nat.reduceSub, Nat.reduceLT, Nat.reduceLeDiff, Int.reduceLT, Int.reduceLE, Int.reduceEq, Int.reduceNe, Int.reduceAdd, Int.reduceNeg, Int.reduceToNat]
  refine ⟨fun h => ?_, fun h1 => ⟨fun h => ?_, fun h2 => ?_⟩⟩
  · have : ¬ 1 ≤ s.length := by omega
    simp [verbOk, this]
  · have : ¬ s.length ≤ 20 := by omega
    simp [verbOk, this]
  refine loop_intro (fun n st => ∃ k : Nat, n + k = s.length ∧ st.f 0 = sv s ∧ st.f 13 = iv .i64 s.length ∧ st.f 14 = iv .i64 k ∧ (s.take k).all lowC = true) s.length ?_ ?_
  · refine ⟨0, ?_⟩
    simp (config := { maxSteps := 1000000 }) only [go_sem, ↓reduceIte, Nat.reduceEqDiff, Nat.reduceAdd, Nat.reduceMul, Nat.reduceSub, Nat.reduceLT, Nat.reduceLeDiff, Int.reduceLT, Int.reduceLE, Int.reduceEq, Int.reduceNe, Int.reduceAdd, Int.reduceNeg, Int.reduceToNat]
    simp
  · rintro n f g ob ⟨k, hk, h0, h13, h14, hall⟩
    simp only at h0 h13 h14
    have hw := wrap_succ (k := k) (by omega)
    by_cases hlt : k < s.length
    · obtain ⟨c, hc⟩ := getq hlt
      have hno : lowC c = false → verbOk s = false := fun h => by
        have : s.all (fun c => decide (97 ≤ c.toNat) && decide (c.toNat ≤ 122)) = false := by
          rw [List.all_eq_false]
          exact ⟨c, List.mem_of_getElem? hc, by simpa using h⟩
        simp [verbOk, this]
      simp (config := { maxSteps := 1000000 }) only [go_sem, ↓reduceIte, Nat.reduceEqDiff, Nat.reduceAdd, Nat.reduceMul, Nat.reduceSub, Nat.reduceLT, Nat.reduceLeDiff, Int.reduceLT, Int.reduceLE, Int.reduceEq, Int.reduceNe, Int.reduceAdd, Int.reduceNeg, Int.reduceToNat, h0, h13, h14, hc, hlt, hw]
      refine ⟨fun h => ?_, fun h => ⟨fun h' => ?_, fun h' => ?_⟩⟩
      · rw [hno (by simp; omega)]
      · rw [hno (by simp; omega)]
      · refine round_end (n - 1) (by omega) ⟨k + 1, by omega, ?_⟩
        simp (config := { maxSteps := 1000000 }) only [go_sem, ↓reduceIte, Nat.reduceEqDiff, Nat.reduceAdd, Nat.reduceMul, Nat.reduceSub, Nat.reduceLT, Nat.reduceLeDiff, Int.reduceLT, Int.reduceLE, Int.reduceEq, Int.reduceNe, Int.reduceAdd, Int.reduceNeg, Int.reduceToNat, h0, h13]
        exact all_take hc hall (by simp; omega)
    · simp (config := { maxSteps := 1000000 }) only [go_sem, ↓reduceIte, Nat.reduceEqDiff, Nat.reduceAdd, Nat.reduceMul, Nat.reduceSub, Nat.reduceLT, Nat.reduceLeDiff, Int.reduceLT, Int.reduceLE, Int.reduceEq, Int.reduceNe, Int.reduceAdd, Int.reduceNeg, Int.reduceToNat, h0, h13, h14, hlt]
      rw [List.take_of_length_le (by omega)] at hall
      have h3 : 1 ≤ s.length := by omega
      have h4 : s.length ≤ 20 := by omega
      simp only [verbOk, h3, h4, decide_true, Bool.true_and]
      rw [show s.all (fun c => decide (97 ≤ c.toNat) && decide (c.toNat ≤ 122)) = true from hall]

theorem Verb_A (s : List UInt8) (hs : s.length ≤ 4000000000000000000) : PureR Tryd.prog 17 [sv s] (· = bv (verbOk s)) := by
  refine pure_of_wp Tt_ok mixed Tryd.func17 rfl (by rfl) [2] rfl (by kernel_rfl) (by simp [Tryd.ntmps17]) fun g => ?_
  simp (config := { maxSteps := 1000000 }) only [go_sem, ↓reduceIte, Nat.reduceEqDiff, Nat.reduceAdd, Nat.reduceMul, Nat.reduceSub, Nat.reduceLT, Nat.reduceLeDiff, Int.reduceLT, Int.reduceLE, Int.reduceEq, Int.reduceNe, Int.reduceAdd, Int.reduceNeg, Int.reduceToNat]
  refine loop_intro (fun n st => ∃ k : Nat, n + k = s.length ∧ st.f 0 = sv s ∧ st.f 3 = iv .i64 k ∧ (s.take k).all lowC = true) s.length ?_ ?_
  · refine ⟨0, ?_⟩
    simp (config := { maxSteps := 1000000 }) only [go_sem, ↓reduceIte, Nat.reduceEqDiff, Nat.reduceAdd, Nat.reduceMul, Nat.reduceSub, Nat.reduceLT, Nat.reduceLeDiff, Int.reduceLT, Int.reduceLE, Int.reduceEq, Int.reduceNe, Int.reduceAdd, Int.reduceNeg, Int.reduceToNat]
    simp
  · rintro n f g ob ⟨k, hk, h0, h3, hall⟩
    simp only at h0 h3
    have hw := wrap_succ (k := k) (by omega)
    by_cases hlt : k < s.length
    · obtain ⟨c, hc⟩ := getq hlt
      have hno : lowC c = false → verbOk s = false := fun h => by
        have : s.all (fun c => decide (97 ≤ c.toNat) && decide (c.toNat ≤ 122)) = false := by
          rw [List.all_eq_false]
          exact ⟨c, List.mem_of_getElem? hc, by simpa using h⟩
        simp [verbOk, this]
      simp (config := { maxSteps := 1000000 }) only [go_sem, ↓reduceIte, Nat.reduceEqDiff, Nat.reduceAdd, Nat.reduceMul, Nat.reduceSub, Nat.reduceLT, Nat.reduceLeDiff, Int.reduceLT, Int.reduceLE, Int.reduceEq, Int.reduceNe, Int.reduceAdd, Int.reduceNeg, Int.reduceToNat, h0, h3, hc, hlt, hw]
      refine ⟨fun h => ?_, fun h => ⟨fun h' => ?_, fun h' => ?_⟩⟩
      · rw [hno (by simp; omega)]
      · rw [hno (by simp; omega)]
      · refine round_end (n - 1) (by omega) ⟨k + 1, by omega, ?_⟩
        simp (config := { maxSteps := 1000000 }) only [go_sem, ↓reduceIte, Nat.reduceEqDiff, Nat.reduceAdd, Nat.reduceMul, Nat.reduceSub, Nat.reduceLT, Nat.reduceLeDiff, Int.reduceLT, Int.reduceLE, Int.reduceEq, Int.reduceNe, Int.reduceAdd, Int.reduceNeg, Int.reduceToNat, h0]
        exact all_take hc hall (by simp; omega)
    · simp (config := { maxSteps := 1000000 }) only [go_sem, ↓reduceIte, Nat.reduceEqDiff, Nat.reduceAdd, Nat.reduceMul, Nat.reduceSub, Nat.reduceLT, Nat.reduceLeDiff, Int.reduceLT, Int.reduceLE, Int.reduceEq, Int.reduceNe, Int.reduceAdd, Int.reduceNeg, Int.reduceToNat, h0, h3, hlt]
      rw [List.take_of_length_le (by omega)] at hall
      have e : verbOk s = (decide (1 ≤ s.length) && decide (s.length ≤ 20)) := by
        simp only [verbOk]
        rw [show s.all (fun c => decide (97 ≤ c.toNat) && decide (c.toNat ≤ 122)) = true from hall, Bool.and_true]
      rw [e]
      refine ⟨fun h => ?_, fun h => ?_⟩
      · have h1 : 1 ≤ s.length := by omega
        by_cases h2 : s.length ≤ 20
        · have h3 : (s.length : Int) ≤ 20 := by omega
          simp [h1, h2, h3]
        · have h3 : ¬ (s.length : Int) ≤ 20 := by omega
          simp [h1, h2, h3]
      · have h1 : ¬ 1 ≤ s.length := by omega
        simp [h1]

/-- May a word stand bare? -/
def bareW (s : List UInt8) : Bool := s.all bareC && decide (0 < s.length)

theorem isBareR_A (s : List UInt8) (hs : s.length ≤ 4000000000000000000) : PureR Tryd.prog 49 [sv s] (· = bv (bareW s)) := by
  refine pure_of_wp Tt_ok mixed Tryd.func49 rfl (by rfl) [2] rfl (by kernel_rfl) (by simp [Tryd.ntmps49]) fun g => ?_
  simp (config := { maxSteps := 1000000 }) only [go_sem, ↓reduceIte, Nat.reduceEqDiff, Nat.reduceAdd, Nat.reduceMul, Nat.reduceSub, Nat.reduceLT, Nat.reduceLeDiff, Int.reduceLT, Int.reduceLE, Int.reduceEq, Int.reduceNe, Int.reduceAdd, Int.reduceNeg, Int.reduceToNat]
  refine loop_intro (fun n st => ∃ k : Nat, n + k = s.length ∧ st.f 0 = sv s ∧ st.f 3 = iv .i64 k ∧ (s.take k).all bareC = true) s.length ?_ ?_
  · refine ⟨0, ?_⟩
    simp (config := { maxSteps := 1000000 }) only [go_sem, ↓reduceIte, Nat.reduceEqDiff, Nat.reduceAdd, Nat.reduceMul, Nat.reduceSub, Nat.reduceLT, Nat.reduceLeDiff, Int.reduceLT, Int.reduceLE, Int.reduceEq, Int.reduceNe, Int.reduceAdd, Int.reduceNeg, Int.reduceToNat]
    simp
  · rintro n f g ob ⟨k, hk, h0, h3, hall⟩
    simp only at h0 h3
    have hw := wrap_succ (k := k) (by omega)
    by_cases hlt : k < s.length
    · obtain ⟨c, hc⟩ := getq hlt
      simp (config := { maxSteps := 1000000 }) only [go_sem, ↓reduceIte, Nat.reduceEqDiff, Nat.reduceAdd, Nat.reduceMul, Nat.reduceSub, Nat.reduceLT, Nat.reduceLeDiff, Int.reduceLT, Int.reduceLE, Int.reduceEq, Int.reduceNe, Int.reduceAdd, Int.reduceNeg, Int.reduceToNat, h0, h3, hc, hlt, hw]
      refine hook_call rfl (by simp (config := { maxSteps := 1000000 }) only [go_sem, ↓reduceIte, Nat.reduceEqDiff, Nat.reduceAdd, Nat.reduceMul, Nat.reduceSub, Nat.reduceLT, Nat.reduceLeDiff, Int.reduceLT, Int.reduceLE, Int.reduceEq, Int.reduceNe, Int.reduceAdd, Int.reduceNeg, Int.reduceToNat]; exact bare_A c) (by simp (config := { maxSteps := 1000000 }) only [go_sem, ↓reduceIte, Nat.reduceEqDiff, Nat.reduceAdd, Nat.reduceMul, Nat.reduceSub, Nat.reduceLT, Nat.reduceLeDiff, Int.reduceLT, Int.reduceLE, Int.reduceEq, Int.reduceNe, Int.reduceAdd, Int.reduceNeg, Int.reduceToNat]; rfl) ?_
      rintro _ rfl
      simp (config := { maxSteps := 1000000 }) only [go_sem, ↓reduceIte, Nat.reduceEqDiff, Nat.reduceAdd, Nat.reduceMul, Nat.reduceSub, Nat.reduceLT, Nat.reduceLeDiff, Int.reduceLT, Int.reduceLE, Int.reduceEq, Int.reduceNe, Int.reduceAdd, Int.reduceNeg, Int.reduceToNat, hc]
      cases hb : bareC c
      · simp (config := { maxSteps := 1000000 }) only [go_sem, ↓reduceIte, Nat.reduceEqDiff, Nat.reduceAdd, Nat.reduceMul, Nat.reduceSub, Nat.reduceLT, Nat.reduceLeDiff, Int.reduceLT, Int.reduceLE, Int.reduceEq, Int.reduceNe, Int.reduceAdd, Int.reduceNeg, Int.reduceToNat]
        have : s.all bareC = false := by
          rw [List.all_eq_false]
          exact ⟨c, List.mem_of_getElem? hc, by simp [hb]⟩
        simp [bareW, this]
      · simp (config := { maxSteps := 1000000 }) only [go_sem, ↓reduceIte, Nat.reduceEqDiff, Nat.reduceAdd, Nat.reduceMul, Nat.reduceSub, Nat.reduceLT, Nat.reduceLeDiff, Int.reduceLT, Int.reduceLE, Int.reduceEq, Int.reduceNe, Int.reduceAdd, Int.reduceNeg, Int.reduceToNat, h0, h3, hw]
        refine round_end (n - 1) (by omega) ⟨k + 1, by omega, ?_⟩
        simp (config := { maxSteps := 1000000 }) only [go_sem, ↓reduceIte, Nat.reduceEqDiff, Nat.reduceAdd, Nat.reduceMul, Nat.reduceSub, Nat.reduceLT, Nat.reduceLeDiff, Int.reduceLT, Int.reduceLE, Int.reduceEq, Int.reduceNe, Int.reduceAdd, Int.reduceNeg, Int.reduceToNat, h0, h3]
        exact all_take hc hall hb
    · simp (config := { maxSteps := 1000000 }) only [go_sem, ↓reduceIte, Nat.reduceEqDiff, Nat.reduceAdd, Nat.reduceMul, Nat.reduceSub, Nat.reduceLT, Nat.reduceLeDiff, Int.reduceLT, Int.reduceLE, Int.reduceEq, Int.reduceNe, Int.reduceAdd, Int.reduceNeg, Int.reduceToNat, h0, h3, hlt]
      rw [List.take_of_length_le (by omega)] at hall
      simp [bareW, hall]

end Go.Proofs.YtdlogfbbcbbllaaDoor

namespace Go.Proofs.YtdlogfbbcbbllaaDoor
open Go Go.Am Go.RowKit

theorem und49 : Tryd.prog.underlying 49 = some (.pointer 51) := by kernel_rfl
theorem und80 : Tryd.prog.underlying 80 = some .unsafePointer := by kernel_rfl
theorem und51 : Tryd.prog.underlying 51 = some (.struct #[⟨"addr", 49, 0, false, "", "strings", 0⟩, ⟨"buf", 31, 1, false, "", "strings", 8⟩]) := by kernel_rfl
theorem und4 : Tryd.prog.underlying 4 = some .bool := by kernel_rfl
theorem size51 : ∃ j, Tryd.prog.info? 51 = some j ∧ j.size = 2 := by
  obtain ⟨i, hi, hs, _⟩ := ty51.info
  exact ⟨i, hi, hs⟩
theorem size49 : ∃ j, Tryd.prog.info? 49 = some j ∧ j.size = 1 := by
  obtain ⟨i, hi, hs, _⟩ := ty49.info
  exact ⟨i, hi, hs⟩

set_option maxHeartbeats 1000000 in
set_option maxRecDepth 100000 in
theorem copyCheck_used (b : Nat) (w : World) (h0 : w.cell? ⟨b, 0, none⟩ = some (.pointer (some ⟨b, 0, none⟩))) :
    Calls Tryd.prog 38 #[.pointer (some ⟨b, 0, none⟩)] w fun e w' => e = .returned (.tuple #[]) ∧ w' = w := by
  obtain ⟨j, hj, _⟩ := size51
  have u49 := run_underlying und49
  have u51 := run_underlying und51
  have u4 := run_underlying und4
  go_enter Tryd.func38, Tryd.ntmps38
  go_wp2
  rw [Lib.run_neq_ptr_same w _ und49 hj]
  go_wp2
  go_end0
  exact ⟨rfl, rfl⟩

theorem cells51 : Tryd.prog.cellsOf 51 = 2 := by kernel_rfl
theorem lies51 {n : Nat} (hn : 2 ≤ n) : liesAt Tryd.prog Tryd.prog.depth 51 (n / Tryd.prog.cellsOf 51) 0 51 1 = true := by
  rw [cells51]
  have hd : Tryd.prog.depth = (2 * (Tryd.prog.types.size + Made.depth) + 1) + 1 := rfl
  have h1 : 1 ≤ n / 2 := by omega
  rw [hd]
  simp only [liesAt, Bool.or_eq_true]
  left
  rw [hd]
  simp [rowAt, cells51, h1, sameLayout]

set_option maxHeartbeats 1000000 in
set_option maxRecDepth 100000 in
theorem copyCheck_fresh (b n : Nat) (w : World) (h0 : w.cell? ⟨b, 0, none⟩ = some (.pointer none)) (hsh : w.shape? b = some (51, n)) (hn : 2 ≤ n) (hfz : w.frozen? ⟨b, 0, none⟩ = false) :
    Calls Tryd.prog 38 #[.pointer (some ⟨b, 0, none⟩)] w fun e w' => e = .returned (.tuple #[]) ∧ w' = w.setCell ⟨b, 0, none⟩ (.pointer (some ⟨b, 0, none⟩)) := by
  obtain ⟨j, hj, hjs⟩ := size51
  obtain ⟨j9, hj9, hj9s⟩ := size49
  have u49 := run_underlying und49
  have u51 := run_underlying und51
  have u4 := run_underlying und4
  have u80 := run_underlying und80
  go_enter Tryd.func38, Tryd.ntmps38
  go_wp2
  rw [Lib.run_to_unsafe w ⟨b, 0, none⟩ und49 und80 hj (by rw [hjs]; decide) hsh (by show 0 < n; omega)]
  simp only [Result.andThen]
  rw [Oper.upon_value]
  go_wp2
  rw [run_callFunc_extern Tryd.func48 (by kernel_rfl) (by kernel_rfl) (by kernel_rfl) (e := Extern.AbiNoEscape.same) (by kernel_rfl)]
  rw [Lib.run_noEscape]
  simp only [Result.andThen]
  rw [Oper.upon_value]
  go_wp2
  rw [Lib.run_from_unsafe w ⟨b, 0, none⟩ und80 und49 hj hsh (lies51 hn)]
  simp only [Result.andThen]
  rw [Oper.upon_value]
  go_wp2
  go_end0
  exact ⟨rfl, rfl⟩

theorem fine38 : Fine Tryd.prog 38 := ⟨_, Tryd.func38, rfl, by rfl⟩

/-- Behind it the builder knows its own address. -/
theorem copyCheck_A {b gb : Nat} {g : Nat → Nat} {ob : Obs} {a buf : C} (hg : g b = gb) (hc : code gb = 52) (ho : ob b = some [a, buf]) (ha : a = .d .nilp ∨ a = .ptr b gb 0) :
    FunR Tryd.prog 38 [.one (.ptr b gb 0)] g ob (fun r g' ob' => r = uv ∧ g' = g ∧ ob' = upd ob b (some [.ptr b gb 0, buf])) := by
  refine ⟨fine38, fun b₀ N β ac fa w vs hr hv => ?_⟩
  simp only [RepVs] at hv
  obtain ⟨u, us, rfl, hu, rfl⟩ := hv
  have hu0 := hu
  simp only [RepV, RepC] at hu
  obtain ⟨ad, hβ, hsp, rfl⟩ := hu.2.2 hg (by rw [ho]; rfl)
  have hob := hr.obj b _ ho
  rw [hβ] at hob
  obtain ⟨hB, arr, el, lo, hi, hblk, ⟨hfr, hcl⟩, hlen, hcells⟩ := hob.cells hsp
  simp only at hcl
  rw [hg, hc] at hcl
  obtain ⟨hel, hoff⟩ := hcl (by omega)
  have hel : el = 51 := Nat.add_right_cancel (m := 1) hel
  subst hel
  simp only [List.length_cons, List.length_nil] at hlen
  rw [hoff] at hlen
  simp only [Nat.add_zero, hoff]
  have hun : RepV b₀ β g ob w uv (.tuple #[]) := undefRep
  obtain ⟨v0, hv0, hr0⟩ := hcells 0 a rfl
  rw [hoff] at hv0
  have hcell : w.cell? ⟨ad.block, 0, none⟩ = some v0 := by rw [cell?_of_arr hblk]; exact hv0
  rcases ha with rfl | rfl
  · -- it stores its address
    have hv : v0 = .pointer none := by simp only [RepC] at hr0; cases hr0; rfl
    subst hv
    have hst : storeA (Tt 49) ⟨fa, g, ob⟩ (.one (.ptr b gb 0)) (.one (.ptr b gb 0)) (bx fun s' => s' = ⟨fa, g, upd ob b (some [.ptr b gb 0, buf])⟩) := by
      simp (config := { maxSteps := 1000000 }) only [go_sem, ↓reduceIte, Nat.reduceEqDiff, Nat.reduceAdd, Nat.reduceMul, Nat.reduceSub, Nat.reduceLT, Nat.reduceLeDiff, Int.reduceLT, Int.reduceLE, Int.reduceEq, Int.reduceNe, Int.reduceAdd, Int.reduceNeg, Int.reduceToNat, hg, ho]
    obtain ⟨s', w', rfl, h1, h2, h3⟩ := storeA_sound Tt_ok hr hst hu0 hu0
    have hrun := run_storeVar_at (P := Tryd.prog) (w := w) (t := 49) (ti := Tt 49) ty49 (b := ad.block) (o := 0) (v := .pointer (some ⟨ad.block, 0, none⟩)) (vs := [.pointer (some ⟨ad.block, 0, none⟩)]) rfl rfl (by simp [Value.oneCell']) hblk hfr (by simp only [List.length_cons, List.length_nil]; omega)
    simp only [Nat.add_zero, hoff] at h1
    rw [h1] at hrun
    have hw' : w' = w.setCells ad.block 0 [.pointer (some ⟨ad.block, 0, none⟩)] := by injection hrun
    refine (copyCheck_fresh ad.block arr.size w hcell (by simp [World.shape?, hblk]) (by omega) (frozen_of hblk hfr (by omega))).mono fun e w2 ⟨q1, q2⟩ => ?_
    have hw2 : w2 = w' := by rw [q2, hw']; rfl
    subst hw2
    exact ⟨_, uv, g, _, β, q1, ⟨rfl, rfl, rfl⟩, undefRep, h2.obj, h2.inj, h3⟩
  · have hv : v0 = .pointer (some ⟨ad.block, 0, none⟩) := by
      simp only [RepC] at hr0
      obtain ⟨ad', hβ', _, e⟩ := hr0.2.2 hg (by rw [ho]; rfl)
      rw [hβ] at hβ'; cases hβ'
      rw [e, hoff]
    subst hv
    refine (copyCheck_used ad.block w hcell).mono fun e w' ⟨h1, h2⟩ => ?_
    subst h2
    have he : upd ob b (some [.ptr b gb 0, buf]) = ob := by funext i; simp only [upd]; split <;> simp_all
    exact ⟨_, uv, g, ob, β, h1, ⟨rfl, rfl, he.symm⟩, hun, hr.obj, hr.inj, Tr.refl⟩

end Go.Proofs.YtdlogfbbcbbllaaDoor

namespace Go.Am

/-- Objects are given up, to which nothing that is wanted points. -/
theorem vs_drops {s : St} (p : Nat → Bool) : SemVs s ⟨s.f, s.gen, fun i => if p i = true then none else s.obj i⟩ := by
  refine vs_freeze (fun i => p i = true) rfl (fun i => .inl rfl) (fun i cells' hc => ?_)
  simp only at hc
  by_cases h : p i = true
  · rw [if_pos h] at hc; cases hc
  · rw [if_neg h] at hc
    exact ⟨h, cells', hc, rfl, fun j c c' e1 e2 => .inl (by rw [e1] at e2; exact (Option.some.inj e2).symm)⟩

theorem retF_drops {res : List Nat} {R : AV → (Nat → Nat) → Obs → Prop} {s : St} (p : Nat → Bool) (h : R (resAV s.f res) s.gen (fun i => if p i = true then none else s.obj i)) : RetF res R .normal s := ⟨_, vs_drops p, h⟩
theorem retF_dropsR {res : List Nat} {R : AV → (Nat → Nat) → Obs → Prop} {s : St} (p : Nat → Bool) (h : R (resAV s.f res) s.gen (fun i => if p i = true then none else s.obj i)) : RetF res R .ret s := ⟨_, vs_drops p, h⟩

@[go_sem] theorem absV_nili : absV .nilIface = .one (.d .nili) := Eq.trans rfl rfl
@[go_sem] theorem absV_nilf : absV .nilFunc = .one (.d .nilf) := Eq.trans rfl rfl

end Go.Am

namespace Go.Proofs.YtdlogfbbcbbllaaDoor
open Go Go.Am

def byteC (c : UInt8) : C := .d (.int .u8 c.toNat)

/-- A builder b that holds bs; its bytes lie in the object ib. -/
structure Bld (b ib gb : Nat) (bs : List UInt8) (g : Nat → Nat) (ob : Obs) : Prop where
  gen : g b = gb
  code : code gb = 52
  obj : ∃ a, (a = .d .nilp ∨ a = .ptr b gb 0) ∧ ((bs = [] ∧ ob b = some [a, .d .nsl] ∧ ob ib = none) ∨ (bs ≠ [] ∧ ob b = some [a, .osl ib (g ib) 1 0 bs.length] ∧ Go.Am.code (g ib) = 6 ∧ ob ib = some (bs.map byteC)))
  ne : b ≠ ib

set_option maxHeartbeats 2000000 in
theorem WriteByte_A {b B gb : Nat} {bs : List UInt8} {g : Nat → Nat} {ob : Obs} (c : UInt8) (h : Bld b (B + 14) gb bs g ob) (hb : b < B) (hl : bs.length ≤ 1000000000) (hfree : ∀ i, B ≤ i → i ≠ B + 14 → ob i = none) :
    FunR Tryd.prog 28 [.one (.ptr b gb 0), iv .u8 c.toNat] g ob (fun r g' ob' => r = .one (.d .nili) ∧ Bld b (B + 14) gb (bs ++ [c]) g' ob' ∧ (∀ i, i < B → g' i = g i) ∧ (∀ i, i < B → i ≠ b → ob' i = ob i) ∧ ∀ i, B ≤ i → i ≠ B + 14 → ob' i = none) := by
  refine fun_of_wp B Tt_ok mixed Tryd.func28 rfl (by rfl) [4] rfl (by kernel_rfl) (by simp [Tryd.ntmps28]) ?_
  obtain ⟨hg, hcd, ⟨a, ha, hobj⟩, hne⟩ := h
  have n14 := ne_lo hb 14
  have n13 := ne_lo hb 13
  have m14 := ne_hi hb 14
  have m13 := ne_hi hb 13
  simp (config := { maxSteps := 1000000 }) only [go_sem, ↓reduceIte, Nat.reduceEqDiff, Nat.reduceAdd, Nat.reduceMul, Nat.reduceSub, Nat.reduceLT, Nat.reduceLeDiff, Int.reduceLT, Int.reduceLE, Int.reduceEq, Int.reduceNe, Int.reduceAdd, Int.reduceNeg, Int.reduceToNat]
  rcases hobj with ⟨rfl, ho, hi⟩ | ⟨hbs, ho, hc2, hi⟩
  · refine hook_fun rfl (by simp (config := { maxSteps := 1000000 }) only [go_sem, ↓reduceIte, Nat.reduceEqDiff, Nat.reduceAdd, Nat.reduceMul, Nat.reduceSub, Nat.reduceLT, Nat.reduceLeDiff, Int.reduceLT, Int.reduceLE, Int.reduceEq, Int.reduceNe, Int.reduceAdd, Int.reduceNeg, Int.reduceToNat]; exact copyCheck_A hg hcd ho ha) ?_
    rintro _ g' ob' ⟨rfl, rfl, rfl⟩
    simp (config := { maxSteps := 1000000 }) only [go_sem, ↓reduceIte, Nat.reduceEqDiff, Nat.reduceAdd, Nat.reduceMul, Nat.reduceSub, Nat.reduceLT, Nat.reduceLeDiff, Int.reduceLT, Int.reduceLE, Int.reduceEq, Int.reduceNe, Int.reduceAdd, Int.reduceNeg, Int.reduceToNat, hg, ho, n14, n13, elemTy]
    refine ⟨⟨by decide, by decide⟩, retF_dropsR (fun i => decide (i = B + 13)) ⟨by simp only [resAV, upd]; rfl, ⟨?_, hcd, ⟨_, .inr rfl, .inr ⟨by simp, ?_, ?_, ?_⟩⟩, hne⟩, fun i hi => ?_, fun i hi hib => ?_, fun i hi hi' => ?_⟩⟩
    · simp [upd, n14, n13, hg]
    · simp [upd, n14, n13]
    · simp [upd, code_nxC]
    · simp [upd, m14, byteC]
    · simp only [upd, if_neg (show ¬ i = B + 14 by omega), if_neg (show ¬ i = B + 13 by omega)]
    · simp [upd, show ¬ i = B + 14 by omega, show ¬ i = B + 13 by omega, hib]
    · by_cases h13 : i = B + 13
      · simp [h13]
      · simp [upd, h13, hi', show ¬ i = b by omega, hfree i hi hi']
  · refine hook_fun rfl (by simp (config := { maxSteps := 1000000 }) only [go_sem, ↓reduceIte, Nat.reduceEqDiff, Nat.reduceAdd, Nat.reduceMul, Nat.reduceSub, Nat.reduceLT, Nat.reduceLeDiff, Int.reduceLT, Int.reduceLE, Int.reduceEq, Int.reduceNe, Int.reduceAdd, Int.reduceNeg, Int.reduceToNat]; exact copyCheck_A hg hcd ho ha) ?_
    rintro _ g' ob' ⟨rfl, rfl, rfl⟩
    simp (config := { maxSteps := 1000000 }) only [go_sem, ↓reduceIte, Nat.reduceEqDiff, Nat.reduceAdd, Nat.reduceMul, Nat.reduceSub, Nat.reduceLT, Nat.reduceLeDiff, Int.reduceLT, Int.reduceLE, Int.reduceEq, Int.reduceNe, Int.reduceAdd, Int.reduceNeg, Int.reduceToNat, hg, ho, n14, n13, m14, m13, elemTy, hi]
    refine ⟨Nat.le_refl _, ⟨by decide, by omega⟩, retF_dropsR (fun i => decide (i = B + 13)) ⟨by simp only [resAV, upd]; rfl, ⟨?_, hcd, ⟨_, .inr rfl, .inr ⟨by simp, ?_, ?_, ?_⟩⟩, hne⟩, fun i hi => ?_, fun i hi hib => ?_, fun i hi hi' => ?_⟩⟩
    · simp [upd, n14, n13, hg]
    · simp [upd, n14, n13]
    · simp [upd, code_nxC, apC, hc2]
    · rw [List.take_of_length_le (by simp)]
      simp [upd, m14, byteC]
    · simp only [upd, if_neg (show ¬ i = B + 14 by omega), if_neg (show ¬ i = B + 13 by omega)]
    · simp [upd, show ¬ i = B + 14 by omega, show ¬ i = B + 13 by omega, hib]
    · by_cases h13 : i = B + 13
      · simp [h13]
      · simp [upd, h13, hi', show ¬ i = b by omega, hfree i hi hi']

set_option maxHeartbeats 2000000 in
theorem WriteString_A {b B gb : Nat} {bs : List UInt8} {g : Nat → Nat} {ob : Obs} (t : List UInt8) (h : Bld b (B + 14) gb bs g ob) (hb : b < B) (ht : t ≠ []) (hl : bs.length ≤ 1000000000) (hl2 : t.length ≤ 1000000000) (hfree : ∀ i, B ≤ i → i ≠ B + 14 → ob i = none) :
    FunR Tryd.prog 27 [.one (.ptr b gb 0), sv t] g ob (fun r g' ob' => r = .tup [iv .i64 t.length, .one (.d .nili)] ∧ Bld b (B + 14) gb (bs ++ t) g' ob' ∧ (∀ i, i < B → g' i = g i) ∧ (∀ i, i < B → i ≠ b → ob' i = ob i) ∧ ∀ i, B ≤ i → i ≠ B + 14 → ob' i = none) := by
  refine fun_of_wp B Tt_ok mixed Tryd.func27 rfl (by rfl) [4, 5] rfl (by kernel_rfl) (by simp [Tryd.ntmps27]) ?_
  obtain ⟨hg, hcd, ⟨a, ha, hobj⟩, hne⟩ := h
  have n14 := ne_lo hb 14
  have m14 := ne_hi hb 14
  simp (config := { maxSteps := 1000000 }) only [go_sem, ↓reduceIte, Nat.reduceEqDiff, Nat.reduceAdd, Nat.reduceMul, Nat.reduceSub, Nat.reduceLT, Nat.reduceLeDiff, Int.reduceLT, Int.reduceLE, Int.reduceEq, Int.reduceNe, Int.reduceAdd, Int.reduceNeg, Int.reduceToNat]
  rcases hobj with ⟨rfl, ho, hi⟩ | ⟨hbs, ho, hc2, hi⟩
  · refine hook_fun rfl (by simp (config := { maxSteps := 1000000 }) only [go_sem, ↓reduceIte, Nat.reduceEqDiff, Nat.reduceAdd, Nat.reduceMul, Nat.reduceSub, Nat.reduceLT, Nat.reduceLeDiff, Int.reduceLT, Int.reduceLE, Int.reduceEq, Int.reduceNe, Int.reduceAdd, Int.reduceNeg, Int.reduceToNat]; exact copyCheck_A hg hcd ho ha) ?_
    rintro _ g' ob' ⟨rfl, rfl, rfl⟩
    simp (config := { maxSteps := 1000000 }) only [go_sem, ↓reduceIte, Nat.reduceEqDiff, Nat.reduceAdd, Nat.reduceMul, Nat.reduceSub, Nat.reduceLT, Nat.reduceLeDiff, Int.reduceLT, Int.reduceLE, Int.reduceEq, Int.reduceNe, Int.reduceAdd, Int.reduceNeg, Int.reduceToNat, hg, ho, n14, elemTy]
    refine ⟨⟨by decide, by omega⟩, _, SemVs.refl _, ⟨by simp only [resAV, upd]; rfl, ⟨?_, hcd, ⟨_, .inr rfl, .inr ⟨by simpa using ht, ?_, ?_, ?_⟩⟩, hne⟩, fun i hi => ?_, fun i hi hib => ?_, fun i hi hi' => ?_⟩⟩
    · simp [upd, n14, hg]
    · simp [upd, n14]
    · simp [upd, code_nxC]
    · simp [upd, m14]; intros; rfl
    · simp only [upd, if_neg (show ¬ i = B + 14 by omega)]
    · simp [upd, show ¬ i = B + 14 by omega, hib]
    · simp [upd, hi', show ¬ i = b by omega, hfree i hi hi']
  · refine hook_fun rfl (by simp (config := { maxSteps := 1000000 }) only [go_sem, ↓reduceIte, Nat.reduceEqDiff, Nat.reduceAdd, Nat.reduceMul, Nat.reduceSub, Nat.reduceLT, Nat.reduceLeDiff, Int.reduceLT, Int.reduceLE, Int.reduceEq, Int.reduceNe, Int.reduceAdd, Int.reduceNeg, Int.reduceToNat]; exact copyCheck_A hg hcd ho ha) ?_
    rintro _ g' ob' ⟨rfl, rfl, rfl⟩
    simp (config := { maxSteps := 1000000 }) only [go_sem, ↓reduceIte, Nat.reduceEqDiff, Nat.reduceAdd, Nat.reduceMul, Nat.reduceSub, Nat.reduceLT, Nat.reduceLeDiff, Int.reduceLT, Int.reduceLE, Int.reduceEq, Int.reduceNe, Int.reduceAdd, Int.reduceNeg, Int.reduceToNat, hg, ho, n14, m14, elemTy, hi]
    refine ⟨by simp, ⟨by decide, by omega⟩, _, SemVs.refl _, ⟨by simp only [resAV, upd]; rfl, ⟨?_, hcd, ⟨_, .inr rfl, .inr ⟨by simp [hbs], ?_, ?_, ?_⟩⟩, hne⟩, fun i hi => ?_, fun i hi hib => ?_, fun i hi hi' => ?_⟩⟩
    · simp [upd, n14, hg]
    · simp [upd, n14]
    · simp [upd, code_nxC, apC, hc2]
    · rw [List.take_of_length_le (by simp)]
      simp [upd, m14]; intros; rfl
    · simp only [upd, if_neg (show ¬ i = B + 14 by omega)]
    · simp [upd, show ¬ i = B + 14 by omega, hib]
    · simp [upd, hi', show ¬ i = b by omega, hfree i hi hi']

set_option maxHeartbeats 2000000 in
theorem Len_A {b ib gb : Nat} {bs : List UInt8} {g : Nat → Nat} {ob : Obs} (h : Bld b ib gb bs g ob) : FunR Tryd.prog 36 [.one (.ptr b gb 0)] g ob (fun r g' ob' => r = iv .i64 bs.length ∧ g' = g ∧ ob' = ob) := by
  refine fun_of_wp 0 Tt_ok mixed Tryd.func36 rfl (by rfl) [2] rfl (by kernel_rfl) (by simp [Tryd.ntmps36]) ?_
  obtain ⟨hg, hcd, ⟨a, ha, hobj⟩, hne⟩ := h
  rcases hobj with ⟨rfl, ho, hi⟩ | ⟨hbs, ho, hc2, hi⟩
  · simp (config := { maxSteps := 1000000 }) only [go_sem, ↓reduceIte, Nat.reduceEqDiff, Nat.reduceAdd, Nat.reduceMul, Nat.reduceSub, Nat.reduceLT, Nat.reduceLeDiff, Int.reduceLT, Int.reduceLE, Int.reduceEq, Int.reduceNe, Int.reduceAdd, Int.reduceNeg, Int.reduceToNat, hg, ho]
    exact ⟨_, SemVs.refl _, by simp only [resAV, upd]; rfl, rfl, rfl⟩
  · simp (config := { maxSteps := 1000000 }) only [go_sem, ↓reduceIte, Nat.reduceEqDiff, Nat.reduceAdd, Nat.reduceMul, Nat.reduceSub, Nat.reduceLT, Nat.reduceLeDiff, Int.reduceLT, Int.reduceLE, Int.reduceEq, Int.reduceNe, Int.reduceAdd, Int.reduceNeg, Int.reduceToNat, hg, ho, hi]
    exact ⟨_, SemVs.refl _, by simp only [resAV, upd]; rfl, rfl, rfl⟩

end Go.Proofs.YtdlogfbbcbbllaaDoor

namespace Go.Proofs.YtdlogfbbcbbllaaDoor
open Go Go.Am

theorem und72 : Tryd.prog.underlying 72 = some (.pointer 5) := by kernel_rfl
theorem cells5 : Tryd.prog.cellsOf 5 = 1 := by kernel_rfl

set_option maxHeartbeats 2000000 in
theorem String_A {b ib gb : Nat} {bs : List UInt8} {g : Nat → Nat} {ob : Obs} (h : Bld b ib gb bs g ob) (hl : bs.length ≤ 1000000000) :
    FunR Tryd.prog 29 [.one (.ptr b gb 0)] g ob (fun r g' ob' => r = sv bs ∧ g' = g ∧ ∀ i, i ≠ ib → ob' i = ob i) := by
  refine fun_of_wp 0 Tt_ok mixed Tryd.func29 rfl (by rfl) [2] rfl (by kernel_rfl) (by simp [Tryd.ntmps29]) ?_
  obtain ⟨hg, hcd, ⟨a, ha, hobj⟩, hne⟩ := h
  rcases hobj with ⟨rfl, ho, hi⟩ | ⟨hbs, ho, hc2, hi⟩
  · simp (config := { maxSteps := 1000000 }) only [go_sem, ↓reduceIte, Nat.reduceEqDiff, Nat.reduceAdd, Nat.reduceMul, Nat.reduceSub, Nat.reduceLT, Nat.reduceLeDiff, Int.reduceLT, Int.reduceLE, Int.reduceEq, Int.reduceNe, Int.reduceAdd, Int.reduceNeg, Int.reduceToNat]
    refine draw_det Tt_ok mixed [] [([0], [], [], false), ([3], [], [], false), ([4], [], [], false), ([5], [], [], false), ([6], [], [], false), ([0], [], [], false), ([8], [], [], false), ([9], [], [], false), ([10], [], [], false), ([11], [], [], false), ([7, 12], [], [], false), ([13], [], [], true)] 0 (by decide +kernel) rfl (by decide) ?_
    simp (config := { maxSteps := 1000000 }) only [go_sem, ↓reduceIte, Nat.reduceEqDiff, Nat.reduceAdd, Nat.reduceMul, Nat.reduceSub, Nat.reduceLT, Nat.reduceLeDiff, Int.reduceLT, Int.reduceLE, Int.reduceEq, Int.reduceNe, Int.reduceAdd, Int.reduceNeg, Int.reduceToNat]
    iterate 4 (apply det_pure; · (intro fa ga oa K' hK; simp (config := { maxSteps := 1000000 }) only [go_sem, ↓reduceIte, Nat.reduceEqDiff, Nat.reduceAdd, Nat.reduceMul, Nat.reduceSub, Nat.reduceLT, Nat.reduceLeDiff, Int.reduceLT, Int.reduceLE, Int.reduceEq, Int.reduceNe, Int.reduceAdd, Int.reduceNeg, Int.reduceToNat, hg, ho] at hK ⊢; exact hK))
    refine det_pure (v := .one (.d .nilp)) (fun fa ga oa K' hK => ?_) ?_
    · simp (config := { maxSteps := 1000000 }) only [go_sem, ↓reduceIte, Nat.reduceEqDiff, Nat.reduceAdd, Nat.reduceMul, Nat.reduceSub, Nat.reduceLT, Nat.reduceLeDiff, Int.reduceLT, Int.reduceLE, Int.reduceEq, Int.reduceNe, Int.reduceAdd, Int.reduceNeg, Int.reduceToNat] at hK ⊢
      refine hook_usd_nil (k := bx K') rfl (by simp (config := { maxSteps := 1000000 }) only [go_sem, ↓reduceIte, Nat.reduceEqDiff, Nat.reduceAdd, Nat.reduceMul, Nat.reduceSub, Nat.reduceLT, Nat.reduceLeDiff, Int.reduceLT, Int.reduceLE, Int.reduceEq, Int.reduceNe, Int.reduceAdd, Int.reduceNeg, Int.reduceToNat]) ?_
      simp (config := { maxSteps := 1000000 }) only [go_sem, ↓reduceIte, Nat.reduceEqDiff, Nat.reduceAdd, Nat.reduceMul, Nat.reduceSub, Nat.reduceLT, Nat.reduceLeDiff, Int.reduceLT, Int.reduceLE, Int.reduceEq, Int.reduceNe, Int.reduceAdd, Int.reduceNeg, Int.reduceToNat]
      exact hK
    iterate 5 (apply det_pure; · (intro fa ga oa K' hK; simp (config := { maxSteps := 1000000 }) only [go_sem, ↓reduceIte, Nat.reduceEqDiff, Nat.reduceAdd, Nat.reduceMul, Nat.reduceSub, Nat.reduceLT, Nat.reduceLeDiff, Int.reduceLT, Int.reduceLE, Int.reduceEq, Int.reduceNe, Int.reduceAdd, Int.reduceNeg, Int.reduceToNat, hg, ho] at hK ⊢; exact hK))
    refine det_pure (v := sv []) (fun fa ga oa K' hK => ?_) ?_
    · simp (config := { maxSteps := 1000000 }) only [go_sem, ↓reduceIte, Nat.reduceEqDiff, Nat.reduceAdd, Nat.reduceMul, Nat.reduceSub, Nat.reduceLT, Nat.reduceLeDiff, Int.reduceLT, Int.reduceLE, Int.reduceEq, Int.reduceNe, Int.reduceAdd, Int.reduceNeg, Int.reduceToNat] at hK ⊢
      refine hook_ustr_nil (k := bx K') rfl (by simp (config := { maxSteps := 1000000 }) only [go_sem, ↓reduceIte, Nat.reduceEqDiff, Nat.reduceAdd, Nat.reduceMul, Nat.reduceSub, Nat.reduceLT, Nat.reduceLeDiff, Int.reduceLT, Int.reduceLE, Int.reduceEq, Int.reduceNe, Int.reduceAdd, Int.reduceNeg, Int.reduceToNat]) (by simp (config := { maxSteps := 1000000 }) only [go_sem, ↓reduceIte, Nat.reduceEqDiff, Nat.reduceAdd, Nat.reduceMul, Nat.reduceSub, Nat.reduceLT, Nat.reduceLeDiff, Int.reduceLT, Int.reduceLE, Int.reduceEq, Int.reduceNe, Int.reduceAdd, Int.reduceNeg, Int.reduceToNat]) ?_
      simp (config := { maxSteps := 1000000 }) only [go_sem, ↓reduceIte, Nat.reduceEqDiff, Nat.reduceAdd, Nat.reduceMul, Nat.reduceSub, Nat.reduceLT, Nat.reduceLeDiff, Int.reduceLT, Int.reduceLE, Int.reduceEq, Int.reduceNe, Int.reduceAdd, Int.reduceNeg, Int.reduceToNat]
      exact hK
    apply det_last
    intro K' hK'
    simp (config := { maxSteps := 1000000 }) only [go_sem, ↓reduceIte, Nat.reduceEqDiff, Nat.reduceAdd, Nat.reduceMul, Nat.reduceSub, Nat.reduceLT, Nat.reduceLeDiff, Int.reduceLT, Int.reduceLE, Int.reduceEq, Int.reduceNe, Int.reduceAdd, Int.reduceNeg, Int.reduceToNat]
    refine hK' _ ?_
    clear hK' K'
    simp (config := { maxSteps := 1000000 }) only [go_sem, ↓reduceIte, Nat.reduceEqDiff, Nat.reduceAdd, Nat.reduceMul, Nat.reduceSub, Nat.reduceLT, Nat.reduceLeDiff, Int.reduceLT, Int.reduceLE, Int.reduceEq, Int.reduceNe, Int.reduceAdd, Int.reduceNeg, Int.reduceToNat]
    exact ⟨_, SemVs.refl _, by simp only [resAV, upd]; rfl, rfl, fun _ _ => rfl⟩
  · simp (config := { maxSteps := 1000000 }) only [go_sem, ↓reduceIte, Nat.reduceEqDiff, Nat.reduceAdd, Nat.reduceMul, Nat.reduceSub, Nat.reduceLT, Nat.reduceLeDiff, Int.reduceLT, Int.reduceLE, Int.reduceEq, Int.reduceNe, Int.reduceAdd, Int.reduceNeg, Int.reduceToNat]
    refine draw_det Tt_ok mixed [ib] [([0], [], [], false), ([3], [], [], false), ([4], [], [], false), ([5], [], [], false), ([6], [], [], false), ([0], [], [], false), ([8], [], [], false), ([9], [], [], false), ([10], [], [], false), ([11], [], [], false), ([7, 12], [], [0], false), ([13], [], [], true)] 1 (by decide +kernel) rfl (by simp) ?_
    simp (config := { maxSteps := 1000000 }) only [go_sem, ↓reduceIte, Nat.reduceEqDiff, Nat.reduceAdd, Nat.reduceMul, Nat.reduceSub, Nat.reduceLT, Nat.reduceLeDiff, Int.reduceLT, Int.reduceLE, Int.reduceEq, Int.reduceNe, Int.reduceAdd, Int.reduceNeg, Int.reduceToNat]
    iterate 4 (apply det_pure; · (intro fa ga oa K' hK; simp (config := { maxSteps := 1000000 }) only [go_sem, ↓reduceIte, Nat.reduceEqDiff, Nat.reduceAdd, Nat.reduceMul, Nat.reduceSub, Nat.reduceLT, Nat.reduceLeDiff, Int.reduceLT, Int.reduceLE, Int.reduceEq, Int.reduceNe, Int.reduceAdd, Int.reduceNeg, Int.reduceToNat, hg, ho] at hK ⊢; exact hK))
    refine det_pure (v := .one (.ptr ib (g ib) 0)) (fun fa ga oa K' hK => ?_) ?_
    · simp (config := { maxSteps := 1000000 }) only [go_sem, ↓reduceIte, Nat.reduceEqDiff, Nat.reduceAdd, Nat.reduceMul, Nat.reduceSub, Nat.reduceLT, Nat.reduceLeDiff, Int.reduceLT, Int.reduceLE, Int.reduceEq, Int.reduceNe, Int.reduceAdd, Int.reduceNeg, Int.reduceToNat] at hK ⊢
      refine hook_usd (k := bx K') rfl (by simp (config := { maxSteps := 1000000 }) only [go_sem, ↓reduceIte, Nat.reduceEqDiff, Nat.reduceAdd, Nat.reduceMul, Nat.reduceSub, Nat.reduceLT, Nat.reduceLeDiff, Int.reduceLT, Int.reduceLE, Int.reduceEq, Int.reduceNe, Int.reduceAdd, Int.reduceNeg, Int.reduceToNat]; rfl) rfl (by simp (config := { maxSteps := 1000000 }) only [go_sem, ↓reduceIte, Nat.reduceEqDiff, Nat.reduceAdd, Nat.reduceMul, Nat.reduceSub, Nat.reduceLT, Nat.reduceLeDiff, Int.reduceLT, Int.reduceLE, Int.reduceEq, Int.reduceNe, Int.reduceAdd, Int.reduceNeg, Int.reduceToNat, hi]) (by cases bs; exact absurd rfl hbs; simp) ?_
      simp (config := { maxSteps := 1000000 }) only [go_sem, ↓reduceIte, Nat.reduceEqDiff, Nat.reduceAdd, Nat.reduceMul, Nat.reduceSub, Nat.reduceLT, Nat.reduceLeDiff, Int.reduceLT, Int.reduceLE, Int.reduceEq, Int.reduceNe, Int.reduceAdd, Int.reduceNeg, Int.reduceToNat]
      exact hK
    iterate 5 (apply det_pure; · (intro fa ga oa K' hK; simp (config := { maxSteps := 1000000 }) only [go_sem, ↓reduceIte, Nat.reduceEqDiff, Nat.reduceAdd, Nat.reduceMul, Nat.reduceSub, Nat.reduceLT, Nat.reduceLeDiff, Int.reduceLT, Int.reduceLE, Int.reduceEq, Int.reduceNe, Int.reduceAdd, Int.reduceNeg, Int.reduceToNat, hg, ho, hi] at hK ⊢; exact hK))
    have hself : upd g ib (g ib) = g := by funext j; simp only [upd]; split <;> simp_all
    refine det_new (v := sv bs) (x := g ib) (y := none) (fun fa ga oa K' hK => ?_) ?_
    · simp (config := { maxSteps := 1000000 }) only [go_sem, ↓reduceIte, Nat.reduceEqDiff, Nat.reduceAdd, Nat.reduceMul, Nat.reduceSub, Nat.reduceLT, Nat.reduceLeDiff, Int.reduceLT, Int.reduceLE, Int.reduceEq, Int.reduceNe, Int.reduceAdd, Int.reduceNeg, Int.reduceToNat, hself, List.getD_cons_zero] at hK ⊢
      refine hook_ustr (k := bx K') rfl und72 cells5 (l := bs) (by simp (config := { maxSteps := 1000000 }) only [go_sem, ↓reduceIte, Nat.reduceEqDiff, Nat.reduceAdd, Nat.reduceMul, Nat.reduceSub, Nat.reduceLT, Nat.reduceLeDiff, Int.reduceLT, Int.reduceLE, Int.reduceEq, Int.reduceNe, Int.reduceAdd, Int.reduceNeg, Int.reduceToNat]) (by simp (config := { maxSteps := 1000000 }) only [go_sem, ↓reduceIte, Nat.reduceEqDiff, Nat.reduceAdd, Nat.reduceMul, Nat.reduceSub, Nat.reduceLT, Nat.reduceLeDiff, Int.reduceLT, Int.reduceLE, Int.reduceEq, Int.reduceNe, Int.reduceAdd, Int.reduceNeg, Int.reduceToNat]) rfl hc2 hi (by rw [List.take_of_length_le (by simp)]; rfl) hbs (by omega) ?_
      simp (config := { maxSteps := 1000000 }) only [go_sem, ↓reduceIte, Nat.reduceEqDiff, Nat.reduceAdd, Nat.reduceMul, Nat.reduceSub, Nat.reduceLT, Nat.reduceLeDiff, Int.reduceLT, Int.reduceLE, Int.reduceEq, Int.reduceNe, Int.reduceAdd, Int.reduceNeg, Int.reduceToNat]
      exact hK
    simp (config := { maxSteps := 1000000 }) only [go_sem, ↓reduceIte, Nat.reduceEqDiff, Nat.reduceAdd, Nat.reduceMul, Nat.reduceSub, Nat.reduceLT, Nat.reduceLeDiff, Int.reduceLT, Int.reduceLE, Int.reduceEq, Int.reduceNe, Int.reduceAdd, Int.reduceNeg, Int.reduceToNat, hself, List.getD_cons_zero]
    apply det_last
    intro K' hK'
    simp (config := { maxSteps := 1000000 }) only [go_sem, ↓reduceIte, Nat.reduceEqDiff, Nat.reduceAdd, Nat.reduceMul, Nat.reduceSub, Nat.reduceLT, Nat.reduceLeDiff, Int.reduceLT, Int.reduceLE, Int.reduceEq, Int.reduceNe, Int.reduceAdd, Int.reduceNeg, Int.reduceToNat]
    refine hK' _ ?_
    clear hK' K'
    simp (config := { maxSteps := 1000000 }) only [go_sem, ↓reduceIte, Nat.reduceEqDiff, Nat.reduceAdd, Nat.reduceMul, Nat.reduceSub, Nat.reduceLT, Nat.reduceLeDiff, Int.reduceLT, Int.reduceLE, Int.reduceEq, Int.reduceNe, Int.reduceAdd, Int.reduceNeg, Int.reduceToNat]
    refine ⟨_, SemVs.refl _, by simp only [resAV, upd]; rfl, rfl, fun i hib => ?_⟩
    simp [upd, hib]

end Go.Proofs.YtdlogfbbcbbllaaDoor

namespace Go.Proofs.YtdlogfbbcbbllaaDoor
open Go Go.Am

/-- A part, as it lies in memory. -/
def partV (t : List UInt8) (bare bad : Bool) : AV := .agg [.d (.str t), .d (.bool bare), .d (.bool bad)]

/-- How many bytes a bare word has. -/
def bareN (s : List UInt8) : Nat := (s.takeWhile bareC).length

theorem bareN_le (s : List UInt8) : bareN s ≤ s.length := (List.takeWhile_prefix _).length_le
theorem bareN_stop {s : List UInt8} {k : Nat} (h : (s.take k).all bareC = true) (hk : k ≤ s.length) (he : ∀ c, s[k]? = some c → bareC c = false) : bareN s = k := by
  unfold bareN
  induction s generalizing k with
  | nil => simp at hk; simp [hk]
  | cons c s ih =>
    cases k with
    | zero =>
      have := he c rfl
      simp [List.takeWhile_cons, this]
    | succ k =>
      simp only [List.take_succ_cons, List.all_cons, Bool.and_eq_true] at h
      rw [List.takeWhile_cons, if_pos h.1]
      simp only [List.length_cons]
      rw [ih h.2 (by simpa using hk) (fun c' hc => he c' (by simpa using hc))]

theorem frzV_part {s : St} {t : List UInt8} {bare bad : Bool} : FrzV s (partV t bare bad) (partV t bare bad) := by
  refine ⟨[.str t, .bool bare, .bool bad], rfl, fun i c hc => ?_, rfl⟩
  match i, hc with
  | 0, hc => cases hc; exact ⟨_, rfl, .d _⟩
  | 1, hc => cases hc; exact ⟨_, rfl, .d _⟩
  | 2, hc => cases hc; exact ⟨_, rfl, .d _⟩
theorem frzV_i {s : St} {k : IntKind} {n : Int} : FrzV s (iv k n) (iv k n) := ⟨.int k n, .d (.int k n), rfl⟩
theorem frzR_part {s : St} {t : List UInt8} {bare bad : Bool} {n : Int} : FrzR s [partV t bare bad, iv .i64 n] (.tup [partV t bare bad, iv .i64 n]) := by
  refine ⟨_, ?_, rfl⟩
  simp only [FrzVs]
  exact ⟨_, _, rfl, frzV_part, _, _, rfl, frzV_i, rfl⟩

set_option maxHeartbeats 2000000 in
theorem cutBare_A (s : List UInt8) (hs : s.length ≤ 1000000000) : PureR Tryd.prog 45 [sv s] (· = .tup [partV (s.take (bareN s)) true (decide (bareN s = 0)), iv .i64 (bareN s)]) := by
  refine pure_of_wpR Tt_ok mixed Tryd.func45 rfl (by rfl) [.cell 2 66, .tmp 3] rfl (by kernel_rfl) (by simp [Tryd.ntmps45]) fun g => ?_
  simp (config := { maxSteps := 1000000 }) only [go_sem, ↓reduceIte, Nat.reduceEqDiff, Nat.reduceAdd, Nat.reduceMul, Nat.reduceSub, Nat.reduceLT, Nat.reduceLeDiff, Int.reduceLT, Int.reduceLE, Int.reduceEq, Int.reduceNe, Int.reduceAdd, Int.reduceNeg, Int.reduceToNat]
  refine loop_intro (fun n st => ∃ k : Nat, n + k = s.length ∧ st.f 0 = sv s ∧ st.f 4 = iv .i64 k ∧ (s.take k).all bareC = true ∧ st.f 2 = .one (.ptr 2 (st.gen 2) 0) ∧ st.obj 2 = some [.d (.str []), .d (.bool false), .d (.bool false)]) s.length ?_ ?_
  · refine ⟨0, ?_⟩
    simp (config := { maxSteps := 1000000 }) only [go_sem, ↓reduceIte, Nat.reduceEqDiff, Nat.reduceAdd, Nat.reduceMul, Nat.reduceSub, Nat.reduceLT, Nat.reduceLeDiff, Int.reduceLT, Int.reduceLE, Int.reduceEq, Int.reduceNe, Int.reduceAdd, Int.reduceNeg, Int.reduceToNat]
    simp
  · rintro n f g ob ⟨k, hk, h0, h4, hall, h2, ho⟩
    simp only at h0 h4 h2 ho
    have hw := wrap_succ (k := k) (by omega)
    by_cases hlt : k < s.length
    · obtain ⟨c, hc⟩ := getq hlt
      simp (config := { maxSteps := 1000000 }) only [go_sem, ↓reduceIte, Nat.reduceEqDiff, Nat.reduceAdd, Nat.reduceMul, Nat.reduceSub, Nat.reduceLT, Nat.reduceLeDiff, Int.reduceLT, Int.reduceLE, Int.reduceEq, Int.reduceNe, Int.reduceAdd, Int.reduceNeg, Int.reduceToNat, h0, h4, hc, hlt, hw, h2, ho]
      refine hook_call rfl (by simp (config := { maxSteps := 1000000 }) only [go_sem, ↓reduceIte, Nat.reduceEqDiff, Nat.reduceAdd, Nat.reduceMul, Nat.reduceSub, Nat.reduceLT, Nat.reduceLeDiff, Int.reduceLT, Int.reduceLE, Int.reduceEq, Int.reduceNe, Int.reduceAdd, Int.reduceNeg, Int.reduceToNat]; exact isBare_A c) (by simp (config := { maxSteps := 1000000 }) only [go_sem, ↓reduceIte, Nat.reduceEqDiff, Nat.reduceAdd, Nat.reduceMul, Nat.reduceSub, Nat.reduceLT, Nat.reduceLeDiff, Int.reduceLT, Int.reduceLE, Int.reduceEq, Int.reduceNe, Int.reduceAdd, Int.reduceNeg, Int.reduceToNat]; rfl) ?_
      rintro _ rfl
      simp (config := { maxSteps := 1000000 }) only [go_sem, ↓reduceIte, Nat.reduceEqDiff, Nat.reduceAdd, Nat.reduceMul, Nat.reduceSub, Nat.reduceLT, Nat.reduceLeDiff, Int.reduceLT, Int.reduceLE, Int.reduceEq, Int.reduceNe, Int.reduceAdd, Int.reduceNeg, Int.reduceToNat, h0, h4, hw, hlt, h2, ho]
      cases hb : bareC c
      · simp (config := { maxSteps := 1000000 }) only [go_sem, ↓reduceIte, Nat.reduceEqDiff, Nat.reduceAdd, Nat.reduceMul, Nat.reduceSub, Nat.reduceLT, Nat.reduceLeDiff, Int.reduceLT, Int.reduceLE, Int.reduceEq, Int.reduceNe, Int.reduceAdd, Int.reduceNeg, Int.reduceToNat, h0, h4, hw, hlt, h2, ho, setAt]
        have e : bareN s = k := bareN_stop hall (by omega) (fun c' hc' => by rw [hc] at hc'; cases hc'; exact hb)
        refine ⟨by omega, by omega, _, frzR_part, ?_⟩
        rw [e]; simp
      · simp (config := { maxSteps := 1000000 }) only [go_sem, ↓reduceIte, Nat.reduceEqDiff, Nat.reduceAdd, Nat.reduceMul, Nat.reduceSub, Nat.reduceLT, Nat.reduceLeDiff, Int.reduceLT, Int.reduceLE, Int.reduceEq, Int.reduceNe, Int.reduceAdd, Int.reduceNeg, Int.reduceToNat, h0, h4, hw, hlt, h2, ho]
        refine round_end (n - 1) (by omega) ⟨k + 1, by omega, ?_⟩
        simp (config := { maxSteps := 1000000 }) only [go_sem, ↓reduceIte, Nat.reduceEqDiff, Nat.reduceAdd, Nat.reduceMul, Nat.reduceSub, Nat.reduceLT, Nat.reduceLeDiff, Int.reduceLT, Int.reduceLE, Int.reduceEq, Int.reduceNe, Int.reduceAdd, Int.reduceNeg, Int.reduceToNat, h0, h4, hw, hlt, h2, ho]
        exact all_take hc hall hb
    · simp (config := { maxSteps := 1000000 }) only [go_sem, ↓reduceIte, Nat.reduceEqDiff, Nat.reduceAdd, Nat.reduceMul, Nat.reduceSub, Nat.reduceLT, Nat.reduceLeDiff, Int.reduceLT, Int.reduceLE, Int.reduceEq, Int.reduceNe, Int.reduceAdd, Int.reduceNeg, Int.reduceToNat, h0, h4, hlt, hw, h2, ho, setAt]
      have e : bareN s = k := bareN_stop hall (by omega) (fun c' hc' => by have := (List.getElem?_eq_some_iff.1 hc').1; omega)
      refine ⟨by omega, by omega, _, frzR_part, ?_⟩
      rw [e]; simp

end Go.Proofs.YtdlogfbbcbbllaaDoor

namespace Go.Proofs.YtdlogfbbcbbllaaDoor
open Go Go.Am

/-- A quoted word's bytes, from behind its quote on, and how many bytes it takes with the quote at its end. -/
def unq : List UInt8 → Option (List UInt8 × Nat)
  | [] => none
  | c :: r =>
    if c = 34 then some ([], 1)
    else if c = 92 then
      match r with
      | [] => none
      | d :: r' => if d = 34 ∨ d = 92 then (unq r').map (fun p => (d :: p.1, p.2 + 2)) else if d = 110 then (unq r').map (fun p => (10 :: p.1, p.2 + 2)) else none
    else (unq r).map (fun p => (c :: p.1, p.2 + 1))

theorem unq_else {c : UInt8} {r : List UInt8} (h1 : c ≠ 34) (h2 : c ≠ 92) : unq (c :: r) = (unq r).map (fun p => (c :: p.1, p.2 + 1)) := by
  conv => lhs; unfold unq
  simp [h1, h2]

theorem unq_esc {d : UInt8} {r : List UInt8} (h : d = 34 ∨ d = 92) : unq (92 :: d :: r) = (unq r).map (fun p => (d :: p.1, p.2 + 2)) := by
  conv => lhs; unfold unq
  simp [h]
theorem unq_n {d : UInt8} {r : List UInt8} (h : d = 110) : unq (92 :: d :: r) = (unq r).map (fun p => (10 :: p.1, p.2 + 2)) := by
  subst h
  conv => lhs; unfold unq
  simp
theorem unq_bad {d : UInt8} {r : List UInt8} (h1 : d ≠ 34) (h2 : d ≠ 92) (h3 : d ≠ 110) : unq (92 :: d :: r) = none := by
  unfold unq
  simp [h1, h2, h3]

theorem drop_cons {α : Type} {l : List α} {k : Nat} {x : α} (h : l[k]? = some x) : l.drop k = x :: l.drop (k + 1) := by
  obtain ⟨hk, rfl⟩ := List.getElem?_eq_some_iff.1 h
  exact List.drop_eq_getElem_cons hk

theorem u8_eq {c d : UInt8} (h : (c.toNat : Int) = (d.toNat : Int)) : c = d := UInt8.toNat_inj.1 (by omega)

def cutQR (s : List UInt8) (r : AV) : Prop := ∃ t bad n, r = .tup [partV t false bad, iv .i64 ((n : Nat) : Int)] ∧ n ≤ s.length ∧ (match unq (s.drop 1) with | some p => t = p.1 ∧ bad = false ∧ n = p.2 + 1 | none => bad = true ∧ t = [])

set_option maxHeartbeats 4000000 in
theorem cutQuoted_A (s : List UInt8) (hs : s.length ≤ 1000000) (h1 : 1 ≤ s.length) : PureR Tryd.prog 46 [sv s] (cutQR s) := by
  refine pure_of_wpR Tt_ok mixed Tryd.func46 rfl (by rfl) [.cell 2 66, .tmp 3] rfl (by kernel_rfl) (by simp [Tryd.ntmps46]) fun g => ?_
  simp (config := { maxSteps := 1000000 }) only [go_sem, ↓reduceIte, Nat.reduceEqDiff, Nat.reduceAdd, Nat.reduceMul, Nat.reduceSub, Nat.reduceLT, Nat.reduceLeDiff, Int.reduceLT, Int.reduceLE, Int.reduceEq, Int.reduceNe, Int.reduceAdd, Int.reduceNeg, Int.reduceToNat]
  refine loop_intro (fun n st => ∃ (k : Nat) (acc : List UInt8), n + k = s.length ∧ 1 ≤ k ∧ acc.length ≤ k ∧ st.f 0 = sv s ∧ st.f 5 = iv .i64 k ∧ st.f 2 = .one (.ptr 2 (st.gen 2) 0) ∧ st.obj 2 = some [.d (.str []), .d (.bool false), .d (.bool false)] ∧
    st.f 4 = .one (.ptr 4 (st.gen 4) 0) ∧ Bld 4 114 (st.gen 4) acc st.gen st.obj ∧ (∀ i, 100 ≤ i → i ≠ 114 → st.obj i = none) ∧ unq (s.drop 1) = (unq (s.drop k)).map fun p => (acc ++ p.1, p.2 + (k - 1))) (s.length - 1) ?_ ?_
  · refine ⟨1, [], by omega, Nat.le_refl _, by simp, ?_⟩
    simp (config := { maxSteps := 1000000 }) only [go_sem, ↓reduceIte, Nat.reduceEqDiff, Nat.reduceAdd, Nat.reduceMul, Nat.reduceSub, Nat.reduceLT, Nat.reduceLeDiff, Int.reduceLT, Int.reduceLE, Int.reduceEq, Int.reduceNe, Int.reduceAdd, Int.reduceNeg, Int.reduceToNat]
    refine ⟨⟨rfl, by rw [code_nxC]; rfl, ⟨_, .inl rfl, .inl ⟨rfl, ?_, ?_⟩⟩, by decide⟩, fun i hi hi' => ?_, ?_⟩
    · simp [upd]
    · simp [upd]
    · simp [upd, show ¬ i = 2 by omega, show ¬ i = 4 by omega]
    · simp
  · rintro n f g ob ⟨k, acc, hk, hk1, hal, h0, h5, h2, ho, h4, hB, hfree, hu⟩
    simp only at h0 h5 h2 ho h4 hB hfree
    have hw := wrap_succ (k := k) (by omega)
    by_cases hlt : k < s.length
    · obtain ⟨c, hc⟩ := getq hlt
      have hd := drop_cons hc
      simp (config := { maxSteps := 1000000 }) only [go_sem, ↓reduceIte, Nat.reduceEqDiff, Nat.reduceAdd, Nat.reduceMul, Nat.reduceSub, Nat.reduceLT, Nat.reduceLeDiff, Int.reduceLT, Int.reduceLE, Int.reduceEq, Int.reduceNe, Int.reduceAdd, Int.reduceNeg, Int.reduceToNat, h0, h5, hc, hlt, hw, h2, ho, h4]
      refine ⟨fun hq => ?_, fun hq => ⟨fun hq2 => ?_, fun hq2 => ?_⟩⟩
      · refine hook_fun rfl (by simp (config := { maxSteps := 1000000 }) only [go_sem, ↓reduceIte, Nat.reduceEqDiff, Nat.reduceAdd, Nat.reduceMul, Nat.reduceSub, Nat.reduceLT, Nat.reduceLeDiff, Int.reduceLT, Int.reduceLE, Int.reduceEq, Int.reduceNe, Int.reduceAdd, Int.reduceNeg, Int.reduceToNat, h4]; exact String_A hB (by omega)) ?_
        rintro _ g' ob' ⟨rfl, rfl, hsame⟩
        have ho' : ob' 2 = some [.d (.str []), .d (.bool false), .d (.bool false)] := (hsame 2 (by decide)).trans ho
        simp (config := { maxSteps := 1000000 }) only [go_sem, ↓reduceIte, Nat.reduceEqDiff, Nat.reduceAdd, Nat.reduceMul, Nat.reduceSub, Nat.reduceLT, Nat.reduceLeDiff, Int.reduceLT, Int.reduceLE, Int.reduceEq, Int.reduceNe, Int.reduceAdd, Int.reduceNeg, Int.reduceToNat, h0, h5, hw, h2, ho', setAt]
        refine ⟨_, frzR_part, acc, false, k + 1, rfl, by omega, ?_⟩
        have hc34 : c = 34 := u8_eq (d := 34) hq
        rw [hu, hd, hc34]
        rw [show unq (34 :: s.drop (k + 1)) = some ([], 1) from by unfold unq; simp]
        refine ⟨by simp, rfl, ?_⟩
        simp only [Option.map_some]
        clear hw; omega
      · have hc92 : c = 92 := u8_eq (d := 92) hq2
        subst hc92
        refine ⟨fun he => ?_, fun he => ?_⟩
        · have hd2 : s.drop (k + 1) = [] := List.drop_eq_nil_of_le (by omega)
          refine ⟨_, frzR_part, [], true, k + 1, rfl, by omega, ?_⟩
          rw [hu, hd, hd2]
          exact ⟨rfl, rfl⟩
        · have hlt2 : k + 1 < s.length := by omega
          obtain ⟨d, hc2⟩ := getq hlt2
          have hd2 := drop_cons hc2
          have hw2 := wrap_succ (k := k + 1) (by omega)
          simp (config := { maxSteps := 1000000 }) only [go_sem, ↓reduceIte, Nat.reduceEqDiff, Nat.reduceAdd, Nat.reduceMul, Nat.reduceSub, Nat.reduceLT, Nat.reduceLeDiff, Int.reduceLT, Int.reduceLE, Int.reduceEq, Int.reduceNe, Int.reduceAdd, Int.reduceNeg, Int.reduceToNat, h0, h5, hw, h2, ho, hc2, h4]
          refine ⟨fun a1 => ⟨fun _ => ?_, fun h => absurd a1 h⟩, fun a1 => ⟨fun a2 => ?_, fun a2 => ⟨fun a3 => ?_, fun a3 => ?_⟩⟩⟩
          · refine hook_fun (B := 0) rfl (by simp (config := { maxSteps := 1000000 }) only [go_sem, ↓reduceIte, Nat.reduceEqDiff, Nat.reduceAdd, Nat.reduceMul, Nat.reduceSub, Nat.reduceLT, Nat.reduceLeDiff, Int.reduceLT, Int.reduceLE, Int.reduceEq, Int.reduceNe, Int.reduceAdd, Int.reduceNeg, Int.reduceToNat, h0, h5, h4, hc2]; exact WriteByte_A (B := 100) d hB (by decide) (by omega) hfree) ?_
            rintro _ g' ob' ⟨rfl, hB', e1, e2, e3⟩
            have ho' : ob' 2 = some [.d (.str []), .d (.bool false), .d (.bool false)] := (e2 2 (by decide) (by decide)).trans ho
            have g2 : g' 2 = g 2 := e1 2 (by decide)
            have g4 : g' 4 = g 4 := e1 4 (by decide)
            simp (config := { maxSteps := 1000000 }) only [go_sem, ↓reduceIte, Nat.reduceEqDiff, Nat.reduceAdd, Nat.reduceMul, Nat.reduceSub, Nat.reduceLT, Nat.reduceLeDiff, Int.reduceLT, Int.reduceLE, Int.reduceEq, Int.reduceNe, Int.reduceAdd, Int.reduceNeg, Int.reduceToNat, h0, h5, hw2, h2, ho']
            refine round_end (n - 2) (by omega) ⟨k + 1 + 1, acc ++ [d], by omega, by omega, by simp; omega, ?_⟩
            simp (config := { maxSteps := 1000000 }) only [go_sem, ↓reduceIte, Nat.reduceEqDiff, Nat.reduceAdd, Nat.reduceMul, Nat.reduceSub, Nat.reduceLT, Nat.reduceLeDiff, Int.reduceLT, Int.reduceLE, Int.reduceEq, Int.reduceNe, Int.reduceAdd, Int.reduceNeg, Int.reduceToNat, h0, h5, h2, h4, g2, g4]
            refine ⟨ho', hB', e3, ?_⟩
            rw [hu, hd, hd2, unq_esc (.inl (u8_eq (d := 34) a1)), Option.map_map]
            congr 1
            funext p
            simp only [Function.comp, List.append_assoc, List.singleton_append, Prod.mk.injEq, true_and]
            clear hw hw2
            omega
          · refine hook_fun (B := 0) rfl (by simp (config := { maxSteps := 1000000 }) only [go_sem, ↓reduceIte, Nat.reduceEqDiff, Nat.reduceAdd, Nat.reduceMul, Nat.reduceSub, Nat.reduceLT, Nat.reduceLeDiff, Int.reduceLT, Int.reduceLE, Int.reduceEq, Int.reduceNe, Int.reduceAdd, Int.reduceNeg, Int.reduceToNat, h0, h5, h4, hc2]; exact WriteByte_A (B := 100) d hB (by decide) (by omega) hfree) ?_
            rintro _ g' ob' ⟨rfl, hB', e1, e2, e3⟩
            have ho' : ob' 2 = some [.d (.str []), .d (.bool false), .d (.bool false)] := (e2 2 (by decide) (by decide)).trans ho
            have g2 : g' 2 = g 2 := e1 2 (by decide)
            have g4 : g' 4 = g 4 := e1 4 (by decide)
            simp (config := { maxSteps := 1000000 }) only [go_sem, ↓reduceIte, Nat.reduceEqDiff, Nat.reduceAdd, Nat.reduceMul, Nat.reduceSub, Nat.reduceLT, Nat.reduceLeDiff, Int.reduceLT, Int.reduceLE, Int.reduceEq, Int.reduceNe, Int.reduceAdd, Int.reduceNeg, Int.reduceToNat, h0, h5, hw2, h2, ho']
            refine round_end (n - 2) (by omega) ⟨k + 1 + 1, acc ++ [d], by omega, by omega, by simp; omega, ?_⟩
            simp (config := { maxSteps := 1000000 }) only [go_sem, ↓reduceIte, Nat.reduceEqDiff, Nat.reduceAdd, Nat.reduceMul, Nat.reduceSub, Nat.reduceLT, Nat.reduceLeDiff, Int.reduceLT, Int.reduceLE, Int.reduceEq, Int.reduceNe, Int.reduceAdd, Int.reduceNeg, Int.reduceToNat, h0, h5, h2, h4, g2, g4]
            refine ⟨ho', hB', e3, ?_⟩
            rw [hu, hd, hd2, unq_esc (.inr (u8_eq (d := 92) a2)), Option.map_map]
            congr 1
            funext p
            simp only [Function.comp, List.append_assoc, List.singleton_append, Prod.mk.injEq, true_and]
            clear hw hw2
            omega
          · refine hook_fun (B := 0) rfl (by simp (config := { maxSteps := 1000000 }) only [go_sem, ↓reduceIte, Nat.reduceEqDiff, Nat.reduceAdd, Nat.reduceMul, Nat.reduceSub, Nat.reduceLT, Nat.reduceLeDiff, Int.reduceLT, Int.reduceLE, Int.reduceEq, Int.reduceNe, Int.reduceAdd, Int.reduceNeg, Int.reduceToNat, h0, h5, h4, hc2]; exact WriteByte_A (B := 100) 10 hB (by decide) (by omega) hfree) ?_
            rintro _ g' ob' ⟨rfl, hB', e1, e2, e3⟩
            have ho' : ob' 2 = some [.d (.str []), .d (.bool false), .d (.bool false)] := (e2 2 (by decide) (by decide)).trans ho
            have g2 : g' 2 = g 2 := e1 2 (by decide)
            have g4 : g' 4 = g 4 := e1 4 (by decide)
            simp (config := { maxSteps := 1000000 }) only [go_sem, ↓reduceIte, Nat.reduceEqDiff, Nat.reduceAdd, Nat.reduceMul, Nat.reduceSub, Nat.reduceLT, Nat.reduceLeDiff, Int.reduceLT, Int.reduceLE, Int.reduceEq, Int.reduceNe, Int.reduceAdd, Int.reduceNeg, Int.reduceToNat, h0, h5, hw2, h2, ho']
            refine round_end (n - 2) (by omega) ⟨k + 1 + 1, acc ++ [10], by omega, by omega, by simp; omega, ?_⟩
            simp (config := { maxSteps := 1000000 }) only [go_sem, ↓reduceIte, Nat.reduceEqDiff, Nat.reduceAdd, Nat.reduceMul, Nat.reduceSub, Nat.reduceLT, Nat.reduceLeDiff, Int.reduceLT, Int.reduceLE, Int.reduceEq, Int.reduceNe, Int.reduceAdd, Int.reduceNeg, Int.reduceToNat, h0, h5, h2, h4, g2, g4]
            refine ⟨ho', hB', e3, ?_⟩
            rw [hu, hd, hd2, unq_n (u8_eq (d := 110) a3), Option.map_map]
            congr 1
            funext p
            simp only [Function.comp, List.append_assoc, List.singleton_append, Prod.mk.injEq, true_and]
            clear hw hw2
            omega
          · refine ⟨_, frzR_part, [], true, k + 1, rfl, by omega, ?_⟩
            rw [hu, hd, hd2, unq_bad (fun e => a1 (by rw [e]; rfl)) (fun e => a2 (by rw [e]; rfl)) (fun e => a3 (by rw [e]; rfl))]
            exact ⟨rfl, rfl⟩
      · refine hook_fun (B := 0) rfl (by simp (config := { maxSteps := 1000000 }) only [go_sem, ↓reduceIte, Nat.reduceEqDiff, Nat.reduceAdd, Nat.reduceMul, Nat.reduceSub, Nat.reduceLT, Nat.reduceLeDiff, Int.reduceLT, Int.reduceLE, Int.reduceEq, Int.reduceNe, Int.reduceAdd, Int.reduceNeg, Int.reduceToNat, h0, h5, h4, hc, hlt]; exact WriteByte_A (B := 100) c hB (by decide) (by omega) hfree) ?_
        rintro _ g' ob' ⟨rfl, hB', e1, e2, e3⟩
        have ho' : ob' 2 = some [.d (.str []), .d (.bool false), .d (.bool false)] := (e2 2 (by decide) (by decide)).trans ho
        have g2 : g' 2 = g 2 := e1 2 (by decide)
        have g4 : g' 4 = g 4 := e1 4 (by decide)
        simp (config := { maxSteps := 1000000 }) only [go_sem, ↓reduceIte, Nat.reduceEqDiff, Nat.reduceAdd, Nat.reduceMul, Nat.reduceSub, Nat.reduceLT, Nat.reduceLeDiff, Int.reduceLT, Int.reduceLE, Int.reduceEq, Int.reduceNe, Int.reduceAdd, Int.reduceNeg, Int.reduceToNat, h0, h5, hw, h2, ho']
        refine round_end (n - 1) (by omega) ⟨k + 1, acc ++ [c], by omega, by omega, by simp; omega, ?_⟩
        simp (config := { maxSteps := 1000000 }) only [go_sem, ↓reduceIte, Nat.reduceEqDiff, Nat.reduceAdd, Nat.reduceMul, Nat.reduceSub, Nat.reduceLT, Nat.reduceLeDiff, Int.reduceLT, Int.reduceLE, Int.reduceEq, Int.reduceNe, Int.reduceAdd, Int.reduceNeg, Int.reduceToNat, h0, h5, h2, h4, g2, g4]
        refine ⟨ho', hB', e3, ?_⟩
        have n34 : c ≠ 34 := fun e => hq (by rw [e]; rfl)
        have n92 : c ≠ 92 := fun e => hq2 (by rw [e]; rfl)
        rw [hu, hd]
        rw [show unq (c :: s.drop (k + 1)) = (unq (s.drop (k + 1))).map (fun p => (c :: p.1, p.2 + 1)) from unq_else n34 n92]
        rw [Option.map_map]
        congr 1
        funext p
        simp; omega
    · have hd : s.drop k = [] := List.drop_eq_nil_of_le (by omega)
      rw [hd] at hu
      simp (config := { maxSteps := 1000000 }) only [go_sem, ↓reduceIte, Nat.reduceEqDiff, Nat.reduceAdd, Nat.reduceMul, Nat.reduceSub, Nat.reduceLT, Nat.reduceLeDiff, Int.reduceLT, Int.reduceLE, Int.reduceEq, Int.reduceNe, Int.reduceAdd, Int.reduceNeg, Int.reduceToNat, h0, h5, hlt, hw, h2, ho, setAt]
      refine ⟨_, frzR_part, [], true, s.length, rfl, Nat.le_refl _, ?_⟩
      rw [hu]; exact ⟨rfl, rfl⟩

end Go.Proofs.YtdlogfbbcbbllaaDoor

namespace Go.Proofs.YtdlogfbbcbbllaaDoor
open Go Go.Am

theorem u8s_bytes : ∀ l : List UInt8, u8s (l.map byteC) = some (l.map fun c => (c.toNat : Int))
  | [] => rfl
  | c :: l => by simp only [List.map_cons, byteC, u8s]; rw [show (l.map byteC) = l.map byteC from rfl, u8s_bytes l]; rfl
theorem u8s_back (l : List UInt8) : (l.map fun c => (c.toNat : Int)).map (fun n => UInt8.ofNat n.toNat) = l := by
  rw [List.map_map]
  conv => rhs; rw [← List.map_id l]
  congr 1
  funext c
  simp

set_option maxHeartbeats 4000000 in
theorem quotedR_A (s : List UInt8) (at' : Nat) (hs : s.length ≤ 1000000) (hat : at' < s.length) : PureR Tryd.prog 34 [sv s, iv .i64 at']
    (fun r => match unq (s.drop (at' + 1)) with | some p => r = .tup [sv p.1, iv .i64 ((at' + 1 + p.2 : Nat) : Int), bv true] | none => r = .tup [sv [], iv .i64 0, bv false]) := by
  refine pure_of_wp Tt_ok mixed Tryd.func34 rfl (by rfl) [4, 5, 6] rfl (by kernel_rfl) (by simp [Tryd.ntmps34]) fun g => ?_
  have hw0 := wrap_succ (k := at') (by omega)
  simp (config := { maxSteps := 1000000 }) only [go_sem, ↓reduceIte, Nat.reduceEqDiff, Nat.reduceAdd, Nat.reduceMul, Nat.reduceSub, Nat.reduceLT, Nat.reduceLeDiff, Int.reduceLT, Int.reduceLE, Int.reduceEq, Int.reduceNe, Int.reduceAdd, Int.reduceNeg, Int.reduceToNat, hw0]
  refine loop_vs _ (vs_grab (t := 7) (id := 200) (sz := 1) rfl) (fun n st => ∃ (k : Nat) (acc : List UInt8), n + k = s.length ∧ at' + 1 ≤ k ∧ acc.length ≤ k ∧ st.f 0 = sv s ∧ st.f 8 = iv .i64 k ∧ st.f 7 = .one (.osl 200 (st.gen 200) 1 0 acc.length) ∧ st.obj 200 = some (acc.map byteC) ∧
    unq (s.drop (at' + 1)) = (unq (s.drop k)).map fun p => (acc ++ p.1, p.2 + (k - (at' + 1)))) (s.length - (at' + 1)) ?_ ?_
  · refine ⟨at' + 1, [], by omega, Nat.le_refl _, by simp, ?_⟩
    simp (config := { maxSteps := 1000000 }) only [go_sem, ↓reduceIte, Nat.reduceEqDiff, Nat.reduceAdd, Nat.reduceMul, Nat.reduceSub, Nat.reduceLT, Nat.reduceLeDiff, Int.reduceLT, Int.reduceLE, Int.reduceEq, Int.reduceNe, Int.reduceAdd, Int.reduceNeg, Int.reduceToNat, St.grab]
    simp
  · rintro n f g ob ⟨k, acc, hk, hk1, hal, h0, h8, h7, ho, hu⟩
    simp only at h0 h8 h7 ho
    have hw := wrap_succ (k := k) (by omega)
    by_cases hlt : k < s.length
    · obtain ⟨c, hc⟩ := getq hlt
      have hd := drop_cons hc
      have e8 : u8s (List.take acc.length (List.map byteC acc)) = some (acc.map fun c => (c.toNat : Int)) := by
        rw [List.take_of_length_le (by simp)]; exact u8s_bytes acc
      simp (config := { maxSteps := 1000000 }) only [go_sem, ↓reduceIte, Nat.reduceEqDiff, Nat.reduceAdd, Nat.reduceMul, Nat.reduceSub, Nat.reduceLT, Nat.reduceLeDiff, Int.reduceLT, Int.reduceLE, Int.reduceEq, Int.reduceNe, Int.reduceAdd, Int.reduceNeg, Int.reduceToNat, h0, h8, hc, hlt, hw, h7, ho, elemTy, e8, u8s_back]
      refine ⟨fun hq => ⟨Nat.le_refl _, ?_⟩, fun hq => ⟨fun hq2 => ⟨Nat.le_refl _, ⟨by decide, by omega⟩, ?_⟩, fun hq2 => ⟨fun he => ?_, fun he => ?_⟩⟩⟩
      · have hc34 : c = 34 := u8_eq (d := 34) hq
        rw [hu, hd, hc34, show unq (34 :: s.drop (k + 1)) = some ([], 1) from by unfold unq; simp]
        simp only [Option.map_some, List.append_nil, true_and]
        clear hw hw0
        omega
      · refine round_end (n - 1) (by omega) ⟨k + 1, acc ++ [c], by omega, by omega, by simp; omega, ?_⟩
        simp (config := { maxSteps := 1000000 }) only [go_sem, ↓reduceIte, Nat.reduceEqDiff, Nat.reduceAdd, Nat.reduceMul, Nat.reduceSub, Nat.reduceLT, Nat.reduceLeDiff, Int.reduceLT, Int.reduceLE, Int.reduceEq, Int.reduceNe, Int.reduceAdd, Int.reduceNeg, Int.reduceToNat, h0]
        refine ⟨by simp, by rw [List.take_of_length_le (by simp)]; simp [byteC], ?_⟩
        rw [hu, hd, unq_else (fun e => hq (by rw [e]; rfl)) (fun e => hq2 (by rw [e]; rfl)), Option.map_map]
        congr 1
        funext p
        simp only [Function.comp, List.append_assoc, List.singleton_append, Prod.mk.injEq, true_and]
        clear hw hw0
        omega
      · have hc92 : c = 92 := u8_eq (d := 92) (by simpa using hq2)
        have hd2 : s.drop (k + 1) = [] := List.drop_eq_nil_of_le (by omega)
        rw [hu, hd, hd2, hc92]
        simp [unq]
      · have hc92 : c = 92 := u8_eq (d := 92) (by simpa using hq2)
        subst hc92
        have hlt2 : k + 1 < s.length := by omega
        obtain ⟨d, hc2⟩ := getq hlt2
        have hd2 := drop_cons hc2
        have hw2 := wrap_succ (k := k + 1) (by omega)
        simp (config := { maxSteps := 1000000 }) only [go_sem, ↓reduceIte, Nat.reduceEqDiff, Nat.reduceAdd, Nat.reduceMul, Nat.reduceSub, Nat.reduceLT, Nat.reduceLeDiff, Int.reduceLT, Int.reduceLE, Int.reduceEq, Int.reduceNe, Int.reduceAdd, Int.reduceNeg, Int.reduceToNat, h0, h8, hc2, hw2, h7, ho, elemTy]
        refine ⟨fun a1 => ⟨fun _ => ?_, fun h => absurd a1 h⟩, fun a1 => ⟨fun a2 => ?_, fun a2 => ⟨fun a3 => ?_, fun a3 => ?_⟩⟩⟩
        · refine ⟨Nat.le_refl _, ⟨by decide, by omega⟩, ?_⟩
          refine round_end (n - 2) (by omega) ⟨k + 1 + 1, acc ++ [d], by omega, by omega, by simp; omega, ?_⟩
          simp (config := { maxSteps := 1000000 }) only [go_sem, ↓reduceIte, Nat.reduceEqDiff, Nat.reduceAdd, Nat.reduceMul, Nat.reduceSub, Nat.reduceLT, Nat.reduceLeDiff, Int.reduceLT, Int.reduceLE, Int.reduceEq, Int.reduceNe, Int.reduceAdd, Int.reduceNeg, Int.reduceToNat, h0]
          refine ⟨by simp, by rw [List.take_of_length_le (by simp)]; simp [byteC], ?_⟩
          rw [hu, hd, hd2, unq_esc (.inl (u8_eq (d := 34) a1)), Option.map_map]
          congr 1
          funext p
          simp only [Function.comp, List.append_assoc, List.singleton_append, Prod.mk.injEq, true_and]
          clear hw hw0 hw2
          omega
        · refine ⟨Nat.le_refl _, ⟨by decide, by omega⟩, ?_⟩
          refine round_end (n - 2) (by omega) ⟨k + 1 + 1, acc ++ [d], by omega, by omega, by simp; omega, ?_⟩
          simp (config := { maxSteps := 1000000 }) only [go_sem, ↓reduceIte, Nat.reduceEqDiff, Nat.reduceAdd, Nat.reduceMul, Nat.reduceSub, Nat.reduceLT, Nat.reduceLeDiff, Int.reduceLT, Int.reduceLE, Int.reduceEq, Int.reduceNe, Int.reduceAdd, Int.reduceNeg, Int.reduceToNat, h0]
          refine ⟨by simp, by rw [List.take_of_length_le (by simp)]; simp [byteC], ?_⟩
          rw [hu, hd, hd2, unq_esc (.inr (u8_eq (d := 92) a2)), Option.map_map]
          congr 1
          funext p
          simp only [Function.comp, List.append_assoc, List.singleton_append, Prod.mk.injEq, true_and]
          clear hw hw0 hw2
          omega
        · refine ⟨Nat.le_refl _, ⟨by decide, by omega⟩, ?_⟩
          refine round_end (n - 2) (by omega) ⟨k + 1 + 1, acc ++ [10], by omega, by omega, by simp; omega, ?_⟩
          simp (config := { maxSteps := 1000000 }) only [go_sem, ↓reduceIte, Nat.reduceEqDiff, Nat.reduceAdd, Nat.reduceMul, Nat.reduceSub, Nat.reduceLT, Nat.reduceLeDiff, Int.reduceLT, Int.reduceLE, Int.reduceEq, Int.reduceNe, Int.reduceAdd, Int.reduceNeg, Int.reduceToNat, h0]
          refine ⟨by simp, by rw [List.take_of_length_le (by simp)]; simp [byteC], ?_⟩
          rw [hu, hd, hd2, unq_n (u8_eq (d := 110) a3), Option.map_map]
          congr 1
          funext p
          simp only [Function.comp, List.append_assoc, List.singleton_append, Prod.mk.injEq, true_and]
          clear hw hw0 hw2
          omega
        · rw [hu, hd, hd2, unq_bad (fun e => a1 (by rw [e]; rfl)) (fun e => a2 (by rw [e]; rfl)) (fun e => a3 (by rw [e]; rfl))]
          simp
    · have hd : s.drop k = [] := List.drop_eq_nil_of_le (by omega)
      rw [hd] at hu
      simp (config := { maxSteps := 1000000 }) only [go_sem, ↓reduceIte, Nat.reduceEqDiff, Nat.reduceAdd, Nat.reduceMul, Nat.reduceSub, Nat.reduceLT, Nat.reduceLeDiff, Int.reduceLT, Int.reduceLE, Int.reduceEq, Int.reduceNe, Int.reduceAdd, Int.reduceNeg, Int.reduceToNat, h0, h8, hlt, hw]
      rw [hu]
      simp [unq]

end Go.Proofs.YtdlogfbbcbbllaaDoor

namespace Go.Proofs.YtdlogfbbcbbllaaDoor
open Go Go.Am

/-- A byte within quotes. -/
def esc (c : UInt8) : List UInt8 := if c = 34 ∨ c = 92 then [92, c] else if c = 10 then [92, 110] else [c]
/-- A word's text. -/
def wordT (w : List UInt8) : List UInt8 := if bareW w = true then w else 34 :: w.flatMap esc ++ [34]

theorem esc_le (c : UInt8) : (esc c).length ≤ 2 := by unfold esc; split; simp; split <;> simp
theorem escs_le (l : List UInt8) : (l.flatMap esc).length ≤ 2 * l.length := by
  induction l with
  | nil => simp
  | cons c l ih => simp only [List.flatMap_cons, List.length_append, List.length_cons]; have := esc_le c; omega
theorem take_flat {l : List UInt8} {k : Nat} {c : UInt8} (h : l[k]? = some c) : (l.take (k + 1)).flatMap esc = (l.take k).flatMap esc ++ esc c := by
  rw [List.take_add_one, h]; simp [List.flatMap_append]

set_option maxHeartbeats 4000000 in
theorem word_A (s : List UInt8) (hs : s.length ≤ 1000000) : PureR Tryd.prog 39 [sv s] (· = sv (wordT s)) := by
  refine pure_of_wp Tt_ok mixed Tryd.func39 rfl (by rfl) [2] rfl (by kernel_rfl) (by simp [Tryd.ntmps39]) fun g => ?_
  simp (config := { maxSteps := 1000000 }) only [go_sem, ↓reduceIte, Nat.reduceEqDiff, Nat.reduceAdd, Nat.reduceMul, Nat.reduceSub, Nat.reduceLT, Nat.reduceLeDiff, Int.reduceLT, Int.reduceLE, Int.reduceEq, Int.reduceNe, Int.reduceAdd, Int.reduceNeg, Int.reduceToNat]
  refine hook_call rfl (by simp (config := { maxSteps := 1000000 }) only [go_sem, ↓reduceIte, Nat.reduceEqDiff, Nat.reduceAdd, Nat.reduceMul, Nat.reduceSub, Nat.reduceLT, Nat.reduceLeDiff, Int.reduceLT, Int.reduceLE, Int.reduceEq, Int.reduceNe, Int.reduceAdd, Int.reduceNeg, Int.reduceToNat]; exact isBareR_A s (by omega)) (by simp (config := { maxSteps := 1000000 }) only [go_sem, ↓reduceIte, Nat.reduceEqDiff, Nat.reduceAdd, Nat.reduceMul, Nat.reduceSub, Nat.reduceLT, Nat.reduceLeDiff, Int.reduceLT, Int.reduceLE, Int.reduceEq, Int.reduceNe, Int.reduceAdd, Int.reduceNeg, Int.reduceToNat]; rfl) ?_
  rintro _ rfl
  simp (config := { maxSteps := 1000000 }) only [go_sem, ↓reduceIte, Nat.reduceEqDiff, Nat.reduceAdd, Nat.reduceMul, Nat.reduceSub, Nat.reduceLT, Nat.reduceLeDiff, Int.reduceLT, Int.reduceLE, Int.reduceEq, Int.reduceNe, Int.reduceAdd, Int.reduceNeg, Int.reduceToNat, elemTy]
  cases hb : bareW s
  · simp (config := { maxSteps := 1000000 }) only [go_sem, ↓reduceIte, Nat.reduceEqDiff, Nat.reduceAdd, Nat.reduceMul, Nat.reduceSub, Nat.reduceLT, Nat.reduceLeDiff, Int.reduceLT, Int.reduceLE, Int.reduceEq, Int.reduceNe, Int.reduceAdd, Int.reduceNeg, Int.reduceToNat]
    refine loop_intro (fun n st => ∃ (k m : Nat), n + k = s.length ∧ st.f 0 = sv s ∧ st.f 4 = iv .i64 k ∧ m = (34 :: (s.take k).flatMap esc).length ∧ st.f 3 = .one (.osl 8 (st.gen 8) 1 0 m) ∧ st.obj 8 = some ((34 :: (s.take k).flatMap esc).map byteC)) s.length ?_ ?_
    · refine ⟨0, 1, ?_⟩
      simp (config := { maxSteps := 1000000 }) only [go_sem, ↓reduceIte, Nat.reduceEqDiff, Nat.reduceAdd, Nat.reduceMul, Nat.reduceSub, Nat.reduceLT, Nat.reduceLeDiff, Int.reduceLT, Int.reduceLE, Int.reduceEq, Int.reduceNe, Int.reduceAdd, Int.reduceNeg, Int.reduceToNat]
      simp [byteC]
    · rintro n f g ob ⟨k, m, hk, h0, h4, hm, h3, ho⟩
      simp only at h0 h4 h3 ho
      have hw := wrap_succ (k := k) (by omega)
      have hml : m ≤ 2 * s.length + 1 := by
        have := escs_le (s.take k)
        simp only [List.length_cons, List.length_take] at hm this
        omega
      have htk : List.take m (byteC 34 :: ((s.take k).flatMap esc).map byteC) = byteC 34 :: ((s.take k).flatMap esc).map byteC := List.take_of_length_le (by simp only [List.length_cons, List.length_map] at hm ⊢; omega)
      by_cases hlt : k < s.length
      · obtain ⟨c, hc⟩ := getq hlt
        have ht := take_flat hc
        simp (config := { maxSteps := 1000000 }) only [go_sem, ↓reduceIte, Nat.reduceEqDiff, Nat.reduceAdd, Nat.reduceMul, Nat.reduceSub, Nat.reduceLT, Nat.reduceLeDiff, Int.reduceLT, Int.reduceLE, Int.reduceEq, Int.reduceNe, Int.reduceAdd, Int.reduceNeg, Int.reduceToNat, h0, h4, hc, hlt, hw, h3, ho, elemTy]
        refine ⟨fun a1 => ⟨fun _ => ?_, fun h => absurd a1 h⟩, fun a1 => ⟨fun a2 => ?_, fun a2 => ⟨fun a3 => ?_, fun a3 => ?_⟩⟩⟩
        · refine ⟨by simp only [List.length_cons] at hm; omega, ⟨by decide, by omega⟩, ?_⟩
          refine round_end (n - 1) (by omega) ⟨k + 1, m + 2, by omega, ?_⟩
          simp (config := { maxSteps := 1000000 }) only [go_sem, ↓reduceIte, Nat.reduceEqDiff, Nat.reduceAdd, Nat.reduceMul, Nat.reduceSub, Nat.reduceLT, Nat.reduceLeDiff, Int.reduceLT, Int.reduceLE, Int.reduceEq, Int.reduceNe, Int.reduceAdd, Int.reduceNeg, Int.reduceToNat, h0]
          have he : esc c = [92, c] := by simp [esc, u8_eq (d := 34) a1]
          refine ⟨by rw [ht, he]; simp only [List.length_cons, List.length_append, List.length_nil] at hm ⊢; omega, ?_⟩
          rw [htk, ht, he]
          simp [byteC]
        · refine ⟨by simp only [List.length_cons] at hm; omega, ⟨by decide, by omega⟩, ?_⟩
          refine round_end (n - 1) (by omega) ⟨k + 1, m + 2, by omega, ?_⟩
          simp (config := { maxSteps := 1000000 }) only [go_sem, ↓reduceIte, Nat.reduceEqDiff, Nat.reduceAdd, Nat.reduceMul, Nat.reduceSub, Nat.reduceLT, Nat.reduceLeDiff, Int.reduceLT, Int.reduceLE, Int.reduceEq, Int.reduceNe, Int.reduceAdd, Int.reduceNeg, Int.reduceToNat, h0]
          have he : esc c = [92, c] := by simp [esc, u8_eq (d := 92) a2]
          refine ⟨by rw [ht, he]; simp only [List.length_cons, List.length_append, List.length_nil] at hm ⊢; omega, ?_⟩
          rw [htk, ht, he]
          simp [byteC]
        · refine ⟨by simp only [List.length_cons] at hm; omega, ⟨by decide, by omega⟩, ?_⟩
          refine round_end (n - 1) (by omega) ⟨k + 1, m + 2, by omega, ?_⟩
          simp (config := { maxSteps := 1000000 }) only [go_sem, ↓reduceIte, Nat.reduceEqDiff, Nat.reduceAdd, Nat.reduceMul, Nat.reduceSub, Nat.reduceLT, Nat.reduceLeDiff, Int.reduceLT, Int.reduceLE, Int.reduceEq, Int.reduceNe, Int.reduceAdd, Int.reduceNeg, Int.reduceToNat, h0]
          have he : esc c = [92, 110] := by simp [esc, u8_eq (d := 10) a3]
          refine ⟨by rw [ht, he]; simp only [List.length_cons, List.length_append, List.length_nil] at hm ⊢; omega, ?_⟩
          rw [htk, ht, he]
          simp [byteC]
        · refine ⟨by simp only [List.length_cons] at hm; omega, ⟨by decide, by omega⟩, ?_⟩
          refine round_end (n - 1) (by omega) ⟨k + 1, m + 1, by omega, ?_⟩
          simp (config := { maxSteps := 1000000 }) only [go_sem, ↓reduceIte, Nat.reduceEqDiff, Nat.reduceAdd, Nat.reduceMul, Nat.reduceSub, Nat.reduceLT, Nat.reduceLeDiff, Int.reduceLT, Int.reduceLE, Int.reduceEq, Int.reduceNe, Int.reduceAdd, Int.reduceNeg, Int.reduceToNat, h0]
          have he : esc c = [c] := by
            have n1 : c ≠ 34 := fun e => a1 (by rw [e]; rfl)
            have n2 : c ≠ 92 := fun e => a2 (by rw [e]; rfl)
            have n3 : c ≠ 10 := fun e => a3 (by rw [e]; rfl)
            simp [esc, n1, n2, n3]
          refine ⟨by rw [ht, he]; simp only [List.length_cons, List.length_append, List.length_nil] at hm ⊢; omega, ?_⟩
          rw [htk, ht, he]
          simp [byteC]
      · have hts : s.take k = s := List.take_of_length_le (by omega)
        rw [hts] at htk ho hm
        have e8 : u8s (List.take (m + 1) (List.take m (byteC 34 :: (s.flatMap esc).map byteC) ++ [C.d (D.int .u8 34)])) = some ((34 :: s.flatMap esc ++ [34]).map fun c : UInt8 => (c.toNat : Int)) := by
          rw [htk, List.take_of_length_le (by simp only [List.length_cons, List.length_map, List.length_append, List.length_nil] at hm ⊢; omega), ← u8s_bytes]
          simp [byteC]
        simp (config := { maxSteps := 1000000 }) only [go_sem, ↓reduceIte, Nat.reduceEqDiff, Nat.reduceAdd, Nat.reduceMul, Nat.reduceSub, Nat.reduceLT, Nat.reduceLeDiff, Int.reduceLT, Int.reduceLE, Int.reduceEq, Int.reduceNe, Int.reduceAdd, Int.reduceNeg, Int.reduceToNat, h0, h4, hlt, h3, ho, elemTy, e8, u8s_back]
        refine ⟨by simp only [List.length_cons] at hm; omega, ⟨by decide, by omega⟩, by rw [htk]; simp only [List.length_cons, List.length_map, List.length_append, List.length_nil] at hm ⊢; omega, ?_⟩
        simp [wordT, hb]
  · simp (config := { maxSteps := 1000000 }) only [go_sem, ↓reduceIte, Nat.reduceEqDiff, Nat.reduceAdd, Nat.reduceMul, Nat.reduceSub, Nat.reduceLT, Nat.reduceLeDiff, Int.reduceLT, Int.reduceLE, Int.reduceEq, Int.reduceNe, Int.reduceAdd, Int.reduceNeg, Int.reduceToNat]
    simp [wordT, hb]

end Go.Proofs.YtdlogfbbcbbllaaDoor

namespace Go.Proofs.YtdlogfbbcbbllaaDoor
open Go Go.Am

set_option maxHeartbeats 4000000 in
theorem quoted_A (s : List UInt8) (hs : s.length ≤ 1000000) : PureR Tryd.prog 37 [sv s] (· = sv (wordT s)) := by
  refine pure_of_wp Tt_ok mixed Tryd.func37 rfl (by rfl) [2] rfl (by kernel_rfl) (by simp [Tryd.ntmps37]) fun g => ?_
  simp (config := { maxSteps := 1000000 }) only [go_sem, ↓reduceIte, Nat.reduceEqDiff, Nat.reduceAdd, Nat.reduceMul, Nat.reduceSub, Nat.reduceLT, Nat.reduceLeDiff, Int.reduceLT, Int.reduceLE, Int.reduceEq, Int.reduceNe, Int.reduceAdd, Int.reduceNeg, Int.reduceToNat]
  refine loop_intro (fun n st => ∃ k : Nat, n + k = s.length ∧ st.f 0 = sv s ∧ st.f 10 = iv .i64 s.length ∧ st.f 11 = iv .i64 k ∧ st.f 3 = bv ((s.take k).all bareC && decide (0 < s.length)) ∧ st.obj = fun _ => none) s.length ?_ ?_
  · refine ⟨0, ?_⟩
    simp (config := { maxSteps := 1000000 }) only [go_sem, ↓reduceIte, Nat.reduceEqDiff, Nat.reduceAdd, Nat.reduceMul, Nat.reduceSub, Nat.reduceLT, Nat.reduceLeDiff, Int.reduceLT, Int.reduceLE, Int.reduceEq, Int.reduceNe, Int.reduceAdd, Int.reduceNeg, Int.reduceToNat]
    cases s <;> simp
  · rintro n f g ob ⟨k, hk, h0, h10, h11, h3, ho⟩
    simp only at h0 h10 h11 h3 ho
    subst ho
    have hw := wrap_succ (k := k) (by omega)
    by_cases hlt : k < s.length
    · obtain ⟨c, hc⟩ := getq hlt
      have hpos : 0 < s.length := by omega
      simp only [hpos, decide_true, Bool.and_true] at h3
      have hst : (s.take (k + 1)).all bareC = ((s.take k).all bareC && bareC c) := by rw [List.take_add_one, hc]; simp
      cases ha : (s.take k).all bareC
      · rw [ha] at h3 hst
        simp (config := { maxSteps := 1000000 }) only [go_sem, ↓reduceIte, Nat.reduceEqDiff, Nat.reduceAdd, Nat.reduceMul, Nat.reduceSub, Nat.reduceLT, Nat.reduceLeDiff, Int.reduceLT, Int.reduceLE, Int.reduceEq, Int.reduceNe, Int.reduceAdd, Int.reduceNeg, Int.reduceToNat, h0, h10, h11, h3, hc, hlt, hw]
        refine round_end (n - 1) (by omega) ⟨k + 1, by omega, ?_⟩
        simp (config := { maxSteps := 1000000 }) only [go_sem, ↓reduceIte, Nat.reduceEqDiff, Nat.reduceAdd, Nat.reduceMul, Nat.reduceSub, Nat.reduceLT, Nat.reduceLeDiff, Int.reduceLT, Int.reduceLE, Int.reduceEq, Int.reduceNe, Int.reduceAdd, Int.reduceNeg, Int.reduceToNat, h0, h10, hst]
        simp
      · rw [ha] at h3 hst
        simp (config := { maxSteps := 1000000 }) only [go_sem, ↓reduceIte, Nat.reduceEqDiff, Nat.reduceAdd, Nat.reduceMul, Nat.reduceSub, Nat.reduceLT, Nat.reduceLeDiff, Int.reduceLT, Int.reduceLE, Int.reduceEq, Int.reduceNe, Int.reduceAdd, Int.reduceNeg, Int.reduceToNat, h0, h10, h11, h3, hc, hlt, hw]
        refine hook_call rfl (by simp (config := { maxSteps := 1000000 }) only [go_sem, ↓reduceIte, Nat.reduceEqDiff, Nat.reduceAdd, Nat.reduceMul, Nat.reduceSub, Nat.reduceLT, Nat.reduceLeDiff, Int.reduceLT, Int.reduceLE, Int.reduceEq, Int.reduceNe, Int.reduceAdd, Int.reduceNeg, Int.reduceToNat]; exact isBare_A c) (by simp (config := { maxSteps := 1000000 }) only [go_sem, ↓reduceIte, Nat.reduceEqDiff, Nat.reduceAdd, Nat.reduceMul, Nat.reduceSub, Nat.reduceLT, Nat.reduceLeDiff, Int.reduceLT, Int.reduceLE, Int.reduceEq, Int.reduceNe, Int.reduceAdd, Int.reduceNeg, Int.reduceToNat]; rfl) ?_
        rintro _ rfl
        simp (config := { maxSteps := 1000000 }) only [go_sem, ↓reduceIte, Nat.reduceEqDiff, Nat.reduceAdd, Nat.reduceMul, Nat.reduceSub, Nat.reduceLT, Nat.reduceLeDiff, Int.reduceLT, Int.reduceLE, Int.reduceEq, Int.reduceNe, Int.reduceAdd, Int.reduceNeg, Int.reduceToNat, h0, h10, h11, hw]
        refine round_end (n - 1) (by omega) ⟨k + 1, by omega, ?_⟩
        simp (config := { maxSteps := 1000000 }) only [go_sem, ↓reduceIte, Nat.reduceEqDiff, Nat.reduceAdd, Nat.reduceMul, Nat.reduceSub, Nat.reduceLT, Nat.reduceLeDiff, Int.reduceLT, Int.reduceLE, Int.reduceEq, Int.reduceNe, Int.reduceAdd, Int.reduceNeg, Int.reduceToNat, h0, h10, hst, hpos]
        simp
    · have hts : s.take k = s := List.take_of_length_le (by omega)
      rw [hts, show (s.all bareC && decide (0 < s.length)) = bareW s from rfl] at h3
      cases hb : bareW s
      · rw [hb] at h3
        simp (config := { maxSteps := 1000000 }) only [go_sem, ↓reduceIte, Nat.reduceEqDiff, Nat.reduceAdd, Nat.reduceMul, Nat.reduceSub, Nat.reduceLT, Nat.reduceLeDiff, Int.reduceLT, Int.reduceLE, Int.reduceEq, Int.reduceNe, Int.reduceAdd, Int.reduceNeg, Int.reduceToNat, h0, h10, h11, hlt, h3]
        refine hook_fun (B := 0) rfl (by simp (config := { maxSteps := 1000000 }) only [go_sem, ↓reduceIte, Nat.reduceEqDiff, Nat.reduceAdd, Nat.reduceMul, Nat.reduceSub, Nat.reduceLT, Nat.reduceLeDiff, Int.reduceLT, Int.reduceLE, Int.reduceEq, Int.reduceNe, Int.reduceAdd, Int.reduceNeg, Int.reduceToNat]; exact WriteByte_A (B := 100) (bs := []) 34 ⟨by simp [upd], by rw [code_nxC]; rfl, ⟨_, .inl rfl, .inl ⟨rfl, by simp [upd], by simp [upd]⟩⟩, by decide⟩ (by decide) (by simp) (fun i hi hi' => by simp [upd]; omega)) ?_
        rintro _ g1 ob1 ⟨rfl, hB, e1, e2, e3⟩
        have g5 : g1 5 = nxC 52 (g 5) := by rw [e1 5 (by decide)]; simp [upd]
        simp (config := { maxSteps := 1000000 }) only [go_sem, ↓reduceIte, Nat.reduceEqDiff, Nat.reduceAdd, Nat.reduceMul, Nat.reduceSub, Nat.reduceLT, Nat.reduceLeDiff, Int.reduceLT, Int.reduceLE, Int.reduceEq, Int.reduceNe, Int.reduceAdd, Int.reduceNeg, Int.reduceToNat, h0]
        refine loop_intro (fun n st => ∃ k : Nat, n + k = s.length ∧ st.f 0 = sv s ∧ st.f 26 = iv .i64 s.length ∧ st.f 27 = iv .i64 k ∧ st.f 5 = .one (.ptr 5 (st.gen 5) 0) ∧ Bld 5 114 (st.gen 5) (34 :: (s.take k).flatMap esc) st.gen st.obj ∧ ∀ i, 100 ≤ i → i ≠ 114 → st.obj i = none) s.length ?_ ?_
        · refine ⟨0, ?_⟩
          simp (config := { maxSteps := 1000000 }) only [go_sem, ↓reduceIte, Nat.reduceEqDiff, Nat.reduceAdd, Nat.reduceMul, Nat.reduceSub, Nat.reduceLT, Nat.reduceLeDiff, Int.reduceLT, Int.reduceLE, Int.reduceEq, Int.reduceNe, Int.reduceAdd, Int.reduceNeg, Int.reduceToNat, h0, g5]
          exact ⟨hB, e3⟩
        · clear hB e1 e2 e3 g5 ob1 g1 h3 h10 h11 h0 hk hw hlt hts
          rintro n f g ob ⟨k, hk, h0, h26, h27, h5, hB, hfree⟩
          simp only at h0 h26 h27 h5 hB hfree
          have hw := wrap_succ (k := k) (by omega)
          by_cases hlt : k < s.length
          · obtain ⟨c, hc⟩ := getq hlt
            have ht := take_flat hc
            simp (config := { maxSteps := 1000000 }) only [go_sem, ↓reduceIte, Nat.reduceEqDiff, Nat.reduceAdd, Nat.reduceMul, Nat.reduceSub, Nat.reduceLT, Nat.reduceLeDiff, Int.reduceLT, Int.reduceLE, Int.reduceEq, Int.reduceNe, Int.reduceAdd, Int.reduceNeg, Int.reduceToNat, h0, h26, h27, h5, hc, hlt, hw]
            have hl := escs_le (s.take k)
            refine ⟨fun a1 => ⟨fun _ => ?_, fun h => absurd a1 h⟩, fun a1 => ⟨fun a2 => ?_, fun a2 => ⟨fun a3 => ?_, fun a3 => ?_⟩⟩⟩
            · refine hook_fun (B := 0) rfl (by simp (config := { maxSteps := 1000000 }) only [go_sem, ↓reduceIte, Nat.reduceEqDiff, Nat.reduceAdd, Nat.reduceMul, Nat.reduceSub, Nat.reduceLT, Nat.reduceLeDiff, Int.reduceLT, Int.reduceLE, Int.reduceEq, Int.reduceNe, Int.reduceAdd, Int.reduceNeg, Int.reduceToNat, h5]; exact WriteByte_A (B := 100) 92 hB (by decide) (by simp at hl ⊢; omega) hfree) ?_
              rintro _ g1 ob1 ⟨rfl, hB1, e1, e2, e3⟩
              have g5 : g1 5 = g 5 := e1 5 (by decide)
              simp (config := { maxSteps := 1000000 }) only [go_sem, ↓reduceIte, Nat.reduceEqDiff, Nat.reduceAdd, Nat.reduceMul, Nat.reduceSub, Nat.reduceLT, Nat.reduceLeDiff, Int.reduceLT, Int.reduceLE, Int.reduceEq, Int.reduceNe, Int.reduceAdd, Int.reduceNeg, Int.reduceToNat, h0, h5, hc]
              refine hook_fun (B := 0) rfl (by simp (config := { maxSteps := 1000000 }) only [go_sem, ↓reduceIte, Nat.reduceEqDiff, Nat.reduceAdd, Nat.reduceMul, Nat.reduceSub, Nat.reduceLT, Nat.reduceLeDiff, Int.reduceLT, Int.reduceLE, Int.reduceEq, Int.reduceNe, Int.reduceAdd, Int.reduceNeg, Int.reduceToNat, h5, hc]; exact WriteByte_A (B := 100) c hB1 (by decide) (by simp at hl ⊢; omega) e3) ?_
              rintro _ g2 ob2 ⟨rfl, hB2, q1, q2, q3⟩
              have g52 : g2 5 = g 5 := (q1 5 (by decide)).trans g5
              simp (config := { maxSteps := 1000000 }) only [go_sem, ↓reduceIte, Nat.reduceEqDiff, Nat.reduceAdd, Nat.reduceMul, Nat.reduceSub, Nat.reduceLT, Nat.reduceLeDiff, Int.reduceLT, Int.reduceLE, Int.reduceEq, Int.reduceNe, Int.reduceAdd, Int.reduceNeg, Int.reduceToNat, h0, h27, hw, h5]
              refine round_end (n - 1) (by omega) ⟨k + 1, by omega, ?_⟩
              simp (config := { maxSteps := 1000000 }) only [go_sem, ↓reduceIte, Nat.reduceEqDiff, Nat.reduceAdd, Nat.reduceMul, Nat.reduceSub, Nat.reduceLT, Nat.reduceLeDiff, Int.reduceLT, Int.reduceLE, Int.reduceEq, Int.reduceNe, Int.reduceAdd, Int.reduceNeg, Int.reduceToNat, h0, h26, h5, g52]
              refine ⟨?_, q3⟩
              rw [ht, show esc c = [92, c] from by simp [esc, u8_eq (d := 34) a1]]
              simpa using hB2
            · refine hook_fun (B := 0) rfl (by simp (config := { maxSteps := 1000000 }) only [go_sem, ↓reduceIte, Nat.reduceEqDiff, Nat.reduceAdd, Nat.reduceMul, Nat.reduceSub, Nat.reduceLT, Nat.reduceLeDiff, Int.reduceLT, Int.reduceLE, Int.reduceEq, Int.reduceNe, Int.reduceAdd, Int.reduceNeg, Int.reduceToNat, h5]; exact WriteByte_A (B := 100) 92 hB (by decide) (by simp at hl ⊢; omega) hfree) ?_
              rintro _ g1 ob1 ⟨rfl, hB1, e1, e2, e3⟩
              have g5 : g1 5 = g 5 := e1 5 (by decide)
              simp (config := { maxSteps := 1000000 }) only [go_sem, ↓reduceIte, Nat.reduceEqDiff, Nat.reduceAdd, Nat.reduceMul, Nat.reduceSub, Nat.reduceLT, Nat.reduceLeDiff, Int.reduceLT, Int.reduceLE, Int.reduceEq, Int.reduceNe, Int.reduceAdd, Int.reduceNeg, Int.reduceToNat, h0, h5, hc]
              refine hook_fun (B := 0) rfl (by simp (config := { maxSteps := 1000000 }) only [go_sem, ↓reduceIte, Nat.reduceEqDiff, Nat.reduceAdd, Nat.reduceMul, Nat.reduceSub, Nat.reduceLT, Nat.reduceLeDiff, Int.reduceLT, Int.reduceLE, Int.reduceEq, Int.reduceNe, Int.reduceAdd, Int.reduceNeg, Int.reduceToNat, h5, hc]; exact WriteByte_A (B := 100) c hB1 (by decide) (by simp at hl ⊢; omega) e3) ?_
              rintro _ g2 ob2 ⟨rfl, hB2, q1, q2, q3⟩
              have g52 : g2 5 = g 5 := (q1 5 (by decide)).trans g5
              simp (config := { maxSteps := 1000000 }) only [go_sem, ↓reduceIte, Nat.reduceEqDiff, Nat.reduceAdd, Nat.reduceMul, Nat.reduceSub, Nat.reduceLT, Nat.reduceLeDiff, Int.reduceLT, Int.reduceLE, Int.reduceEq, Int.reduceNe, Int.reduceAdd, Int.reduceNeg, Int.reduceToNat, h0, h27, hw, h5]
              refine round_end (n - 1) (by omega) ⟨k + 1, by omega, ?_⟩
              simp (config := { maxSteps := 1000000 }) only [go_sem, ↓reduceIte, Nat.reduceEqDiff, Nat.reduceAdd, Nat.reduceMul, Nat.reduceSub, Nat.reduceLT, Nat.reduceLeDiff, Int.reduceLT, Int.reduceLE, Int.reduceEq, Int.reduceNe, Int.reduceAdd, Int.reduceNeg, Int.reduceToNat, h0, h26, h5, g52]
              refine ⟨?_, q3⟩
              rw [ht, show esc c = [92, c] from by simp [esc, u8_eq (d := 92) a2]]
              simpa using hB2
            · refine hook_fun (B := 0) rfl (by simp (config := { maxSteps := 1000000 }) only [go_sem, ↓reduceIte, Nat.reduceEqDiff, Nat.reduceAdd, Nat.reduceMul, Nat.reduceSub, Nat.reduceLT, Nat.reduceLeDiff, Int.reduceLT, Int.reduceLE, Int.reduceEq, Int.reduceNe, Int.reduceAdd, Int.reduceNeg, Int.reduceToNat, h5, hc]; exact WriteString_A (B := 100) [92, 110] hB (by decide) (by simp) (by simp at hl ⊢; omega) (by simp) hfree) ?_
              rintro _ g1 ob1 ⟨rfl, hB1, e1, e2, e3⟩
              have g5 : g1 5 = g 5 := e1 5 (by decide)
              simp (config := { maxSteps := 1000000 }) only [go_sem, ↓reduceIte, Nat.reduceEqDiff, Nat.reduceAdd, Nat.reduceMul, Nat.reduceSub, Nat.reduceLT, Nat.reduceLeDiff, Int.reduceLT, Int.reduceLE, Int.reduceEq, Int.reduceNe, Int.reduceAdd, Int.reduceNeg, Int.reduceToNat, h0, h27, hw, h5]
              refine round_end (n - 1) (by omega) ⟨k + 1, by omega, ?_⟩
              simp (config := { maxSteps := 1000000 }) only [go_sem, ↓reduceIte, Nat.reduceEqDiff, Nat.reduceAdd, Nat.reduceMul, Nat.reduceSub, Nat.reduceLT, Nat.reduceLeDiff, Int.reduceLT, Int.reduceLE, Int.reduceEq, Int.reduceNe, Int.reduceAdd, Int.reduceNeg, Int.reduceToNat, h0, h26, h5, g5]
              refine ⟨?_, e3⟩
              rw [ht, show esc c = [92, 110] from by simp [esc, u8_eq (d := 10) a3]]
              simpa using hB1
            · refine hook_fun (B := 0) rfl (by simp (config := { maxSteps := 1000000 }) only [go_sem, ↓reduceIte, Nat.reduceEqDiff, Nat.reduceAdd, Nat.reduceMul, Nat.reduceSub, Nat.reduceLT, Nat.reduceLeDiff, Int.reduceLT, Int.reduceLE, Int.reduceEq, Int.reduceNe, Int.reduceAdd, Int.reduceNeg, Int.reduceToNat, h5, hc]; exact WriteByte_A (B := 100) c hB (by decide) (by simp at hl ⊢; omega) hfree) ?_
              rintro _ g1 ob1 ⟨rfl, hB1, e1, e2, e3⟩
              have g5 : g1 5 = g 5 := e1 5 (by decide)
              simp (config := { maxSteps := 1000000 }) only [go_sem, ↓reduceIte, Nat.reduceEqDiff, Nat.reduceAdd, Nat.reduceMul, Nat.reduceSub, Nat.reduceLT, Nat.reduceLeDiff, Int.reduceLT, Int.reduceLE, Int.reduceEq, Int.reduceNe, Int.reduceAdd, Int.reduceNeg, Int.reduceToNat, h0, h27, hw, h5]
              refine round_end (n - 1) (by omega) ⟨k + 1, by omega, ?_⟩
              simp (config := { maxSteps := 1000000 }) only [go_sem, ↓reduceIte, Nat.reduceEqDiff, Nat.reduceAdd, Nat.reduceMul, Nat.reduceSub, Nat.reduceLT, Nat.reduceLeDiff, Int.reduceLT, Int.reduceLE, Int.reduceEq, Int.reduceNe, Int.reduceAdd, Int.reduceNeg, Int.reduceToNat, h0, h26, h5, g5]
              refine ⟨?_, e3⟩
              rw [ht, show esc c = [c] from by
                have n1 : c ≠ 34 := fun e => a1 (by rw [e]; rfl)
                have n2 : c ≠ 92 := fun e => a2 (by rw [e]; rfl)
                have n3 : c ≠ 10 := fun e => a3 (by rw [e]; rfl)
                simp [esc, n1, n2, n3]]
              simpa using hB1
          · simp (config := { maxSteps := 1000000 }) only [go_sem, ↓reduceIte, Nat.reduceEqDiff, Nat.reduceAdd, Nat.reduceMul, Nat.reduceSub, Nat.reduceLT, Nat.reduceLeDiff, Int.reduceLT, Int.reduceLE, Int.reduceEq, Int.reduceNe, Int.reduceAdd, Int.reduceNeg, Int.reduceToNat, h0, h26, h27, h5, hlt]
            have hl := escs_le (s.take k)
            have hts : s.take k = s := List.take_of_length_le (by omega)
            refine hook_fun (B := 0) rfl (by simp (config := { maxSteps := 1000000 }) only [go_sem, ↓reduceIte, Nat.reduceEqDiff, Nat.reduceAdd, Nat.reduceMul, Nat.reduceSub, Nat.reduceLT, Nat.reduceLeDiff, Int.reduceLT, Int.reduceLE, Int.reduceEq, Int.reduceNe, Int.reduceAdd, Int.reduceNeg, Int.reduceToNat, h5]; exact WriteByte_A (B := 100) 34 hB (by decide) (by simp at hl ⊢; omega) hfree) ?_
            rintro _ g1 ob1 ⟨rfl, hB1, e1, e2, e3⟩
            have g5 : g1 5 = g 5 := e1 5 (by decide)
            simp (config := { maxSteps := 1000000 }) only [go_sem, ↓reduceIte, Nat.reduceEqDiff, Nat.reduceAdd, Nat.reduceMul, Nat.reduceSub, Nat.reduceLT, Nat.reduceLeDiff, Int.reduceLT, Int.reduceLE, Int.reduceEq, Int.reduceNe, Int.reduceAdd, Int.reduceNeg, Int.reduceToNat, h5]
            refine hook_fun (B := 0) rfl (by simp (config := { maxSteps := 1000000 }) only [go_sem, ↓reduceIte, Nat.reduceEqDiff, Nat.reduceAdd, Nat.reduceMul, Nat.reduceSub, Nat.reduceLT, Nat.reduceLeDiff, Int.reduceLT, Int.reduceLE, Int.reduceEq, Int.reduceNe, Int.reduceAdd, Int.reduceNeg, Int.reduceToNat, h5]; exact String_A hB1 (by simp at hl ⊢; omega)) ?_
            rintro _ g2 ob2 ⟨rfl, rfl, e4⟩
            simp (config := { maxSteps := 1000000 }) only [go_sem, ↓reduceIte, Nat.reduceEqDiff, Nat.reduceAdd, Nat.reduceMul, Nat.reduceSub, Nat.reduceLT, Nat.reduceLeDiff, Int.reduceLT, Int.reduceLE, Int.reduceEq, Int.reduceNe, Int.reduceAdd, Int.reduceNeg, Int.reduceToNat]
            rw [hts]
            simp [wordT, hb]
      · rw [hb] at h3
        simp (config := { maxSteps := 1000000 }) only [go_sem, ↓reduceIte, Nat.reduceEqDiff, Nat.reduceAdd, Nat.reduceMul, Nat.reduceSub, Nat.reduceLT, Nat.reduceLeDiff, Int.reduceLT, Int.reduceLE, Int.reduceEq, Int.reduceNe, Int.reduceAdd, Int.reduceNeg, Int.reduceToNat, h0, h10, h11, hlt, h3]
        simp [wordT, hb]

end Go.Proofs.YtdlogfbbcbbllaaDoor

namespace Go.Proofs.YtdlogfbbcbbllaaDoor
open Go Go.Am

/-- A line: its verb and its words. -/
abbrev Line := List UInt8 × List (List UInt8)
def strs (l : List (List UInt8)) : D := .sl (l.map fun w => [.str w])
def lineV (l : Line) : AV := .agg [.d (.str l.1), .d (strs l.2)]
def wordsT (ws : List (List UInt8)) : List UInt8 := ws.flatMap fun w => 32 :: wordT w
def lineT (l : Line) : List UInt8 := l.1 ++ wordsT l.2
def rightL (l : Line) : Bool := verbOk l.1 && decide (l.2.length ≤ 100) && decide ((lineT l).length ≤ 20000)

theorem escs_ge (l : List UInt8) : l.length ≤ (l.flatMap esc).length := by
  induction l with
  | nil => simp
  | cons c l ih =>
    have : 1 ≤ (esc c).length := by unfold esc; split; simp; split <;> simp
    simp only [List.flatMap_cons, List.length_append, List.length_cons]; omega
theorem wordT_ge (w : List UInt8) : w.length ≤ (wordT w).length := by
  unfold wordT; split
  · exact Nat.le_refl _
  · have := escs_ge w; simp only [List.length_append, List.length_cons]; omega
theorem wordT_le (w : List UInt8) : (wordT w).length ≤ 2 * w.length + 2 := by
  unfold wordT; split
  · omega
  · have := escs_le w; simp only [List.length_append, List.length_cons, List.length_nil]; omega
theorem wordT_ne (w : List UInt8) : wordT w ≠ [] := by
  unfold wordT; split
  · rename_i h; intro e; rw [e] at h; simp [bareW] at h
  · simp
theorem wordsT_take {l : List (List UInt8)} {k : Nat} {w : List UInt8} (h : l[k]? = some w) : wordsT (l.take (k + 1)) = wordsT (l.take k) ++ 32 :: wordT w := by
  unfold wordsT; rw [List.take_add_one, h]; simp [List.flatMap_append]
theorem wordsT_pre (l : List (List UInt8)) (k : Nat) : (wordsT (l.take k)).length ≤ (wordsT l).length := by
  conv => rhs; rw [← List.take_append_drop k l]
  unfold wordsT; rw [List.flatMap_append, List.length_append]; omega
theorem strs_get {l : List (List UInt8)} {k : Nat} {w : List UInt8} (h : l[k]? = some w) : (l.map fun w => [D.str w])[k]? = some [.str w] := by rw [List.getElem?_map, h]; rfl

set_option maxHeartbeats 4000000 in
theorem text_A (l : Line) (h1 : l.1.length ≤ 1000000) (h2 : l.2.length ≤ 1000000000) (h3 : ∀ w ∈ l.2, w.length ≤ 1000000000000000) : PureR Tryd.prog 26 [lineV l] (· = if rightL l = true then .tup [sv (lineT l), bv true] else .tup [sv [], bv false]) := by
  refine pure_of_wp Tt_ok mixed Tryd.func26 rfl (by rfl) [2, 3] rfl (by kernel_rfl) (by simp [Tryd.ntmps26]) fun g => ?_
  simp (config := { maxSteps := 1000000 }) only [go_sem, ↓reduceIte, Nat.reduceEqDiff, Nat.reduceAdd, Nat.reduceMul, Nat.reduceSub, Nat.reduceLT, Nat.reduceLeDiff, Int.reduceLT, Int.reduceLE, Int.reduceEq, Int.reduceNe, Int.reduceAdd, Int.reduceNeg, Int.reduceToNat, lineV]
  refine hook_call rfl (by simp (config := { maxSteps := 1000000 }) only [go_sem, ↓reduceIte, Nat.reduceEqDiff, Nat.reduceAdd, Nat.reduceMul, Nat.reduceSub, Nat.reduceLT, Nat.reduceLeDiff, Int.reduceLT, Int.reduceLE, Int.reduceEq, Int.reduceNe, Int.reduceAdd, Int.reduceNeg, Int.reduceToNat, lineV]; exact isVerb_A l.1 (by omega)) (by simp (config := { maxSteps := 1000000 }) only [go_sem, ↓reduceIte, Nat.reduceEqDiff, Nat.reduceAdd, Nat.reduceMul, Nat.reduceSub, Nat.reduceLT, Nat.reduceLeDiff, Int.reduceLT, Int.reduceLE, Int.reduceEq, Int.reduceNe, Int.reduceAdd, Int.reduceNeg, Int.reduceToNat, lineV]; rfl) ?_
  rintro _ rfl
  simp (config := { maxSteps := 1000000 }) only [go_sem, ↓reduceIte, Nat.reduceEqDiff, Nat.reduceAdd, Nat.reduceMul, Nat.reduceSub, Nat.reduceLT, Nat.reduceLeDiff, Int.reduceLT, Int.reduceLE, Int.reduceEq, Int.reduceNe, Int.reduceAdd, Int.reduceNeg, Int.reduceToNat, lineV, strs]
  cases hv : verbOk l.1
  · simp (config := { maxSteps := 1000000 }) only [go_sem, ↓reduceIte, Nat.reduceEqDiff, Nat.reduceAdd, Nat.reduceMul, Nat.reduceSub, Nat.reduceLT, Nat.reduceLeDiff, Int.reduceLT, Int.reduceLE, Int.reduceEq, Int.reduceNe, Int.reduceAdd, Int.reduceNeg, Int.reduceToNat, lineV, strs]
    simp [rightL, hv]
  · simp (config := { maxSteps := 1000000 }) only [go_sem, ↓reduceIte, Nat.reduceEqDiff, Nat.reduceAdd, Nat.reduceMul, Nat.reduceSub, Nat.reduceLT, Nat.reduceLeDiff, Int.reduceLT, Int.reduceLE, Int.reduceEq, Int.reduceNe, Int.reduceAdd, Int.reduceNeg, Int.reduceToNat, lineV, strs]
    refine ⟨fun hb => ?_, fun hb => ?_⟩
    · have : ¬ l.2.length ≤ 100 := by omega
      simp [rightL, this]
    · have hne : l.1 ≠ [] := fun e => by rw [e] at hv; simp [verbOk] at hv
      have hl20 : l.1.length ≤ 20 := by simp [verbOk] at hv; omega
      have h100 : l.2.length ≤ 100 := by omega
      refine hook_fun (B := 0) rfl (by simp (config := { maxSteps := 1000000 }) only [go_sem, ↓reduceIte, Nat.reduceEqDiff, Nat.reduceAdd, Nat.reduceMul, Nat.reduceSub, Nat.reduceLT, Nat.reduceLeDiff, Int.reduceLT, Int.reduceLE, Int.reduceEq, Int.reduceNe, Int.reduceAdd, Int.reduceNeg, Int.reduceToNat]; exact WriteString_A (B := 100) (bs := []) l.1 ⟨by simp [upd], by rw [code_nxC]; rfl, ⟨_, .inl rfl, .inl ⟨rfl, by simp [upd], by simp [upd]⟩⟩, by decide⟩ (by decide) hne (by simp) (by omega) (fun i hi hi' => by simp [upd, show ¬ i = 1 by omega, show ¬ i = 4 by omega])) ?_
      rintro _ g1 ob1 ⟨rfl, hB, e1, e2, e3⟩
      have g4 : g1 4 = nxC 52 (g 4) := by rw [e1 4 (by decide)]; simp [upd]
      have g11 : g1 1 = nxC 34 (g 1) := by rw [e1 1 (by decide)]; simp [upd]
      have o11 : ob1 1 = some [.d (.str l.1), .d (.sl (l.2.map fun w => [.str w]))] := by rw [e2 1 (by decide) (by decide)]; simp [upd]
      simp (config := { maxSteps := 1000000 }) only [go_sem, ↓reduceIte, Nat.reduceEqDiff, Nat.reduceAdd, Nat.reduceMul, Nat.reduceSub, Nat.reduceLT, Nat.reduceLeDiff, Int.reduceLT, Int.reduceLE, Int.reduceEq, Int.reduceNe, Int.reduceAdd, Int.reduceNeg, Int.reduceToNat, g11, o11]
      refine loop_intro (fun n st => ∃ k : Nat, n + k = l.2.length ∧ st.f 21 = .one (.d (.sl (l.2.map fun w => [.str w]))) ∧ st.f 22 = iv .i64 l.2.length ∧ st.f 23 = iv .i64 k ∧ st.f 4 = .one (.ptr 4 (st.gen 4) 0) ∧ (l.1 ++ wordsT (l.2.take k)).length ≤ 70000 ∧ Bld 4 114 (st.gen 4) (l.1 ++ wordsT (l.2.take k)) st.gen st.obj ∧ ∀ i, 100 ≤ i → i ≠ 114 → st.obj i = none) l.2.length ?_ ?_
      · refine ⟨0, by omega, ?_⟩
        simp (config := { maxSteps := 1000000 }) only [go_sem, ↓reduceIte, Nat.reduceEqDiff, Nat.reduceAdd, Nat.reduceMul, Nat.reduceSub, Nat.reduceLT, Nat.reduceLeDiff, Int.reduceLT, Int.reduceLE, Int.reduceEq, Int.reduceNe, Int.reduceAdd, Int.reduceNeg, Int.reduceToNat, g4]
        simp only [wordsT, List.take_zero, List.flatMap_nil, List.append_nil]
        exact ⟨by omega, by simpa using hB, e3⟩
      · clear hB e1 e2 e3 g4 g11 o11 ob1 g1
        rintro n f g ob ⟨k, hk, h21, h22, h23, h4, hlen, hB, hfree⟩
        simp only at h21 h22 h23 h4 hB hfree
        have hw := wrap_succ (k := k) (by omega)
        by_cases hlt : k < l.2.length
        · obtain ⟨w, hwk⟩ := getq hlt
          have hsg := strs_get hwk
          have hwl := h3 w (List.mem_of_getElem? hwk)
          simp (config := { maxSteps := 1000000 }) only [go_sem, ↓reduceIte, Nat.reduceEqDiff, Nat.reduceAdd, Nat.reduceMul, Nat.reduceSub, Nat.reduceLT, Nat.reduceLeDiff, Int.reduceLT, Int.reduceLE, Int.reduceEq, Int.reduceNe, Int.reduceAdd, Int.reduceNeg, Int.reduceToNat, h21, h22, h23, hlt, hsg, h4]
          refine hook_fun (B := 0) rfl (by simp (config := { maxSteps := 1000000 }) only [go_sem, ↓reduceIte, Nat.reduceEqDiff, Nat.reduceAdd, Nat.reduceMul, Nat.reduceSub, Nat.reduceLT, Nat.reduceLeDiff, Int.reduceLT, Int.reduceLE, Int.reduceEq, Int.reduceNe, Int.reduceAdd, Int.reduceNeg, Int.reduceToNat, h4]; exact Len_A hB) ?_
          rintro _ g' ob' ⟨rfl, rfl, rfl⟩
          have e1 : IntKind.i64.wrap ((((l.1 ++ wordsT (l.2.take k)).length : Nat) : Int) + 1) = (((l.1 ++ wordsT (l.2.take k)).length : Nat) : Int) + 1 := by rw [wrap_i64] <;> omega
          have e2 : IntKind.i64.wrap ((((l.1 ++ wordsT (l.2.take k)).length : Nat) : Int) + 1 + (w.length : Int)) = (((l.1 ++ wordsT (l.2.take k)).length : Nat) : Int) + 1 + (w.length : Int) := by rw [wrap_i64] <;> omega
          simp (config := { maxSteps := 1000000 }) only [go_sem, ↓reduceIte, Nat.reduceEqDiff, Nat.reduceAdd, Nat.reduceMul, Nat.reduceSub, Nat.reduceLT, Nat.reduceLeDiff, Int.reduceLT, Int.reduceLE, Int.reduceEq, Int.reduceNe, Int.reduceAdd, Int.reduceNeg, Int.reduceToNat, e1, e2, h4]
          have hpre : (l.1 ++ wordsT (l.2.take k)).length + 1 + (wordT w).length ≤ (lineT l).length := by
            have := wordsT_pre l.2 (k + 1)
            rw [wordsT_take hwk] at this
            simp only [lineT, List.length_append, List.length_cons] at this ⊢
            omega
          have hge := wordT_ge w
          have hle := wordT_le w
          refine ⟨fun hb => ?_, fun hb => ?_⟩
          · have : ¬ (lineT l).length ≤ 20000 := by omega
            simp [rightL, this]
          · refine hook_fun (B := 0) rfl (by simp (config := { maxSteps := 1000000 }) only [go_sem, ↓reduceIte, Nat.reduceEqDiff, Nat.reduceAdd, Nat.reduceMul, Nat.reduceSub, Nat.reduceLT, Nat.reduceLeDiff, Int.reduceLT, Int.reduceLE, Int.reduceEq, Int.reduceNe, Int.reduceAdd, Int.reduceNeg, Int.reduceToNat, h4]; exact WriteByte_A (B := 100) 32 hB (by decide) (by omega) hfree) ?_
            rintro _ g1 ob1 ⟨rfl, hB1, q1, q2, q3⟩
            have g4 : g1 4 = g' 4 := q1 4 (by decide)
            simp (config := { maxSteps := 1000000 }) only [go_sem, ↓reduceIte, Nat.reduceEqDiff, Nat.reduceAdd, Nat.reduceMul, Nat.reduceSub, Nat.reduceLT, Nat.reduceLeDiff, Int.reduceLT, Int.reduceLE, Int.reduceEq, Int.reduceNe, Int.reduceAdd, Int.reduceNeg, Int.reduceToNat, h4]
            refine hook_call rfl (by simp (config := { maxSteps := 1000000 }) only [go_sem, ↓reduceIte, Nat.reduceEqDiff, Nat.reduceAdd, Nat.reduceMul, Nat.reduceSub, Nat.reduceLT, Nat.reduceLeDiff, Int.reduceLT, Int.reduceLE, Int.reduceEq, Int.reduceNe, Int.reduceAdd, Int.reduceNeg, Int.reduceToNat]; exact quoted_A w (by omega)) (by simp (config := { maxSteps := 1000000 }) only [go_sem, ↓reduceIte, Nat.reduceEqDiff, Nat.reduceAdd, Nat.reduceMul, Nat.reduceSub, Nat.reduceLT, Nat.reduceLeDiff, Int.reduceLT, Int.reduceLE, Int.reduceEq, Int.reduceNe, Int.reduceAdd, Int.reduceNeg, Int.reduceToNat]; rfl) ?_
            rintro _ rfl
            simp (config := { maxSteps := 1000000 }) only [go_sem, ↓reduceIte, Nat.reduceEqDiff, Nat.reduceAdd, Nat.reduceMul, Nat.reduceSub, Nat.reduceLT, Nat.reduceLeDiff, Int.reduceLT, Int.reduceLE, Int.reduceEq, Int.reduceNe, Int.reduceAdd, Int.reduceNeg, Int.reduceToNat, h4]
            refine hook_fun (B := 0) rfl (by simp (config := { maxSteps := 1000000 }) only [go_sem, ↓reduceIte, Nat.reduceEqDiff, Nat.reduceAdd, Nat.reduceMul, Nat.reduceSub, Nat.reduceLT, Nat.reduceLeDiff, Int.reduceLT, Int.reduceLE, Int.reduceEq, Int.reduceNe, Int.reduceAdd, Int.reduceNeg, Int.reduceToNat, h4]; exact WriteString_A (B := 100) (wordT w) hB1 (by decide) (wordT_ne w) (by simp only [List.length_append, List.length_cons, List.length_nil] at hlen ⊢; omega) (by omega) q3) ?_
            rintro _ g2 ob2 ⟨rfl, hB2, r1, r2, r3⟩
            have g42 : g2 4 = g' 4 := (r1 4 (by decide)).trans g4
            simp (config := { maxSteps := 1000000 }) only [go_sem, ↓reduceIte, Nat.reduceEqDiff, Nat.reduceAdd, Nat.reduceMul, Nat.reduceSub, Nat.reduceLT, Nat.reduceLeDiff, Int.reduceLT, Int.reduceLE, Int.reduceEq, Int.reduceNe, Int.reduceAdd, Int.reduceNeg, Int.reduceToNat, h23, hw, h4]
            refine round_end (n - 1) (by omega) ⟨k + 1, by omega, ?_⟩
            simp (config := { maxSteps := 1000000 }) only [go_sem, ↓reduceIte, Nat.reduceEqDiff, Nat.reduceAdd, Nat.reduceMul, Nat.reduceSub, Nat.reduceLT, Nat.reduceLeDiff, Int.reduceLT, Int.reduceLE, Int.reduceEq, Int.reduceNe, Int.reduceAdd, Int.reduceNeg, Int.reduceToNat, h21, h22, h4, g42]
            rw [wordsT_take hwk]
            refine ⟨by simp only [List.length_append, List.length_cons] at hlen hb ⊢; omega, ?_, r3⟩
            simpa using hB2
        · simp (config := { maxSteps := 1000000 }) only [go_sem, ↓reduceIte, Nat.reduceEqDiff, Nat.reduceAdd, Nat.reduceMul, Nat.reduceSub, Nat.reduceLT, Nat.reduceLeDiff, Int.reduceLT, Int.reduceLE, Int.reduceEq, Int.reduceNe, Int.reduceAdd, Int.reduceNeg, Int.reduceToNat, h21, h22, h23, hlt]
          have hts : l.2.take k = l.2 := List.take_of_length_le (by omega)
          rw [hts] at hB hlen
          refine hook_fun (B := 0) rfl (by simp (config := { maxSteps := 1000000 }) only [go_sem, ↓reduceIte, Nat.reduceEqDiff, Nat.reduceAdd, Nat.reduceMul, Nat.reduceSub, Nat.reduceLT, Nat.reduceLeDiff, Int.reduceLT, Int.reduceLE, Int.reduceEq, Int.reduceNe, Int.reduceAdd, Int.reduceNeg, Int.reduceToNat, h4]; exact Len_A hB) ?_
          rintro _ g' ob' ⟨rfl, rfl, rfl⟩
          simp (config := { maxSteps := 1000000 }) only [go_sem, ↓reduceIte, Nat.reduceEqDiff, Nat.reduceAdd, Nat.reduceMul, Nat.reduceSub, Nat.reduceLT, Nat.reduceLeDiff, Int.reduceLT, Int.reduceLE, Int.reduceEq, Int.reduceNe, Int.reduceAdd, Int.reduceNeg, Int.reduceToNat, h4]
          refine ⟨fun hb => ?_, fun hb => ?_⟩
          · have : ¬ (lineT l).length ≤ 20000 := by simp only [lineT]; omega
            simp [rightL, this]
          · have : (lineT l).length ≤ 20000 := by simp only [lineT]; omega
            refine hook_fun (B := 0) rfl (by simp (config := { maxSteps := 1000000 }) only [go_sem, ↓reduceIte, Nat.reduceEqDiff, Nat.reduceAdd, Nat.reduceMul, Nat.reduceSub, Nat.reduceLT, Nat.reduceLeDiff, Int.reduceLT, Int.reduceLE, Int.reduceEq, Int.reduceNe, Int.reduceAdd, Int.reduceNeg, Int.reduceToNat, h4]; exact String_A hB (by omega)) ?_
            rintro _ g2 ob2 ⟨rfl, rfl, e4⟩
            simp (config := { maxSteps := 1000000 }) only [go_sem, ↓reduceIte, Nat.reduceEqDiff, Nat.reduceAdd, Nat.reduceMul, Nat.reduceSub, Nat.reduceLT, Nat.reduceLeDiff, Int.reduceLT, Int.reduceLE, Int.reduceEq, Int.reduceNe, Int.reduceAdd, Int.reduceNeg, Int.reduceToNat]
            rw [if_pos (by simp only [rightL, hv, h100, this, decide_true, Bool.and_self])]
            rfl

end Go.Proofs.YtdlogfbbcbbllaaDoor

namespace Go.Proofs.YtdlogfbbcbbllaaDoor
open Go Go.Am

def lineD (l : Line) : List D := [.str l.1, strs l.2]
def linesD (ls : List Line) : D := .sl (ls.map lineD)
def linesT (ls : List Line) : List UInt8 := ls.flatMap fun l => lineT l ++ [10]

theorem linesT_take {l : List Line} {k : Nat} {x : Line} (h : l[k]? = some x) : linesT (l.take (k + 1)) = linesT (l.take k) ++ (lineT x ++ [10]) := by
  unfold linesT; rw [List.take_add_one, h]; simp [List.flatMap_append]
theorem lineD_get {l : List Line} {k : Nat} {x : Line} (h : l[k]? = some x) : (l.map lineD)[k]? = some (lineD x) := by rw [List.getElem?_map, h]; rfl
theorem lineD_ne {l : Line} (h : rightL l = true) : lineT l ≠ [] := by
  intro e
  have : l.1 = [] := by unfold lineT at e; exact (List.append_eq_nil_iff.1 e).1
  simp [rightL, verbOk, this] at h

/-- What may be said of lines so that their text is walked. -/
structure Few (ls : List Line) : Prop where
  n : ls.length ≤ 10000
  v : ∀ l ∈ ls, l.1.length ≤ 1000000
  ws : ∀ l ∈ ls, l.2.length ≤ 1000000000
  w : ∀ l ∈ ls, ∀ w ∈ l.2, w.length ≤ 1000000000000000

set_option maxHeartbeats 4000000 in
theorem Text_A (ls : List Line) (hf : Few ls) : PureR Tryd.prog 19 [.one (.d (linesD ls))] (· = if ls.all rightL = true then .tup [sv (linesT ls), iv .i64 0] else .tup [sv [], iv .i64 1]) := by
  refine pure_of_wp Tt_ok mixed Tryd.func19 rfl (by rfl) [2, 3] rfl (by kernel_rfl) (by simp [Tryd.ntmps19]) fun g => ?_
  have hn := hf.n
  simp (config := { maxSteps := 1000000 }) only [go_sem, ↓reduceIte, Nat.reduceEqDiff, Nat.reduceAdd, Nat.reduceMul, Nat.reduceSub, Nat.reduceLT, Nat.reduceLeDiff, Int.reduceLT, Int.reduceLE, Int.reduceEq, Int.reduceNe, Int.reduceAdd, Int.reduceNeg, Int.reduceToNat, linesD]
  refine loop_intro (fun n st => ∃ k : Nat, n + k = ls.length ∧ st.f 9 = .one (.d (.sl (ls.map lineD))) ∧ st.f 10 = iv .i64 ls.length ∧ st.f 11 = iv .i64 k ∧ st.f 4 = .one (.ptr 4 (st.gen 4) 0) ∧ (linesT (ls.take k)).length ≤ 20001 * k ∧ (ls.take k).all rightL = true ∧ Bld 4 114 (st.gen 4) (linesT (ls.take k)) st.gen st.obj ∧ ∀ i, 100 ≤ i → i ≠ 114 → st.obj i = none) ls.length ?_ ?_
  · refine ⟨0, by omega, ?_⟩
    simp (config := { maxSteps := 1000000 }) only [go_sem, ↓reduceIte, Nat.reduceEqDiff, Nat.reduceAdd, Nat.reduceMul, Nat.reduceSub, Nat.reduceLT, Nat.reduceLeDiff, Int.reduceLT, Int.reduceLE, Int.reduceEq, Int.reduceNe, Int.reduceAdd, Int.reduceNeg, Int.reduceToNat]
    refine ⟨by simp [linesT], by simp, ⟨by simp [upd], by rw [code_nxC]; rfl, ⟨_, .inl rfl, .inl ⟨by simp [linesT], by simp [upd], by simp [upd]⟩⟩, by decide⟩, fun i hi hi' => by simp [show ¬ i = 4 by omega]⟩
  · rintro n f g ob ⟨k, hk, h9, h10, h11, h4, hlen, hall, hB, hfree⟩
    simp only at h9 h10 h11 h4 hB hfree
    have hw := wrap_succ (k := k) (by omega)
    by_cases hlt : k < ls.length
    · obtain ⟨l, hl⟩ := getq hlt
      have hlm := List.mem_of_getElem? hl
      have hg := lineD_get hl
      have hT := text_A l (hf.v l hlm) (hf.ws l hlm) (hf.w l hlm)
      simp (config := { maxSteps := 1000000 }) only [go_sem, ↓reduceIte, Nat.reduceEqDiff, Nat.reduceAdd, Nat.reduceMul, Nat.reduceSub, Nat.reduceLT, Nat.reduceLeDiff, Int.reduceLT, Int.reduceLE, Int.reduceEq, Int.reduceNe, Int.reduceAdd, Int.reduceNeg, Int.reduceToNat, h9, h10, h11, h4, hlt, hg, lineD]
      refine hook_call rfl (by simp (config := { maxSteps := 1000000 }) only [go_sem, ↓reduceIte, Nat.reduceEqDiff, Nat.reduceAdd, Nat.reduceMul, Nat.reduceSub, Nat.reduceLT, Nat.reduceLeDiff, Int.reduceLT, Int.reduceLE, Int.reduceEq, Int.reduceNe, Int.reduceAdd, Int.reduceNeg, Int.reduceToNat, lineD]; exact hT) (by simp (config := { maxSteps := 1000000 }) only [go_sem, ↓reduceIte, Nat.reduceEqDiff, Nat.reduceAdd, Nat.reduceMul, Nat.reduceSub, Nat.reduceLT, Nat.reduceLeDiff, Int.reduceLT, Int.reduceLE, Int.reduceEq, Int.reduceNe, Int.reduceAdd, Int.reduceNeg, Int.reduceToNat, lineD, strs]; rfl) ?_
      rintro _ rfl
      cases hr : rightL l
      · simp (config := { maxSteps := 1000000 }) only [go_sem, ↓reduceIte, Nat.reduceEqDiff, Nat.reduceAdd, Nat.reduceMul, Nat.reduceSub, Nat.reduceLT, Nat.reduceLeDiff, Int.reduceLT, Int.reduceLE, Int.reduceEq, Int.reduceNe, Int.reduceAdd, Int.reduceNeg, Int.reduceToNat, hr]
        have : ls.all rightL = false := by rw [List.all_eq_false]; exact ⟨l, hlm, by simp [hr]⟩
        simp [this]
      · simp (config := { maxSteps := 1000000 }) only [go_sem, ↓reduceIte, Nat.reduceEqDiff, Nat.reduceAdd, Nat.reduceMul, Nat.reduceSub, Nat.reduceLT, Nat.reduceLeDiff, Int.reduceLT, Int.reduceLE, Int.reduceEq, Int.reduceNe, Int.reduceAdd, Int.reduceNeg, Int.reduceToNat, hr, h4]
        have hle : (lineT l).length ≤ 20000 := by simp only [rightL, Bool.and_eq_true, decide_eq_true_eq] at hr; exact hr.2
        have hB' : Bld 4 114 (g 4) (linesT (ls.take k)) (upd g 6 (nxC 34 (g 6))) (upd (upd ob 6 (some [.d (.str []), .d .nsl])) 6 (some [.d (.str l.1), .d (strs l.2)])) := by
          obtain ⟨q1, q2, ⟨a, qa, q3⟩, q4⟩ := hB
          refine ⟨by simp [upd], q2, ⟨a, qa, ?_⟩, q4⟩
          simpa [upd] using q3
        refine hook_fun (B := 0) rfl (by simp (config := { maxSteps := 1000000 }) only [go_sem, ↓reduceIte, Nat.reduceEqDiff, Nat.reduceAdd, Nat.reduceMul, Nat.reduceSub, Nat.reduceLT, Nat.reduceLeDiff, Int.reduceLT, Int.reduceLE, Int.reduceEq, Int.reduceNe, Int.reduceAdd, Int.reduceNeg, Int.reduceToNat, h4]; exact WriteString_A (B := 100) (bs := linesT (ls.take k)) (lineT l) hB' (by decide) (lineD_ne hr) (by omega) (by omega) (fun i hi hi' => by simp [upd, show ¬ i = 6 by omega, hfree i hi hi'])) ?_
        rintro _ g1 ob1 ⟨rfl, hB1, q1, q2, q3⟩
        have g4 : g1 4 = g 4 := by rw [q1 4 (by decide)]; simp [upd]
        simp (config := { maxSteps := 1000000 }) only [go_sem, ↓reduceIte, Nat.reduceEqDiff, Nat.reduceAdd, Nat.reduceMul, Nat.reduceSub, Nat.reduceLT, Nat.reduceLeDiff, Int.reduceLT, Int.reduceLE, Int.reduceEq, Int.reduceNe, Int.reduceAdd, Int.reduceNeg, Int.reduceToNat, h4]
        refine hook_fun (B := 0) rfl (by simp (config := { maxSteps := 1000000 }) only [go_sem, ↓reduceIte, Nat.reduceEqDiff, Nat.reduceAdd, Nat.reduceMul, Nat.reduceSub, Nat.reduceLT, Nat.reduceLeDiff, Int.reduceLT, Int.reduceLE, Int.reduceEq, Int.reduceNe, Int.reduceAdd, Int.reduceNeg, Int.reduceToNat, h4]; exact WriteByte_A (B := 100) (bs := linesT (ls.take k) ++ lineT l) 10 hB1 (by decide) (by simp only [List.length_append]; omega) q3) ?_
        rintro _ g2 ob2 ⟨rfl, hB2, r1, r2, r3⟩
        have g42 : g2 4 = g 4 := (r1 4 (by decide)).trans g4
        simp (config := { maxSteps := 1000000 }) only [go_sem, ↓reduceIte, Nat.reduceEqDiff, Nat.reduceAdd, Nat.reduceMul, Nat.reduceSub, Nat.reduceLT, Nat.reduceLeDiff, Int.reduceLT, Int.reduceLE, Int.reduceEq, Int.reduceNe, Int.reduceAdd, Int.reduceNeg, Int.reduceToNat, h11, hw]
        refine round_end (n - 1) (by omega) ⟨k + 1, by omega, ?_⟩
        simp (config := { maxSteps := 1000000 }) only [go_sem, ↓reduceIte, Nat.reduceEqDiff, Nat.reduceAdd, Nat.reduceMul, Nat.reduceSub, Nat.reduceLT, Nat.reduceLeDiff, Int.reduceLT, Int.reduceLE, Int.reduceEq, Int.reduceNe, Int.reduceAdd, Int.reduceNeg, Int.reduceToNat, h9, h10, h4, g42]
        rw [linesT_take hl]
        refine ⟨by simp only [List.length_append, List.length_cons, List.length_nil]; omega, all_take hl hall hr, by simpa using hB2, r3⟩
    · simp (config := { maxSteps := 1000000 }) only [go_sem, ↓reduceIte, Nat.reduceEqDiff, Nat.reduceAdd, Nat.reduceMul, Nat.reduceSub, Nat.reduceLT, Nat.reduceLeDiff, Int.reduceLT, Int.reduceLE, Int.reduceEq, Int.reduceNe, Int.reduceAdd, Int.reduceNeg, Int.reduceToNat, h9, h10, h11, hlt]
      have hts : ls.take k = ls := List.take_of_length_le (by omega)
      rw [hts] at hB hlen hall
      refine hook_fun (B := 0) rfl (by simp (config := { maxSteps := 1000000 }) only [go_sem, ↓reduceIte, Nat.reduceEqDiff, Nat.reduceAdd, Nat.reduceMul, Nat.reduceSub, Nat.reduceLT, Nat.reduceLeDiff, Int.reduceLT, Int.reduceLE, Int.reduceEq, Int.reduceNe, Int.reduceAdd, Int.reduceNeg, Int.reduceToNat, h4]; exact String_A hB (by omega)) ?_
      rintro _ g2 ob2 ⟨rfl, rfl, e4⟩
      simp (config := { maxSteps := 1000000 }) only [go_sem, ↓reduceIte, Nat.reduceEqDiff, Nat.reduceAdd, Nat.reduceMul, Nat.reduceSub, Nat.reduceLT, Nat.reduceLeDiff, Int.reduceLT, Int.reduceLE, Int.reduceEq, Int.reduceNe, Int.reduceAdd, Int.reduceNeg, Int.reduceToNat]
      rw [if_pos hall]

theorem trimLeftByte_A (s : List UInt8) (c : UInt8) : PureR Tryd.prog 52 [sv s, iv .u8 c.toNat] (· = sv (s.dropWhile (· == c))) := by
  refine pure_of_wp Tt_ok mixed Tryd.func52 rfl (by rfl) [4] rfl (by kernel_rfl) (by simp [Tryd.ntmps52]) fun g => ?_
  simp (config := { maxSteps := 1000000 }) only [go_sem, ↓reduceIte, Nat.reduceEqDiff, Nat.reduceAdd, Nat.reduceMul, Nat.reduceSub, Nat.reduceLT, Nat.reduceLeDiff, Int.reduceLT, Int.reduceLE, Int.reduceEq, Int.reduceNe, Int.reduceAdd, Int.reduceNeg, Int.reduceToNat]
  refine loop_intro (fun n st => ∃ t : List UInt8, t.length = n ∧ st.f 0 = sv t ∧ st.f 1 = iv .u8 c.toNat ∧ t.dropWhile (· == c) = s.dropWhile (· == c)) s.length ⟨s, rfl, rfl, rfl, rfl⟩ ?_
  rintro n f g ob ⟨t, rfl, h0, h1, ht⟩
  simp only at h0 h1
  cases t with
  | nil =>
    simp (config := { maxSteps := 1000000 }) only [go_sem, ↓reduceIte, Nat.reduceEqDiff, Nat.reduceAdd, Nat.reduceMul, Nat.reduceSub, Nat.reduceLT, Nat.reduceLeDiff, Int.reduceLT, Int.reduceLE, Int.reduceEq, Int.reduceNe, Int.reduceAdd, Int.reduceNeg, Int.reduceToNat, h0, h1]
    rw [← ht]; rfl
  | cons b t =>
    have hp : (0 : Int) < ((t.length + 1 : Nat) : Int) := by omega
    simp (config := { maxSteps := 1000000 }) only [go_sem, ↓reduceIte, Nat.reduceEqDiff, Nat.reduceAdd, Nat.reduceMul, Nat.reduceSub, Nat.reduceLT, Nat.reduceLeDiff, Int.reduceLT, Int.reduceLE, Int.reduceEq, Int.reduceNe, Int.reduceAdd, Int.reduceNeg, Int.reduceToNat, h0, h1, hp]
    refine ⟨fun e => ?_, fun e => ?_⟩
    · have hb : b = c := u8_eq e
      refine ⟨Nat.le_refl _, ?_⟩
      refine round_end t.length (by simp) ⟨t, rfl, ?_⟩
      simp (config := { maxSteps := 1000000 }) only [go_sem, ↓reduceIte, Nat.reduceEqDiff, Nat.reduceAdd, Nat.reduceMul, Nat.reduceSub, Nat.reduceLT, Nat.reduceLeDiff, Int.reduceLT, Int.reduceLE, Int.reduceEq, Int.reduceNe, Int.reduceAdd, Int.reduceNeg, Int.reduceToNat, h1]
      rw [← ht, hb]; simp
    · have hb : (b == c) = false := by
        rw [beq_eq_false_iff_ne]; intro h; exact e (by rw [h])
      rw [← ht, List.dropWhile_cons, hb]; rfl

theorem TrimLeft_A (s : List UInt8) : PureR Tryd.prog 44 [sv s, sv [32]] (· = sv (s.dropWhile (· == 32))) := by
  refine pure_of_wp Tt_ok mixed Tryd.func44 rfl (by rfl) [4] rfl (by kernel_rfl) (by simp [Tryd.ntmps44]) fun g => ?_
  simp (config := { maxSteps := 1000000 }) only [go_sem, ↓reduceIte, Nat.reduceEqDiff, Nat.reduceAdd, Nat.reduceMul, Nat.reduceSub, Nat.reduceLT, Nat.reduceLeDiff, Int.reduceLT, Int.reduceLE, Int.reduceEq, Int.reduceNe, Int.reduceAdd, Int.reduceNeg, Int.reduceToNat]
  refine ⟨fun h => ?_, fun h => ?_⟩
  · rw [h]; rfl
  · refine ⟨fun _ => ?_, fun h => absurd (by decide) h⟩
    refine hook_call rfl (by simp (config := { maxSteps := 1000000 }) only [go_sem, ↓reduceIte, Nat.reduceEqDiff, Nat.reduceAdd, Nat.reduceMul, Nat.reduceSub, Nat.reduceLT, Nat.reduceLeDiff, Int.reduceLT, Int.reduceLE, Int.reduceEq, Int.reduceNe, Int.reduceAdd, Int.reduceNeg, Int.reduceToNat]; exact trimLeftByte_A s 32) (by simp (config := { maxSteps := 1000000 }) only [go_sem, ↓reduceIte, Nat.reduceEqDiff, Nat.reduceAdd, Nat.reduceMul, Nat.reduceSub, Nat.reduceLT, Nat.reduceLeDiff, Int.reduceLT, Int.reduceLE, Int.reduceEq, Int.reduceNe, Int.reduceAdd, Int.reduceNeg, Int.reduceToNat]; rfl) ?_
    rintro _ rfl
    simp (config := { maxSteps := 1000000 }) only [go_sem, ↓reduceIte, Nat.reduceEqDiff, Nat.reduceAdd, Nat.reduceMul, Nat.reduceSub, Nat.reduceLT, Nat.reduceLeDiff, Int.reduceLT, Int.reduceLE, Int.reduceEq, Int.reduceNe, Int.reduceAdd, Int.reduceNeg, Int.reduceToNat]

theorem IndexByte_A (s : List UInt8) (c : UInt8) : PureR Tryd.prog 56 [sv s, iv .u8 c.toNat] (· = iv .i64 (Lib.indexByte s c)) := by
  refine pure_of_wp Tt_ok mixed Tryd.func56 rfl (by rfl) [4] rfl (by kernel_rfl) (by simp [Tryd.ntmps56]) fun g => ?_
  simp (config := { maxSteps := 1000000 }) only [go_sem, ↓reduceIte, Nat.reduceEqDiff, Nat.reduceAdd, Nat.reduceMul, Nat.reduceSub, Nat.reduceLT, Nat.reduceLeDiff, Int.reduceLT, Int.reduceLE, Int.reduceEq, Int.reduceNe, Int.reduceAdd, Int.reduceNeg, Int.reduceToNat]
  refine hook_extern (B := 0) (x := .int .i64 (Lib.indexByte s c)) rfl (by simp (config := { maxSteps := 1000000 }) only [go_sem, ↓reduceIte, Nat.reduceEqDiff, Nat.reduceAdd, Nat.reduceMul, Nat.reduceSub, Nat.reduceLT, Nat.reduceLeDiff, Int.reduceLT, Int.reduceLE, Int.reduceEq, Int.reduceNe, Int.reduceAdd, Int.reduceNeg, Int.reduceToNat]; rfl) rfl (fun w => ?_) ?_
  · simp (config := { maxSteps := 1000000 }) only [go_sem, ↓reduceIte, Nat.reduceEqDiff, Nat.reduceAdd, Nat.reduceMul, Nat.reduceSub, Nat.reduceLT, Nat.reduceLeDiff, Int.reduceLT, Int.reduceLE, Int.reduceEq, Int.reduceNe, Int.reduceAdd, Int.reduceNeg, Int.reduceToNat, scVal, scC, scD, dV]
    rw [run_callFunc_extern Tryd.func62 (by kernel_rfl) (by kernel_rfl) (by kernel_rfl) (e := Extern.BytealgIndexByte.indexByte) (by kernel_rfl), Lib.run_indexByteString]
    simp [Result.andThen]
  · simp (config := { maxSteps := 1000000 }) only [go_sem, ↓reduceIte, Nat.reduceEqDiff, Nat.reduceAdd, Nat.reduceMul, Nat.reduceSub, Nat.reduceLT, Nat.reduceLeDiff, Int.reduceLT, Int.reduceLE, Int.reduceEq, Int.reduceNe, Int.reduceAdd, Int.reduceNeg, Int.reduceToNat]

theorem Index_A (s : List UInt8) (c : UInt8) (hs : s.length ≤ 1000000000000000) : PureR Tryd.prog 51 [sv s, sv [c]] (· = iv .i64 (Lib.indexByte s c)) := by
  refine pure_of_wp Tt_ok mixed Tryd.func51 rfl (by rfl) [4] rfl (by kernel_rfl) (by simp [Tryd.ntmps51]) fun g => ?_
  simp (config := { maxSteps := 1000000 }) only [go_sem, ↓reduceIte, Nat.reduceEqDiff, Nat.reduceAdd, Nat.reduceMul, Nat.reduceSub, Nat.reduceLT, Nat.reduceLeDiff, Int.reduceLT, Int.reduceLE, Int.reduceEq, Int.reduceNe, Int.reduceAdd, Int.reduceNeg, Int.reduceToNat]
  refine ⟨fun h => ?_, fun h => ?_⟩
  · rw [← h]; simp [Lib.indexByte]
  · refine hook_call rfl (by simp (config := { maxSteps := 1000000 }) only [go_sem, ↓reduceIte, Nat.reduceEqDiff, Nat.reduceAdd, Nat.reduceMul, Nat.reduceSub, Nat.reduceLT, Nat.reduceLeDiff, Int.reduceLT, Int.reduceLE, Int.reduceEq, Int.reduceNe, Int.reduceAdd, Int.reduceNeg, Int.reduceToNat]; exact IndexByte_A s c) (by simp (config := { maxSteps := 1000000 }) only [go_sem, ↓reduceIte, Nat.reduceEqDiff, Nat.reduceAdd, Nat.reduceMul, Nat.reduceSub, Nat.reduceLT, Nat.reduceLeDiff, Int.reduceLT, Int.reduceLE, Int.reduceEq, Int.reduceNe, Int.reduceAdd, Int.reduceNeg, Int.reduceToNat]; rfl) ?_
    rintro _ rfl
    simp (config := { maxSteps := 1000000 }) only [go_sem, ↓reduceIte, Nat.reduceEqDiff, Nat.reduceAdd, Nat.reduceMul, Nat.reduceSub, Nat.reduceLT, Nat.reduceLeDiff, Int.reduceLT, Int.reduceLE, Int.reduceEq, Int.reduceNe, Int.reduceAdd, Int.reduceNeg, Int.reduceToNat]

theorem IndexStr_A (s : List UInt8) (c : UInt8) (hs : s.length ≤ 1000000000000000) : PureR Tryd.prog 42 [sv s, sv [c]] (· = iv .i64 (Lib.indexByte s c)) := by
  refine pure_of_wp Tt_ok mixed Tryd.func42 rfl (by rfl) [4] rfl (by kernel_rfl) (by simp [Tryd.ntmps42]) fun g => ?_
  simp (config := { maxSteps := 1000000 }) only [go_sem, ↓reduceIte, Nat.reduceEqDiff, Nat.reduceAdd, Nat.reduceMul, Nat.reduceSub, Nat.reduceLT, Nat.reduceLeDiff, Int.reduceLT, Int.reduceLE, Int.reduceEq, Int.reduceNe, Int.reduceAdd, Int.reduceNeg, Int.reduceToNat]
  refine hook_call rfl (by simp (config := { maxSteps := 1000000 }) only [go_sem, ↓reduceIte, Nat.reduceEqDiff, Nat.reduceAdd, Nat.reduceMul, Nat.reduceSub, Nat.reduceLT, Nat.reduceLeDiff, Int.reduceLT, Int.reduceLE, Int.reduceEq, Int.reduceNe, Int.reduceAdd, Int.reduceNeg, Int.reduceToNat]; exact Index_A s c hs) (by simp (config := { maxSteps := 1000000 }) only [go_sem, ↓reduceIte, Nat.reduceEqDiff, Nat.reduceAdd, Nat.reduceMul, Nat.reduceSub, Nat.reduceLT, Nat.reduceLeDiff, Int.reduceLT, Int.reduceLE, Int.reduceEq, Int.reduceNe, Int.reduceAdd, Int.reduceNeg, Int.reduceToNat]; rfl) ?_
  rintro _ rfl
  simp (config := { maxSteps := 1000000 }) only [go_sem, ↓reduceIte, Nat.reduceEqDiff, Nat.reduceAdd, Nat.reduceMul, Nat.reduceSub, Nat.reduceLT, Nat.reduceLeDiff, Int.reduceLT, Int.reduceLE, Int.reduceEq, Int.reduceNe, Int.reduceAdd, Int.reduceNeg, Int.reduceToNat]

end Go.Proofs.YtdlogfbbcbbllaaDoor

namespace Go.Am
section
variable {P : Program} {T : Nat → TI} {b₀ : Bs} {rd : Option Nat} {Φ : St → Loc → List Deferred → World → Prop} {B0 : Nat}

theorem loop_introF {B : (Exit → St → Prop) → St → Prop} {b : Box B} {Q : Exit → St → Prop} {q : Box Q} {s : St} (I : Nat → St → Prop) (n : Nat) (h0 : I n s)
    (hr : ∀ n f g ob, I n ⟨f, g, ob⟩ → B (thenA (bx fun s' => ∃ n' s₁, n' < n ∧ (spF P rd b₀ Φ B0).vs s' s₁ ∧ I n' s₁) q) ⟨f, g, ob⟩) : LoopA (spF P rd b₀ Φ B0) b q s :=
  ⟨I, ⟨n, s, SemVs.refl s, h0⟩, fun n s hs => hr n s.f s.gen s.obj hs⟩
theorem round_endF {I : Nat → St → Prop} {n : Nat} {s : St} (n' : Nat) (h : n' < n) (hI : I n' s) : ∃ n' s₁, n' < n ∧ (spF P rd b₀ Φ B0).vs s s₁ ∧ I n' s₁ := ⟨n', s, h, SemVs.refl s, hI⟩

theorem hook_callF (hΦ : KeptTr b₀ Φ) {o : Oper} {s : St} {K : St → Prop} {k : Box K} {f : FuncId} {args : Array Operand} {tys : Array TypeId} (ho : o.op = .call ⟨.value (.func f), args, tys⟩) {R : AV → Prop}
    (hp : PureR P f (args.toList.map s.ev) R) (hd : (args.toList.map s.ev).all dataAV = true) (hk : ∀ r, R r → K (s.put o.dst r)) : hookA (spF P rd b₀ Φ B0) o s k :=
  hookF hΦ (by simp [noDefer, ho]) (hook_pure (B := 0) (k := k) ho hp hd hk)

theorem hook_funF (hΦ : KeptTr b₀ Φ) {o : Oper} {s : St} {K : St → Prop} {k : Box K} {f : FuncId} {args : Array Operand} {tys : Array TypeId} (ho : o.op = .call ⟨.value (.func f), args, tys⟩) {R : AV → (Nat → Nat) → Obs → Prop}
    (hp : FunR P f (args.toList.map s.ev) s.gen s.obj R) (hk : ∀ r g' ob', R r g' ob' → K (St.put ⟨s.f, g', ob'⟩ o.dst r)) : hookA (spF P rd b₀ Φ B0) o s k :=
  hookF hΦ (by simp [noDefer, ho]) (hook_fun (B := 0) (k := k) ho hp hk)

/-- A call of a function value that holds no variables. -/
theorem hook_fnv {o : Oper} {s : St} {K : St → Prop} {k : Box K} {B : Nat} {t : Nat} {args : Array Operand} {tys : Array TypeId} (ho : o.op = .call ⟨.value (.tmp t), args, tys⟩) {f : FuncId} (hf : s.f t = .one (.d (.fn f))) {R : AV → Prop}
    (hp : PureR P f (args.toList.map s.ev) R) (hd : (args.toList.map s.ev).all dataAV = true) (hk : ∀ r, R r → K (s.put o.dst r)) : hookA (spB P B) o s k := by
  refine ⟨fun s' => ∃ r, R r ∧ s' = s.put o.dst r, ?_, fun _ ⟨r, hr, e⟩ => e ▸ hk r hr⟩
  intro b₀ N β a w hr hdst next Q hn
  have hv := hr.f t
  rw [hf] at hv
  simp only [RepV, RepC] at hv
  have hv : a.tmps.getD t undef = .func (.func f) #[] #[] := by generalize a.tmps.getD t undef = v at hv; cases hv; rfl
  have hrun : (execOp a.eval o).run P w = .ok (.enter f (args.map a.eval)) w := by
    obtain ⟨fn, h1, h2, h3⟩ := hp.1
    have h2 : ¬ fn.body = none := by intro h; rw [h] at h2; simp at h2
    have h3 : ¬ fn.name = "runtime.NumGoroutine" := by simpa using h3
    simp [execOp, ho, resolve, Act.eval, hv, Deferred.ofValue, invoke, callFunc, h1, h2, h3]
  unfold Oper.wp
  rw [hrun]
  simp only [Oper.upon]
  have hargs : ∀ l : List Operand, (l.map s.ev).all dataAV = true → RVs (Imm b₀ β s.obj w) w (l.map s.ev) (l.map a.eval) := by
    intro l
    induction l with
    | nil => intro _; simp only [List.map_nil, RVs]
    | cons x l ih =>
      intro h
      simp only [List.map_cons, List.all_cons, Bool.and_eq_true] at h
      simp only [List.map_cons, RVs]
      exact ⟨_, _, rfl, RepV.data h.1 (hr.ev x), ih h.2⟩
  have := hp.2 (Imm b₀ β s.obj w) w (args.toList.map a.eval) (fun _ h => h.1) (hargs _ hd)
  rw [show (args.toList.map a.eval).toArray = args.map a.eval from Array.ext' (by simp)] at this
  refine this.mono fun e w' ⟨v, r, he, hR, hs, hh, hos, hv⟩ => ?_
  subst he
  obtain ⟨g1, g2⟩ := hr.grow hs hh hos
  refine hn _ β _ w' ⟨r, hR, rfl⟩ (g1.put hdst (RV.rep r (RV.mono (fun b hb => ⟨imm_new hr (fun _ h => h) hb, rfl⟩) r hv))) (g2.trans (Tr.same (St.put_gen _ _ _) (St.put_obj _ _ _) rfl))

theorem hook_fnvF (hΦ : KeptTr b₀ Φ) {o : Oper} {s : St} {K : St → Prop} {k : Box K} {t : Nat} {args : Array Operand} {tys : Array TypeId} (ho : o.op = .call ⟨.value (.tmp t), args, tys⟩) {f : FuncId} (hf : s.f t = .one (.d (.fn f))) {R : AV → Prop}
    (hp : PureR P f (args.toList.map s.ev) R) (hd : (args.toList.map s.ev).all dataAV = true) (hk : ∀ r, R r → K (s.put o.dst r)) : hookA (spF P rd b₀ Φ B0) o s k :=
  hookF hΦ (by simp [noDefer, ho]) (hook_fnv (B := 0) (k := k) ho hf hp hd hk)

theorem hook_viewF (hΦ : KeptTr b₀ Φ) {o : Oper} {s : St} {K : St → Prop} {k : Box K} {f : FuncId} {args : Array Operand} {tys : Array TypeId} (ho : o.op = .call ⟨.value (.func f), args, tys⟩) {R : AV → Prop} {xs : List AV}
    (hx : FrzVs s (args.toList.map s.ev) xs) (hp : PureR P f xs R) (hd : ∀ r, R r → scalarAV r = true) (hk : ∀ r, R r → K (s.put o.dst r)) : hookA (spF P rd b₀ Φ B0) o s k :=
  hookF hΦ (by simp [noDefer, ho]) (hook_view (k := k) ho hx hp hd hk)
end
section
variable {S : Sp} {T : Nat → TI}
@[go_sem] theorem wpC_rangeFunc {fo : Operand} {ps : Array Tmp} {x y : Code} {f : Nat → AV} {g : Nat → Nat} {ob : Nat → Option (List C)} {Q : Exit → St → Prop} {q : Box Q} : wpC S T (.rangeFunc fo ps x y) q ⟨f, g, ob⟩ = hookC S (.rangeFunc fo ps x y) ⟨f, g, ob⟩ q := Eq.trans rfl rfl
end
end Go.Am

namespace Go.Proofs.YtdlogfbbcbbllaaDoor
open Go Go.Am

/-- A text, cut at line feeds. -/
def splitB : List UInt8 → List (List UInt8)
  | [] => [[]]
  | b :: l => if b = 10 then [] :: splitB l else
    match splitB l with
    | [] => [[b]]
    | x :: xs => (b :: x) :: xs

theorem splitB_cons (b : UInt8) (l : List UInt8) : splitB (b :: l) = if b = 10 then [] :: splitB l else match splitB l with | [] => [[b]] | x :: xs => (b :: x) :: xs := rfl

theorem splitB_ne (l : List UInt8) : splitB l ≠ [] := by
  cases l with
  | nil => simp [splitB]
  | cons b l => unfold splitB; split; simp; split <;> simp

theorem splitB_index (l : List UInt8) : (Lib.indexByte l 10 = -1 ∧ splitB l = [l]) ∨ ∃ i : Nat, Lib.indexByte l 10 = i ∧ i < l.length ∧ splitB l = l.take i :: splitB (l.drop (i + 1)) := by
  induction l with
  | nil => exact .inl ⟨rfl, rfl⟩
  | cons b l ih =>
    unfold Lib.indexByte; rw [splitB_cons]
    by_cases hb : b = 10
    · subst hb
      exact .inr ⟨0, by simp, by simp, by simp⟩
    · have hb' : (b == 10) = false := by simpa using hb
      rcases ih with ⟨h1, h2⟩ | ⟨i, h1, h2, h3⟩
      · exact .inl ⟨by simp [hb', h1], by simp [hb, h2]⟩
      · refine .inr ⟨i + 1, ?_, by simpa using h2, by simp [hb, h3]⟩
        rw [h1]
        have : ((i : Int) == -1) = false := by rw [beq_eq_false_iff_ne]; omega
        simp [hb', this]

theorem splitSeqIt_A (B : Nat) (s : List UInt8) (hs : s.length ≤ 1000000000) {g : Nat → Nat} {ob : Obs} {g3 g4 g5 : Nat} (e3 : g (B + 3) = g3) (e4 : g (B + 4) = g4) (e5 : g (B + 5) = g5) (o3 : ob (B + 3) = some [.d (.str s)]) (o4 : ob (B + 4) = some [.d (.str [10])]) (o5 : ob (B + 5) = some [.d (.int .i64 0)]) :
    IterR Tryd.prog 40 [.one (.ptr (B + 4) g4 0), .one (.ptr (B + 3) g3 0), .one (.ptr (B + 5) g5 0)] (fun id => id = B + 3 ∨ id = B + 4 ∨ id = B + 5) (fun x => [sv x]) g ob (splitB s) := by
  refine iter_of_wp 0 Tt_ok Tryd.func40 rfl (by rfl) rfl (by kernel_rfl) (by kernel_rfl) (by simp [Tryd.ntmps40]) ?_
  intro b₀ Φ l J Jx hΦ hJ hJx hY h0
  simp (config := { maxSteps := 1000000 }) only [go_sem, ↓reduceIte, Nat.reduceEqDiff, Nat.reduceAdd, Nat.reduceMul, Nat.reduceSub, Nat.reduceLT, Nat.reduceLeDiff, Int.reduceLT, Int.reduceLE, Int.reduceEq, Int.reduceNe, Int.reduceAdd, Int.reduceNeg, Int.reduceToNat, o3, o4, o5, e3, e4, e5]
  refine loop_introF (fun n st => ∃ (t : List UInt8) (done : List (List UInt8)), t.length = n ∧ t.length ≤ 1000000000 ∧ splitB s = done ++ splitB t ∧ st.f 0 = .one (.d (.yld l)) ∧ st.f 1 = .one (.ptr (B + 4) g4 0) ∧ st.f 2 = .one (.ptr (B + 3) g3 0) ∧ st.f 3 = .one (.ptr (B + 5) g5 0) ∧
    st.gen (B + 3) = g3 ∧ st.gen (B + 4) = g4 ∧ st.gen (B + 5) = g5 ∧ st.obj (B + 3) = some [.d (.str t)] ∧ st.obj (B + 4) = some [.d (.str [10])] ∧ st.obj (B + 5) = some [.d (.int .i64 0)] ∧ J done.length st.gen st.obj) s.length ?_ ?_
  · refine ⟨s, [], rfl, hs, rfl, ?_⟩
    simp (config := { maxSteps := 1000000 }) only [go_sem, ↓reduceIte, Nat.reduceEqDiff, Nat.reduceAdd, Nat.reduceMul, Nat.reduceSub, Nat.reduceLT, Nat.reduceLeDiff, Int.reduceLT, Int.reduceLE, Int.reduceEq, Int.reduceNe, Int.reduceAdd, Int.reduceNeg, Int.reduceToNat, o3, o4, o5, e3, e4, e5]
    exact h0
  · clear o3 o4 o5 e3 e4 e5 h0
    rintro n f g ob ⟨t, done, rfl, htl, hsp, h0, h1, h2, h3, e3, e4, e5, o3, o4, o5, hJk⟩
    simp only at h0 h1 h2 h3 e3 e4 e5 o3 o4 o5 hJk
    simp (config := { maxSteps := 1000000 }) only [go_sem, ↓reduceIte, Nat.reduceEqDiff, Nat.reduceAdd, Nat.reduceMul, Nat.reduceSub, Nat.reduceLT, Nat.reduceLeDiff, Int.reduceLT, Int.reduceLE, Int.reduceEq, Int.reduceNe, Int.reduceAdd, Int.reduceNeg, Int.reduceToNat, h0, h1, h2, h3, e3, e4, e5, o3, o4, o5]
    refine hook_callF hΦ rfl (by simp (config := { maxSteps := 1000000 }) only [go_sem, ↓reduceIte, Nat.reduceEqDiff, Nat.reduceAdd, Nat.reduceMul, Nat.reduceSub, Nat.reduceLT, Nat.reduceLeDiff, Int.reduceLT, Int.reduceLE, Int.reduceEq, Int.reduceNe, Int.reduceAdd, Int.reduceNeg, Int.reduceToNat, o3, o4]; exact IndexStr_A t 10 (by omega)) (by simp (config := { maxSteps := 1000000 }) only [go_sem, ↓reduceIte, Nat.reduceEqDiff, Nat.reduceAdd, Nat.reduceMul, Nat.reduceSub, Nat.reduceLT, Nat.reduceLeDiff, Int.reduceLT, Int.reduceLE, Int.reduceEq, Int.reduceNe, Int.reduceAdd, Int.reduceNeg, Int.reduceToNat]; rfl) ?_
    rintro _ rfl
    rcases splitB_index t with ⟨hi, hs2⟩ | ⟨i, hi, hlt, hs2⟩
    · rw [hi]
      simp (config := { maxSteps := 1000000 }) only [go_sem, ↓reduceIte, Nat.reduceEqDiff, Nat.reduceAdd, Nat.reduceMul, Nat.reduceSub, Nat.reduceLT, Nat.reduceLeDiff, Int.reduceLT, Int.reduceLE, Int.reduceEq, Int.reduceNe, Int.reduceAdd, Int.reduceNeg, Int.reduceToNat, h0, h1, h2, h3, e3, e4, e5, o3, o4, o5]
      refine hook_yield rfl (l := l) (by simp (config := { maxSteps := 1000000 }) only [go_sem, ↓reduceIte, Nat.reduceEqDiff, Nat.reduceAdd, Nat.reduceMul, Nat.reduceSub, Nat.reduceLT, Nat.reduceLeDiff, Int.reduceLT, Int.reduceLE, Int.reduceEq, Int.reduceNe, Int.reduceAdd, Int.reduceNeg, Int.reduceToNat, h0]) hΦ (by
        simp (config := { maxSteps := 1000000 }) only [go_sem, ↓reduceIte, Nat.reduceEqDiff, Nat.reduceAdd, Nat.reduceMul, Nat.reduceSub, Nat.reduceLT, Nat.reduceLeDiff, Int.reduceLT, Int.reduceLE, Int.reduceEq, Int.reduceNe, Int.reduceAdd, Int.reduceNeg, Int.reduceToNat, h0, h1, h2, h3, e3, e4, e5, o3, o4, o5]
        exact hY done.length t g ob (by rw [hsp, hs2]; simp) hJk) ?_
      rintro r g' ob' ⟨hown, ⟨rfl, hJ'⟩ | ⟨rfl, hx'⟩⟩
      · refine ⟨_, SemVs.refl _, .inl ?_⟩
        rw [hsp, hs2, List.length_append]
        exact hJ'
      · exact ⟨_, SemVs.refl _, .inr hx'⟩
    · rw [hi]
      have hw1 : IntKind.i64.wrap ((i : Int) + 0) = (i : Int) := by rw [wrap_i64] <;> omega
      have hw2 : IntKind.i64.wrap ((i : Int) + 1) = ((i + 1 : Nat) : Int) := wrap_succ (by omega)
      have hneg : ¬ (i : Int) < 0 := by omega
      simp (config := { maxSteps := 1000000 }) only [go_sem, ↓reduceIte, Nat.reduceEqDiff, Nat.reduceAdd, Nat.reduceMul, Nat.reduceSub, Nat.reduceLT, Nat.reduceLeDiff, Int.reduceLT, Int.reduceLE, Int.reduceEq, Int.reduceNe, Int.reduceAdd, Int.reduceNeg, Int.reduceToNat, h0, h1, h2, h3, e3, e4, e5, o3, o4, o5, hw1, hw2, hneg]
      refine ⟨Nat.zero_le _, by omega, ?_⟩
      refine hook_yield rfl (l := l) (by simp (config := { maxSteps := 1000000 }) only [go_sem, ↓reduceIte, Nat.reduceEqDiff, Nat.reduceAdd, Nat.reduceMul, Nat.reduceSub, Nat.reduceLT, Nat.reduceLeDiff, Int.reduceLT, Int.reduceLE, Int.reduceEq, Int.reduceNe, Int.reduceAdd, Int.reduceNeg, Int.reduceToNat, h0]) hΦ (by
        simp (config := { maxSteps := 1000000 }) only [go_sem, ↓reduceIte, Nat.reduceEqDiff, Nat.reduceAdd, Nat.reduceMul, Nat.reduceSub, Nat.reduceLT, Nat.reduceLeDiff, Int.reduceLT, Int.reduceLE, Int.reduceEq, Int.reduceNe, Int.reduceAdd, Int.reduceNeg, Int.reduceToNat, h0, h1, h2, h3, e3, e4, e5, o3, o4, o5]
        exact hY done.length (t.take i) g ob (by rw [hsp, hs2]; simp) hJk) ?_
      rintro r g' ob' ⟨hown, hcase⟩
      obtain ⟨p3, q3⟩ := hown (B + 3) (.inl rfl)
      obtain ⟨p4, q4⟩ := hown (B + 4) (.inr (.inl rfl))
      obtain ⟨p5, q5⟩ := hown (B + 5) (.inr (.inr rfl))
      rw [e3] at p3; rw [e4] at p4; rw [e5] at p5; rw [o3] at q3; rw [o4] at q4; rw [o5] at q5
      rcases hcase with ⟨rfl, hJ'⟩ | ⟨rfl, hx'⟩
      · simp (config := { maxSteps := 1000000 }) only [go_sem, ↓reduceIte, Nat.reduceEqDiff, Nat.reduceAdd, Nat.reduceMul, Nat.reduceSub, Nat.reduceLT, Nat.reduceLeDiff, Int.reduceLT, Int.reduceLE, Int.reduceEq, Int.reduceNe, Int.reduceAdd, Int.reduceNeg, Int.reduceToNat, h0, h1, h2, h3, p3, p4, p5, q3, q4, q5, hw2]
        refine ⟨by omega, Nat.le_refl _, ?_⟩
        refine round_endF (t.drop (i + 1)).length (by simp; omega) ⟨t.drop (i + 1), done ++ [t.take i], rfl, by simp; omega, by rw [hsp, hs2]; simp, ?_⟩
        simp (config := { maxSteps := 1000000 }) only [go_sem, ↓reduceIte, Nat.reduceEqDiff, Nat.reduceAdd, Nat.reduceMul, Nat.reduceSub, Nat.reduceLT, Nat.reduceLeDiff, Int.reduceLT, Int.reduceLE, Int.reduceEq, Int.reduceNe, Int.reduceAdd, Int.reduceNeg, Int.reduceToNat, h0, h1, h2, h3, p3, p4, p5, q3, q4, q5]
        have := hJ _ _ _ _ (upd ob' (B + 3) (some [.d (.str (t.drop (i + 1)))])) hJ' (fun id hid => ⟨rfl, by simp only [upd]; rw [if_neg (fun h => hid (.inl h))]⟩)
        simpa using this
      · simp (config := { maxSteps := 1000000 }) only [go_sem, ↓reduceIte, Nat.reduceEqDiff, Nat.reduceAdd, Nat.reduceMul, Nat.reduceSub, Nat.reduceLT, Nat.reduceLeDiff, Int.reduceLT, Int.reduceLE, Int.reduceEq, Int.reduceNe, Int.reduceAdd, Int.reduceNeg, Int.reduceToNat]
        exact ⟨_, SemVs.refl _, .inr hx'⟩

/-- What SplitSeq hands back. -/
def SplitR (B : Nat) (s : List UInt8) (g : Nat → Nat) (ob : Obs) (r : AV) (g' : Nat → Nat) (ob' : Obs) : Prop :=
  r = .one (.clo 40 [.ptr (B + 4) (g' (B + 4)) 0, .ptr (B + 3) (g' (B + 3)) 0, .ptr (B + 5) (g' (B + 5)) 0]) ∧ ob' (B + 3) = some [.d (.str s)] ∧ ob' (B + 4) = some [.d (.str [10])] ∧ ob' (B + 5) = some [.d (.int .i64 0)] ∧
    ∀ i, i ≠ B + 3 → i ≠ B + 4 → i ≠ B + 5 → g' i = g i ∧ ob' i = ob i

theorem splitSeq_A (B : Nat) (s : List UInt8) (g : Nat → Nat) (ob : Obs) : FunR Tryd.prog 31 [sv s, sv [10], iv .i64 0] g ob (SplitR B s g ob) := by
  refine fun_of_wp B Tt_ok mixed Tryd.func31 rfl (by rfl) [6] rfl (by kernel_rfl) (by simp [Tryd.ntmps31]) ?_
  simp (config := { maxSteps := 1000000 }) only [go_sem, ↓reduceIte, Nat.reduceEqDiff, Nat.reduceAdd, Nat.reduceMul, Nat.reduceSub, Nat.reduceLT, Nat.reduceLeDiff, Int.reduceLT, Int.reduceLE, Int.reduceEq, Int.reduceNe, Int.reduceAdd, Int.reduceNeg, Int.reduceToNat, makeFuncA, pcsOf, pcOf]
  refine ⟨_, SemVs.refl _, ?_, ?_, ?_, ?_, fun i h3 h4 h5 => ?_⟩
  · simp only [resAV, upd]; simp
  · simp [upd]
  · simp [upd]
  · simp [upd]
  · simp [upd, h3, h4, h5]

theorem SplitSeq_A (B : Nat) (s : List UInt8) (g : Nat → Nat) (ob : Obs) : FunR Tryd.prog 21 [sv s, sv [10]] g ob (SplitR B s g ob) := by
  refine fun_of_wp B Tt_ok mixed Tryd.func21 rfl (by rfl) [4] rfl (by kernel_rfl) (by simp [Tryd.ntmps21]) ?_
  simp (config := { maxSteps := 1000000 }) only [go_sem, ↓reduceIte, Nat.reduceEqDiff, Nat.reduceAdd, Nat.reduceMul, Nat.reduceSub, Nat.reduceLT, Nat.reduceLeDiff, Int.reduceLT, Int.reduceLE, Int.reduceEq, Int.reduceNe, Int.reduceAdd, Int.reduceNeg, Int.reduceToNat]
  refine hook_fun rfl (by simp (config := { maxSteps := 1000000 }) only [go_sem, ↓reduceIte, Nat.reduceEqDiff, Nat.reduceAdd, Nat.reduceMul, Nat.reduceSub, Nat.reduceLT, Nat.reduceLeDiff, Int.reduceLT, Int.reduceLE, Int.reduceEq, Int.reduceNe, Int.reduceAdd, Int.reduceNeg, Int.reduceToNat]; exact splitSeq_A B s g ob) ?_
  rintro r g' ob' ⟨rfl, h⟩
  simp (config := { maxSteps := 1000000 }) only [go_sem, ↓reduceIte, Nat.reduceEqDiff, Nat.reduceAdd, Nat.reduceMul, Nat.reduceSub, Nat.reduceLT, Nat.reduceLeDiff, Int.reduceLT, Int.reduceLE, Int.reduceEq, Int.reduceNe, Int.reduceAdd, Int.reduceNeg, Int.reduceToNat]
  exact ⟨_, SemVs.refl _, by simp only [resAV, upd]; rfl, h⟩

end Go.Proofs.YtdlogfbbcbbllaaDoor

namespace Go.Proofs.YtdlogfbbcbbllaaDoor
open Go Go.Am

def trimS (s : List UInt8) : List UInt8 := s.dropWhile (· == 32)
/-- May this stand behind a word? -/
def overS : List UInt8 → Bool
  | [] => true
  | c :: _ => c == 32 || c == 35
/-- A part: its text; is it bare; is it bad. -/
abbrev Part := List UInt8 × Bool × Bool
/-- The first word of what begins with one; is it bare, is it bad, and how long it is. -/
def cutP : List UInt8 → Part × Nat
  | [] => (([], true, true), 0)
  | c :: r => if c = 34 then (match unq r with | none => (([], false, true), 0) | some p => ((p.1, false, false), p.2 + 1)) else (((c :: r).take (bareN (c :: r)), true, decide (bareN (c :: r) = 0)), bareN (c :: r))
/-- The parts that come up. -/
def partsF : Nat → List UInt8 → List Part
  | 0, _ => []
  | n + 1, s =>
    match trimS s with
    | [] => []
    | c :: r =>
      if c = 35 then [] else
      let p := cutP (c :: r)
      let rest := (c :: r).drop p.2
      if p.1.2.2 = true ∨ overS rest = false then [(p.1.1, p.1.2.1, true)] else p.1 :: partsF n rest

theorem trimS_le (s : List UInt8) : (trimS s).length ≤ s.length := (List.dropWhile_suffix _).length_le

def partE (x : Part) : List AV := [partV x.1 x.2.1 x.2.2]

theorem unq_len : ∀ (n : Nat) {s : List UInt8}, s.length ≤ n → ∀ {p}, unq s = some p → p.2 ≤ s.length ∧ 0 < p.2
  | 0, s, hn, p, h => by
    have : s = [] := List.eq_nil_of_length_eq_zero (by omega)
    subst this; simp [unq] at h
  | n + 1, [], _, p, h => by simp [unq] at h
  | n + 1, c :: r, hn, p, h => by
    simp only [List.length_cons] at hn ⊢
    unfold unq at h
    split at h
    · cases h; simp
    · split at h
      · split at h
        · cases h
        · simp only [List.length_cons] at hn ⊢
          split at h
          · obtain ⟨q, hq, rfl⟩ := Option.map_eq_some_iff.1 h
            have := unq_len n (by omega) hq; simp only; omega
          · split at h
            · obtain ⟨q, hq, rfl⟩ := Option.map_eq_some_iff.1 h
              have := unq_len n (by omega) hq; simp only; omega
            · cases h
      · obtain ⟨q, hq, rfl⟩ := Option.map_eq_some_iff.1 h
        have := unq_len n (by omega) hq; simp only; omega

theorem n32 : ((UInt8.toNat 32 : Nat) : Int) = 32 := rfl
theorem n35 : ((UInt8.toNat 35 : Nat) : Int) = 35 := rfl

set_option maxHeartbeats 4000000 in
theorem partsIt_A (sid : Nat) (hsid : sid ≠ 204) (s : List UInt8) (hs : s.length ≤ 1000000) {g : Nat → Nat} {ob : Obs} {gs : Nat} (es : g sid = gs) (os : ob sid = some [.d (.str s)]) :
    IterR Tryd.prog 43 [.one (.ptr sid gs 0)] (fun id => id = sid ∨ id = 204) partE g ob (partsF (s.length + 1) s) := by
  have hsid' : ¬ 204 = sid := fun h => hsid h.symm
  refine iter_of_wp 200 Tt_ok Tryd.func43 rfl (by rfl) rfl (by kernel_rfl) (by kernel_rfl) (by simp [Tryd.ntmps43]) ?_
  intro b₀ Φ l J Jx hΦ hJ hJx hY h0
  simp (config := { maxSteps := 1000000 }) only [go_sem, ↓reduceIte, Nat.reduceEqDiff, Nat.reduceAdd, Nat.reduceMul, Nat.reduceSub, Nat.reduceLT, Nat.reduceLeDiff, Int.reduceLT, Int.reduceLE, Int.reduceEq, Int.reduceNe, Int.reduceAdd, Int.reduceNeg, Int.reduceToNat]
  refine loop_introF (fun n st => ∃ (t : List UInt8) (done : List Part) (fuel : Nat), t.length = n ∧ t.length < fuel ∧ t.length ≤ 1000000 ∧ partsF (s.length + 1) s = done ++ partsF fuel t ∧ st.f 0 = .one (.d (.yld l)) ∧ st.f 1 = .one (.ptr sid gs 0) ∧
    st.gen sid = gs ∧ st.obj sid = some [.d (.str t)] ∧ J done.length st.gen st.obj) s.length ⟨s, [], s.length + 1, rfl, by omega, hs, rfl, rfl, rfl, es, os, h0⟩ ?_
  clear es os h0
  rintro n f g ob ⟨t, done, fuel, rfl, hfuel, htl, hsp, h0, h1, es, os, hJk⟩
  simp only at h0 h1 es os hJk
  obtain ⟨fuel, rfl⟩ : ∃ m, fuel = m + 1 := ⟨fuel - 1, by omega⟩
  simp (config := { maxSteps := 1000000 }) only [go_sem, ↓reduceIte, Nat.reduceEqDiff, Nat.reduceAdd, Nat.reduceMul, Nat.reduceSub, Nat.reduceLT, Nat.reduceLeDiff, Int.reduceLT, Int.reduceLE, Int.reduceEq, Int.reduceNe, Int.reduceAdd, Int.reduceNeg, Int.reduceToNat, h0, h1, es, os]
  refine hook_callF hΦ rfl (by simp (config := { maxSteps := 1000000 }) only [go_sem, ↓reduceIte, Nat.reduceEqDiff, Nat.reduceAdd, Nat.reduceMul, Nat.reduceSub, Nat.reduceLT, Nat.reduceLeDiff, Int.reduceLT, Int.reduceLE, Int.reduceEq, Int.reduceNe, Int.reduceAdd, Int.reduceNeg, Int.reduceToNat]; exact TrimLeft_A t) (by simp (config := { maxSteps := 1000000 }) only [go_sem, ↓reduceIte, Nat.reduceEqDiff, Nat.reduceAdd, Nat.reduceMul, Nat.reduceSub, Nat.reduceLT, Nat.reduceLeDiff, Int.reduceLT, Int.reduceLE, Int.reduceEq, Int.reduceNe, Int.reduceAdd, Int.reduceNeg, Int.reduceToNat]; rfl) ?_
  rintro _ rfl
  have htr := trimS_le t
  rw [show (t.dropWhile fun x => x == 32) = trimS t from rfl]
  rcases htt : trimS t with _ | ⟨c, r⟩
  · simp (config := { maxSteps := 1000000 }) only [go_sem, ↓reduceIte, Nat.reduceEqDiff, Nat.reduceAdd, Nat.reduceMul, Nat.reduceSub, Nat.reduceLT, Nat.reduceLeDiff, Int.reduceLT, Int.reduceLE, Int.reduceEq, Int.reduceNe, Int.reduceAdd, Int.reduceNeg, Int.reduceToNat, h0, h1, es, os]
    have hend : partsF (s.length + 1) s = done := by rw [hsp]; simp [partsF, htt]
    refine ⟨_, SemVs.refl _, .inl ?_⟩
    rw [hend]
    exact hJ _ _ _ _ _ hJk (fun id hid => ⟨rfl, by simp only [upd]; rw [if_neg (fun h => hid (.inl h))]⟩)
  · rw [htt] at htr
    simp (config := { maxSteps := 1000000 }) only [go_sem, ↓reduceIte, Nat.reduceEqDiff, Nat.reduceAdd, Nat.reduceMul, Nat.reduceSub, Nat.reduceLT, Nat.reduceLeDiff, Int.reduceLT, Int.reduceLE, Int.reduceEq, Int.reduceNe, Int.reduceAdd, Int.reduceNeg, Int.reduceToNat, h0, h1, es, os]
    refine ⟨fun h35 => ?_, fun h35 => ?_⟩
    · have hc : c = 35 := u8_eq (d := 35) h35
      have hend : partsF (s.length + 1) s = done := by rw [hsp]; simp [partsF, htt, hc]
      refine ⟨_, SemVs.refl _, .inl ?_⟩
      rw [hend]
      exact hJ _ _ _ _ _ hJk (fun id hid => ⟨rfl, by simp only [upd]; rw [if_neg (fun h => hid (.inl h))]⟩)
    · have hc35 : c ≠ 35 := fun e => h35 (by rw [e]; rfl)
      have hlen : r.length + 1 ≤ t.length := by simpa using htr
      have hstep : ∀ (tt : List UInt8) (bb bad0 : Bool) (k : Nat), (cutP (c :: r)).1 = (tt, bb, bad0) → (bad0 = false → (cutP (c :: r)).2 = k) →
          partsF (s.length + 1) s = done ++ (if bad0 = true ∨ overS ((c :: r).drop k) = false then [(tt, bb, true)] else (tt, bb, false) :: partsF fuel ((c :: r).drop k)) := by
        intro tt bb bad0 k e1 e2
        rw [hsp]
        congr 1
        simp only [partsF, htt]
        rw [if_neg hc35, e1]
        cases bad0
        · rw [e2 rfl]
        · simp
      refine ⟨fun h34 => ?_, fun h34 => ?_⟩
      · have hc34 : c = 34 := u8_eq (d := 34) h34
        refine hook_fnvF hΦ (f := 46) rfl (by simp (config := { maxSteps := 1000000 }) only [go_sem, ↓reduceIte, Nat.reduceEqDiff, Nat.reduceAdd, Nat.reduceMul, Nat.reduceSub, Nat.reduceLT, Nat.reduceLeDiff, Int.reduceLT, Int.reduceLE, Int.reduceEq, Int.reduceNe, Int.reduceAdd, Int.reduceNeg, Int.reduceToNat]) (by simp (config := { maxSteps := 1000000 }) only [go_sem, ↓reduceIte, Nat.reduceEqDiff, Nat.reduceAdd, Nat.reduceMul, Nat.reduceSub, Nat.reduceLT, Nat.reduceLeDiff, Int.reduceLT, Int.reduceLE, Int.reduceEq, Int.reduceNe, Int.reduceAdd, Int.reduceNeg, Int.reduceToNat]; exact cutQuoted_A (c :: r) (by simp; omega) (by simp)) (by simp (config := { maxSteps := 1000000 }) only [go_sem, ↓reduceIte, Nat.reduceEqDiff, Nat.reduceAdd, Nat.reduceMul, Nat.reduceSub, Nat.reduceLT, Nat.reduceLeDiff, Int.reduceLT, Int.reduceLE, Int.reduceEq, Int.reduceNe, Int.reduceAdd, Int.reduceNeg, Int.reduceToNat]; rfl) ?_
        rintro _ ⟨tt, bad0, k, rfl, hk, hm⟩
        have hx : partsF (s.length + 1) s = done ++ (if bad0 = true ∨ overS ((c :: r).drop k) = false then [(tt, false, true)] else (tt, false, false) :: partsF fuel ((c :: r).drop k)) := by
          refine hstep tt false bad0 k ?_ ?_
          · simp only [List.drop_succ_cons, List.drop_zero] at hm
            simp only [cutP, hc34, if_true]
            cases hu : unq r with
            | none => rw [hu] at hm; simp [hm]
            | some p => rw [hu] at hm; simp [hm]
          · intro hb
            simp only [List.drop_succ_cons, List.drop_zero] at hm
            simp only [cutP, hc34, if_true]
            cases hu : unq r with
            | none => rw [hu] at hm; rw [hb] at hm; simp at hm
            | some p => rw [hu] at hm; simp [hm]
        have hpos : bad0 = false → 0 < k := fun hb => by
          simp only [List.drop_succ_cons, List.drop_zero] at hm
          cases hu : unq r with
          | none => rw [hu] at hm; rw [hb] at hm; simp at hm
          | some p => rw [hu] at hm; simp only at hm; omega
        clear hm hstep
        have hk' : k ≤ r.length + 1 := hk
        rcases hrest : List.drop k (c :: r) with _ | ⟨d, rest⟩
        · rw [hrest] at hx
          cases bad0
          · rw [if_neg (by simp [overS])] at hx
            simp (config := { maxSteps := 1000000 }) only [go_sem, ↓reduceIte, Nat.reduceEqDiff, Nat.reduceAdd, Nat.reduceMul, Nat.reduceSub, Nat.reduceLT, Nat.reduceLeDiff, Int.reduceLT, Int.reduceLE, Int.reduceEq, Int.reduceNe, Int.reduceAdd, Int.reduceNeg, Int.reduceToNat, h0, h1, es, os, partV, hsid, hsid', hrest]
            refine ⟨hk', Nat.le_refl _, ?_⟩
            refine hook_yield rfl (l := l) (by simp (config := { maxSteps := 1000000 }) only [go_sem, ↓reduceIte, Nat.reduceEqDiff, Nat.reduceAdd, Nat.reduceMul, Nat.reduceSub, Nat.reduceLT, Nat.reduceLeDiff, Int.reduceLT, Int.reduceLE, Int.reduceEq, Int.reduceNe, Int.reduceAdd, Int.reduceNeg, Int.reduceToNat, h0]) hΦ (by
              simp (config := { maxSteps := 1000000 }) only [go_sem, ↓reduceIte, Nat.reduceEqDiff, Nat.reduceAdd, Nat.reduceMul, Nat.reduceSub, Nat.reduceLT, Nat.reduceLeDiff, Int.reduceLT, Int.reduceLE, Int.reduceEq, Int.reduceNe, Int.reduceAdd, Int.reduceNeg, Int.reduceToNat, h0, h1, hsid, hsid']
              refine hY done.length (tt, false, false) _ _ (by rw [hx]; simp) (hJ _ _ _ _ _ hJk (fun id hid => ?_))
              exact ⟨by simp only [upd]; rw [if_neg (fun h => hid (.inr h))], by simp only [upd]; simp only [if_neg (fun h => hid (.inr h) : ¬ id = 204), if_neg (fun h => hid (.inl h) : ¬ id = sid)]⟩) ?_
            rintro r' g' ob' ⟨hown, hcase⟩
            obtain ⟨p3, q3⟩ := hown sid (.inl rfl)
            obtain ⟨p4, q4⟩ := hown 204 (.inr rfl)
            simp only [upd, hsid, hsid', if_false, if_true, es] at p3 q3 p4 q4
            rcases hcase with ⟨rfl, hJ'⟩ | ⟨rfl, hx'⟩
            · simp (config := { maxSteps := 1000000 }) only [go_sem, ↓reduceIte, Nat.reduceEqDiff, Nat.reduceAdd, Nat.reduceMul, Nat.reduceSub, Nat.reduceLT, Nat.reduceLeDiff, Int.reduceLT, Int.reduceLE, Int.reduceEq, Int.reduceNe, Int.reduceAdd, Int.reduceNeg, Int.reduceToNat, h0, h1, p3, q3, p4, q4]
              refine round_endF (([] : List UInt8)).length (by simp <;> omega) ⟨([] : List UInt8), done ++ [(tt, false, false)], fuel, rfl, by simp <;> omega, by simp <;> omega, by rw [hx]; simp, ?_⟩
              simp (config := { maxSteps := 1000000 }) only [go_sem, ↓reduceIte, Nat.reduceEqDiff, Nat.reduceAdd, Nat.reduceMul, Nat.reduceSub, Nat.reduceLT, Nat.reduceLeDiff, Int.reduceLT, Int.reduceLE, Int.reduceEq, Int.reduceNe, Int.reduceAdd, Int.reduceNeg, Int.reduceToNat, h0, h1, p3, q3]
              simpa using hJ'
            · simp (config := { maxSteps := 1000000 }) only [go_sem, ↓reduceIte, Nat.reduceEqDiff, Nat.reduceAdd, Nat.reduceMul, Nat.reduceSub, Nat.reduceLT, Nat.reduceLeDiff, Int.reduceLT, Int.reduceLE, Int.reduceEq, Int.reduceNe, Int.reduceAdd, Int.reduceNeg, Int.reduceToNat]
              exact ⟨_, SemVs.refl _, .inr hx'⟩
          · rw [if_pos (.inl rfl)] at hx
            simp (config := { maxSteps := 1000000 }) only [go_sem, ↓reduceIte, Nat.reduceEqDiff, Nat.reduceAdd, Nat.reduceMul, Nat.reduceSub, Nat.reduceLT, Nat.reduceLeDiff, Int.reduceLT, Int.reduceLE, Int.reduceEq, Int.reduceNe, Int.reduceAdd, Int.reduceNeg, Int.reduceToNat, h0, h1, es, os, partV, hsid, hsid', hrest]
            refine ⟨hk', Nat.le_refl _, ?_⟩
            refine hook_yield rfl (l := l) (by simp (config := { maxSteps := 1000000 }) only [go_sem, ↓reduceIte, Nat.reduceEqDiff, Nat.reduceAdd, Nat.reduceMul, Nat.reduceSub, Nat.reduceLT, Nat.reduceLeDiff, Int.reduceLT, Int.reduceLE, Int.reduceEq, Int.reduceNe, Int.reduceAdd, Int.reduceNeg, Int.reduceToNat, h0]) hΦ (by
              simp (config := { maxSteps := 1000000 }) only [go_sem, ↓reduceIte, Nat.reduceEqDiff, Nat.reduceAdd, Nat.reduceMul, Nat.reduceSub, Nat.reduceLT, Nat.reduceLeDiff, Int.reduceLT, Int.reduceLE, Int.reduceEq, Int.reduceNe, Int.reduceAdd, Int.reduceNeg, Int.reduceToNat, h0, h1, hsid, hsid']
              refine hY done.length (tt, false, true) _ _ (by rw [hx]; simp) (hJ _ _ _ _ _ hJk (fun id hid => ?_))
              exact ⟨by simp only [upd]; rw [if_neg (fun h => hid (.inr h))], by simp only [upd]; simp only [if_neg (fun h => hid (.inr h) : ¬ id = 204), if_neg (fun h => hid (.inl h) : ¬ id = sid)]⟩) ?_
            rintro r' g' ob' ⟨hown, hcase⟩
            obtain ⟨p3, q3⟩ := hown sid (.inl rfl)
            obtain ⟨p4, q4⟩ := hown 204 (.inr rfl)
            simp only [upd, hsid, hsid', if_false, if_true, es] at p3 q3 p4 q4
            rcases hcase with ⟨rfl, hJ'⟩ | ⟨rfl, hx'⟩
            · simp (config := { maxSteps := 1000000 }) only [go_sem, ↓reduceIte, Nat.reduceEqDiff, Nat.reduceAdd, Nat.reduceMul, Nat.reduceSub, Nat.reduceLT, Nat.reduceLeDiff, Int.reduceLT, Int.reduceLE, Int.reduceEq, Int.reduceNe, Int.reduceAdd, Int.reduceNeg, Int.reduceToNat, h0, h1, p3, q3, p4, q4]
              refine ⟨_, SemVs.refl _, .inl ?_⟩
              rw [hx, List.length_append]
              exact hJ'
            · simp (config := { maxSteps := 1000000 }) only [go_sem, ↓reduceIte, Nat.reduceEqDiff, Nat.reduceAdd, Nat.reduceMul, Nat.reduceSub, Nat.reduceLT, Nat.reduceLeDiff, Int.reduceLT, Int.reduceLE, Int.reduceEq, Int.reduceNe, Int.reduceAdd, Int.reduceNeg, Int.reduceToNat]
              exact ⟨_, SemVs.refl _, .inr hx'⟩
        · rw [hrest] at hx
          have hrl : rest.length + 1 + k = r.length + 1 := by
            have := congrArg List.length hrest
            simp only [List.length_drop, List.length_cons] at this
            omega
          by_cases hov : d = 32 ∨ d = 35
          · have hno : overS (d :: rest) = true := by rcases hov with h | h <;> simp [overS, h]
            have hd : (32 : Int) ≠ 35 := by decide
            cases bad0
            · rw [if_neg (by simp [hno])] at hx
              have hkp := hpos rfl
              rcases hov with rfl | rfl
              · simp (config := { maxSteps := 1000000 }) only [go_sem, ↓reduceIte, Nat.reduceEqDiff, Nat.reduceAdd, Nat.reduceMul, Nat.reduceSub, Nat.reduceLT, Nat.reduceLeDiff, Int.reduceLT, Int.reduceLE, Int.reduceEq, Int.reduceNe, Int.reduceAdd, Int.reduceNeg, Int.reduceToNat, h0, h1, es, os, partV, hsid, hsid', hrest, n32, n35]
                refine ⟨hk', Nat.le_refl _, ?_⟩
                refine hook_yield rfl (l := l) (by simp (config := { maxSteps := 1000000 }) only [go_sem, ↓reduceIte, Nat.reduceEqDiff, Nat.reduceAdd, Nat.reduceMul, Nat.reduceSub, Nat.reduceLT, Nat.reduceLeDiff, Int.reduceLT, Int.reduceLE, Int.reduceEq, Int.reduceNe, Int.reduceAdd, Int.reduceNeg, Int.reduceToNat, h0]) hΦ (by
                  simp (config := { maxSteps := 1000000 }) only [go_sem, ↓reduceIte, Nat.reduceEqDiff, Nat.reduceAdd, Nat.reduceMul, Nat.reduceSub, Nat.reduceLT, Nat.reduceLeDiff, Int.reduceLT, Int.reduceLE, Int.reduceEq, Int.reduceNe, Int.reduceAdd, Int.reduceNeg, Int.reduceToNat, h0, h1, hsid, hsid']
                  refine hY done.length (tt, false, false) _ _ (by rw [hx]; simp) (hJ _ _ _ _ _ hJk (fun id hid => ?_))
                  exact ⟨by simp only [upd]; rw [if_neg (fun h => hid (.inr h))], by simp only [upd]; simp only [if_neg (fun h => hid (.inr h) : ¬ id = 204), if_neg (fun h => hid (.inl h) : ¬ id = sid)]⟩) ?_
                rintro r' g' ob' ⟨hown, hcase⟩
                obtain ⟨p3, q3⟩ := hown sid (.inl rfl)
                obtain ⟨p4, q4⟩ := hown 204 (.inr rfl)
                simp only [upd, hsid, hsid', if_false, if_true, es] at p3 q3 p4 q4
                rcases hcase with ⟨rfl, hJ'⟩ | ⟨rfl, hx'⟩
                · simp (config := { maxSteps := 1000000 }) only [go_sem, ↓reduceIte, Nat.reduceEqDiff, Nat.reduceAdd, Nat.reduceMul, Nat.reduceSub, Nat.reduceLT, Nat.reduceLeDiff, Int.reduceLT, Int.reduceLE, Int.reduceEq, Int.reduceNe, Int.reduceAdd, Int.reduceNeg, Int.reduceToNat, h0, h1, p3, q3, p4, q4]
                  refine round_endF (32 :: rest).length (by simp <;> omega) ⟨32 :: rest, done ++ [(tt, false, false)], fuel, rfl, by simp <;> omega, by simp <;> omega, by rw [hx]; simp, ?_⟩
                  simp (config := { maxSteps := 1000000 }) only [go_sem, ↓reduceIte, Nat.reduceEqDiff, Nat.reduceAdd, Nat.reduceMul, Nat.reduceSub, Nat.reduceLT, Nat.reduceLeDiff, Int.reduceLT, Int.reduceLE, Int.reduceEq, Int.reduceNe, Int.reduceAdd, Int.reduceNeg, Int.reduceToNat, h0, h1, p3, q3]
                  simpa using hJ'
                · simp (config := { maxSteps := 1000000 }) only [go_sem, ↓reduceIte, Nat.reduceEqDiff, Nat.reduceAdd, Nat.reduceMul, Nat.reduceSub, Nat.reduceLT, Nat.reduceLeDiff, Int.reduceLT, Int.reduceLE, Int.reduceEq, Int.reduceNe, Int.reduceAdd, Int.reduceNeg, Int.reduceToNat]
                  exact ⟨_, SemVs.refl _, .inr hx'⟩
              · simp (config := { maxSteps := 1000000 }) only [go_sem, ↓reduceIte, Nat.reduceEqDiff, Nat.reduceAdd, Nat.reduceMul, Nat.reduceSub, Nat.reduceLT, Nat.reduceLeDiff, Int.reduceLT, Int.reduceLE, Int.reduceEq, Int.reduceNe, Int.reduceAdd, Int.reduceNeg, Int.reduceToNat, h0, h1, es, os, partV, hsid, hsid', hrest, n32, n35]
                refine ⟨hk', Nat.le_refl _, ?_⟩
                refine hook_yield rfl (l := l) (by simp (config := { maxSteps := 1000000 }) only [go_sem, ↓reduceIte, Nat.reduceEqDiff, Nat.reduceAdd, Nat.reduceMul, Nat.reduceSub, Nat.reduceLT, Nat.reduceLeDiff, Int.reduceLT, Int.reduceLE, Int.reduceEq, Int.reduceNe, Int.reduceAdd, Int.reduceNeg, Int.reduceToNat, h0]) hΦ (by
                  simp (config := { maxSteps := 1000000 }) only [go_sem, ↓reduceIte, Nat.reduceEqDiff, Nat.reduceAdd, Nat.reduceMul, Nat.reduceSub, Nat.reduceLT, Nat.reduceLeDiff, Int.reduceLT, Int.reduceLE, Int.reduceEq, Int.reduceNe, Int.reduceAdd, Int.reduceNeg, Int.reduceToNat, h0, h1, hsid, hsid']
                  refine hY done.length (tt, false, false) _ _ (by rw [hx]; simp) (hJ _ _ _ _ _ hJk (fun id hid => ?_))
                  exact ⟨by simp only [upd]; rw [if_neg (fun h => hid (.inr h))], by simp only [upd]; simp only [if_neg (fun h => hid (.inr h) : ¬ id = 204), if_neg (fun h => hid (.inl h) : ¬ id = sid)]⟩) ?_
                rintro r' g' ob' ⟨hown, hcase⟩
                obtain ⟨p3, q3⟩ := hown sid (.inl rfl)
                obtain ⟨p4, q4⟩ := hown 204 (.inr rfl)
                simp only [upd, hsid, hsid', if_false, if_true, es] at p3 q3 p4 q4
                rcases hcase with ⟨rfl, hJ'⟩ | ⟨rfl, hx'⟩
                · simp (config := { maxSteps := 1000000 }) only [go_sem, ↓reduceIte, Nat.reduceEqDiff, Nat.reduceAdd, Nat.reduceMul, Nat.reduceSub, Nat.reduceLT, Nat.reduceLeDiff, Int.reduceLT, Int.reduceLE, Int.reduceEq, Int.reduceNe, Int.reduceAdd, Int.reduceNeg, Int.reduceToNat, h0, h1, p3, q3, p4, q4]
                  refine round_endF (35 :: rest).length (by simp <;> omega) ⟨35 :: rest, done ++ [(tt, false, false)], fuel, rfl, by simp <;> omega, by simp <;> omega, by rw [hx]; simp, ?_⟩
                  simp (config := { maxSteps := 1000000 }) only [go_sem, ↓reduceIte, Nat.reduceEqDiff, Nat.reduceAdd, Nat.reduceMul, Nat.reduceSub, Nat.reduceLT, Nat.reduceLeDiff, Int.reduceLT, Int.reduceLE, Int.reduceEq, Int.reduceNe, Int.reduceAdd, Int.reduceNeg, Int.reduceToNat, h0, h1, p3, q3]
                  simpa using hJ'
                · simp (config := { maxSteps := 1000000 }) only [go_sem, ↓reduceIte, Nat.reduceEqDiff, Nat.reduceAdd, Nat.reduceMul, Nat.reduceSub, Nat.reduceLT, Nat.reduceLeDiff, Int.reduceLT, Int.reduceLE, Int.reduceEq, Int.reduceNe, Int.reduceAdd, Int.reduceNeg, Int.reduceToNat]
                  exact ⟨_, SemVs.refl _, .inr hx'⟩
            · rw [if_pos (.inl rfl)] at hx
              rcases hov with rfl | rfl
              · simp (config := { maxSteps := 1000000 }) only [go_sem, ↓reduceIte, Nat.reduceEqDiff, Nat.reduceAdd, Nat.reduceMul, Nat.reduceSub, Nat.reduceLT, Nat.reduceLeDiff, Int.reduceLT, Int.reduceLE, Int.reduceEq, Int.reduceNe, Int.reduceAdd, Int.reduceNeg, Int.reduceToNat, h0, h1, es, os, partV, hsid, hsid', hrest, n32, n35]
                refine ⟨hk', Nat.le_refl _, ?_⟩
                refine hook_yield rfl (l := l) (by simp (config := { maxSteps := 1000000 }) only [go_sem, ↓reduceIte, Nat.reduceEqDiff, Nat.reduceAdd, Nat.reduceMul, Nat.reduceSub, Nat.reduceLT, Nat.reduceLeDiff, Int.reduceLT, Int.reduceLE, Int.reduceEq, Int.reduceNe, Int.reduceAdd, Int.reduceNeg, Int.reduceToNat, h0]) hΦ (by
                  simp (config := { maxSteps := 1000000 }) only [go_sem, ↓reduceIte, Nat.reduceEqDiff, Nat.reduceAdd, Nat.reduceMul, Nat.reduceSub, Nat.reduceLT, Nat.reduceLeDiff, Int.reduceLT, Int.reduceLE, Int.reduceEq, Int.reduceNe, Int.reduceAdd, Int.reduceNeg, Int.reduceToNat, h0, h1, hsid, hsid']
                  refine hY done.length (tt, false, true) _ _ (by rw [hx]; simp) (hJ _ _ _ _ _ hJk (fun id hid => ?_))
                  exact ⟨by simp only [upd]; rw [if_neg (fun h => hid (.inr h))], by simp only [upd]; simp only [if_neg (fun h => hid (.inr h) : ¬ id = 204), if_neg (fun h => hid (.inl h) : ¬ id = sid)]⟩) ?_
                rintro r' g' ob' ⟨hown, hcase⟩
                obtain ⟨p3, q3⟩ := hown sid (.inl rfl)
                obtain ⟨p4, q4⟩ := hown 204 (.inr rfl)
                simp only [upd, hsid, hsid', if_false, if_true, es] at p3 q3 p4 q4
                rcases hcase with ⟨rfl, hJ'⟩ | ⟨rfl, hx'⟩
                · simp (config := { maxSteps := 1000000 }) only [go_sem, ↓reduceIte, Nat.reduceEqDiff, Nat.reduceAdd, Nat.reduceMul, Nat.reduceSub, Nat.reduceLT, Nat.reduceLeDiff, Int.reduceLT, Int.reduceLE, Int.reduceEq, Int.reduceNe, Int.reduceAdd, Int.reduceNeg, Int.reduceToNat, h0, h1, p3, q3, p4, q4]
                  refine ⟨_, SemVs.refl _, .inl ?_⟩
                  rw [hx, List.length_append]
                  exact hJ'
                · simp (config := { maxSteps := 1000000 }) only [go_sem, ↓reduceIte, Nat.reduceEqDiff, Nat.reduceAdd, Nat.reduceMul, Nat.reduceSub, Nat.reduceLT, Nat.reduceLeDiff, Int.reduceLT, Int.reduceLE, Int.reduceEq, Int.reduceNe, Int.reduceAdd, Int.reduceNeg, Int.reduceToNat]
                  exact ⟨_, SemVs.refl _, .inr hx'⟩
              · simp (config := { maxSteps := 1000000 }) only [go_sem, ↓reduceIte, Nat.reduceEqDiff, Nat.reduceAdd, Nat.reduceMul, Nat.reduceSub, Nat.reduceLT, Nat.reduceLeDiff, Int.reduceLT, Int.reduceLE, Int.reduceEq, Int.reduceNe, Int.reduceAdd, Int.reduceNeg, Int.reduceToNat, h0, h1, es, os, partV, hsid, hsid', hrest, n32, n35]
                refine ⟨hk', Nat.le_refl _, ?_⟩
                refine hook_yield rfl (l := l) (by simp (config := { maxSteps := 1000000 }) only [go_sem, ↓reduceIte, Nat.reduceEqDiff, Nat.reduceAdd, Nat.reduceMul, Nat.reduceSub, Nat.reduceLT, Nat.reduceLeDiff, Int.reduceLT, Int.reduceLE, Int.reduceEq, Int.reduceNe, Int.reduceAdd, Int.reduceNeg, Int.reduceToNat, h0]) hΦ (by
                  simp (config := { maxSteps := 1000000 }) only [go_sem, ↓reduceIte, Nat.reduceEqDiff, Nat.reduceAdd, Nat.reduceMul, Nat.reduceSub, Nat.reduceLT, Nat.reduceLeDiff, Int.reduceLT, Int.reduceLE, Int.reduceEq, Int.reduceNe, Int.reduceAdd, Int.reduceNeg, Int.reduceToNat, h0, h1, hsid, hsid']
                  refine hY done.length (tt, false, true) _ _ (by rw [hx]; simp) (hJ _ _ _ _ _ hJk (fun id hid => ?_))
                  exact ⟨by simp only [upd]; rw [if_neg (fun h => hid (.inr h))], by simp only [upd]; simp only [if_neg (fun h => hid (.inr h) : ¬ id = 204), if_neg (fun h => hid (.inl h) : ¬ id = sid)]⟩) ?_
                rintro r' g' ob' ⟨hown, hcase⟩
                obtain ⟨p3, q3⟩ := hown sid (.inl rfl)
                obtain ⟨p4, q4⟩ := hown 204 (.inr rfl)
                simp only [upd, hsid, hsid', if_false, if_true, es] at p3 q3 p4 q4
                rcases hcase with ⟨rfl, hJ'⟩ | ⟨rfl, hx'⟩
                · simp (config := { maxSteps := 1000000 }) only [go_sem, ↓reduceIte, Nat.reduceEqDiff, Nat.reduceAdd, Nat.reduceMul, Nat.reduceSub, Nat.reduceLT, Nat.reduceLeDiff, Int.reduceLT, Int.reduceLE, Int.reduceEq, Int.reduceNe, Int.reduceAdd, Int.reduceNeg, Int.reduceToNat, h0, h1, p3, q3, p4, q4]
                  refine ⟨_, SemVs.refl _, .inl ?_⟩
                  rw [hx, List.length_append]
                  exact hJ'
                · simp (config := { maxSteps := 1000000 }) only [go_sem, ↓reduceIte, Nat.reduceEqDiff, Nat.reduceAdd, Nat.reduceMul, Nat.reduceSub, Nat.reduceLT, Nat.reduceLeDiff, Int.reduceLT, Int.reduceLE, Int.reduceEq, Int.reduceNe, Int.reduceAdd, Int.reduceNeg, Int.reduceToNat]
                  exact ⟨_, SemVs.refl _, .inr hx'⟩
          · have hno : overS (d :: rest) = false := by
              simp only [not_or] at hov
              simp [overS, hov.1, hov.2]
            rw [if_pos (.inr hno)] at hx
            have d32 : ¬ (d.toNat : Int) = 32 := fun h => hov (.inl (u8_eq (d := 32) h))
            have d35 : ¬ (d.toNat : Int) = 35 := fun h => hov (.inr (u8_eq (d := 35) h))
            simp (config := { maxSteps := 1000000 }) only [go_sem, ↓reduceIte, Nat.reduceEqDiff, Nat.reduceAdd, Nat.reduceMul, Nat.reduceSub, Nat.reduceLT, Nat.reduceLeDiff, Int.reduceLT, Int.reduceLE, Int.reduceEq, Int.reduceNe, Int.reduceAdd, Int.reduceNeg, Int.reduceToNat, h0, h1, es, os, partV, hsid, hsid', hrest, d32, d35]
            refine ⟨hk', Nat.le_refl _, ?_⟩
            refine hook_yield rfl (l := l) (by simp (config := { maxSteps := 1000000 }) only [go_sem, ↓reduceIte, Nat.reduceEqDiff, Nat.reduceAdd, Nat.reduceMul, Nat.reduceSub, Nat.reduceLT, Nat.reduceLeDiff, Int.reduceLT, Int.reduceLE, Int.reduceEq, Int.reduceNe, Int.reduceAdd, Int.reduceNeg, Int.reduceToNat, h0]) hΦ (by
              simp (config := { maxSteps := 1000000 }) only [go_sem, ↓reduceIte, Nat.reduceEqDiff, Nat.reduceAdd, Nat.reduceMul, Nat.reduceSub, Nat.reduceLT, Nat.reduceLeDiff, Int.reduceLT, Int.reduceLE, Int.reduceEq, Int.reduceNe, Int.reduceAdd, Int.reduceNeg, Int.reduceToNat, h0, h1, hsid, hsid']
              refine hY done.length (tt, false, true) _ _ (by rw [hx]; simp) (hJ _ _ _ _ _ hJk (fun id hid => ?_))
              exact ⟨by simp only [upd]; rw [if_neg (fun h => hid (.inr h))], by simp only [upd]; simp only [if_neg (fun h => hid (.inr h) : ¬ id = 204), if_neg (fun h => hid (.inl h) : ¬ id = sid)]⟩) ?_
            rintro r' g' ob' ⟨hown, hcase⟩
            obtain ⟨p3, q3⟩ := hown sid (.inl rfl)
            obtain ⟨p4, q4⟩ := hown 204 (.inr rfl)
            simp only [upd, hsid, hsid', if_false, if_true, es] at p3 q3 p4 q4
            rcases hcase with ⟨rfl, hJ'⟩ | ⟨rfl, hx'⟩
            · simp (config := { maxSteps := 1000000 }) only [go_sem, ↓reduceIte, Nat.reduceEqDiff, Nat.reduceAdd, Nat.reduceMul, Nat.reduceSub, Nat.reduceLT, Nat.reduceLeDiff, Int.reduceLT, Int.reduceLE, Int.reduceEq, Int.reduceNe, Int.reduceAdd, Int.reduceNeg, Int.reduceToNat, h0, h1, p3, q3, p4, q4]
              refine ⟨_, SemVs.refl _, .inl ?_⟩
              rw [hx, List.length_append]
              exact hJ'
            · simp (config := { maxSteps := 1000000 }) only [go_sem, ↓reduceIte, Nat.reduceEqDiff, Nat.reduceAdd, Nat.reduceMul, Nat.reduceSub, Nat.reduceLT, Nat.reduceLeDiff, Int.reduceLT, Int.reduceLE, Int.reduceEq, Int.reduceNe, Int.reduceAdd, Int.reduceNeg, Int.reduceToNat]
              exact ⟨_, SemVs.refl _, .inr hx'⟩
      · refine hook_fnvF hΦ (f := 45) rfl (by simp (config := { maxSteps := 1000000 }) only [go_sem, ↓reduceIte, Nat.reduceEqDiff, Nat.reduceAdd, Nat.reduceMul, Nat.reduceSub, Nat.reduceLT, Nat.reduceLeDiff, Int.reduceLT, Int.reduceLE, Int.reduceEq, Int.reduceNe, Int.reduceAdd, Int.reduceNeg, Int.reduceToNat]) (by simp (config := { maxSteps := 1000000 }) only [go_sem, ↓reduceIte, Nat.reduceEqDiff, Nat.reduceAdd, Nat.reduceMul, Nat.reduceSub, Nat.reduceLT, Nat.reduceLeDiff, Int.reduceLT, Int.reduceLE, Int.reduceEq, Int.reduceNe, Int.reduceAdd, Int.reduceNeg, Int.reduceToNat]; exact cutBare_A (c :: r) (by simp; omega)) (by simp (config := { maxSteps := 1000000 }) only [go_sem, ↓reduceIte, Nat.reduceEqDiff, Nat.reduceAdd, Nat.reduceMul, Nat.reduceSub, Nat.reduceLT, Nat.reduceLeDiff, Int.reduceLT, Int.reduceLE, Int.reduceEq, Int.reduceNe, Int.reduceAdd, Int.reduceNeg, Int.reduceToNat]; rfl) ?_
        rintro _ rfl
        have hc34 : c ≠ 34 := fun e => h34 (by rw [e]; rfl)
        obtain ⟨k, hkd⟩ : ∃ k, bareN (c :: r) = k := ⟨_, rfl⟩
        obtain ⟨tt, htd⟩ : ∃ tt, List.take (bareN (c :: r)) (c :: r) = tt := ⟨_, rfl⟩
        obtain ⟨bad0, hbd⟩ : ∃ b, decide (bareN (c :: r) = 0) = b := ⟨_, rfl⟩
        have hx := hstep tt true bad0 k (by simp only [cutP, hc34, if_false, htd, hbd]) (fun _ => by simp only [cutP, hc34, if_false, hkd])
        have hk' : k ≤ r.length + 1 := by rw [← hkd]; exact bareN_le _
        have hpos : bad0 = false → 0 < k := fun hb => by rw [hb] at hbd; rw [← hkd]; simp only [decide_eq_false_iff_not] at hbd; omega
        rw [htd, hbd, hkd]
        clear hstep
        rcases hrest : List.drop k (c :: r) with _ | ⟨d, rest⟩
        · rw [hrest] at hx
          cases bad0
          · rw [if_neg (by simp [overS])] at hx
            simp (config := { maxSteps := 1000000 }) only [go_sem, ↓reduceIte, Nat.reduceEqDiff, Nat.reduceAdd, Nat.reduceMul, Nat.reduceSub, Nat.reduceLT, Nat.reduceLeDiff, Int.reduceLT, Int.reduceLE, Int.reduceEq, Int.reduceNe, Int.reduceAdd, Int.reduceNeg, Int.reduceToNat, h0, h1, es, os, partV, hsid, hsid', hrest]
            refine ⟨hk', Nat.le_refl _, ?_⟩
            refine hook_yield rfl (l := l) (by simp (config := { maxSteps := 1000000 }) only [go_sem, ↓reduceIte, Nat.reduceEqDiff, Nat.reduceAdd, Nat.reduceMul, Nat.reduceSub, Nat.reduceLT, Nat.reduceLeDiff, Int.reduceLT, Int.reduceLE, Int.reduceEq, Int.reduceNe, Int.reduceAdd, Int.reduceNeg, Int.reduceToNat, h0]) hΦ (by
              simp (config := { maxSteps := 1000000 }) only [go_sem, ↓reduceIte, Nat.reduceEqDiff, Nat.reduceAdd, Nat.reduceMul, Nat.reduceSub, Nat.reduceLT, Nat.reduceLeDiff, Int.reduceLT, Int.reduceLE, Int.reduceEq, Int.reduceNe, Int.reduceAdd, Int.reduceNeg, Int.reduceToNat, h0, h1, hsid, hsid']
              refine hY done.length (tt, true, false) _ _ (by rw [hx]; simp) (hJ _ _ _ _ _ hJk (fun id hid => ?_))
              exact ⟨by simp only [upd]; rw [if_neg (fun h => hid (.inr h))], by simp only [upd]; simp only [if_neg (fun h => hid (.inr h) : ¬ id = 204), if_neg (fun h => hid (.inl h) : ¬ id = sid)]⟩) ?_
            rintro r' g' ob' ⟨hown, hcase⟩
            obtain ⟨p3, q3⟩ := hown sid (.inl rfl)
            obtain ⟨p4, q4⟩ := hown 204 (.inr rfl)
            simp only [upd, hsid, hsid', if_false, if_true, es] at p3 q3 p4 q4
            rcases hcase with ⟨rfl, hJ'⟩ | ⟨rfl, hx'⟩
            · simp (config := { maxSteps := 1000000 }) only [go_sem, ↓reduceIte, Nat.reduceEqDiff, Nat.reduceAdd, Nat.reduceMul, Nat.reduceSub, Nat.reduceLT, Nat.reduceLeDiff, Int.reduceLT, Int.reduceLE, Int.reduceEq, Int.reduceNe, Int.reduceAdd, Int.reduceNeg, Int.reduceToNat, h0, h1, p3, q3, p4, q4]
              refine round_endF (([] : List UInt8)).length (by simp <;> omega) ⟨([] : List UInt8), done ++ [(tt, true, false)], fuel, rfl, by simp <;> omega, by simp <;> omega, by rw [hx]; simp, ?_⟩
              simp (config := { maxSteps := 1000000 }) only [go_sem, ↓reduceIte, Nat.reduceEqDiff, Nat.reduceAdd, Nat.reduceMul, Nat.reduceSub, Nat.reduceLT, Nat.reduceLeDiff, Int.reduceLT, Int.reduceLE, Int.reduceEq, Int.reduceNe, Int.reduceAdd, Int.reduceNeg, Int.reduceToNat, h0, h1, p3, q3]
              simpa using hJ'
            · simp (config := { maxSteps := 1000000 }) only [go_sem, ↓reduceIte, Nat.reduceEqDiff, Nat.reduceAdd, Nat.reduceMul, Nat.reduceSub, Nat.reduceLT, Nat.reduceLeDiff, Int.reduceLT, Int.reduceLE, Int.reduceEq, Int.reduceNe, Int.reduceAdd, Int.reduceNeg, Int.reduceToNat]
              exact ⟨_, SemVs.refl _, .inr hx'⟩
          · rw [if_pos (.inl rfl)] at hx
            simp (config := { maxSteps := 1000000 }) only [go_sem, ↓reduceIte, Nat.reduceEqDiff, Nat.reduceAdd, Nat.reduceMul, Nat.reduceSub, Nat.reduceLT, Nat.reduceLeDiff, Int.reduceLT, Int.reduceLE, Int.reduceEq, Int.reduceNe, Int.reduceAdd, Int.reduceNeg, Int.reduceToNat, h0, h1, es, os, partV, hsid, hsid', hrest]
            refine ⟨hk', Nat.le_refl _, ?_⟩
            refine hook_yield rfl (l := l) (by simp (config := { maxSteps := 1000000 }) only [go_sem, ↓reduceIte, Nat.reduceEqDiff, Nat.reduceAdd, Nat.reduceMul, Nat.reduceSub, Nat.reduceLT, Nat.reduceLeDiff, Int.reduceLT, Int.reduceLE, Int.reduceEq, Int.reduceNe, Int.reduceAdd, Int.reduceNeg, Int.reduceToNat, h0]) hΦ (by
              simp (config := { maxSteps := 1000000 }) only [go_sem, ↓reduceIte, Nat.reduceEqDiff, Nat.reduceAdd, Nat.reduceMul, Nat.reduceSub, Nat.reduceLT, Nat.reduceLeDiff, Int.reduceLT, Int.reduceLE, Int.reduceEq, Int.reduceNe, Int.reduceAdd, Int.reduceNeg, Int.reduceToNat, h0, h1, hsid, hsid']
              refine hY done.length (tt, true, true) _ _ (by rw [hx]; simp) (hJ _ _ _ _ _ hJk (fun id hid => ?_))
              exact ⟨by simp only [upd]; rw [if_neg (fun h => hid (.inr h))], by simp only [upd]; simp only [if_neg (fun h => hid (.inr h) : ¬ id = 204), if_neg (fun h => hid (.inl h) : ¬ id = sid)]⟩) ?_
            rintro r' g' ob' ⟨hown, hcase⟩
            obtain ⟨p3, q3⟩ := hown sid (.inl rfl)
            obtain ⟨p4, q4⟩ := hown 204 (.inr rfl)
            simp only [upd, hsid, hsid', if_false, if_true, es] at p3 q3 p4 q4
            rcases hcase with ⟨rfl, hJ'⟩ | ⟨rfl, hx'⟩
            · simp (config := { maxSteps := 1000000 }) only [go_sem, ↓reduceIte, Nat.reduceEqDiff, Nat.reduceAdd, Nat.reduceMul, Nat.reduceSub, Nat.reduceLT, Nat.reduceLeDiff, Int.reduceLT, Int.reduceLE, Int.reduceEq, Int.reduceNe, Int.reduceAdd, Int.reduceNeg, Int.reduceToNat, h0, h1, p3, q3, p4, q4]
              refine ⟨_, SemVs.refl _, .inl ?_⟩
              rw [hx, List.length_append]
              exact hJ'
            · simp (config := { maxSteps := 1000000 }) only [go_sem, ↓reduceIte, Nat.reduceEqDiff, Nat.reduceAdd, Nat.reduceMul, Nat.reduceSub, Nat.reduceLT, Nat.reduceLeDiff, Int.reduceLT, Int.reduceLE, Int.reduceEq, Int.reduceNe, Int.reduceAdd, Int.reduceNeg, Int.reduceToNat]
              exact ⟨_, SemVs.refl _, .inr hx'⟩
        · rw [hrest] at hx
          have hrl : rest.length + 1 + k = r.length + 1 := by
            have := congrArg List.length hrest
            simp only [List.length_drop, List.length_cons] at this
            omega
          by_cases hov : d = 32 ∨ d = 35
          · have hno : overS (d :: rest) = true := by rcases hov with h | h <;> simp [overS, h]
            have hd : (32 : Int) ≠ 35 := by decide
            cases bad0
            · rw [if_neg (by simp [hno])] at hx
              have hkp := hpos rfl
              rcases hov with rfl | rfl
              · simp (config := { maxSteps := 1000000 }) only [go_sem, ↓reduceIte, Nat.reduceEqDiff, Nat.reduceAdd, Nat.reduceMul, Nat.reduceSub, Nat.reduceLT, Nat.reduceLeDiff, Int.reduceLT, Int.reduceLE, Int.reduceEq, Int.reduceNe, Int.reduceAdd, Int.reduceNeg, Int.reduceToNat, h0, h1, es, os, partV, hsid, hsid', hrest, n32, n35]
                refine ⟨hk', Nat.le_refl _, ?_⟩
                refine hook_yield rfl (l := l) (by simp (config := { maxSteps := 1000000 }) only [go_sem, ↓reduceIte, Nat.reduceEqDiff, Nat.reduceAdd, Nat.reduceMul, Nat.reduceSub, Nat.reduceLT, Nat.reduceLeDiff, Int.reduceLT, Int.reduceLE, Int.reduceEq, Int.reduceNe, Int.reduceAdd, Int.reduceNeg, Int.reduceToNat, h0]) hΦ (by
                  simp (config := { maxSteps := 1000000 }) only [go_sem, ↓reduceIte, Nat.reduceEqDiff, Nat.reduceAdd, Nat.reduceMul, Nat.reduceSub, Nat.reduceLT, Nat.reduceLeDiff, Int.reduceLT, Int.reduceLE, Int.reduceEq, Int.reduceNe, Int.reduceAdd, Int.reduceNeg, Int.reduceToNat, h0, h1, hsid, hsid']
                  refine hY done.length (tt, true, false) _ _ (by rw [hx]; simp) (hJ _ _ _ _ _ hJk (fun id hid => ?_))
                  exact ⟨by simp only [upd]; rw [if_neg (fun h => hid (.inr h))], by simp only [upd]; simp only [if_neg (fun h => hid (.inr h) : ¬ id = 204), if_neg (fun h => hid (.inl h) : ¬ id = sid)]⟩) ?_
                rintro r' g' ob' ⟨hown, hcase⟩
                obtain ⟨p3, q3⟩ := hown sid (.inl rfl)
                obtain ⟨p4, q4⟩ := hown 204 (.inr rfl)
                simp only [upd, hsid, hsid', if_false, if_true, es] at p3 q3 p4 q4
                rcases hcase with ⟨rfl, hJ'⟩ | ⟨rfl, hx'⟩
                · simp (config := { maxSteps := 1000000 }) only [go_sem, ↓reduceIte, Nat.reduceEqDiff, Nat.reduceAdd, Nat.reduceMul, Nat.reduceSub, Nat.reduceLT, Nat.reduceLeDiff, Int.reduceLT, Int.reduceLE, Int.reduceEq, Int.reduceNe, Int.reduceAdd, Int.reduceNeg, Int.reduceToNat, h0, h1, p3, q3, p4, q4]
                  refine round_endF (32 :: rest).length (by simp <;> omega) ⟨32 :: rest, done ++ [(tt, true, false)], fuel, rfl, by simp <;> omega, by simp <;> omega, by rw [hx]; simp, ?_⟩
                  simp (config := { maxSteps := 1000000 }) only [go_sem, ↓reduceIte, Nat.reduceEqDiff, Nat.reduceAdd, Nat.reduceMul, Nat.reduceSub, Nat.reduceLT, Nat.reduceLeDiff, Int.reduceLT, Int.reduceLE, Int.reduceEq, Int.reduceNe, Int.reduceAdd, Int.reduceNeg, Int.reduceToNat, h0, h1, p3, q3]
                  simpa using hJ'
                · simp (config := { maxSteps := 1000000 }) only [go_sem, ↓reduceIte, Nat.reduceEqDiff, Nat.reduceAdd, Nat.reduceMul, Nat.reduceSub, Nat.reduceLT, Nat.reduceLeDiff, Int.reduceLT, Int.reduceLE, Int.reduceEq, Int.reduceNe, Int.reduceAdd, Int.reduceNeg, Int.reduceToNat]
                  exact ⟨_, SemVs.refl _, .inr hx'⟩
              · simp (config := { maxSteps := 1000000 }) only [go_sem, ↓reduceIte, Nat.reduceEqDiff, Nat.reduceAdd, Nat.reduceMul, Nat.reduceSub, Nat.reduceLT, Nat.reduceLeDiff, Int.reduceLT, Int.reduceLE, Int.reduceEq, Int.reduceNe, Int.reduceAdd, Int.reduceNeg, Int.reduceToNat, h0, h1, es, os, partV, hsid, hsid', hrest, n32, n35]
                refine ⟨hk', Nat.le_refl _, ?_⟩
                refine hook_yield rfl (l := l) (by simp (config := { maxSteps := 1000000 }) only [go_sem, ↓reduceIte, Nat.reduceEqDiff, Nat.reduceAdd, Nat.reduceMul, Nat.reduceSub, Nat.reduceLT, Nat.reduceLeDiff, Int.reduceLT, Int.reduceLE, Int.reduceEq, Int.reduceNe, Int.reduceAdd, Int.reduceNeg, Int.reduceToNat, h0]) hΦ (by
                  simp (config := { maxSteps := 1000000 }) only [go_sem, ↓reduceIte, Nat.reduceEqDiff, Nat.reduceAdd, Nat.reduceMul, Nat.reduceSub, Nat.reduceLT, Nat.reduceLeDiff, Int.reduceLT, Int.reduceLE, Int.reduceEq, Int.reduceNe, Int.reduceAdd, Int.reduceNeg, Int.reduceToNat, h0, h1, hsid, hsid']
                  refine hY done.length (tt, true, false) _ _ (by rw [hx]; simp) (hJ _ _ _ _ _ hJk (fun id hid => ?_))
                  exact ⟨by simp only [upd]; rw [if_neg (fun h => hid (.inr h))], by simp only [upd]; simp only [if_neg (fun h => hid (.inr h) : ¬ id = 204), if_neg (fun h => hid (.inl h) : ¬ id = sid)]⟩) ?_
                rintro r' g' ob' ⟨hown, hcase⟩
                obtain ⟨p3, q3⟩ := hown sid (.inl rfl)
                obtain ⟨p4, q4⟩ := hown 204 (.inr rfl)
                simp only [upd, hsid, hsid', if_false, if_true, es] at p3 q3 p4 q4
                rcases hcase with ⟨rfl, hJ'⟩ | ⟨rfl, hx'⟩
                · simp (config := { maxSteps := 1000000 }) only [go_sem, ↓reduceIte, Nat.reduceEqDiff, Nat.reduceAdd, Nat.reduceMul, Nat.reduceSub, Nat.reduceLT, Nat.reduceLeDiff, Int.reduceLT, Int.reduceLE, Int.reduceEq, Int.reduceNe, Int.reduceAdd, Int.reduceNeg, Int.reduceToNat, h0, h1, p3, q3, p4, q4]
                  refine round_endF (35 :: rest).length (by simp <;> omega) ⟨35 :: rest, done ++ [(tt, true, false)], fuel, rfl, by simp <;> omega, by simp <;> omega, by rw [hx]; simp, ?_⟩
                  simp (config := { maxSteps := 1000000 }) only [go_sem, ↓reduceIte, Nat.reduceEqDiff, Nat.reduceAdd, Nat.reduceMul, Nat.reduceSub, Nat.reduceLT, Nat.reduceLeDiff, Int.reduceLT, Int.reduceLE, Int.reduceEq, Int.reduceNe, Int.reduceAdd, Int.reduceNeg, Int.reduceToNat, h0, h1, p3, q3]
                  simpa using hJ'
                · simp (config := { maxSteps := 1000000 }) only [go_sem, ↓reduceIte, Nat.reduceEqDiff, Nat.reduceAdd, Nat.reduceMul, Nat.reduceSub, Nat.reduceLT, Nat.reduceLeDiff, Int.reduceLT, Int.reduceLE, Int.reduceEq, Int.reduceNe, Int.reduceAdd, Int.reduceNeg, Int.reduceToNat]
                  exact ⟨_, SemVs.refl _, .inr hx'⟩
            · rw [if_pos (.inl rfl)] at hx
              rcases hov with rfl | rfl
              · simp (config := { maxSteps := 1000000 }) only [go_sem, ↓reduceIte, Nat.reduceEqDiff, Nat.reduceAdd, Nat.reduceMul, Nat.reduceSub, Nat.reduceLT, Nat.reduceLeDiff, Int.reduceLT, Int.reduceLE, Int.reduceEq, Int.reduceNe, Int.reduceAdd, Int.reduceNeg, Int.reduceToNat, h0, h1, es, os, partV, hsid, hsid', hrest, n32, n35]
                refine ⟨hk', Nat.le_refl _, ?_⟩
                refine hook_yield rfl (l := l) (by simp (config := { maxSteps := 1000000 }) only [go_sem, ↓reduceIte, Nat.reduceEqDiff, Nat.reduceAdd, Nat.reduceMul, Nat.reduceSub, Nat.reduceLT, Nat.reduceLeDiff, Int.reduceLT, Int.reduceLE, Int.reduceEq, Int.reduceNe, Int.reduceAdd, Int.reduceNeg, Int.reduceToNat, h0]) hΦ (by
                  simp (config := { maxSteps := 1000000 }) only [go_sem, ↓reduceIte, Nat.reduceEqDiff, Nat.reduceAdd, Nat.reduceMul, Nat.reduceSub, Nat.reduceLT, Nat.reduceLeDiff, Int.reduceLT, Int.reduceLE, Int.reduceEq, Int.reduceNe, Int.reduceAdd, Int.reduceNeg, Int.reduceToNat, h0, h1, hsid, hsid']
                  refine hY done.length (tt, true, true) _ _ (by rw [hx]; simp) (hJ _ _ _ _ _ hJk (fun id hid => ?_))
                  exact ⟨by simp only [upd]; rw [if_neg (fun h => hid (.inr h))], by simp only [upd]; simp only [if_neg (fun h => hid (.inr h) : ¬ id = 204), if_neg (fun h => hid (.inl h) : ¬ id = sid)]⟩) ?_
                rintro r' g' ob' ⟨hown, hcase⟩
                obtain ⟨p3, q3⟩ := hown sid (.inl rfl)
                obtain ⟨p4, q4⟩ := hown 204 (.inr rfl)
                simp only [upd, hsid, hsid', if_false, if_true, es] at p3 q3 p4 q4
                rcases hcase with ⟨rfl, hJ'⟩ | ⟨rfl, hx'⟩
                · simp (config := { maxSteps := 1000000 }) only [go_sem, ↓reduceIte, Nat.reduceEqDiff, Nat.reduceAdd, Nat.reduceMul, Nat.reduceSub, Nat.reduceLT, Nat.reduceLeDiff, Int.reduceLT, Int.reduceLE, Int.reduceEq, Int.reduceNe, Int.reduceAdd, Int.reduceNeg, Int.reduceToNat, h0, h1, p3, q3, p4, q4]
                  refine ⟨_, SemVs.refl _, .inl ?_⟩
                  rw [hx, List.length_append]
                  exact hJ'
                · simp (config := { maxSteps := 1000000 }) only [go_sem, ↓reduceIte, Nat.reduceEqDiff, Nat.reduceAdd, Nat.reduceMul, Nat.reduceSub, Nat.reduceLT, Nat.reduceLeDiff, Int.reduceLT, Int.reduceLE, Int.reduceEq, Int.reduceNe, Int.reduceAdd, Int.reduceNeg, Int.reduceToNat]
                  exact ⟨_, SemVs.refl _, .inr hx'⟩
              · simp (config := { maxSteps := 1000000 }) only [go_sem, ↓reduceIte, Nat.reduceEqDiff, Nat.reduceAdd, Nat.reduceMul, Nat.reduceSub, Nat.reduceLT, Nat.reduceLeDiff, Int.reduceLT, Int.reduceLE, Int.reduceEq, Int.reduceNe, Int.reduceAdd, Int.reduceNeg, Int.reduceToNat, h0, h1, es, os, partV, hsid, hsid', hrest, n32, n35]
                refine ⟨hk', Nat.le_refl _, ?_⟩
                refine hook_yield rfl (l := l) (by simp (config := { maxSteps := 1000000 }) only [go_sem, ↓reduceIte, Nat.reduceEqDiff, Nat.reduceAdd, Nat.reduceMul, Nat.reduceSub, Nat.reduceLT, Nat.reduceLeDiff, Int.reduceLT, Int.reduceLE, Int.reduceEq, Int.reduceNe, Int.reduceAdd, Int.reduceNeg, Int.reduceToNat, h0]) hΦ (by
                  simp (config := { maxSteps := 1000000 }) only [go_sem, ↓reduceIte, Nat.reduceEqDiff, Nat.reduceAdd, Nat.reduceMul, Nat.reduceSub, Nat.reduceLT, Nat.reduceLeDiff, Int.reduceLT, Int.reduceLE, Int.reduceEq, Int.reduceNe, Int.reduceAdd, Int.reduceNeg, Int.reduceToNat, h0, h1, hsid, hsid']
                  refine hY done.length (tt, true, true) _ _ (by rw [hx]; simp) (hJ _ _ _ _ _ hJk (fun id hid => ?_))
                  exact ⟨by simp only [upd]; rw [if_neg (fun h => hid (.inr h))], by simp only [upd]; simp only [if_neg (fun h => hid (.inr h) : ¬ id = 204), if_neg (fun h => hid (.inl h) : ¬ id = sid)]⟩) ?_
                rintro r' g' ob' ⟨hown, hcase⟩
                obtain ⟨p3, q3⟩ := hown sid (.inl rfl)
                obtain ⟨p4, q4⟩ := hown 204 (.inr rfl)
                simp only [upd, hsid, hsid', if_false, if_true, es] at p3 q3 p4 q4
                rcases hcase with ⟨rfl, hJ'⟩ | ⟨rfl, hx'⟩
                · simp (config := { maxSteps := 1000000 }) only [go_sem, ↓reduceIte, Nat.reduceEqDiff, Nat.reduceAdd, Nat.reduceMul, Nat.reduceSub, Nat.reduceLT, Nat.reduceLeDiff, Int.reduceLT, Int.reduceLE, Int.reduceEq, Int.reduceNe, Int.reduceAdd, Int.reduceNeg, Int.reduceToNat, h0, h1, p3, q3, p4, q4]
                  refine ⟨_, SemVs.refl _, .inl ?_⟩
                  rw [hx, List.length_append]
                  exact hJ'
                · simp (config := { maxSteps := 1000000 }) only [go_sem, ↓reduceIte, Nat.reduceEqDiff, Nat.reduceAdd, Nat.reduceMul, Nat.reduceSub, Nat.reduceLT, Nat.reduceLeDiff, Int.reduceLT, Int.reduceLE, Int.reduceEq, Int.reduceNe, Int.reduceAdd, Int.reduceNeg, Int.reduceToNat]
                  exact ⟨_, SemVs.refl _, .inr hx'⟩
          · have hno : overS (d :: rest) = false := by
              simp only [not_or] at hov
              simp [overS, hov.1, hov.2]
            rw [if_pos (.inr hno)] at hx
            have d32 : ¬ (d.toNat : Int) = 32 := fun h => hov (.inl (u8_eq (d := 32) h))
            have d35 : ¬ (d.toNat : Int) = 35 := fun h => hov (.inr (u8_eq (d := 35) h))
            simp (config := { maxSteps := 1000000 }) only [go_sem, ↓reduceIte, Nat.reduceEqDiff, Nat.reduceAdd, Nat.reduceMul, Nat.reduceSub, Nat.reduceLT, Nat.reduceLeDiff, Int.reduceLT, Int.reduceLE, Int.reduceEq, Int.reduceNe, Int.reduceAdd, Int.reduceNeg, Int.reduceToNat, h0, h1, es, os, partV, hsid, hsid', hrest, d32, d35]
            refine ⟨hk', Nat.le_refl _, ?_⟩
            refine hook_yield rfl (l := l) (by simp (config := { maxSteps := 1000000 }) only [go_sem, ↓reduceIte, Nat.reduceEqDiff, Nat.reduceAdd, Nat.reduceMul, Nat.reduceSub, Nat.reduceLT, Nat.reduceLeDiff, Int.reduceLT, Int.reduceLE, Int.reduceEq, Int.reduceNe, Int.reduceAdd, Int.reduceNeg, Int.reduceToNat, h0]) hΦ (by
              simp (config := { maxSteps := 1000000 }) only [go_sem, ↓reduceIte, Nat.reduceEqDiff, Nat.reduceAdd, Nat.reduceMul, Nat.reduceSub, Nat.reduceLT, Nat.reduceLeDiff, Int.reduceLT, Int.reduceLE, Int.reduceEq, Int.reduceNe, Int.reduceAdd, Int.reduceNeg, Int.reduceToNat, h0, h1, hsid, hsid']
              refine hY done.length (tt, true, true) _ _ (by rw [hx]; simp) (hJ _ _ _ _ _ hJk (fun id hid => ?_))
              exact ⟨by simp only [upd]; rw [if_neg (fun h => hid (.inr h))], by simp only [upd]; simp only [if_neg (fun h => hid (.inr h) : ¬ id = 204), if_neg (fun h => hid (.inl h) : ¬ id = sid)]⟩) ?_
            rintro r' g' ob' ⟨hown, hcase⟩
            obtain ⟨p3, q3⟩ := hown sid (.inl rfl)
            obtain ⟨p4, q4⟩ := hown 204 (.inr rfl)
            simp only [upd, hsid, hsid', if_false, if_true, es] at p3 q3 p4 q4
            rcases hcase with ⟨rfl, hJ'⟩ | ⟨rfl, hx'⟩
            · simp (config := { maxSteps := 1000000 }) only [go_sem, ↓reduceIte, Nat.reduceEqDiff, Nat.reduceAdd, Nat.reduceMul, Nat.reduceSub, Nat.reduceLT, Nat.reduceLeDiff, Int.reduceLT, Int.reduceLE, Int.reduceEq, Int.reduceNe, Int.reduceAdd, Int.reduceNeg, Int.reduceToNat, h0, h1, p3, q3, p4, q4]
              refine ⟨_, SemVs.refl _, .inl ?_⟩
              rw [hx, List.length_append]
              exact hJ'
            · simp (config := { maxSteps := 1000000 }) only [go_sem, ↓reduceIte, Nat.reduceEqDiff, Nat.reduceAdd, Nat.reduceMul, Nat.reduceSub, Nat.reduceLT, Nat.reduceLeDiff, Int.reduceLT, Int.reduceLE, Int.reduceEq, Int.reduceNe, Int.reduceAdd, Int.reduceNeg, Int.reduceToNat]
              exact ⟨_, SemVs.refl _, .inr hx'⟩

end Go.Proofs.YtdlogfbbcbbllaaDoor
