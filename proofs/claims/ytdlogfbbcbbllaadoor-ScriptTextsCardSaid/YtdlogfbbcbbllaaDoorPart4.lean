/- A part of the proof; no conditions. -/
import Derived.Test.YtdlogfbbcbbllaaDoorPart3
set_option linter.unusedSimpArgs false
set_option linter.unusedVariables false
namespace Go.Proofs.YtdlogfbbcbbllaaDoor
open Go Go.Am

theorem parts_A (B : Nat) (s : List UInt8) (g : Nat → Nat) (ob : Obs) : FunR Tryd.prog 32 [sv s] g ob (fun r g' ob' => r = .one (.clo 43 [.ptr (B + 1) (g' (B + 1)) 0]) ∧ ob' (B + 1) = some [.d (.str s)] ∧ ∀ i, i ≠ B + 1 → g' i = g i ∧ ob' i = ob i) := by
  refine fun_of_wp B Tt_ok mixed Tryd.func32 rfl (by rfl) [2] rfl (by kernel_rfl) (by simp [Tryd.ntmps32]) ?_
  simp (config := { maxSteps := 1000000 }) only [go_sem, ↓reduceIte, Nat.reduceEqDiff, Nat.reduceAdd, Nat.reduceMul, Nat.reduceSub, Nat.reduceLT, Nat.reduceLeDiff, Int.reduceLT, Int.reduceLE, Int.reduceEq, Int.reduceNe, Int.reduceAdd, Int.reduceNeg, Int.reduceToNat, makeFuncA, pcsOf, pcOf]
  refine ⟨_, SemVs.refl _, ?_, ?_, fun i h => ?_⟩
  · simp only [resAV, upd]; simp
  · simp [upd]
  · simp [upd, h]

/-- May a part stand there? the first one, or a later one. -/
def okPart (first : Bool) (p : Part) : Bool := !p.2.2 && (!first || (p.2.1 && verbOk p.1))
def okParts : List Part → Bool
  | [] => true
  | p :: ps => okPart true p && ps.all (okPart false)
/-- What comes of a line's parts: the line; is there one; the error. -/
def partsR (ps : List Part) : Line × Bool × Int :=
  if okParts ps = true then
    match ps with
    | [] => (([], []), false, 0)
    | p :: qs => if rightL (p.1, qs.map (·.1)) = true then ((p.1, qs.map (·.1)), true, 0) else (([], []), false, 2)
  else (([], []), false, 3)
def lineP (s : List UInt8) : Line × Bool × Int := if 20000 < s.length then (([], []), false, 2) else partsR (partsF (s.length + 1) s)
def lineRV (r : Line × Bool × Int) : AV := .tup [lineV r.1, bv r.2.1, iv .i64 r.2.2]

/-- What is known when so many parts have come. -/
structure JLine (G : Nat → Nat) (ps : List Part) (k : Nat) (g : Nat → Nat) (ob : Obs) : Prop where
  ok : okParts (ps.take k) = true
  g2 : g 2 = G 2 ∧ g 3 = G 3 ∧ g 4 = G 4 ∧ g 5 = G 5 ∧ g 6 = G 6
  o2 : ob 2 = some [.d (.str []), .d .nsl]
  o3 : ob 3 = some [.d (.bool false)]
  o4 : ob 4 = some [.d (.int .i64 0)]
  o6 : ob 6 = some [.d (.bool (decide (0 < k)))]
  o5 : ∃ wc, ob 5 = some [.d (.str ((ps.take k).headD ([], true, true)).1), wc] ∧ (((ps.take k).drop 1 = [] ∧ wc = .d .nsl) ∨ ((ps.take k).drop 1 ≠ [] ∧ wc = .osl 44 (g 44) 1 0 ((ps.take k).drop 1).length ∧ ob 44 = some (((ps.take k).drop 1).map fun p => .d (.str p.1))))

structure JxLine (G : Nat → Nat) (ps : List Part) (g : Nat → Nat) (ob : Obs) : Prop where
  bad : okParts ps = false
  g2 : g 2 = G 2 ∧ g 3 = G 3 ∧ g 4 = G 4
  o2 : ob 2 = some [.d (.str []), .d .nsl]
  o3 : ob 3 = some [.d (.bool false)]
  o4 : ob 4 = some [.d (.int .i64 3)]

theorem frzR_line {s : St} {l : Line} {wc : C} {b : Bool} {n : Int} (h : Frz s wc (strs l.2)) : FrzR s [.agg [.d (.str l.1), wc], bv b, iv .i64 n] (lineRV (l, b, n)) := by
  refine ⟨_, ?_, rfl⟩
  simp only [FrzVs]
  refine ⟨_, _, rfl, ⟨[.str l.1, strs l.2], rfl, fun i c hc => ?_, rfl⟩, _, _, rfl, ⟨.bool b, .d (.bool b), rfl⟩, _, _, rfl, ⟨.int .i64 n, .d (.int .i64 n), rfl⟩, rfl⟩
  match i, hc with
  | 0, hc => cases hc; exact ⟨_, rfl, .d _⟩
  | 1, hc => cases hc; exact ⟨_, rfl, h⟩

theorem partsF_len : ∀ (n : Nat) (s : List UInt8), (partsF n s).length ≤ n
  | 0, s => by simp [partsF]
  | n + 1, s => by
    unfold partsF
    split
    · simp
    · split
      · simp
      · simp only
        split
        · simp
        · simpa using partsF_len n _

theorem unq_text : ∀ (n : Nat) {s : List UInt8}, s.length ≤ n → ∀ {p}, unq s = some p → p.1.length ≤ s.length
  | 0, s, hn, p, h => by
    have : s = [] := List.eq_nil_of_length_eq_zero (by omega)
    subst this; simp [unq] at h
  | n + 1, [], _, p, h => by simp [unq] at h
  | n + 1, c :: r, hn, p, h => by
    simp only [List.length_cons] at hn ⊢
    unfold unq at h
    split at h
    · cases h; simp
    · split at h
      · split at h
        · cases h
        · simp only [List.length_cons] at hn ⊢
          split at h
          · obtain ⟨q, hq, rfl⟩ := Option.map_eq_some_iff.1 h
            have := unq_text n (by omega) hq; simp only [List.length_cons]; omega
          · split at h
            · obtain ⟨q, hq, rfl⟩ := Option.map_eq_some_iff.1 h
              have := unq_text n (by omega) hq; simp only [List.length_cons]; omega
            · cases h
      · obtain ⟨q, hq, rfl⟩ := Option.map_eq_some_iff.1 h
        have := unq_text n (by omega) hq; simp only [List.length_cons]; omega

theorem cutP_text (s : List UInt8) : (cutP s).1.1.length ≤ s.length := by
  unfold cutP
  split
  · simp
  · split
    · split
      · simp
      · rename_i c r _ p hp
        have := unq_text _ (Nat.le_refl _) hp
        simp only [List.length_cons]; omega
    · simp only [List.length_take]; omega

theorem partsF_text : ∀ (n : Nat) (s : List UInt8), ∀ p ∈ partsF n s, p.1.length ≤ s.length
  | 0, s, p, h => by simp [partsF] at h
  | n + 1, s, p, h => by
    have ht := trimS_le s
    unfold partsF at h
    split at h
    · simp at h
    · rename_i c r htt
      rw [htt] at ht
      have hc := cutP_text (c :: r)
      split at h
      · simp at h
      · simp only at h
        split at h
        · simp only [List.mem_singleton] at h
          subst h
          simp only; omega
        · rcases List.mem_cons.1 h with rfl | h
          · omega
          · have := partsF_text n _ p h
            simp only [List.length_drop] at this
            omega

theorem take_head {ps : List Part} {k : Nat} {d : Part} : (ps.take (k + 1 + 1)).headD d = (ps.take (k + 1)).headD d := by cases ps <;> rfl
theorem take_next {ps : List Part} {k : Nat} {x : Part} (h : ps[k + 1]? = some x) : (ps.take (k + 1 + 1)).drop 1 = (ps.take (k + 1)).drop 1 ++ [x] := by
  rw [List.take_add_one (i := k + 1), h]
  cases ps with
  | nil => simp at h
  | cons p ps => simp

theorem okParts_bad {ps : List Part} {k : Nat} {x : Part} (hx : ps[k]? = some x) (hb : okPart (decide (k = 0)) x = false) : okParts ps = false := by
  cases ps with
  | nil => simp at hx
  | cons p ps =>
    cases k with
    | zero => simp at hx; subst hx; simp at hb; simp [okParts, hb]
    | succ k =>
      have hm : x ∈ ps := List.mem_of_getElem? (by simpa using hx)
      have : ps.all (okPart false) = false := by rw [List.all_eq_false]; exact ⟨x, hm, by simpa using hb⟩
      simp [okParts, this]
theorem okParts_next {ps : List Part} {k : Nat} {x : Part} (hx : ps[k]? = some x) (h : okParts (ps.take k) = true) (hb : okPart (decide (k = 0)) x = true) : okParts (ps.take (k + 1)) = true := by
  cases ps with
  | nil => simp at hx
  | cons p ps =>
    cases k with
    | zero => simp at hx; subst hx; simp at hb; simp [okParts, hb]
    | succ k =>
      simp only [List.take_succ_cons, okParts, Bool.and_eq_true] at h ⊢
      exact ⟨h.1, all_take (by simpa using hx) h.2 (by simpa using hb)⟩

set_option maxHeartbeats 8000000 in
theorem line_A (s : List UInt8) (hs : s.length ≤ 1000000) : PureR Tryd.prog 22 [sv s] (· = lineRV (lineP s)) := by
  refine pure_of_wpRF 0 Tt_ok Tryd.func22 rfl (by rfl) [.cell 2 33, .cell 3 4, .cell 4 24] rfl (by kernel_rfl) (by kernel_rfl) (by simp [Tryd.ntmps22]) fun b₀ β0 s0 w0 g => ?_
  simp (config := { maxSteps := 1000000 }) only [go_sem, ↓reduceIte, Nat.reduceEqDiff, Nat.reduceAdd, Nat.reduceMul, Nat.reduceSub, Nat.reduceLT, Nat.reduceLeDiff, Int.reduceLT, Int.reduceLE, Int.reduceEq, Int.reduceNe, Int.reduceAdd, Int.reduceNeg, Int.reduceToNat, buildA]
  refine ⟨fun hl => ?_, fun hl => ?_⟩
  · refine ⟨_, frzR_line (l := ([], [])) (.d .nsl), ?_⟩
    have : 20000 < s.length := by omega
    simp [lineP, this]
  · refine hook_funF kept_phiC rfl (by simp (config := { maxSteps := 1000000 }) only [go_sem, ↓reduceIte, Nat.reduceEqDiff, Nat.reduceAdd, Nat.reduceMul, Nat.reduceSub, Nat.reduceLT, Nat.reduceLeDiff, Int.reduceLT, Int.reduceLE, Int.reduceEq, Int.reduceNe, Int.reduceAdd, Int.reduceNeg, Int.reduceToNat]; exact parts_A 300 s _ _) ?_
    rintro _ g1 ob1 ⟨rfl, o301, hsame⟩
    obtain ⟨G, hG⟩ : ∃ G, g1 = G := ⟨_, rfl⟩
    have v2 : G 2 = nxC 34 (g 2) := by rw [← hG]; exact (hsame 2 (by decide)).1.trans (by simp [upd])
    have v3 : G 3 = nxC 5 (g 3) := by rw [← hG]; exact (hsame 3 (by decide)).1.trans (by simp [upd])
    have v4 : G 4 = nxC 25 (g 4) := by rw [← hG]; exact (hsame 4 (by decide)).1.trans (by simp [upd])
    have v5 : G 5 = nxC 34 (g 5) := by rw [← hG]; exact (hsame 5 (by decide)).1.trans (by simp [upd])
    have v6 : G 6 = nxC 5 (g 6) := by rw [← hG]; exact (hsame 6 (by decide)).1.trans (by simp [upd])
    have hP : lineP s = partsR (partsF (s.length + 1) s) := by
      have : ¬ 20000 < s.length := by omega
      simp [lineP, this]
    rw [hP]
    obtain ⟨ps, hps⟩ : ∃ ps, partsF (s.length + 1) s = ps := ⟨_, rfl⟩
    rw [hps]
    simp (config := { maxSteps := 1000000 }) only [go_sem, ↓reduceIte, Nat.reduceEqDiff, Nat.reduceAdd, Nat.reduceMul, Nat.reduceSub, Nat.reduceLT, Nat.reduceLeDiff, Int.reduceLT, Int.reduceLE, Int.reduceEq, Int.reduceNe, Int.reduceAdd, Int.reduceNeg, Int.reduceToNat]
    refine hook_range Tt_ok (fid := 43) (caps := [.ptr 301 (g1 301) 0]) (by simp (config := { maxSteps := 1000000 }) only [go_sem, ↓reduceIte, Nat.reduceEqDiff, Nat.reduceAdd, Nat.reduceMul, Nat.reduceSub, Nat.reduceLT, Nat.reduceLeDiff, Int.reduceLT, Int.reduceLE, Int.reduceEq, Int.reduceNe, Int.reduceAdd, Int.reduceNeg, Int.reduceToNat]) 400 (fun id => id = 400 ∨ id = 301 ∨ id = 204) (fun id => id = 301 ∨ id = 204) (.inl rfl) (by decide) (fun id h => .inr h) partE ps (fun x => rfl) (by kernel_rfl) (by kernel_rfl)
      (fun g' ob' h => by rw [← hps]; exact partsIt_A 301 (by decide) s hs (h 301 (by decide)).1 ((h 301 (by decide)).2.trans o301)) (JLine G ps) (JxLine G ps) ?_ ?_ ?_ ?_ ?_ ?_
    · rintro k g ob g' ob' ⟨a1, a2, a3, a4, a5, a6, a7⟩ h
      have hh : ∀ id, id = 2 ∨ id = 3 ∨ id = 4 ∨ id = 5 ∨ id = 6 ∨ id = 44 → g' id = g id ∧ ob' id = ob id := fun id hid => h id (by omega)
      have h2 := hh 2 (by simp)
      have h3 := hh 3 (by simp)
      have h4 := hh 4 (by simp)
      have h5 := hh 5 (by simp)
      have h6 := hh 6 (by simp)
      have h44 := hh 44 (by simp)
      exact ⟨a1, by rw [h2.1, h3.1, h4.1, h5.1, h6.1]; exact a2, by rw [h2.2]; exact a3, by rw [h3.2]; exact a4, by rw [h4.2]; exact a5, by rw [h6.2]; exact a6, by rw [h5.2, h44.1, h44.2]; exact a7⟩
    · rintro g ob g' ob' ⟨a1, a2, a3, a4, a5⟩ h
      have hh : ∀ id, id = 2 ∨ id = 3 ∨ id = 4 → g' id = g id ∧ ob' id = ob id := fun id hid => h id (by omega)
      have h2 := hh 2 (by simp)
      have h3 := hh 3 (by simp)
      have h4 := hh 4 (by simp)
      exact ⟨a1, by rw [h2.1, h3.1, h4.1]; exact a2, by rw [h2.2]; exact a3, by rw [h3.2]; exact a4, by rw [h4.2]; exact a5⟩
    · subst hG
      have e2 := hsame 2 (by decide)
      have e3 := hsame 3 (by decide)
      have e4 := hsame 4 (by decide)
      have e5 := hsame 5 (by decide)
      have e6 := hsame 6 (by decide)
      refine ⟨rfl, ⟨rfl, rfl, rfl, rfl, rfl⟩, ?_, ?_, ?_, ?_, ⟨_, ?_, .inl ⟨rfl, rfl⟩⟩⟩
      · exact e2.2.trans (by simp [upd])
      · exact e3.2.trans (by simp [upd])
      · exact e4.2.trans (by simp [upd])
      · exact e6.2.trans (by simp [upd])
      · exact e5.2.trans (by simp [upd])
    · rintro k ⟨tt, bb, bad⟩ g2 ob2 hx ⟨hok, ⟨e2, e3, e4, e5, e6⟩, o2, o3, o4, o6, wc, o5, hwc⟩ l Φ hΦ
      simp (config := { maxSteps := 1000000 }) only [go_sem, ↓reduceIte, Nat.reduceEqDiff, Nat.reduceAdd, Nat.reduceMul, Nat.reduceSub, Nat.reduceLT, Nat.reduceLeDiff, Int.reduceLT, Int.reduceLE, Int.reduceEq, Int.reduceNe, Int.reduceAdd, Int.reduceNeg, Int.reduceToNat, partE, partV]
      refine ⟨fun id hid => ?_, fun o Φ' hΦ' => ?_⟩
      · rcases hid with rfl | rfl | rfl <;> simp [upd]
      have hm := List.mem_of_getElem? hx
      have hlt := (List.getElem?_eq_some_iff.1 hx).1
      have htl : tt.length ≤ s.length := partsF_text (s.length + 1) s _ (by rw [hps]; exact hm)
      have hpl : ps.length ≤ s.length + 1 := by rw [← hps]; exact partsF_len _ _
      rw [v2] at e2; rw [v3] at e3; rw [v4] at e4; rw [v5] at e5; rw [v6] at e6
      have herr : ∀ (G' : Nat → Nat) (ob' : Obs), okParts ps = false → G' 2 = g2 2 → G' 3 = g2 3 → G' 4 = g2 4 → ob' 2 = some [.d (.str []), .d .nsl] → ob' 3 = some [.d (.bool false)] → ob' 4 = some [.d (.int .i64 3)] → JxLine G ps G' ob' :=
        fun G' ob' h1 h2 h3 h4 h5 h6 h7 => ⟨h1, ⟨by rw [h2, e2, v2], by rw [h3, e3, v3], by rw [h4, e4, v4]⟩, h5, h6, h7⟩
      cases bad
      · rcases k with _ | k
        · cases bb
          · simp (config := { maxSteps := 1000000 }) only [go_sem, ↓reduceIte, Nat.reduceEqDiff, Nat.reduceAdd, Nat.reduceMul, Nat.reduceSub, Nat.reduceLT, Nat.reduceLeDiff, Int.reduceLT, Int.reduceLE, Int.reduceEq, Int.reduceNe, Int.reduceAdd, Int.reduceNeg, Int.reduceToNat, partE, partV, o2, o3, o4, o5, o6, e2, e3, e4, e5, e6, Nat.lt_irrefl, buildA, fillA]
            refine ⟨fun id hid => by rcases hid with rfl | rfl | rfl <;> simp, herr _ _ (okParts_bad hx (by simp [okPart])) ?_ ?_ ?_ ?_ ?_ ?_⟩ <;> simp [upd]
          · simp (config := { maxSteps := 1000000 }) only [go_sem, ↓reduceIte, Nat.reduceEqDiff, Nat.reduceAdd, Nat.reduceMul, Nat.reduceSub, Nat.reduceLT, Nat.reduceLeDiff, Int.reduceLT, Int.reduceLE, Int.reduceEq, Int.reduceNe, Int.reduceAdd, Int.reduceNeg, Int.reduceToNat, partE, partV, o2, o3, o4, o5, o6, e2, e3, e4, e5, e6, Nat.lt_irrefl, buildA]
            refine hook_callF hΦ' rfl (by simp (config := { maxSteps := 1000000 }) only [go_sem, ↓reduceIte, Nat.reduceEqDiff, Nat.reduceAdd, Nat.reduceMul, Nat.reduceSub, Nat.reduceLT, Nat.reduceLeDiff, Int.reduceLT, Int.reduceLE, Int.reduceEq, Int.reduceNe, Int.reduceAdd, Int.reduceNeg, Int.reduceToNat]; exact isVerb_A tt (by omega)) (by simp (config := { maxSteps := 1000000 }) only [go_sem, ↓reduceIte, Nat.reduceEqDiff, Nat.reduceAdd, Nat.reduceMul, Nat.reduceSub, Nat.reduceLT, Nat.reduceLeDiff, Int.reduceLT, Int.reduceLE, Int.reduceEq, Int.reduceNe, Int.reduceAdd, Int.reduceNeg, Int.reduceToNat]; rfl) ?_
            rintro _ rfl
            cases hv : verbOk tt
            · simp (config := { maxSteps := 1000000 }) only [go_sem, ↓reduceIte, Nat.reduceEqDiff, Nat.reduceAdd, Nat.reduceMul, Nat.reduceSub, Nat.reduceLT, Nat.reduceLeDiff, Int.reduceLT, Int.reduceLE, Int.reduceEq, Int.reduceNe, Int.reduceAdd, Int.reduceNeg, Int.reduceToNat, partE, partV, o2, o3, o4, o5, o6, e2, e3, e4, e5, e6, Nat.lt_irrefl, buildA, fillA]
              refine ⟨fun id hid => by rcases hid with rfl | rfl | rfl <;> simp, herr _ _ (okParts_bad hx (by simp [okPart, hv])) ?_ ?_ ?_ ?_ ?_ ?_⟩ <;> simp [upd]
            · rcases hwc with ⟨hw1, rfl⟩ | ⟨hw1, _⟩
              · simp (config := { maxSteps := 1000000 }) only [go_sem, ↓reduceIte, Nat.reduceEqDiff, Nat.reduceAdd, Nat.reduceMul, Nat.reduceSub, Nat.reduceLT, Nat.reduceLeDiff, Int.reduceLT, Int.reduceLE, Int.reduceEq, Int.reduceNe, Int.reduceAdd, Int.reduceNeg, Int.reduceToNat, partE, partV, o2, o3, o4, o5, o6, e2, e3, e4, e5, e6, Nat.lt_irrefl, buildA]
                refine ⟨fun id hid => by rcases hid with rfl | rfl | rfl <;> simp, ⟨okParts_next hx hok (by simp [okPart, hv]), ⟨by simp [upd, e2, v2], by simp [upd, e3, v3], by simp [upd, e4, v4], by simp [upd, e5, v5], by simp [upd, e6, v6]⟩, by simp [upd, o2], by simp [upd, o3], by simp [upd, o4], by simp [upd], ⟨.d .nsl, ?_, .inl ⟨?_, rfl⟩⟩⟩⟩
                · cases ps with
                  | nil => simp at hx
                  | cons p ps => simp at hx; subst hx; simp [upd]
                · cases ps with
                  | nil => simp at hx
                  | cons p ps => simp
              · simp at hw1
        · have hd1 : ((ps.take (k + 1)).drop 1).length ≤ 2000000 := by simp only [List.length_drop, List.length_take]; omega
          rcases hwc with ⟨hw1, rfl⟩ | ⟨hw1, rfl, o44⟩
          · simp (config := { maxSteps := 1000000 }) only [go_sem, ↓reduceIte, Nat.reduceEqDiff, Nat.reduceAdd, Nat.reduceMul, Nat.reduceSub, Nat.reduceLT, Nat.reduceLeDiff, Int.reduceLT, Int.reduceLE, Int.reduceEq, Int.reduceNe, Int.reduceAdd, Int.reduceNeg, Int.reduceToNat, partE, partV, o2, o3, o4, o5, o6, e2, e3, e4, e5, e6, Nat.zero_lt_succ, buildA, elemTy]
            refine ⟨⟨by decide, by decide⟩, fun id hid => by rcases hid with rfl | rfl | rfl <;> simp, ⟨okParts_next hx hok (by simp [okPart]), ⟨by simp [upd, e2, v2], by simp [upd, e3, v3], by simp [upd, e4, v4], by simp [upd, e5, v5], by simp [upd, e6, v6]⟩, by simp [upd, o2], by simp [upd, o3], by simp [upd, o4], by simp [upd, o6], ⟨_, ?_, .inr ⟨?_, rfl, ?_⟩⟩⟩⟩
            · rw [take_head, take_next hx, hw1]; simp [upd]
            · rw [take_next hx]; simp
            · rw [take_next hx, hw1]; simp [upd]
          · simp (config := { maxSteps := 1000000 }) only [go_sem, ↓reduceIte, Nat.reduceEqDiff, Nat.reduceAdd, Nat.reduceMul, Nat.reduceSub, Nat.reduceLT, Nat.reduceLeDiff, Int.reduceLT, Int.reduceLE, Int.reduceEq, Int.reduceNe, Int.reduceAdd, Int.reduceNeg, Int.reduceToNat, partE, partV, o2, o3, o4, o5, o6, o44, e2, e3, e4, e5, e6, Nat.zero_lt_succ, buildA, elemTy]
            refine ⟨Nat.le_refl _, ⟨by decide, by omega⟩, fun id hid => by rcases hid with rfl | rfl | rfl <;> simp, ⟨okParts_next hx hok (by simp [okPart]), ⟨by simp [upd, e2, v2], by simp [upd, e3, v3], by simp [upd, e4, v4], by simp [upd, e5, v5], by simp [upd, e6, v6]⟩, by simp [upd, o2], by simp [upd, o3], by simp [upd, o4], by simp [upd, o6], ⟨_, ?_, .inr ⟨?_, rfl, ?_⟩⟩⟩⟩
            · rw [take_head, take_next hx, List.length_append]; simp [upd]
            · rw [take_next hx]; simp
            · rw [take_next hx, List.take_of_length_le (by simp)]; simp [upd]
      · simp (config := { maxSteps := 1000000 }) only [go_sem, ↓reduceIte, Nat.reduceEqDiff, Nat.reduceAdd, Nat.reduceMul, Nat.reduceSub, Nat.reduceLT, Nat.reduceLeDiff, Int.reduceLT, Int.reduceLE, Int.reduceEq, Int.reduceNe, Int.reduceAdd, Int.reduceNeg, Int.reduceToNat, partE, partV, o2, o3, o4, o5, o6, e2, e3, e4, e5, e6, buildA]
        refine ⟨fun id hid => by rcases hid with rfl | rfl | rfl <;> simp, herr _ _ (okParts_bad hx (by simp [okPart])) ?_ ?_ ?_ ?_ ?_ ?_⟩ <;> simp [upd]
    · rintro g' ob' ⟨hok, ⟨e2, e3, e4, e5, e6⟩, o2, o3, o4, o6, wc, o5, hwc⟩
      rw [v2] at e2; rw [v3] at e3; rw [v4] at e4; rw [v5] at e5; rw [v6] at e6
      rw [List.take_of_length_le (Nat.le_refl _)] at hok o5 hwc
      cases ps with
      | nil =>
        simp (config := { maxSteps := 1000000 }) only [go_sem, ↓reduceIte, Nat.reduceEqDiff, Nat.reduceAdd, Nat.reduceMul, Nat.reduceSub, Nat.reduceLT, Nat.reduceLeDiff, Int.reduceLT, Int.reduceLE, Int.reduceEq, Int.reduceNe, Int.reduceAdd, Int.reduceNeg, Int.reduceToNat, o6, e6]
        simp (config := { maxSteps := 1000000 }) only [go_sem, ↓reduceIte, Nat.reduceEqDiff, Nat.reduceAdd, Nat.reduceMul, Nat.reduceSub, Nat.reduceLT, Nat.reduceLeDiff, Int.reduceLT, Int.reduceLE, Int.reduceEq, Int.reduceNe, Int.reduceAdd, Int.reduceNeg, Int.reduceToNat, o2, o3, o4, e2, e3, e4, Nat.lt_irrefl, buildA]
        refine ⟨_, frzR_line (l := ([], [])) (.d .nsl), ?_⟩
        rfl
      | cons p qs =>
        simp (config := { maxSteps := 1000000 }) only [go_sem, ↓reduceIte, Nat.reduceEqDiff, Nat.reduceAdd, Nat.reduceMul, Nat.reduceSub, Nat.reduceLT, Nat.reduceLeDiff, Int.reduceLT, Int.reduceLE, Int.reduceEq, Int.reduceNe, Int.reduceAdd, Int.reduceNeg, Int.reduceToNat, o2, o3, o4, o5, o6, e2, e3, e4, e5, e6, Nat.zero_lt_succ, buildA]
        have hbd : ∀ q ∈ p :: qs, q.1.length ≤ 1000000 := fun q hq => Nat.le_trans (partsF_text (s.length + 1) s q (by rw [hps]; exact hq)) hs
        have hpl : (p :: qs).length ≤ s.length + 1 := by rw [← hps]; exact partsF_len _ _
        have hfz : ∀ s' : St, s'.gen 44 = g' 44 → s'.obj 44 = ob' 44 → Frz s' wc (strs (qs.map (·.1))) := by
          intro s' h1 h2
          rcases hwc with ⟨hw1, rfl⟩ | ⟨hw1, rfl, o44⟩
          · simp only [List.drop_succ_cons, List.drop_zero] at hw1
            rw [hw1]; exact .d .nsl
          · simp only [List.drop_succ_cons, List.drop_zero] at o44 ⊢
            have := frz_map (s := s') (id := 44) (g := g' 44) (off := 0) h1 (h2.trans o44) qs (fun p => .str p.1) (fun _ => rfl) rfl (fun j a h => by simp [h]) (by simp)
            unfold strs
            rw [List.map_map]
            exact this
        have hdl : (p.1, qs.map (·.1)) = ((p.1, qs.map (·.1)) : Line) := rfl
        have hT := text_A (p.1, qs.map (·.1)) (hbd p (by simp)) (by simp only [List.length_map, List.length_cons] at hpl ⊢; omega) (fun w hw => by
          obtain ⟨q, hq, rfl⟩ := List.mem_map.1 hw
          exact Nat.le_trans (hbd q (by simp [hq])) (by decide))
        refine hook_viewF kept_phiC rfl (xs := [lineV (p.1, qs.map (·.1))]) ?_ hT ?_ ?_
        · simp (config := { maxSteps := 1000000 }) only [go_sem, ↓reduceIte, Nat.reduceEqDiff, Nat.reduceAdd, Nat.reduceMul, Nat.reduceSub, Nat.reduceLT, Nat.reduceLeDiff, Int.reduceLT, Int.reduceLE, Int.reduceEq, Int.reduceNe, Int.reduceAdd, Int.reduceNeg, Int.reduceToNat]
          simp only [FrzVs]
          refine ⟨_, _, rfl, ⟨[.str p.1, strs (qs.map (·.1))], rfl, fun i c hc => ?_, rfl⟩, rfl⟩
          match i, hc with
          | 0, hc => cases hc; exact ⟨_, rfl, .d _⟩
          | 1, hc => cases hc; exact ⟨_, rfl, hfz _ rfl rfl⟩
        · rintro _ rfl; split <;> rfl
        · rintro _ rfl
          cases hr : rightL (p.1, qs.map (·.1))
          · simp (config := { maxSteps := 1000000 }) only [go_sem, ↓reduceIte, Nat.reduceEqDiff, Nat.reduceAdd, Nat.reduceMul, Nat.reduceSub, Nat.reduceLT, Nat.reduceLeDiff, Int.reduceLT, Int.reduceLE, Int.reduceEq, Int.reduceNe, Int.reduceAdd, Int.reduceNeg, Int.reduceToNat, o2, o3, o4, o5, o6, e2, e3, e4, e5, e6, buildA]
            refine ⟨_, frzR_line (l := ([], [])) (.d .nsl), ?_⟩
            simp [partsR, hok, hr]
          · simp (config := { maxSteps := 1000000 }) only [go_sem, ↓reduceIte, Nat.reduceEqDiff, Nat.reduceAdd, Nat.reduceMul, Nat.reduceSub, Nat.reduceLT, Nat.reduceLeDiff, Int.reduceLT, Int.reduceLE, Int.reduceEq, Int.reduceNe, Int.reduceAdd, Int.reduceNeg, Int.reduceToNat, o2, o3, o4, o5, o6, e2, e3, e4, e5, e6]
            refine ⟨_, frzR_line (l := (p.1, qs.map (·.1))) (hfz _ ?_ ?_), ?_⟩
            · rfl
            · simp [upd]
            · simp [partsR, hok, hr]
    · rintro g' ob' ⟨hbad, ⟨e2, e3, e4⟩, o2, o3, o4⟩
      rw [v2] at e2; rw [v3] at e3; rw [v4] at e4
      simp (config := { maxSteps := 1000000 }) only [go_sem, ↓reduceIte, Nat.reduceEqDiff, Nat.reduceAdd, Nat.reduceMul, Nat.reduceSub, Nat.reduceLT, Nat.reduceLeDiff, Int.reduceLT, Int.reduceLE, Int.reduceEq, Int.reduceNe, Int.reduceAdd, Int.reduceNeg, Int.reduceToNat, o2, o3, o4, e2, e3, e4]
      refine ⟨_, frzR_line (l := ([], [])) (.d .nsl), ?_⟩
      simp [partsR, hbad]

end Go.Proofs.YtdlogfbbcbbllaaDoor

namespace Go.Proofs.YtdlogfbbcbbllaaDoor
open Go Go.Am

def okL (x : List UInt8) : Bool := decide ((lineP x).2.2 = 0)
def linesOf (ls : List (List UInt8)) : List Line := ls.filterMap fun x => if (lineP x).2.1 = true then some (lineP x).1 else none
/-- The first wrong line's number, and its error. -/
def readFrom : Nat → List (List UInt8) → Option (Nat × Int)
  | _, [] => none
  | n, x :: xs => if okL x = true then readFrom (n + 1) xs else some (n + 1, (lineP x).2.2)
def readB (s : List UInt8) : List Line × Nat × Int :=
  match readFrom 0 (splitB s) with
  | some (n, e) => ([], n, e)
  | none => (linesOf (splitB s), 0, 0)
def readRV (r : List Line × Nat × Int) : AV := .tup [.one (.d (linesD r.1)), iv .i64 r.2.1, iv .i64 r.2.2]

theorem splitB_len : ∀ s : List UInt8, (splitB s).length ≤ s.length + 1
  | [] => by simp [splitB]
  | b :: l => by
    have ih := splitB_len l
    rw [splitB_cons]
    split
    · simp only [List.length_cons]; omega
    · split
      · simp
      · rename_i h; rw [h] at ih; simp only [List.length_cons] at ih ⊢; omega
theorem splitB_text : ∀ s : List UInt8, ∀ x ∈ splitB s, x.length ≤ s.length
  | [], x, h => by simp [splitB] at h; simp [h]
  | b :: l, x, h => by
    have ih := splitB_text l
    rw [splitB_cons] at h
    split at h
    · rcases List.mem_cons.1 h with rfl | h
      · simp
      · have := ih x h; simp only [List.length_cons]; omega
    · split at h
      · simp at h; simp [h]
      · rename_i y ys hy
        rcases List.mem_cons.1 h with rfl | h
        · have := ih y (by rw [hy]; simp); simp only [List.length_cons]; omega
        · have := ih x (by rw [hy]; simp [h]); simp only [List.length_cons]; omega

theorem linesOf_take {ls : List (List UInt8)} {k : Nat} {x : List UInt8} (h : ls[k]? = some x) : linesOf (ls.take (k + 1)) = linesOf (ls.take k) ++ (if (lineP x).2.1 = true then [(lineP x).1] else []) := by
  unfold linesOf
  rw [List.take_add_one, h, List.filterMap_append]
  congr 1
  simp only [Option.toList_some, List.filterMap_cons, List.filterMap_nil]
  split <;> simp_all
theorem readFrom_wrong : ∀ {ls : List (List UInt8)} {n k : Nat} {x : List UInt8}, ls[k]? = some x → (ls.take k).all okL = true → okL x = false → readFrom n ls = some (n + k + 1, (lineP x).2.2)
  | [], n, k, x, h, _, _ => by simp at h
  | y :: ls, n, 0, x, h, _, hx => by simp at h; subst h; simp [readFrom, hx]
  | y :: ls, n, k + 1, x, h, ha, hx => by
    simp only [List.take_succ_cons, List.all_cons, Bool.and_eq_true] at ha
    simp only [readFrom, ha.1, if_true]
    rw [readFrom_wrong (by simpa using h) ha.2 hx]
    congr 2; omega
theorem readFrom_right : ∀ {ls : List (List UInt8)} {n : Nat}, ls.all okL = true → readFrom n ls = none
  | [], _, _ => rfl
  | y :: ls, n, h => by
    simp only [List.all_cons, Bool.and_eq_true] at h
    simp only [readFrom, h.1, if_true]
    exact readFrom_right h.2
theorem linesOf_len (ls : List (List UInt8)) : (linesOf ls).length ≤ ls.length := List.length_filterMap_le _ _

structure JRead (G : Nat → Nat) (ls : List (List UInt8)) (k : Nat) (g : Nat → Nat) (ob : Obs) : Prop where
  ok : (ls.take k).all okL = true
  g2 : g 2 = G 2 ∧ g 3 = G 3 ∧ g 4 = G 4 ∧ g 5 = G 5 ∧ g 6 = G 6
  o2 : ob 2 = some [.d .nsl]
  o3 : ob 3 = some [.d (.int .i64 0)]
  o4 : ob 4 = some [.d (.int .i64 0)]
  o6 : ob 6 = some [.d (.int .i64 k)]
  o5 : ∃ ac, ob 5 = some [ac] ∧ ((linesOf (ls.take k) = [] ∧ ac = .d .nsl) ∨ (linesOf (ls.take k) ≠ [] ∧ ac = .osl 30 (g 30) 2 0 (linesOf (ls.take k)).length ∧ ob 30 = some ((linesOf (ls.take k)).flatMap fun a => (lineD a).map .d)))

structure JxRead (G : Nat → Nat) (ls : List (List UInt8)) (g : Nat → Nat) (ob : Obs) : Prop where
  bad : ∃ (n : Nat) (e : Int), readFrom 0 ls = some (n, e) ∧ ob 3 = some [.d (.int .i64 n)] ∧ ob 4 = some [.d (.int .i64 e)]
  g2 : g 2 = G 2 ∧ g 3 = G 3 ∧ g 4 = G 4
  o2 : ob 2 = some [.d .nsl]

theorem frzR_read {s : St} {ls : List Line} {ac : C} {n m : Int} (h : Frz s ac (linesD ls)) : FrzR s [.one ac, iv .i64 n, iv .i64 m] (.tup [.one (.d (linesD ls)), iv .i64 n, iv .i64 m]) := by
  refine ⟨_, ?_, rfl⟩
  simp only [FrzVs]
  exact ⟨_, _, rfl, ⟨_, h, rfl⟩, _, _, rfl, ⟨.int .i64 n, .d (.int .i64 n), rfl⟩, _, _, rfl, ⟨.int .i64 m, .d (.int .i64 m), rfl⟩, rfl⟩

set_option maxHeartbeats 8000000 in
theorem Read_A (s : List UInt8) (hs : s.length ≤ 1000000) : PureR Tryd.prog 14 [sv s] (· = readRV (readB s)) := by
  refine pure_of_wpRF 0 Tt_ok Tryd.func14 rfl (by rfl) [.cell 2 23, .cell 3 3, .cell 4 24] rfl (by kernel_rfl) (by kernel_rfl) (by simp [Tryd.ntmps14]) fun b₀ β0 s0 w0 g => ?_
  simp (config := { maxSteps := 1000000 }) only [go_sem, ↓reduceIte, Nat.reduceEqDiff, Nat.reduceAdd, Nat.reduceMul, Nat.reduceSub, Nat.reduceLT, Nat.reduceLeDiff, Int.reduceLT, Int.reduceLE, Int.reduceEq, Int.reduceNe, Int.reduceAdd, Int.reduceNeg, Int.reduceToNat]
  refine hook_funF kept_phiC rfl (by simp (config := { maxSteps := 1000000 }) only [go_sem, ↓reduceIte, Nat.reduceEqDiff, Nat.reduceAdd, Nat.reduceMul, Nat.reduceSub, Nat.reduceLT, Nat.reduceLeDiff, Int.reduceLT, Int.reduceLE, Int.reduceEq, Int.reduceNe, Int.reduceAdd, Int.reduceNeg, Int.reduceToNat]; exact SplitSeq_A 300 s _ _) ?_
  rintro _ g1 ob1 ⟨rfl, o303, o304, o305, hsame⟩
  obtain ⟨G, hG⟩ : ∃ G, g1 = G := ⟨_, rfl⟩
  have v2 : G 2 = nxC 24 (g 2) := by rw [← hG]; exact (hsame 2 (by decide) (by decide) (by decide)).1.trans (by simp [upd])
  have v3 : G 3 = nxC 4 (g 3) := by rw [← hG]; exact (hsame 3 (by decide) (by decide) (by decide)).1.trans (by simp [upd])
  have v4 : G 4 = nxC 25 (g 4) := by rw [← hG]; exact (hsame 4 (by decide) (by decide) (by decide)).1.trans (by simp [upd])
  have v5 : G 5 = nxC 24 (g 5) := by rw [← hG]; exact (hsame 5 (by decide) (by decide) (by decide)).1.trans (by simp [upd])
  have v6 : G 6 = nxC 4 (g 6) := by rw [← hG]; exact (hsame 6 (by decide) (by decide) (by decide)).1.trans (by simp [upd])
  unfold readB
  have hnl := splitB_len s
  have htx := splitB_text s
  obtain ⟨ls, hls⟩ : ∃ ls, splitB s = ls := ⟨_, rfl⟩
  rw [hls] at hnl htx ⊢
  simp (config := { maxSteps := 1000000 }) only [go_sem, ↓reduceIte, Nat.reduceEqDiff, Nat.reduceAdd, Nat.reduceMul, Nat.reduceSub, Nat.reduceLT, Nat.reduceLeDiff, Int.reduceLT, Int.reduceLE, Int.reduceEq, Int.reduceNe, Int.reduceAdd, Int.reduceNeg, Int.reduceToNat]
  refine hook_range Tt_ok (fid := 40) (caps := [.ptr 304 (g1 304) 0, .ptr 303 (g1 303) 0, .ptr 305 (g1 305) 0]) (by simp (config := { maxSteps := 1000000 }) only [go_sem, ↓reduceIte, Nat.reduceEqDiff, Nat.reduceAdd, Nat.reduceMul, Nat.reduceSub, Nat.reduceLT, Nat.reduceLeDiff, Int.reduceLT, Int.reduceLE, Int.reduceEq, Int.reduceNe, Int.reduceAdd, Int.reduceNeg, Int.reduceToNat]) 400 (fun id => id = 400 ∨ id = 300 + 3 ∨ id = 300 + 4 ∨ id = 300 + 5) (fun id => id = 300 + 3 ∨ id = 300 + 4 ∨ id = 300 + 5) (.inl rfl) (by decide) (fun id h => .inr h) (fun x => [sv x]) ls (fun x => rfl) (by kernel_rfl) (by kernel_rfl)
    (fun g' ob' h => by
      rw [← hls]
      exact splitSeqIt_A 300 s (by omega) (h 303 (by decide)).1 (h 304 (by decide)).1 (h 305 (by decide)).1 ((h 303 (by decide)).2.trans o303) ((h 304 (by decide)).2.trans o304) ((h 305 (by decide)).2.trans o305)) (JRead G ls) (JxRead G ls) ?_ ?_ ?_ ?_ ?_ ?_
  · rintro k g ob g' ob' ⟨a1, a2, a3, a4, a5, a6, a7⟩ h
    have hh : ∀ id, id = 2 ∨ id = 3 ∨ id = 4 ∨ id = 5 ∨ id = 6 ∨ id = 30 → g' id = g id ∧ ob' id = ob id := fun id hid => h id (by omega)
    have h2 := hh 2 (by simp)
    have h3 := hh 3 (by simp)
    have h4 := hh 4 (by simp)
    have h5 := hh 5 (by simp)
    have h6 := hh 6 (by simp)
    have h30 := hh 30 (by simp)
    exact ⟨a1, by rw [h2.1, h3.1, h4.1, h5.1, h6.1]; exact a2, by rw [h2.2]; exact a3, by rw [h3.2]; exact a4, by rw [h4.2]; exact a5, by rw [h6.2]; exact a6, by rw [h5.2, h30.1, h30.2]; exact a7⟩
  · rintro g ob g' ob' ⟨a1, a2, a3⟩ h
    have hh : ∀ id, id = 2 ∨ id = 3 ∨ id = 4 → g' id = g id ∧ ob' id = ob id := fun id hid => h id (by omega)
    have h2 := hh 2 (by simp)
    have h3 := hh 3 (by simp)
    have h4 := hh 4 (by simp)
    exact ⟨by rw [h3.2, h4.2]; exact a1, by rw [h2.1, h3.1, h4.1]; exact a2, by rw [h2.2]; exact a3⟩
  · subst hG
    have e2 := hsame 2 (by decide) (by decide) (by decide)
    have e3 := hsame 3 (by decide) (by decide) (by decide)
    have e4 := hsame 4 (by decide) (by decide) (by decide)
    have e5 := hsame 5 (by decide) (by decide) (by decide)
    have e6 := hsame 6 (by decide) (by decide) (by decide)
    refine ⟨rfl, ⟨rfl, rfl, rfl, rfl, rfl⟩, ?_, ?_, ?_, ?_, ⟨_, ?_, .inl ⟨rfl, rfl⟩⟩⟩
    · exact e2.2.trans (by simp [upd])
    · exact e3.2.trans (by simp [upd])
    · exact e4.2.trans (by simp [upd])
    · exact e6.2.trans (by simp [upd])
    · exact e5.2.trans (by simp [upd])
  · rintro k x g2 ob2 hx ⟨hok, ⟨e2, e3, e4, e5, e6⟩, o2, o3, o4, o6, ac, o5, hac⟩ l Φ hΦ
    have hm := List.mem_of_getElem? hx
    have hlt := (List.getElem?_eq_some_iff.1 hx).1
    have hxl : x.length ≤ s.length := htx x hm
    have hw := wrap_succ (k := k) (by omega)
    rw [v2] at e2; rw [v3] at e3; rw [v4] at e4; rw [v5] at e5; rw [v6] at e6
    simp (config := { maxSteps := 1000000 }) only [go_sem, ↓reduceIte, Nat.reduceEqDiff, Nat.reduceAdd, Nat.reduceMul, Nat.reduceSub, Nat.reduceLT, Nat.reduceLeDiff, Int.reduceLT, Int.reduceLE, Int.reduceEq, Int.reduceNe, Int.reduceAdd, Int.reduceNeg, Int.reduceToNat]
    intro o Φ' hΦ'
    simp (config := { maxSteps := 1000000 }) only [go_sem, ↓reduceIte, Nat.reduceEqDiff, Nat.reduceAdd, Nat.reduceMul, Nat.reduceSub, Nat.reduceLT, Nat.reduceLeDiff, Int.reduceLT, Int.reduceLE, Int.reduceEq, Int.reduceNe, Int.reduceAdd, Int.reduceNeg, Int.reduceToNat, o2, o3, o4, o5, o6, e2, e3, e4, e5, e6, hw]
    refine hook_callF hΦ' rfl (by simp (config := { maxSteps := 1000000 }) only [go_sem, ↓reduceIte, Nat.reduceEqDiff, Nat.reduceAdd, Nat.reduceMul, Nat.reduceSub, Nat.reduceLT, Nat.reduceLeDiff, Int.reduceLT, Int.reduceLE, Int.reduceEq, Int.reduceNe, Int.reduceAdd, Int.reduceNeg, Int.reduceToNat]; exact line_A x (by omega)) (by simp (config := { maxSteps := 1000000 }) only [go_sem, ↓reduceIte, Nat.reduceEqDiff, Nat.reduceAdd, Nat.reduceMul, Nat.reduceSub, Nat.reduceLT, Nat.reduceLeDiff, Int.reduceLT, Int.reduceLE, Int.reduceEq, Int.reduceNe, Int.reduceAdd, Int.reduceNeg, Int.reduceToNat, lineRV, lineV]; rfl) ?_
    rintro _ rfl
    simp (config := { maxSteps := 1000000 }) only [go_sem, ↓reduceIte, Nat.reduceEqDiff, Nat.reduceAdd, Nat.reduceMul, Nat.reduceSub, Nat.reduceLT, Nat.reduceLeDiff, Int.reduceLT, Int.reduceLE, Int.reduceEq, Int.reduceNe, Int.reduceAdd, Int.reduceNeg, Int.reduceToNat, lineRV, lineV, o2, o3, o4, o5, o6, e2, e3, e4, e5, e6, hw]
    refine ⟨fun he => ?_, fun he => ?_⟩
    · refine draw_detF (B := 0) Tt_ok mixed hΦ' [2, 3, 4] [([6], [0], [], false), ([10], [0, 1], [], false), ([2], [], [0], false), ([3, 24], [], [1], false), ([4, 25], [], [], true)] 3 rfl (by decide +kernel) rfl (by decide) ?_
      simp (config := { maxSteps := 1000000 }) only [go_sem, ↓reduceIte, Nat.reduceEqDiff, Nat.reduceAdd, Nat.reduceMul, Nat.reduceSub, Nat.reduceLT, Nat.reduceLeDiff, Int.reduceLT, Int.reduceLE, Int.reduceEq, Int.reduceNe, Int.reduceAdd, Int.reduceNeg, Int.reduceToNat, o2, o3, o4, o5, o6, e2, e3, e4, e5, e6]
      iterate 2 (apply det_pure; · (intro fa ga oa K' hK; simp (config := { maxSteps := 1000000 }) only [go_sem, ↓reduceIte, Nat.reduceEqDiff, Nat.reduceAdd, Nat.reduceMul, Nat.reduceSub, Nat.reduceLT, Nat.reduceLeDiff, Int.reduceLT, Int.reduceLE, Int.reduceEq, Int.reduceNe, Int.reduceAdd, Int.reduceNeg, Int.reduceToNat, o2, o3, o4, o5, o6, e2, e3, e4, e5, e6] at hK ⊢; exact hK))
      iterate 2 (apply det_store; (focus simp); (focus (intro fa ga oa K' hK; simp (config := { maxSteps := 1000000 }) only [go_sem, ↓reduceIte, Nat.reduceEqDiff, Nat.reduceAdd, Nat.reduceMul, Nat.reduceSub, Nat.reduceLT, Nat.reduceLeDiff, Int.reduceLT, Int.reduceLE, Int.reduceEq, Int.reduceNe, Int.reduceAdd, Int.reduceNeg, Int.reduceToNat, o2, o3, o4, o5, o6, e2, e3, e4, e5, e6] at hK ⊢; exact hK)))
      apply det_last
      intro K' hK'
      simp (config := { maxSteps := 1000000 }) only [go_sem, ↓reduceIte, Nat.reduceEqDiff, Nat.reduceAdd, Nat.reduceMul, Nat.reduceSub, Nat.reduceLT, Nat.reduceLeDiff, Int.reduceLT, Int.reduceLE, Int.reduceEq, Int.reduceNe, Int.reduceAdd, Int.reduceNeg, Int.reduceToNat, o2, o3, o4, o5, o6, e2, e3, e4, e5, e6]
      refine hK' _ ?_
      clear hK' K'
      simp (config := { maxSteps := 1000000 }) only [go_sem, ↓reduceIte, Nat.reduceEqDiff, Nat.reduceAdd, Nat.reduceMul, Nat.reduceSub, Nat.reduceLT, Nat.reduceLeDiff, Int.reduceLT, Int.reduceLE, Int.reduceEq, Int.reduceNe, Int.reduceAdd, Int.reduceNeg, Int.reduceToNat]
      have hw1 : okL x = false := by simpa [okL] using he
      refine ⟨fun id hid => ?_, ⟨⟨k + 1, (lineP x).2.2, ?_, ?_, ?_⟩, ⟨?_, ?_, ?_⟩, ?_⟩⟩
      · rcases hid with rfl | rfl | rfl | rfl <;> simp
      · have := readFrom_wrong (n := 0) hx hok hw1
        rw [this]; congr 2; omega
      · simp [upd]
      · simp [upd]
      · simp [upd, e2, v2]
      · simp [upd, e3, v3]
      · simp [upd, e4, v4]
      · simp [upd]
    · have hok' : okL x = true := by simpa [okL] using he
      cases hth : (lineP x).2.1
      · simp (config := { maxSteps := 1000000 }) only [go_sem, ↓reduceIte, Nat.reduceEqDiff, Nat.reduceAdd, Nat.reduceMul, Nat.reduceSub, Nat.reduceLT, Nat.reduceLeDiff, Int.reduceLT, Int.reduceLE, Int.reduceEq, Int.reduceNe, Int.reduceAdd, Int.reduceNeg, Int.reduceToNat, hth]
        refine ⟨fun id hid => by rcases hid with rfl | rfl | rfl | rfl <;> simp, ⟨all_take hx hok hok', ⟨by simp [upd, e2, v2], by simp [upd, e3, v3], by simp [upd, e4, v4], by simp [upd, e5, v5], by simp [upd, e6, v6]⟩, by simp [upd, o2], by simp [upd, o3], by simp [upd, o4], by simp [upd], ⟨ac, by simp [upd, o5], ?_⟩⟩⟩
        rw [linesOf_take hx, hth, if_neg (by simp), List.append_nil]
        simpa [upd] using hac
      · have hd1 : (linesOf (ls.take k)).length ≤ 2000000 := by have := linesOf_len (ls.take k); simp only [List.length_take] at this; omega
        have hfin : ∀ (G' : Nat → Nat) (ob' : Obs) (ac' : C), G' 2 = g2 2 → G' 3 = g2 3 → G' 4 = g2 4 → G' 5 = g2 5 → G' 6 = g2 6 → ob' 2 = ob2 2 → ob' 3 = ob2 3 → ob' 4 = ob2 4 → ob' 6 = some [.d (.int .i64 ((k + 1 : Nat) : Int))] → ob' 5 = some [ac'] →
            ac' = .osl 30 (G' 30) 2 0 ((linesOf (ls.take k)).length + 1) → ob' 30 = some (((linesOf (ls.take k)).flatMap fun a => (lineD a).map .d) ++ (lineD (lineP x).1).map .d) → JRead G ls (k + 1) G' ob' := by
          intro G' ob' ac' h1 h2 h3 h4 h5 p2 p3 p4 p6 p5 h30 p30
          refine ⟨all_take hx hok hok', ⟨by rw [h1, e2, v2], by rw [h2, e3, v3], by rw [h3, e4, v4], by rw [h4, e5, v5], by rw [h5, e6, v6]⟩, p2.trans o2, p3.trans o3, p4.trans o4, p6, ⟨ac', p5, .inr ⟨?_, ?_, ?_⟩⟩⟩
          · rw [linesOf_take hx, hth]; simp
          · rw [linesOf_take hx, hth, h30]; simp
          · rw [linesOf_take hx, hth, p30]; simp [List.flatMap_append]
        rcases hac with ⟨hw1, rfl⟩ | ⟨hw1, rfl, o30⟩
        · simp (config := { maxSteps := 1000000 }) only [go_sem, ↓reduceIte, Nat.reduceEqDiff, Nat.reduceAdd, Nat.reduceMul, Nat.reduceSub, Nat.reduceLT, Nat.reduceLeDiff, Int.reduceLT, Int.reduceLE, Int.reduceEq, Int.reduceNe, Int.reduceAdd, Int.reduceNeg, Int.reduceToNat, hth, o2, o3, o4, o5, o6, e2, e3, e4, e5, e6, elemTy]
          refine ⟨⟨by decide, by decide⟩, fun id hid => by rcases hid with rfl | rfl | rfl | rfl <;> simp, hfin _ _ _ ?_ ?_ ?_ ?_ ?_ ?_ ?_ ?_ ?_ (by simp [upd]; rfl) ?_ ?_⟩
          all_goals simp [upd, hw1, lineD]
        · simp (config := { maxSteps := 1000000 }) only [go_sem, ↓reduceIte, Nat.reduceEqDiff, Nat.reduceAdd, Nat.reduceMul, Nat.reduceSub, Nat.reduceLT, Nat.reduceLeDiff, Int.reduceLT, Int.reduceLE, Int.reduceEq, Int.reduceNe, Int.reduceAdd, Int.reduceNeg, Int.reduceToNat, hth, o2, o3, o4, o5, o6, o30, e2, e3, e4, e5, e6, elemTy]
          have hfl : ((linesOf (ls.take k)).flatMap fun a => (lineD a).map C.d).length = (linesOf (ls.take k)).length * 2 := by
            generalize linesOf (ls.take k) = L
            induction L with
            | nil => rfl
            | cons a L ih => rw [List.flatMap_cons, List.length_append, ih]; simp only [lineD, List.length_map, List.length_cons, List.length_nil]; omega
          refine ⟨Nat.le_of_eq hfl.symm, ⟨by decide, by omega⟩, fun id hid => by rcases hid with rfl | rfl | rfl | rfl <;> simp, hfin _ _ _ ?_ ?_ ?_ ?_ ?_ ?_ ?_ ?_ ?_ (by simp [upd]; rfl) ?_ ?_⟩
          all_goals simp [upd, lineD]
          exact List.take_of_length_le (Nat.le_of_eq hfl)
  · rintro g' ob' ⟨hok, ⟨e2, e3, e4, e5, e6⟩, o2, o3, o4, o6, ac, o5, hac⟩
    rw [v2] at e2; rw [v3] at e3; rw [v4] at e4; rw [v5] at e5; rw [v6] at e6
    rw [List.take_of_length_le (Nat.le_refl _)] at hok hac
    simp (config := { maxSteps := 1000000 }) only [go_sem, ↓reduceIte, Nat.reduceEqDiff, Nat.reduceAdd, Nat.reduceMul, Nat.reduceSub, Nat.reduceLT, Nat.reduceLeDiff, Int.reduceLT, Int.reduceLE, Int.reduceEq, Int.reduceNe, Int.reduceAdd, Int.reduceNeg, Int.reduceToNat, o2, o3, o4, o5, o6, e2, e3, e4, e5, e6]
    refine ⟨_, frzR_read (ls := linesOf ls) ?_, ?_⟩
    · rcases hac with ⟨hw1, rfl⟩ | ⟨hw1, rfl, o30⟩
      · rw [hw1]; exact .d .nsl
      · exact frz_rows rfl (linesOf ls) lineD (by simp [upd, o30]) rfl (fun a _ x hx => by simp [lineD, strs] at hx; rcases hx with rfl | rfl <;> rfl) (fun a _ => rfl) rfl
    · rw [readFrom_right hok]; rfl
  · rintro g' ob' ⟨⟨n, e, hr, o3, o4⟩, ⟨e2, e3, e4⟩, o2⟩
    rw [v2] at e2; rw [v3] at e3; rw [v4] at e4
    simp (config := { maxSteps := 1000000 }) only [go_sem, ↓reduceIte, Nat.reduceEqDiff, Nat.reduceAdd, Nat.reduceMul, Nat.reduceSub, Nat.reduceLT, Nat.reduceLeDiff, Int.reduceLT, Int.reduceLE, Int.reduceEq, Int.reduceNe, Int.reduceAdd, Int.reduceNeg, Int.reduceToNat, o2, o3, o4, e2, e3, e4]
    refine ⟨_, frzR_read (ls := []) (.d .nsl), ?_⟩
    rw [hr]; rfl

end Go.Proofs.YtdlogfbbcbbllaaDoor

namespace Go.Proofs.YtdlogfbbcbbllaaDoor
open Go Go.Am

theorem take_next_eq {α : Type} {a b : List α} {k : Nat} {x y : α} (hx : a[k]? = some x) (hy : b[k]? = some y) (h : a.take k = b.take k) (e : x = y) : a.take (k + 1) = b.take (k + 1) := by
  rw [List.take_add_one, List.take_add_one, hx, hy, h, e]
theorem get_ne {α : Type} {a b : List α} {k : Nat} {x y : α} (hx : a[k]? = some x) (hy : b[k]? = some y) (e : x ≠ y) : a ≠ b := by
  rintro rfl; rw [hx] at hy; exact e (Option.some.inj hy)

set_option maxHeartbeats 4000000 in
theorem Same_A (a b : List Line) (ha : a.length ≤ 1000000000) (hwa : ∀ l ∈ a, l.2.length ≤ 1000000000) : PureR Tryd.prog 16 [.one (.d (linesD a)), .one (.d (linesD b))] (· = bv (decide (a = b))) := by
  refine pure_of_wp Tt_ok mixed Tryd.func16 rfl (by rfl) [4] rfl (by kernel_rfl) (by simp [Tryd.ntmps16]) fun g => ?_
  simp (config := { maxSteps := 1000000 }) only [go_sem, ↓reduceIte, Nat.reduceEqDiff, Nat.reduceAdd, Nat.reduceMul, Nat.reduceSub, Nat.reduceLT, Nat.reduceLeDiff, Int.reduceLT, Int.reduceLE, Int.reduceEq, Int.reduceNe, Int.reduceAdd, Int.reduceNeg, Int.reduceToNat, linesD]
  refine ⟨fun hne => ?_, fun heq => ?_⟩
  · have : a ≠ b := fun e => hne (by rw [e])
    simp [this]
  have hlen : a.length = b.length := by omega
  refine loop_intro (fun n st => ∃ k : Nat, n + k = a.length ∧ st.f 0 = .one (.d (.sl (a.map lineD))) ∧ st.f 1 = .one (.d (.sl (b.map lineD))) ∧ st.f 5 = iv .i64 k ∧ a.take k = b.take k) a.length ⟨0, by omega, rfl, rfl, rfl, rfl⟩ ?_
  rintro n f g ob ⟨k, hk, h0, h1, h5, htk⟩
  simp only at h0 h1 h5
  have hw := wrap_succ (k := k) (by omega)
  by_cases hlt : k < a.length
  · obtain ⟨x, hx⟩ := getq hlt
    obtain ⟨y, hy⟩ := getq (l := b) (k := k) (by omega)
    have hgx := lineD_get hx
    have hgy := lineD_get hy
    simp (config := { maxSteps := 1000000 }) only [go_sem, ↓reduceIte, Nat.reduceEqDiff, Nat.reduceAdd, Nat.reduceMul, Nat.reduceSub, Nat.reduceLT, Nat.reduceLeDiff, Int.reduceLT, Int.reduceLE, Int.reduceEq, Int.reduceNe, Int.reduceAdd, Int.reduceNeg, Int.reduceToNat, h0, h1, h5, hlt]
    refine draw_intro (by decide +kernel) ?_
    simp (config := { maxSteps := 1000000 }) only [go_sem, ↓reduceIte, Nat.reduceEqDiff, Nat.reduceAdd, Nat.reduceMul, Nat.reduceSub, Nat.reduceLT, Nat.reduceLeDiff, Int.reduceLT, Int.reduceLE, Int.reduceEq, Int.reduceNe, Int.reduceAdd, Int.reduceNeg, Int.reduceToNat, h0, h1, h5, hgx, hgy, lineD, strs]
    refine ⟨fun hv => ?_, fun hv => ⟨fun hl => ?_, fun hl => ?_⟩⟩
    · have : a ≠ b := get_ne hx hy (fun e => hv (by rw [e]))
      simp [this]
    · have : a ≠ b := get_ne hx hy (fun e => hl (by rw [e]))
      simp [this]
    · have hxl := hwa x (List.mem_of_getElem? hx)
      have hll : x.2.length = y.2.length := by omega
      refine loop_intro (fun m st => ∃ j : Nat, m + j = x.2.length ∧ st.f 0 = .one (.d (.sl (a.map lineD))) ∧ st.f 1 = .one (.d (.sl (b.map lineD))) ∧ st.f 5 = iv .i64 k ∧ st.f 6 = iv .i64 j ∧ x.2.take j = y.2.take j) x.2.length ?_ ?_
      · refine ⟨0, by omega, ?_⟩
        simp (config := { maxSteps := 1000000 }) only [go_sem, ↓reduceIte, Nat.reduceEqDiff, Nat.reduceAdd, Nat.reduceMul, Nat.reduceSub, Nat.reduceLT, Nat.reduceLeDiff, Int.reduceLT, Int.reduceLE, Int.reduceEq, Int.reduceNe, Int.reduceAdd, Int.reduceNeg, Int.reduceToNat, h0, h1, h5]
      · clear h0 h1 h5
        rintro m f g ob ⟨j, hj, h0, h1, h5, h6, htj⟩
        simp only at h0 h1 h5 h6
        have hw2 := wrap_succ (k := j) (by omega)
        by_cases hlt2 : j < x.2.length
        · obtain ⟨u, hu⟩ := getq hlt2
          obtain ⟨v, hv2⟩ := getq (l := y.2) (k := j) (by omega)
          have hgu := strs_get hu
          have hgv := strs_get hv2
          simp (config := { maxSteps := 1000000 }) only [go_sem, ↓reduceIte, Nat.reduceEqDiff, Nat.reduceAdd, Nat.reduceMul, Nat.reduceSub, Nat.reduceLT, Nat.reduceLeDiff, Int.reduceLT, Int.reduceLE, Int.reduceEq, Int.reduceNe, Int.reduceAdd, Int.reduceNeg, Int.reduceToNat, h0, h1, h5, h6, hgx, hlt2, lineD, strs]
          refine draw_intro (by decide +kernel) ?_
          simp (config := { maxSteps := 1000000 }) only [go_sem, ↓reduceIte, Nat.reduceEqDiff, Nat.reduceAdd, Nat.reduceMul, Nat.reduceSub, Nat.reduceLT, Nat.reduceLeDiff, Int.reduceLT, Int.reduceLE, Int.reduceEq, Int.reduceNe, Int.reduceAdd, Int.reduceNeg, Int.reduceToNat, h0, h1, h5, h6, hgx, hgy, hgu, hgv, lineD, strs]
          refine ⟨fun he => ?_, fun he => ?_⟩
          · have : a ≠ b := get_ne hx hy (fun e => get_ne hu hv2 he (by rw [e]))
            simp [this]
          · simp (config := { maxSteps := 1000000 }) only [go_sem, ↓reduceIte, Nat.reduceEqDiff, Nat.reduceAdd, Nat.reduceMul, Nat.reduceSub, Nat.reduceLT, Nat.reduceLeDiff, Int.reduceLT, Int.reduceLE, Int.reduceEq, Int.reduceNe, Int.reduceAdd, Int.reduceNeg, Int.reduceToNat, h6, hw2]
            refine round_end (m - 1) (by omega) ⟨j + 1, by omega, ?_⟩
            simp (config := { maxSteps := 1000000 }) only [go_sem, ↓reduceIte, Nat.reduceEqDiff, Nat.reduceAdd, Nat.reduceMul, Nat.reduceSub, Nat.reduceLT, Nat.reduceLeDiff, Int.reduceLT, Int.reduceLE, Int.reduceEq, Int.reduceNe, Int.reduceAdd, Int.reduceNeg, Int.reduceToNat, h0, h1, h5, h6]
            exact take_next_eq hu hv2 htj (Classical.not_not.1 he)
        · have hxy : x = y := by
            rw [List.take_of_length_le (by omega), List.take_of_length_le (by omega)] at htj
            have hv := Classical.not_not.1 hv
            exact Prod.ext hv htj
          simp (config := { maxSteps := 1000000 }) only [go_sem, ↓reduceIte, Nat.reduceEqDiff, Nat.reduceAdd, Nat.reduceMul, Nat.reduceSub, Nat.reduceLT, Nat.reduceLeDiff, Int.reduceLT, Int.reduceLE, Int.reduceEq, Int.reduceNe, Int.reduceAdd, Int.reduceNeg, Int.reduceToNat, h0, h1, h5, h6, hgx, hlt2, lineD, strs, hw]
          refine round_end (n - 1) (by omega) ⟨k + 1, by omega, ?_⟩
          simp (config := { maxSteps := 1000000 }) only [go_sem, ↓reduceIte, Nat.reduceEqDiff, Nat.reduceAdd, Nat.reduceMul, Nat.reduceSub, Nat.reduceLT, Nat.reduceLeDiff, Int.reduceLT, Int.reduceLE, Int.reduceEq, Int.reduceNe, Int.reduceAdd, Int.reduceNeg, Int.reduceToNat, h0, h1, h5, h6]
          exact take_next_eq hx hy htk hxy
  · rw [List.take_of_length_le (by omega), List.take_of_length_le (by omega)] at htk
    simp (config := { maxSteps := 1000000 }) only [go_sem, ↓reduceIte, Nat.reduceEqDiff, Nat.reduceAdd, Nat.reduceMul, Nat.reduceSub, Nat.reduceLT, Nat.reduceLeDiff, Int.reduceLT, Int.reduceLE, Int.reduceEq, Int.reduceNe, Int.reduceAdd, Int.reduceNeg, Int.reduceToNat, h0, h1, h5, hlt]
    simp [htk]

def fewL (l : Line) : Bool := decide (l.1.length ≤ 100) && decide (l.2.length ≤ 120) && decide ((l.2.map List.length).sum ≤ 21000)
def fewB (ls : List Line) : Bool := decide (ls.length ≤ 20) && ls.all fewL

theorem sum_take {l : List (List UInt8)} {k : Nat} {w : List UInt8} (h : l[k]? = some w) : ((l.take (k + 1)).map List.length).sum = ((l.take k).map List.length).sum + w.length := by
  rw [List.take_add_one, h]; simp [List.sum_append]
theorem sum_bound {l : List (List UInt8)} (h : ∀ w ∈ l, w.length ≤ 1000000000000000) : (l.map List.length).sum ≤ 1000000000000000 * l.length := by
  induction l with
  | nil => simp
  | cons w l ih =>
    have h1 := h w (by simp)
    have h2 := ih (fun w hw => h w (by simp [hw]))
    simp only [List.map_cons, List.sum_cons, List.length_cons]; omega

set_option maxHeartbeats 4000000 in
theorem few_A (ls : List Line) (hw1 : ∀ l ∈ ls, l.1.length ≤ 1000000000000000) (hw2 : ∀ l ∈ ls, ∀ w ∈ l.2, w.length ≤ 1000000000000000) : PureR Tryd.prog 18 [.one (.d (linesD ls))] (· = bv (fewB ls)) := by
  refine pure_of_wp Tt_ok mixed Tryd.func18 rfl (by rfl) [2] rfl (by kernel_rfl) (by simp [Tryd.ntmps18]) fun g => ?_
  simp (config := { maxSteps := 1000000 }) only [go_sem, ↓reduceIte, Nat.reduceEqDiff, Nat.reduceAdd, Nat.reduceMul, Nat.reduceSub, Nat.reduceLT, Nat.reduceLeDiff, Int.reduceLT, Int.reduceLE, Int.reduceEq, Int.reduceNe, Int.reduceAdd, Int.reduceNeg, Int.reduceToNat, linesD]
  refine ⟨fun h20 => ?_, fun h20 => ?_⟩
  · have : ¬ ls.length ≤ 20 := by omega
    simp [fewB, this]
  have hl20 : ls.length ≤ 20 := by omega
  refine loop_intro (fun n st => ∃ k : Nat, n + k = ls.length ∧ st.f 0 = .one (.d (.sl (ls.map lineD))) ∧ st.f 3 = iv .i64 k ∧ (ls.take k).all fewL = true) ls.length ⟨0, by omega, rfl, rfl, by simp⟩ ?_
  rintro n f g ob ⟨k, hk, h0, h3, hall⟩
  simp only at h0 h3
  have hw := wrap_succ (k := k) (by omega)
  by_cases hlt : k < ls.length
  · obtain ⟨x, hx⟩ := getq hlt
    have hgx := lineD_get hx
    have hxm := List.mem_of_getElem? hx
    have hno : fewL x = false → fewB ls = false := fun h => by
      have : ls.all fewL = false := by rw [List.all_eq_false]; exact ⟨x, hxm, by simp [h]⟩
      simp [fewB, this]
    simp (config := { maxSteps := 1000000 }) only [go_sem, ↓reduceIte, Nat.reduceEqDiff, Nat.reduceAdd, Nat.reduceMul, Nat.reduceSub, Nat.reduceLT, Nat.reduceLeDiff, Int.reduceLT, Int.reduceLE, Int.reduceEq, Int.reduceNe, Int.reduceAdd, Int.reduceNeg, Int.reduceToNat, h0, h3, hlt, hgx, lineD, strs]
    refine ⟨fun hv => ?_, fun hv => ⟨fun hl => ?_, fun hl => ?_⟩⟩
    · have : ¬ x.1.length ≤ 100 := by omega
      rw [hno (by simp [fewL, this])]
    · have : ¬ x.2.length ≤ 120 := by omega
      rw [hno (by simp [fewL, this])]
    · refine loop_intro (fun m st => ∃ j : Nat, m + j = x.2.length ∧ st.f 0 = .one (.d (.sl (ls.map lineD))) ∧ st.f 3 = iv .i64 k ∧ st.f 5 = iv .i64 j ∧ st.f 4 = iv .i64 ((x.2.take j).map List.length).sum) x.2.length ?_ ?_
      · refine ⟨0, by omega, ?_⟩
        simp (config := { maxSteps := 1000000 }) only [go_sem, ↓reduceIte, Nat.reduceEqDiff, Nat.reduceAdd, Nat.reduceMul, Nat.reduceSub, Nat.reduceLT, Nat.reduceLeDiff, Int.reduceLT, Int.reduceLE, Int.reduceEq, Int.reduceNe, Int.reduceAdd, Int.reduceNeg, Int.reduceToNat, h0, h3]
        simp
      · clear h0 h3
        rintro m f g ob ⟨j, hj, h0, h3, h5, h4⟩
        simp only at h0 h3 h5 h4
        have hw3 := wrap_succ (k := j) (by omega)
        have hsb := sum_bound (l := x.2) (hw2 x hxm)
        by_cases hlt2 : j < x.2.length
        · obtain ⟨u, hu⟩ := getq hlt2
          have hgu := strs_get hu
          have hst := sum_take hu
          have hsb2 := sum_bound (l := x.2.take (j + 1)) (fun w hw => hw2 x hxm w (List.mem_of_mem_take hw))
          have hws : IntKind.i64.wrap (((((x.2.take j).map List.length).sum : Nat) : Int) + (u.length : Int)) = ((((x.2.take (j + 1)).map List.length).sum : Nat) : Int) := by
            rw [hst] at hsb2 ⊢
            simp only [List.length_take] at hsb2
            rw [wrap_i64] <;> omega
          simp (config := { maxSteps := 1000000 }) only [go_sem, ↓reduceIte, Nat.reduceEqDiff, Nat.reduceAdd, Nat.reduceMul, Nat.reduceSub, Nat.reduceLT, Nat.reduceLeDiff, Int.reduceLT, Int.reduceLE, Int.reduceEq, Int.reduceNe, Int.reduceAdd, Int.reduceNeg, Int.reduceToNat, h0, h3, h5, h4, hgx, hgu, hlt2, lineD, strs, hw3, hws]
          refine round_end (m - 1) (by omega) ⟨j + 1, by omega, ?_⟩
          simp (config := { maxSteps := 1000000 }) only [go_sem, ↓reduceIte, Nat.reduceEqDiff, Nat.reduceAdd, Nat.reduceMul, Nat.reduceSub, Nat.reduceLT, Nat.reduceLeDiff, Int.reduceLT, Int.reduceLE, Int.reduceEq, Int.reduceNe, Int.reduceAdd, Int.reduceNeg, Int.reduceToNat, h0, h3, h5]
        · rw [List.take_of_length_le (by omega)] at h4
          simp (config := { maxSteps := 1000000 }) only [go_sem, ↓reduceIte, Nat.reduceEqDiff, Nat.reduceAdd, Nat.reduceMul, Nat.reduceSub, Nat.reduceLT, Nat.reduceLeDiff, Int.reduceLT, Int.reduceLE, Int.reduceEq, Int.reduceNe, Int.reduceAdd, Int.reduceNeg, Int.reduceToNat, h0, h3, h5, h4, hgx, hlt2, lineD, strs, hw]
          refine ⟨fun hs => ?_, fun hs => ?_⟩
          · have : ¬ (x.2.map List.length).sum ≤ 21000 := by omega
            rw [hno (by simp only [fewL, this, decide_false, Bool.and_false])]
          · refine round_end (n - 1) (by omega) ⟨k + 1, by omega, ?_⟩
            simp (config := { maxSteps := 1000000 }) only [go_sem, ↓reduceIte, Nat.reduceEqDiff, Nat.reduceAdd, Nat.reduceMul, Nat.reduceSub, Nat.reduceLT, Nat.reduceLeDiff, Int.reduceLT, Int.reduceLE, Int.reduceEq, Int.reduceNe, Int.reduceAdd, Int.reduceNeg, Int.reduceToNat, h0]
            refine all_take hx hall ?_
            have q1 : x.1.length ≤ 100 := by omega
            have q2 : x.2.length ≤ 120 := by omega
            have q3 : (x.2.map List.length).sum ≤ 21000 := by omega
            simp only [fewL, q1, q2, q3, decide_true, Bool.and_self]
  · rw [List.take_of_length_le (by omega)] at hall
    simp (config := { maxSteps := 1000000 }) only [go_sem, ↓reduceIte, Nat.reduceEqDiff, Nat.reduceAdd, Nat.reduceMul, Nat.reduceSub, Nat.reduceLT, Nat.reduceLeDiff, Int.reduceLT, Int.reduceLE, Int.reduceEq, Int.reduceNe, Int.reduceAdd, Int.reduceNeg, Int.reduceToNat, h0, h3, hlt]
    simp only [fewB, hl20, hall, decide_true, Bool.and_self]

end Go.Proofs.YtdlogfbbcbbllaaDoor

namespace Go.Proofs.YtdlogfbbcbbllaaDoor
open Go Go.Am

theorem frz_line1 {s : St} {id g : Nat} {v : List UInt8} {ws : List (List UInt8)} {c : C} (hg : s.gen id = g) (ho : s.obj id = some [.d (.str v), c]) (hc : Frz s c (strs ws)) : Frz s (.osl id g 2 0 1) (linesD [(v, ws)]) := by
  refine .osl hg ho (by simp) rfl (fun e he => by simp at he; rw [he]; rfl) (fun j => match j with | 0 => .d (.str v) | _ => c) (fun j x hx => ?_) (fun j x hx => ?_)
  · match j, hx with
    | 0, hx => rfl
    | 1, hx => rfl
    | j + 2, hx => simp [lineD] at hx
  · match j, hx with
    | 0, hx => simp [lineD] at hx; subst hx; exact .d _
    | 1, hx => simp [lineD] at hx; subst hx; exact hc
    | j + 2, hx => simp [lineD] at hx

theorem frzVs_two {s : St} {c1 c2 : C} {x1 x2 : D} (h1 : Frz s c1 x1) (h2 : Frz s c2 x2) : FrzVs s [.one c1, .one c2] [.one (.d x1), .one (.d x2)] := by
  simp only [FrzVs]
  exact ⟨_, _, rfl, ⟨_, h1, rfl⟩, _, _, rfl, ⟨_, h2, rfl⟩, rfl⟩

theorem read1 : readB [97, 100, 100, 32, 120, 32, 34, 97, 32, 98, 34, 32, 35, 32, 110, 111, 116, 101] = ([([97, 100, 100], [[120], [97, 32, 98]])], 0, 0) := by decide +kernel
theorem read2 : readB [115, 97, 121, 32, 34, 92, 110, 34] = ([([115, 97, 121], [[10]])], 0, 0) := by decide +kernel
theorem read3 : readB [10, 49, 32, 97] = ([], 2, 3) := by decide +kernel
theorem read4 : readB [115, 97, 121, 32, 34, 97, 34, 98] = ([], 1, 3) := by decide +kernel

set_option maxHeartbeats 8000000 in
theorem alive_A : PureR Tryd.prog 13 [] (· = bv true) := by
  refine pure_of_wp Tt_ok mixed Tryd.func13 rfl (by rfl) [0] rfl (by kernel_rfl) (by simp [Tryd.ntmps13]) fun g => ?_
  simp (config := { maxSteps := 1000000 }) only [go_sem, ↓reduceIte, Nat.reduceEqDiff, Nat.reduceAdd, Nat.reduceMul, Nat.reduceSub, Nat.reduceLT, Nat.reduceLeDiff, Int.reduceLT, Int.reduceLE, Int.reduceEq, Int.reduceNe, Int.reduceAdd, Int.reduceNeg, Int.reduceToNat]
  refine hook_call rfl (by simp (config := { maxSteps := 1000000 }) only [go_sem, ↓reduceIte, Nat.reduceEqDiff, Nat.reduceAdd, Nat.reduceMul, Nat.reduceSub, Nat.reduceLT, Nat.reduceLeDiff, Int.reduceLT, Int.reduceLE, Int.reduceEq, Int.reduceNe, Int.reduceAdd, Int.reduceNeg, Int.reduceToNat]; exact Read_A [97, 100, 100, 32, 120, 32, 34, 97, 32, 98, 34, 32, 35, 32, 110, 111, 116, 101] (by simp)) (by simp (config := { maxSteps := 1000000 }) only [go_sem, ↓reduceIte, Nat.reduceEqDiff, Nat.reduceAdd, Nat.reduceMul, Nat.reduceSub, Nat.reduceLT, Nat.reduceLeDiff, Int.reduceLT, Int.reduceLE, Int.reduceEq, Int.reduceNe, Int.reduceAdd, Int.reduceNeg, Int.reduceToNat]; rfl) ?_
  rintro _ rfl
  rw [read1]
  simp (config := { maxSteps := 1000000 }) only [go_sem, ↓reduceIte, Nat.reduceEqDiff, Nat.reduceAdd, Nat.reduceMul, Nat.reduceSub, Nat.reduceLT, Nat.reduceLeDiff, Int.reduceLT, Int.reduceLE, Int.reduceEq, Int.reduceNe, Int.reduceAdd, Int.reduceNeg, Int.reduceToNat, readRV]
  refine hook_call rfl (by simp (config := { maxSteps := 1000000 }) only [go_sem, ↓reduceIte, Nat.reduceEqDiff, Nat.reduceAdd, Nat.reduceMul, Nat.reduceSub, Nat.reduceLT, Nat.reduceLeDiff, Int.reduceLT, Int.reduceLE, Int.reduceEq, Int.reduceNe, Int.reduceAdd, Int.reduceNeg, Int.reduceToNat]; exact Read_A [115, 97, 121, 32, 34, 92, 110, 34] (by simp)) (by simp (config := { maxSteps := 1000000 }) only [go_sem, ↓reduceIte, Nat.reduceEqDiff, Nat.reduceAdd, Nat.reduceMul, Nat.reduceSub, Nat.reduceLT, Nat.reduceLeDiff, Int.reduceLT, Int.reduceLE, Int.reduceEq, Int.reduceNe, Int.reduceAdd, Int.reduceNeg, Int.reduceToNat]; rfl) ?_
  rintro _ rfl
  rw [read2]
  simp (config := { maxSteps := 1000000 }) only [go_sem, ↓reduceIte, Nat.reduceEqDiff, Nat.reduceAdd, Nat.reduceMul, Nat.reduceSub, Nat.reduceLT, Nat.reduceLeDiff, Int.reduceLT, Int.reduceLE, Int.reduceEq, Int.reduceNe, Int.reduceAdd, Int.reduceNeg, Int.reduceToNat, readRV]
  refine hook_call rfl (by simp (config := { maxSteps := 1000000 }) only [go_sem, ↓reduceIte, Nat.reduceEqDiff, Nat.reduceAdd, Nat.reduceMul, Nat.reduceSub, Nat.reduceLT, Nat.reduceLeDiff, Int.reduceLT, Int.reduceLE, Int.reduceEq, Int.reduceNe, Int.reduceAdd, Int.reduceNeg, Int.reduceToNat]; exact Read_A [10, 49, 32, 97] (by simp)) (by simp (config := { maxSteps := 1000000 }) only [go_sem, ↓reduceIte, Nat.reduceEqDiff, Nat.reduceAdd, Nat.reduceMul, Nat.reduceSub, Nat.reduceLT, Nat.reduceLeDiff, Int.reduceLT, Int.reduceLE, Int.reduceEq, Int.reduceNe, Int.reduceAdd, Int.reduceNeg, Int.reduceToNat]; rfl) ?_
  rintro _ rfl
  rw [read3]
  simp (config := { maxSteps := 1000000 }) only [go_sem, ↓reduceIte, Nat.reduceEqDiff, Nat.reduceAdd, Nat.reduceMul, Nat.reduceSub, Nat.reduceLT, Nat.reduceLeDiff, Int.reduceLT, Int.reduceLE, Int.reduceEq, Int.reduceNe, Int.reduceAdd, Int.reduceNeg, Int.reduceToNat, readRV]
  refine hook_call rfl (by simp (config := { maxSteps := 1000000 }) only [go_sem, ↓reduceIte, Nat.reduceEqDiff, Nat.reduceAdd, Nat.reduceMul, Nat.reduceSub, Nat.reduceLT, Nat.reduceLeDiff, Int.reduceLT, Int.reduceLE, Int.reduceEq, Int.reduceNe, Int.reduceAdd, Int.reduceNeg, Int.reduceToNat]; exact Read_A [115, 97, 121, 32, 34, 97, 34, 98] (by simp)) (by simp (config := { maxSteps := 1000000 }) only [go_sem, ↓reduceIte, Nat.reduceEqDiff, Nat.reduceAdd, Nat.reduceMul, Nat.reduceSub, Nat.reduceLT, Nat.reduceLeDiff, Int.reduceLT, Int.reduceLE, Int.reduceEq, Int.reduceNe, Int.reduceAdd, Int.reduceNeg, Int.reduceToNat]; rfl) ?_
  rintro _ rfl
  rw [read4]
  simp (config := { maxSteps := 1000000 }) only [go_sem, ↓reduceIte, Nat.reduceEqDiff, Nat.reduceAdd, Nat.reduceMul, Nat.reduceSub, Nat.reduceLT, Nat.reduceLeDiff, Int.reduceLT, Int.reduceLE, Int.reduceEq, Int.reduceNe, Int.reduceAdd, Int.reduceNeg, Int.reduceToNat, readRV, elemTy, buildA]
  refine hook_view rfl (xs := [.one (.d (linesD [([97, 100, 100], [[120], [97, 32, 98]])])), .one (.d (linesD [([97, 100, 100], [[120], [97, 32, 98]])]))]) ?_ (Same_A _ _ (by simp) (by simp)) (by rintro _ rfl; rfl) ?_
  · simp (config := { maxSteps := 1000000 }) only [go_sem, ↓reduceIte, Nat.reduceEqDiff, Nat.reduceAdd, Nat.reduceMul, Nat.reduceSub, Nat.reduceLT, Nat.reduceLeDiff, Int.reduceLT, Int.reduceLE, Int.reduceEq, Int.reduceNe, Int.reduceAdd, Int.reduceNeg, Int.reduceToNat]
    refine frzVs_two (.d (.sl _)) (frz_line1 (by simp [upd]) (by simp [upd]; rfl) ?_)
    exact frz_map (cells := [.d (.str [120]), .d (.str [97, 32, 98])]) (by simp [upd]) (by simp [upd]) [[120], [97, 32, 98]] (fun w => .str w) (fun _ => rfl) rfl (fun j a h => by
      match j, h with
      | 0, h => cases h; rfl
      | 1, h => cases h; rfl) (by simp)
  · rintro _ rfl
    simp (config := { maxSteps := 1000000 }) only [go_sem, ↓reduceIte, Nat.reduceEqDiff, Nat.reduceAdd, Nat.reduceMul, Nat.reduceSub, Nat.reduceLT, Nat.reduceLeDiff, Int.reduceLT, Int.reduceLE, Int.reduceEq, Int.reduceNe, Int.reduceAdd, Int.reduceNeg, Int.reduceToNat, linesD, lineD, strs]

end Go.Proofs.YtdlogfbbcbbllaaDoor

namespace Go.Proofs.YtdlogfbbcbbllaaDoor
open Go Go.Am

theorem cutP_pos {c : UInt8} {r : List UInt8} (h : (cutP (c :: r)).1.2.2 = false) : 0 < (cutP (c :: r)).2 := by
  unfold cutP at h ⊢
  by_cases hc : c = 34
  · simp only [hc, if_true] at h ⊢
    cases hu : unq r with
    | none => rw [hu] at h; simp at h
    | some p => simp
  · simp only [hc, if_false] at h ⊢
    simp only [decide_eq_false_iff_not] at h
    omega

theorem partsF_fuel : ∀ (n m : Nat) (s : List UInt8), s.length < n → s.length < m → partsF n s = partsF m s
  | 0, _, _, h, _ => by omega
  | _ + 1, 0, _, _, h => by omega
  | n + 1, m + 1, s, h1, h2 => by
    have ht := trimS_le s
    unfold partsF
    split
    · rfl
    · rename_i c r htt
      rw [htt] at ht
      split
      · rfl
      · simp only
        split
        · rfl
        · rename_i hb
          simp only [not_or, Bool.not_eq_true, Bool.not_eq_false] at hb
          have hp := cutP_pos hb.1
          simp only [List.length_cons] at ht
          rw [partsF_fuel n m _ (by simp only [List.length_drop, List.length_cons]; omega) (by simp only [List.length_drop, List.length_cons]; omega)]

/-- The parts of a line. -/
def partsS (s : List UInt8) : List Part := partsF (s.length + 1) s
theorem partsF_S {n : Nat} {s : List UInt8} (h : s.length < n) : partsF n s = partsS s := partsF_fuel _ _ _ h (by omega)

theorem partsS_trim {s t : List UInt8} (h : trimS s = trimS t) : partsS s = partsS t := by
  have h1 : partsS s = partsF (s.length + t.length + 1) s := (partsF_S (by omega)).symm
  have h2 : partsS t = partsF (s.length + t.length + 1) t := (partsF_S (by omega)).symm
  rw [h1, h2]
  unfold partsF
  rw [h]

theorem partsS_nil {s : List UInt8} (h : trimS s = []) : partsS s = [] := by unfold partsS partsF; rw [h]
theorem partsS_note {s r : List UInt8} (h : trimS s = 35 :: r) : partsS s = [] := by unfold partsS partsF; rw [h]; simp
theorem partsS_cons {s r : List UInt8} {c : UInt8} (h : trimS s = c :: r) (hc : c ≠ 35) : partsS s =
    if (cutP (c :: r)).1.2.2 = true ∨ overS ((c :: r).drop (cutP (c :: r)).2) = false then [((cutP (c :: r)).1.1, (cutP (c :: r)).1.2.1, true)] else (cutP (c :: r)).1 :: partsS ((c :: r).drop (cutP (c :: r)).2) := by
  have ht := trimS_le s
  rw [h] at ht
  conv => lhs; unfold partsS partsF
  rw [h]
  simp only [hc, if_false]
  split
  · rfl
  · rename_i hb
    simp only [not_or, Bool.not_eq_true, Bool.not_eq_false] at hb
    have hp := cutP_pos hb.1
    simp only [List.length_cons] at ht
    rw [partsF_S (by simp only [List.length_drop, List.length_cons]; omega)]

theorem trimS_blank (s : List UInt8) : trimS (32 :: s) = trimS s := by simp [trimS]
theorem trimS_other {c : UInt8} {s : List UInt8} (h : c ≠ 32) : trimS (c :: s) = c :: s := by
  have : (c == 32) = false := by simpa using h
  simp [trimS, this]
theorem trimS_head {s r : List UInt8} {c : UInt8} (h : trimS s = c :: r) : c ≠ 32 := by
  intro hc
  have := List.head?_dropWhile_not (fun x : UInt8 => x == 32) s
  unfold trimS at h
  rw [h] at this
  simp [hc] at this
theorem trimS_blanks (k : Nat) (s : List UInt8) : trimS (List.replicate k 32 ++ s) = trimS s := by
  induction k with
  | zero => simp
  | succ k ih => rw [List.replicate_succ, List.cons_append, trimS_blank, ih]
theorem trimS_app {s t : List UInt8} : trimS (s ++ t) = if trimS s = [] then trimS t else trimS s ++ t := by
  induction s with
  | nil => simp [trimS]
  | cons c s ih =>
    by_cases hc : c = 32
    · rw [hc, List.cons_append, trimS_blank, trimS_blank, ih]
    · rw [List.cons_append, trimS_other hc, trimS_other hc]; simp
theorem trimS_len {s : List UInt8} (h : s.head? = some 32) : (trimS s).length + 1 ≤ s.length := by
  cases s with
  | nil => simp at h
  | cons c s => simp at h; subst h; rw [trimS_blank]; have := trimS_le s; simp only [List.length_cons]; omega

/-- Behind a word. -/
theorem overS_of {u : List UInt8} (h : overS u = true) : u = [] ∨ ∃ r, u = 32 :: r ∨ u = 35 :: r := by
  cases u with
  | nil => exact .inl rfl
  | cons c r => simp [overS] at h; rcases h with rfl | rfl <;> exact .inr ⟨r, by simp⟩

theorem bareN_app {w u : List UInt8} (h : w.all bareC = true) (hu : overS u = true) : bareN (w ++ u) = w.length := by
  refine bareN_stop ?_ (by simp) (fun c hc => ?_)
  · rw [List.take_left]; exact h
  · rw [List.getElem?_append_right (Nat.le_refl _), Nat.sub_self] at hc
    rcases overS_of hu with rfl | ⟨r, rfl | rfl⟩
    · simp at hc
    · simp at hc; subst hc; decide
    · simp at hc; subst hc; decide

theorem bareN_more {w u : List UInt8} (hu : overS u = true) : bareN (w ++ u) = bareN w := by
  induction w with
  | nil =>
    rcases overS_of hu with rfl | ⟨r, rfl | rfl⟩
    · rfl
    · simp [bareN, List.takeWhile_cons]; decide
    · simp [bareN, List.takeWhile_cons]; decide
  | cons c w ih =>
    unfold bareN at ih ⊢
    rw [List.cons_append, List.takeWhile_cons, List.takeWhile_cons]
    split
    · simp only [List.length_cons]; rw [ih]
    · rfl

theorem unq_more : ∀ (n : Nat) {r : List UInt8} (u : List UInt8), r.length ≤ n → ∀ {p}, unq r = some p → unq (r ++ u) = some p
  | 0, r, u, hn, p, h => by
    have : r = [] := List.eq_nil_of_length_eq_zero (by omega)
    subst this; simp [unq] at h
  | n + 1, [], u, _, p, h => by simp [unq] at h
  | n + 1, c :: r, u, hn, p, h => by
    simp only [List.length_cons] at hn
    by_cases h34 : c = 34
    · subst h34
      unfold unq at h ⊢
      simpa using h
    · by_cases h92 : c = 92
      · subst h92
        cases r with
        | nil => unfold unq at h; simp at h
        | cons d r =>
          simp only [List.length_cons] at hn
          rw [List.cons_append, List.cons_append]
          by_cases hd : d = 34 ∨ d = 92
          · rw [unq_esc hd] at h ⊢
            obtain ⟨q, hq, rfl⟩ := Option.map_eq_some_iff.1 h
            rw [unq_more n u (by omega) hq]; rfl
          · by_cases hd2 : d = 110
            · rw [unq_n hd2] at h ⊢
              obtain ⟨q, hq, rfl⟩ := Option.map_eq_some_iff.1 h
              rw [unq_more n u (by omega) hq]; rfl
            · rw [unq_bad (fun e => hd (.inl e)) (fun e => hd (.inr e)) hd2] at h; cases h
      · rw [List.cons_append, unq_else h34 h92]
        rw [unq_else h34 h92] at h
        obtain ⟨q, hq, rfl⟩ := Option.map_eq_some_iff.1 h
        rw [unq_more n u (by omega) hq]; rfl

theorem cutP_more {c : UInt8} {r u : List UInt8} (hu : overS u = true) (h : (cutP (c :: r)).1.2.2 = false) : cutP (c :: (r ++ u)) = cutP (c :: r) := by
  unfold cutP at h ⊢
  by_cases hc : c = 34
  · simp only [hc, if_true] at h ⊢
    cases hq : unq r with
    | none => rw [hq] at h; simp at h
    | some p => rw [unq_more _ u (Nat.le_refl _) hq]
  · simp only [hc, if_false] at h ⊢
    rw [show c :: (r ++ u) = (c :: r) ++ u from rfl, bareN_more hu]
    rw [List.take_append_of_le_length (bareN_le _)]

theorem cutP_le {c : UInt8} {r : List UInt8} : (cutP (c :: r)).2 ≤ (c :: r).length := by
  unfold cutP
  by_cases hc : c = 34
  · simp only [hc, if_true]
    cases hq : unq r with
    | none => simp
    | some p => have := unq_len _ (Nat.le_refl _) hq; simp only [List.length_cons]; omega
  · simp only [hc, if_false]; exact bareN_le _

def good (ps : List Part) : Bool := ps.all fun p => !p.2.2

/-- What stands behind a line, and is no word, changes nothing. -/
theorem parts_app : ∀ (n : Nat) (x u : List UInt8), x.length ≤ n → overS u = true → partsS u = [] → good (partsS x) = true → partsS (x ++ u) = partsS x := by
  intro n
  induction n with
  | zero =>
    intro x u hn hu hp _
    have : x = [] := List.eq_nil_of_length_eq_zero (by omega)
    subst this
    rw [List.nil_append, hp]; rfl
  | succ n ih =>
    intro x u hn hu hp hg
    cases hx : trimS x with
    | nil =>
      have : trimS (x ++ u) = trimS u := by rw [trimS_app, hx]; simp
      rw [partsS_trim this, hp, partsS_nil hx]
    | cons c r =>
      have hxu : trimS (x ++ u) = c :: (r ++ u) := by rw [trimS_app, hx]; simp
      by_cases hc : c = 35
      · subst hc; rw [partsS_note hxu, partsS_note hx]
      · rw [partsS_cons hx hc] at hg ⊢
        rw [partsS_cons hxu hc]
        split at hg
        · simp [good] at hg
        · rename_i hb
          simp only [not_or, Bool.not_eq_true, Bool.not_eq_false] at hb
          have hle := cutP_le (c := c) (r := r)
          have hpos := cutP_pos hb.1
          have htl := trimS_le x
          rw [hx] at htl
          simp only [List.length_cons] at htl hle
          have hdrop : (c :: (r ++ u)).drop (cutP (c :: r)).2 = (c :: r).drop (cutP (c :: r)).2 ++ u := by
            rw [show c :: (r ++ u) = (c :: r) ++ u from rfl, List.drop_append_of_le_length (by simpa using hle)]
          rw [cutP_more hu hb.1, hdrop]
          have hov : overS ((c :: r).drop (cutP (c :: r)).2 ++ u) = true := by
            cases hd : (c :: r).drop (cutP (c :: r)).2 with
            | nil => rw [List.nil_append]; exact hu
            | cons d r' => rw [hd] at hb; exact hb.2
          rw [if_neg (by simp [hb.1, hov]), if_neg (by simp [hb.1, hb.2])]
          congr 1
          refine ih _ _ ?_ hu hp ?_
          · simp only [List.length_drop, List.length_cons]; omega
          · simp only [good, List.all_cons, Bool.and_eq_true] at hg; exact hg.2

/-- A word's text, of which the word is cut: where it begins. -/
theorem parts_word {q u : List UInt8} {w : List UInt8} {b : Bool} (h : ∀ u, overS u = true → cutP (q ++ u) = ((w, b, false), q.length)) (hq : q ≠ []) (h32 : q.head? ≠ some 32) (h35 : q.head? ≠ some 35) (k : Nat) (hu : overS u = true) : partsS (List.replicate k 32 ++ (q ++ u)) = (w, b, false) :: partsS u := by
  cases q with
  | nil => exact absurd rfl hq
  | cons c r =>
    simp only [List.head?_cons, ne_eq, Option.some.injEq] at h32 h35
    have ht : trimS (List.replicate k 32 ++ (c :: r ++ u)) = c :: (r ++ u) := by rw [trimS_blanks, List.cons_append, trimS_other h32]
    have hc := h u hu
    rw [List.cons_append] at hc
    rw [partsS_cons ht h35, hc]
    have hd : (c :: (r ++ u)).drop (c :: r).length = u := by rw [show c :: (r ++ u) = (c :: r) ++ u from rfl, List.drop_left]
    simp only [hd, hu]
    simp

theorem unq_escs : ∀ (w u : List UInt8), unq (w.flatMap esc ++ 34 :: u) = some (w, (w.flatMap esc).length + 1)
  | [], u => by show unq (34 :: u) = _; unfold unq; simp
  | c :: w, u => by
    have ih := unq_escs w u
    simp only [List.flatMap_cons, List.append_assoc]
    by_cases h1 : c = 34 ∨ c = 92
    · have he : esc c = [92, c] := by simp [esc, h1]
      rw [he]
      simp only [List.cons_append, List.nil_append]
      rw [unq_esc h1, ih]
      simp only [Option.map_some, List.length_cons]
    · by_cases h2 : c = 10
      · have he : esc c = [92, 110] := by simp [esc, h2]
        rw [he]
        simp only [List.cons_append, List.nil_append]
        rw [unq_n rfl, ih]
        simp only [Option.map_some, List.length_cons, h2]
      · have he : esc c = [c] := by simp [esc, h1, h2]
        rw [he]
        simp only [List.cons_append, List.nil_append]
        rw [unq_else (fun e => h1 (.inl e)) (fun e => h1 (.inr e)), ih]
        simp only [Option.map_some, List.length_cons]

theorem cut_quoted (w u : List UInt8) : cutP ((34 :: w.flatMap esc ++ [34]) ++ u) = ((w, false, false), (34 :: w.flatMap esc ++ [34]).length) := by
  have : (34 :: w.flatMap esc ++ [34]) ++ u = 34 :: (w.flatMap esc ++ 34 :: u) := by simp
  rw [this]
  unfold cutP
  simp only [if_true]
  rw [unq_escs]
  simp

theorem bareC_ne {c : UInt8} (h : bareC c = true) : c ≠ 34 ∧ c ≠ 32 ∧ c ≠ 35 ∧ c ≠ 10 := by
  have := bareC_of.1 h
  refine ⟨?_, ?_, ?_, ?_⟩ <;> (rintro rfl; simp at this)

theorem cut_bare {w u : List UInt8} (h : bareW w = true) (hu : overS u = true) : cutP (w ++ u) = ((w, true, false), w.length) := by
  simp only [bareW, Bool.and_eq_true, decide_eq_true_eq] at h
  cases w with
  | nil => simp at h
  | cons c r =>
    have hc := bareC_ne (List.all_eq_true.1 h.1 c (by simp))
    have hn := bareN_app h.1 hu
    unfold cutP
    rw [List.cons_append] at hn ⊢
    simp only [hc.1, if_false, hn]
    rw [show c :: (r ++ u) = (c :: r) ++ u from rfl, List.take_left]
    simp

theorem cut_word {w u : List UInt8} (hu : overS u = true) : cutP (wordT w ++ u) = ((w, bareW w, false), (wordT w).length) := by
  unfold wordT
  split
  · rename_i h; rw [cut_bare h hu, h]
  · rename_i h; rw [cut_quoted]; simp [Bool.not_eq_true] at h; rw [h]

theorem wordT_head (w : List UInt8) : (wordT w).head? ≠ some 32 ∧ (wordT w).head? ≠ some 35 := by
  unfold wordT
  split
  · rename_i h
    simp only [bareW, Bool.and_eq_true, decide_eq_true_eq] at h
    cases w with
    | nil => simp at h
    | cons c r =>
      have hc := bareC_ne (List.all_eq_true.1 h.1 c (by simp))
      simp [hc.2.1, hc.2.2.1]
  · simp

end Go.Proofs.YtdlogfbbcbbllaaDoor

namespace Go.Proofs.YtdlogfbbcbbllaaDoor
open Go Go.Am

theorem lineP_S (s : List UInt8) : lineP s = if 20000 < s.length then (([], []), false, 2) else partsR (partsS s) := rfl

theorem okParts_good {ps : List Part} (h : okParts ps = true) : good ps = true := by
  cases ps with
  | nil => rfl
  | cons p ps =>
    simp only [okParts, Bool.and_eq_true] at h
    simp only [good, List.all_cons, Bool.and_eq_true]
    refine ⟨?_, ?_⟩
    · have := h.1; simp only [okPart, Bool.and_eq_true] at this; exact this.1
    · rw [List.all_eq_true] at h ⊢
      intro q hq
      have := h.2 q hq; simp only [okPart, Bool.and_eq_true] at this; exact this.1

/-- What a line that is right is. -/
theorem okL_cases {x : List UInt8} (h : okL x = true) : x.length ≤ 20000 ∧ good (partsS x) = true ∧ ((partsS x = [] ∧ lineP x = (([], []), false, 0)) ∨ ∃ l, rightL l = true ∧ lineP x = (l, true, 0) ∧ ∃ p qs, partsS x = p :: qs ∧ okParts (p :: qs) = true ∧ l = (p.1, qs.map (·.1))) := by
  simp only [okL, decide_eq_true_eq] at h
  rw [lineP_S] at h ⊢
  by_cases hl : 20000 < x.length
  · rw [if_pos hl] at h; simp at h
  · rw [if_neg hl] at h ⊢
    unfold partsR at h ⊢
    by_cases ho : okParts (partsS x) = true
    · rw [if_pos ho] at h ⊢
      refine ⟨by omega, okParts_good ho, ?_⟩
      cases hp : partsS x with
      | nil => exact .inl ⟨rfl, rfl⟩
      | cons p qs =>
        rw [hp] at h ho
        simp only at h ⊢
        by_cases hr : rightL (p.1, qs.map (·.1)) = true
        · rw [if_pos hr]; exact .inr ⟨_, hr, rfl, p, qs, rfl, ho, rfl⟩
        · rw [if_neg hr] at h; simp at h
    · rw [if_neg ho] at h; simp at h

theorem lineP_app {x u : List UInt8} (h : okL x = true) (hu : overS u = true) (hp : partsS u = []) (hl : (x ++ u).length ≤ 20000) : lineP (x ++ u) = lineP x := by
  obtain ⟨h1, h2, _⟩ := okL_cases h
  rw [lineP_S, lineP_S, parts_app _ x u (Nat.le_refl _) hu hp h2, if_neg (by omega), if_neg (by omega)]

theorem verb_bare {v : List UInt8} (h : verbOk v = true) : bareW v = true := by
  simp only [verbOk, Bool.and_eq_true, decide_eq_true_eq] at h
  simp only [bareW, Bool.and_eq_true, decide_eq_true_eq]
  refine ⟨?_, by omega⟩
  rw [List.all_eq_true] at h ⊢
  intro c hc
  have := h.2 c hc
  simp only [Bool.and_eq_true, decide_eq_true_eq] at this
  exact bareC_of.2 (by omega)

theorem overS_words (ws : List (List UInt8)) : overS (wordsT ws) = true := by
  cases ws with
  | nil => rfl
  | cons w ws => simp [wordsT, overS]

def partW (w : List UInt8) : Part := (w, bareW w, false)

theorem parts_words : ∀ ws : List (List UInt8), partsS (wordsT ws) = ws.map partW
  | [] => rfl
  | w :: ws => by
    have h := parts_word (q := wordT w) (w := w) (b := bareW w) (u := wordsT ws) (fun u hu => cut_word hu) (wordT_ne w) (wordT_head w).1 (wordT_head w).2 1 (overS_words ws)
    rw [show wordsT (w :: ws) = List.replicate 1 32 ++ (wordT w ++ wordsT ws) from by simp [wordsT], h, parts_words ws]
    rfl

theorem bare_head {v : List UInt8} (h : bareW v = true) : v ≠ [] ∧ v.head? ≠ some 32 ∧ v.head? ≠ some 35 := by
  simp only [bareW, Bool.and_eq_true, decide_eq_true_eq] at h
  cases v with
  | nil => simp at h
  | cons c r =>
    have hc := bareC_ne (List.all_eq_true.1 h.1 c (by simp))
    simp [hc.2.1, hc.2.2.1]

theorem parts_line {l : Line} (h : verbOk l.1 = true) : partsS (lineT l) = (l.1, true, false) :: l.2.map partW := by
  have hb := verb_bare h
  obtain ⟨h1, h2, h3⟩ := bare_head hb
  have := parts_word (q := l.1) (w := l.1) (b := true) (u := wordsT l.2) (fun u hu => cut_bare hb hu) h1 h2 h3 0 (overS_words l.2)
  rw [List.replicate_zero, List.nil_append] at this
  rw [lineT, this, parts_words]

theorem partsR_ok {l : Line} {qs : List Part} (hr : rightL l = true) (hq : qs.map (·.1) = l.2) (hg : ∀ q ∈ qs, q.2.2 = false) : partsR ((l.1, true, false) :: qs) = (l, true, 0) := by
  have hv : verbOk l.1 = true := by simp only [rightL, Bool.and_eq_true] at hr; exact hr.1.1
  have ho : okParts ((l.1, true, false) :: qs) = true := by
    simp only [okParts, okPart, Bool.and_eq_true, List.all_eq_true]
    refine ⟨by simp [hv], fun q hq => by simp [hg q hq]⟩
  unfold partsR
  rw [if_pos ho]
  simp only
  rw [hq, if_pos hr]

/-- A line's text is read as the line. -/
theorem lineP_text {l : Line} (hr : rightL l = true) : lineP (lineT l) = (l, true, 0) := by
  have hr' := hr
  simp only [rightL, Bool.and_eq_true, decide_eq_true_eq] at hr'
  rw [lineP_S, if_neg (by omega), parts_line hr'.1.1]
  refine partsR_ok hr ?_ ?_
  · rw [List.map_map]; exact List.map_id l.2
  · intro q hq; obtain ⟨w, _, rfl⟩ := List.mem_map.1 hq; rfl

/-! Line feeds. -/
theorem escs_lf (w : List UInt8) : 10 ∉ w.flatMap esc := by
  intro h
  obtain ⟨c, _, hc⟩ := List.mem_flatMap.1 h
  unfold esc at hc
  split at hc
  · rename_i h1; simp at hc; subst hc; simp at h1
  · split at hc
    · simp at hc
    · rename_i h2; simp at hc; exact h2 hc.symm
theorem wordT_lf (w : List UInt8) : 10 ∉ wordT w := by
  unfold wordT
  split
  · rename_i h
    simp only [bareW, Bool.and_eq_true] at h
    intro hm
    exact (bareC_ne (List.all_eq_true.1 h.1 10 hm)).2.2.2 rfl
  · intro h
    simp only [List.mem_append, List.mem_cons, List.not_mem_nil, or_false] at h
    rcases h with (h | h) | h
    · simp at h
    · exact escs_lf w h
    · simp at h
theorem lineT_lf {l : Line} (h : verbOk l.1 = true) : 10 ∉ lineT l := by
  have hb := verb_bare h
  simp only [bareW, Bool.and_eq_true] at hb
  intro hm
  rcases List.mem_append.1 hm with hm | hm
  · exact (bareC_ne (List.all_eq_true.1 hb.1 10 hm)).2.2.2 rfl
  · obtain ⟨w, _, hw⟩ := List.mem_flatMap.1 hm
    rcases List.mem_cons.1 hw with hw | hw
    · simp at hw
    · exact wordT_lf w hw

theorem splitB_none : ∀ {s : List UInt8}, 10 ∉ s → splitB s = [s]
  | [], _ => rfl
  | b :: l, h => by
    simp only [List.mem_cons, not_or] at h
    rw [splitB_cons, if_neg (fun e => h.1 e.symm), splitB_none h.2]
theorem splitB_join : ∀ (a b : List UInt8), splitB (a ++ 10 :: b) = splitB a ++ splitB b
  | [], b => by rw [List.nil_append, splitB_cons]; simp [splitB]
  | c :: a, b => by
    rw [List.cons_append, splitB_cons, splitB_cons, splitB_join a b]
    by_cases hc : c = 10
    · simp [hc]
    · simp only [hc, if_false]
      have := splitB_ne a
      cases hs : splitB a with
      | nil => exact absurd hs this
      | cons x xs => rfl
theorem splitB_lf : ∀ (s : List UInt8), ∀ x ∈ splitB s, 10 ∉ x
  | [], x, h => by simp [splitB] at h; simp [h]
  | b :: l, x, h => by
    have ih := splitB_lf l
    rw [splitB_cons] at h
    split at h
    · rcases List.mem_cons.1 h with rfl | h
      · simp
      · exact ih x h
    · rename_i hb
      split at h
      · simp at h; subst h; simp; exact fun e => hb e.symm
      · rename_i y ys hy
        rcases List.mem_cons.1 h with rfl | h
        · simp only [List.mem_cons, not_or]
          exact ⟨fun e => hb e.symm, ih y (by rw [hy]; simp)⟩
        · exact ih x (by rw [hy]; simp [h])
/-- Behind a text stands something without line feeds: it stands behind its last line. -/
theorem splitB_last : ∀ (s t : List UInt8), 10 ∉ t → ∃ xs x, splitB s = xs ++ [x] ∧ splitB (s ++ t) = xs ++ [x ++ t]
  | [], t, h => ⟨[], [], rfl, by rw [List.nil_append, splitB_none h]; rfl⟩
  | b :: l, t, h => by
    obtain ⟨xs, x, h1, h2⟩ := splitB_last l t h
    rw [List.cons_append, splitB_cons, splitB_cons, h1, h2]
    by_cases hb : b = 10
    · exact ⟨[] :: xs, x, by simp [hb], by simp [hb]⟩
    · simp only [hb, if_false]
      cases xs with
      | nil => exact ⟨[], b :: x, rfl, rfl⟩
      | cons y ys => exact ⟨(b :: y) :: ys, x, rfl, rfl⟩

/-! All lines. -/
theorem readFrom_app : ∀ {a b : List (List UInt8)} {n : Nat}, a.all okL = true → readFrom n (a ++ b) = readFrom (n + a.length) b
  | [], b, n, _ => by simp
  | x :: a, b, n, h => by
    simp only [List.all_cons, Bool.and_eq_true] at h
    simp only [List.cons_append, readFrom, h.1, if_true, List.length_cons]
    rw [readFrom_app h.2]; congr 1; omega
theorem readFrom_none : ∀ {a : List (List UInt8)} {n : Nat}, readFrom n a = none ↔ a.all okL = true
  | [], n => by simp [readFrom]
  | x :: a, n => by
    simp only [readFrom, List.all_cons, Bool.and_eq_true]
    by_cases h : okL x = true
    · simp only [h, if_true, true_and]; exact readFrom_none
    · simp [h]
theorem readFrom_err : ∀ {a : List (List UInt8)} {n m : Nat} {e : Int}, readFrom n a = some (m, e) → e ≠ 0 ∧ n < m ∧ m ≤ n + a.length
  | [], n, m, e, h => by simp [readFrom] at h
  | x :: a, n, m, e, h => by
    simp only [readFrom] at h
    split at h
    · have := readFrom_err h; simp only [List.length_cons]; omega
    · rename_i hx
      simp only [Option.some.injEq, Prod.mk.injEq] at h
      obtain ⟨rfl, rfl⟩ := h
      simp only [okL, decide_eq_true_eq] at hx
      refine ⟨hx, by omega, by simp⟩
theorem readFrom_first : ∀ {a b : List (List UInt8)} {n m : Nat} {e : Int}, readFrom n a = some (m, e) → readFrom n (a ++ b) = some (m, e)
  | [], b, n, m, e, h => by simp [readFrom] at h
  | x :: a, b, n, m, e, h => by
    simp only [List.cons_append, readFrom] at h ⊢
    split at h
    · rename_i hx; rw [if_pos hx]; exact readFrom_first h
    · rename_i hx; rw [if_neg hx]; exact h
theorem linesOf_app (a b : List (List UInt8)) : linesOf (a ++ b) = linesOf a ++ linesOf b := List.filterMap_append

/-- A text that is read right. -/
theorem readB_ok {s : List UInt8} (h : (splitB s).all okL = true) : readB s = (linesOf (splitB s), 0, 0) := by
  unfold readB; rw [readFrom_none.2 h]
theorem readB_e0 {s : List UInt8} : (readB s).2.2 = 0 ↔ (splitB s).all okL = true := by
  constructor
  · intro h
    unfold readB at h
    cases hr : readFrom 0 (splitB s) with
    | none => exact readFrom_none.1 hr
    | some p => rw [hr] at h; exact absurd h (readFrom_err hr).1
  · intro h; rw [readB_ok h]
theorem readB_bad {s : List UInt8} (h : (readB s).2.2 ≠ 0) : ∃ n e, readFrom 0 (splitB s) = some (n, e) ∧ readB s = ([], n, e) := by
  cases hr : readFrom 0 (splitB s) with
  | none => rw [readB_ok (readFrom_none.1 hr)] at h; exact absurd rfl h
  | some p => exact ⟨p.1, p.2, rfl, by unfold readB; rw [hr]⟩

theorem linesOf_right {a : List (List UInt8)} (h : a.all okL = true) : (linesOf a).all rightL = true := by
  rw [List.all_eq_true]
  intro l hl
  obtain ⟨x, hx, hxl⟩ := List.mem_filterMap.1 hl
  obtain ⟨_, _, h3⟩ := okL_cases (List.all_eq_true.1 h x hx)
  rcases h3 with ⟨_, e⟩ | ⟨l', hr, e, _⟩
  · rw [e] at hxl; simp at hxl
  · rw [e] at hxl; simp at hxl; rw [← hxl]; exact hr

/-- The text of lines is read as these lines. -/
theorem splitB_text' : ∀ {ls : List Line}, ls.all rightL = true → splitB (linesT ls) = ls.map lineT ++ [[]]
  | [], _ => rfl
  | l :: ls, h => by
    simp only [List.all_cons, Bool.and_eq_true] at h
    have hv : verbOk l.1 = true := by have := h.1; simp only [rightL, Bool.and_eq_true] at this; exact this.1.1
    rw [show linesT (l :: ls) = lineT l ++ 10 :: linesT ls from by simp [linesT], splitB_join, splitB_none (lineT_lf hv), splitB_text' h.2]
    rfl
theorem okL_text {l : Line} (h : rightL l = true) : okL (lineT l) = true := by simp [okL, lineP_text h]
theorem okL_nil : okL [] = true := by decide +kernel
theorem linesOf_nil : linesOf [[]] = [] := by decide +kernel
theorem readB_text {ls : List Line} (h : ls.all rightL = true) : readB (linesT ls) = (ls, 0, 0) := by
  have h1 : (splitB (linesT ls)).all okL = true := by
    rw [splitB_text' h, List.all_append, Bool.and_eq_true]
    refine ⟨?_, by simp [okL_nil]⟩
    rw [List.all_eq_true] at h ⊢
    intro x hx
    obtain ⟨l, hl, rfl⟩ := List.mem_map.1 hx
    exact okL_text (h l hl)
  rw [readB_ok h1, splitB_text' h, linesOf_app, linesOf_nil, List.append_nil]
  have : linesOf (ls.map lineT) = ls := by
    clear h1
    induction ls with
    | nil => rfl
    | cons l ls ih =>
      simp only [List.all_cons, Bool.and_eq_true] at h
      have e := lineP_text h.1
      unfold linesOf at ih ⊢
      rw [List.map_cons, List.filterMap_cons, e]
      simp only [if_true]
      rw [ih h.2]
  rw [this]

end Go.Proofs.YtdlogfbbcbbllaaDoor

namespace Go.Proofs.YtdlogfbbcbbllaaDoor
open Go Go.Am

theorem esc_one {c : UInt8} (h : c ≠ 10) (h1 : c ≠ 34) (h2 : c ≠ 92) : (esc c).length = 1 := by simp [esc, h, h1, h2]

theorem unq_long : ∀ (n : Nat) {r : List UInt8}, r.length ≤ n → 10 ∉ r → ∀ {p}, unq r = some p → (p.1.flatMap esc).length + 1 ≤ p.2 ∧ p.1.length + 1 ≤ p.2
  | 0, r, hn, _, p, h => by
    have : r = [] := List.eq_nil_of_length_eq_zero (by omega)
    subst this; simp [unq] at h
  | n + 1, [], _, _, p, h => by simp [unq] at h
  | n + 1, c :: r, hn, hl, p, h => by
    simp only [List.length_cons] at hn
    simp only [List.mem_cons, not_or] at hl
    by_cases h34 : c = 34
    · subst h34
      unfold unq at h
      simp only [if_true, Option.some.injEq] at h
      subst h; simp
    · by_cases h92 : c = 92
      · subst h92
        cases r with
        | nil => unfold unq at h; simp at h
        | cons d r =>
          simp only [List.length_cons] at hn
          simp only [List.mem_cons, not_or] at hl
          by_cases hd : d = 34 ∨ d = 92
          · rw [unq_esc hd] at h
            obtain ⟨q, hq, rfl⟩ := Option.map_eq_some_iff.1 h
            have := unq_long n (by omega) hl.2.2 hq
            have := esc_le d
            simp only [List.flatMap_cons, List.length_append, List.length_cons]; omega
          · by_cases hd2 : d = 110
            · rw [unq_n hd2] at h
              obtain ⟨q, hq, rfl⟩ := Option.map_eq_some_iff.1 h
              have := unq_long n (by omega) hl.2.2 hq
              have := esc_le 10
              simp only [List.flatMap_cons, List.length_append, List.length_cons]; omega
            · rw [unq_bad (fun e => hd (.inl e)) (fun e => hd (.inr e)) hd2] at h; cases h
      · rw [unq_else h34 h92] at h
        obtain ⟨q, hq, rfl⟩ := Option.map_eq_some_iff.1 h
        have := unq_long n (by omega) hl.2 hq
        have := esc_one (fun e => hl.1 e.symm) h34 h92
        simp only [List.flatMap_cons, List.length_append, List.length_cons]; omega

theorem cutP_long {c : UInt8} {r : List UInt8} (hl : 10 ∉ c :: r) (h : (cutP (c :: r)).1.2.2 = false) : (wordT (cutP (c :: r)).1.1).length ≤ (cutP (c :: r)).2 := by
  unfold cutP at h ⊢
  by_cases hc : c = 34
  · simp only [hc, if_true] at h ⊢
    cases hq : unq r with
    | none => rw [hq] at h; simp at h
    | some p =>
      have := unq_long _ (Nat.le_refl _) (fun hm => hl (by simp [hm])) hq
      simp only
      unfold wordT
      split
      · omega
      · simp only [List.length_append, List.length_cons, List.length_nil]; omega
  · simp only [hc, if_false] at h ⊢
    simp only [decide_eq_false_iff_not] at h
    have hb : bareW ((c :: r).take (bareN (c :: r))) = true := by
      simp only [bareW, Bool.and_eq_true, decide_eq_true_eq]
      have hle := bareN_le (c :: r)
      refine ⟨?_, by simp only [List.length_take]; omega⟩
      have : (c :: r).take (bareN (c :: r)) = (c :: r).takeWhile bareC := by
        unfold bareN
        exact (List.prefix_iff_eq_take.1 (List.takeWhile_prefix bareC)).symm
      rw [this]
      exact List.all_takeWhile
    unfold wordT
    rw [if_pos hb]
    simp only [List.length_take]; omega

def need (ps : List Part) : Nat := (ps.map fun p => (wordT p.1).length + 1).sum

theorem need_le : ∀ (n : Nat) (s : List UInt8), s.length ≤ n → 10 ∉ s → good (partsS s) = true → need (partsS s) ≤ s.length + 1 ∧ (overS s = true → need (partsS s) ≤ s.length) := by
  intro n
  induction n with
  | zero =>
    intro s hn _ _
    have : s = [] := List.eq_nil_of_length_eq_zero (by omega)
    subst this
    exact ⟨by decide +kernel, fun _ => by decide +kernel⟩
  | succ n ih =>
    intro s hn hl hg
    cases hx : trimS s with
    | nil => rw [partsS_nil hx]; simp [need]
    | cons c r =>
      by_cases hc : c = 35
      · subst hc; rw [partsS_note hx]; simp [need]
      · have hsub : ∀ b ∈ c :: r, b ∈ s := fun b hb => by
          have hs : c :: r <:+ s := by rw [← hx]; exact List.dropWhile_suffix _
          exact hs.subset hb
        have htl := trimS_le s
        rw [hx] at htl
        rw [partsS_cons hx hc] at hg ⊢
        split at hg
        · simp [good] at hg
        · rename_i hb
          rw [if_neg hb]
          simp only [not_or, Bool.not_eq_true, Bool.not_eq_false] at hb
          have hle := cutP_le (c := c) (r := r)
          have hpos := cutP_pos hb.1
          have hlong := cutP_long (fun hm => hl (hsub _ hm)) hb.1
          simp only [good, List.all_cons, Bool.and_eq_true] at hg
          simp only [List.length_cons] at htl hle
          have hr := (ih ((c :: r).drop (cutP (c :: r)).2) (by simp only [List.length_drop, List.length_cons]; omega) (fun hm => hl (hsub _ (List.mem_of_mem_drop hm))) hg.2).2 hb.2
          simp only [List.length_drop, List.length_cons] at hr
          have e : need ((cutP (c :: r)).1 :: partsS ((c :: r).drop (cutP (c :: r)).2)) = (wordT (cutP (c :: r)).1.1).length + 1 + need (partsS ((c :: r).drop (cutP (c :: r)).2)) := by simp [need]
          rw [e]
          refine ⟨by omega, fun ho => ?_⟩
          rcases overS_of ho with rfl | ⟨r', rfl | rfl⟩
          · simp [trimS] at hx
          · have := trimS_len (s := 32 :: r') rfl
            rw [hx] at this
            simp only [List.length_cons] at this ⊢; omega
          · rw [trimS_other (by decide)] at hx
            exact absurd (List.cons.inj hx).1.symm hc

theorem wordsT_need (qs : List Part) : (wordsT (qs.map (·.1))).length = need qs := by
  induction qs with
  | nil => rfl
  | cons q qs ih =>
    unfold wordsT need at *
    simp only [List.map_cons, List.flatMap_cons, List.length_append, List.length_cons, List.sum_cons, ih]

/-- A line's text is as long as the line at most. -/
theorem lineT_short {x : List UInt8} {l : Line} (h : okL x = true) (hl : 10 ∉ x) (he : lineP x = (l, true, 0)) : (lineT l).length ≤ x.length := by
  obtain ⟨_, hg, h3⟩ := okL_cases h
  rcases h3 with ⟨_, e⟩ | ⟨l', hr, e, p, qs, hp, ho, rfl⟩
  · rw [e] at he; simp at he
  · rw [e] at he
    simp only [Prod.mk.injEq, and_true] at he
    subst he
    have hn := (need_le _ x (Nat.le_refl _) hl hg).1
    rw [hp] at hn
    have hv : wordT p.1 = p.1 := by
      simp only [rightL, Bool.and_eq_true] at hr
      unfold wordT; rw [if_pos (verb_bare hr.1.1)]
    have e2 : need (p :: qs) = (wordT p.1).length + 1 + need qs := by simp [need]
    rw [e2, hv] at hn
    simp only [lineT, List.length_append, wordsT_need]
    omega

theorem linesT_len (ls : List Line) : (linesT ls).length = (ls.map fun l => (lineT l).length + 1).sum := by
  induction ls with
  | nil => rfl
  | cons l ls ih => unfold linesT at *; simp only [List.flatMap_cons, List.length_append, List.length_cons, List.length_nil, List.map_cons, List.sum_cons, ih]
theorem splitB_sum : ∀ s : List UInt8, ((splitB s).map fun x => x.length + 1).sum = s.length + 1
  | [] => rfl
  | b :: l => by
    have ih := splitB_sum l
    rw [splitB_cons]
    split
    · simp only [List.map_cons, List.sum_cons, ih, List.length_nil, List.length_cons]; omega
    · split
      · rename_i h; exact absurd h (splitB_ne l)
      · rename_i h; rw [h] at ih; simp only [List.map_cons, List.sum_cons, List.length_cons] at ih ⊢; omega

theorem linesT_short : ∀ {a : List (List UInt8)}, a.all okL = true → (∀ x ∈ a, 10 ∉ x) → (linesT (linesOf a)).length ≤ (a.map fun x => x.length + 1).sum
  | [], _, _ => by simp [linesOf, linesT]
  | x :: a, h, hl => by
    simp only [List.all_cons, Bool.and_eq_true] at h
    have ih := linesT_short h.2 (fun y hy => hl y (by simp [hy]))
    rw [linesT_len] at ih ⊢
    have e : linesOf (x :: a) = (if (lineP x).2.1 = true then [(lineP x).1] else []) ++ linesOf a := by
      unfold linesOf
      rw [List.filterMap_cons]
      by_cases hc : (lineP x).2.1 = true <;> simp [hc]
    rw [e, List.map_append, List.sum_append, List.map_cons, List.sum_cons]
    by_cases ht : (lineP x).2.1 = true
    · have he : lineP x = ((lineP x).1, true, 0) := by
        have h0 := h.1
        simp only [okL, decide_eq_true_eq] at h0
        rw [← ht, ← h0]
      have := lineT_short h.1 (hl x (by simp)) he
      simp only [ht, if_true, List.map_cons, List.map_nil, List.sum_cons, List.sum_nil]
      omega
    · simp only [ht, if_false, List.map_nil, List.sum_nil, Bool.false_eq_true]; omega

/-- The text of a text's lines is no longer, but for a line feed at its end. -/
theorem readB_short {s : List UInt8} (h : (splitB s).all okL = true) : (linesT (linesOf (splitB s))).length ≤ s.length + 1 := by
  rw [← splitB_sum]; exact linesT_short h (splitB_lf s)

end Go.Proofs.YtdlogfbbcbbllaaDoor

namespace Go.Proofs.YtdlogfbbcbbllaaDoor
open Go Go.Am

theorem right_bounds {l : Line} (h : rightL l = true) : l.1.length ≤ 20 ∧ l.2.length ≤ 100 ∧ ∀ w ∈ l.2, w.length ≤ 20000 := by
  simp only [rightL, verbOk, Bool.and_eq_true, decide_eq_true_eq] at h
  refine ⟨h.1.1.1.2, h.1.2, fun w hw => ?_⟩
  obtain ⟨k, hk⟩ := List.getElem?_of_mem hw
  have h1 := wordsT_pre l.2 (k + 1)
  rw [wordsT_take hk] at h1
  have h2 := wordT_ge w
  have h3 := h.2
  simp only [lineT, List.length_append, List.length_cons] at h1 h3
  omega
theorem few_right {ls : List Line} (h : ls.all rightL = true) (hn : ls.length ≤ 10000) : Few ls := by
  rw [List.all_eq_true] at h
  exact ⟨hn, fun l hl => by have := right_bounds (h l hl); omega, fun l hl => by have := right_bounds (h l hl); omega, fun l hl w hw => by have := (right_bounds (h l hl)).2.2 w hw; omega⟩

theorem readB_cases (s : List UInt8) : ((splitB s).all okL = true ∧ readB s = (linesOf (splitB s), 0, 0)) ∨ ∃ n e, e ≠ 0 ∧ 1 ≤ n ∧ n ≤ (splitB s).length ∧ readFrom 0 (splitB s) = some (n, e) ∧ readB s = ([], n, e) := by
  by_cases h : (splitB s).all okL = true
  · exact .inl ⟨h, readB_ok h⟩
  · obtain ⟨n, e, h1, h2⟩ := readB_bad (fun e => h (readB_e0.1 e))
    have := readFrom_err h1
    exact .inr ⟨n, e, this.1, by omega, by omega, h1, h2⟩

set_option maxHeartbeats 4000000 in
theorem ScriptBack_A (s : List UInt8) (hs : s.length ≤ 4000000000000000000) : PureR Tryd.prog 11 [sv s] (· = bv true) := by
  refine pure_of_wp Tt_ok mixed Tryd.func11 rfl (by rfl) [2] rfl (by kernel_rfl) (by simp [Tryd.ntmps11]) fun g => ?_
  simp (config := { maxSteps := 1000000 }) only [go_sem, ↓reduceIte, Nat.reduceEqDiff, Nat.reduceAdd, Nat.reduceMul, Nat.reduceSub, Nat.reduceLT, Nat.reduceLeDiff, Int.reduceLT, Int.reduceLE, Int.reduceEq, Int.reduceNe, Int.reduceAdd, Int.reduceNeg, Int.reduceToNat]
  refine hook_call rfl (by simp (config := { maxSteps := 1000000 }) only [go_sem, ↓reduceIte, Nat.reduceEqDiff, Nat.reduceAdd, Nat.reduceMul, Nat.reduceSub, Nat.reduceLT, Nat.reduceLeDiff, Int.reduceLT, Int.reduceLE, Int.reduceEq, Int.reduceNe, Int.reduceAdd, Int.reduceNeg, Int.reduceToNat]; exact alive_A) (by simp (config := { maxSteps := 1000000 }) only [go_sem, ↓reduceIte, Nat.reduceEqDiff, Nat.reduceAdd, Nat.reduceMul, Nat.reduceSub, Nat.reduceLT, Nat.reduceLeDiff, Int.reduceLT, Int.reduceLE, Int.reduceEq, Int.reduceNe, Int.reduceAdd, Int.reduceNeg, Int.reduceToNat]; rfl) ?_
  rintro _ rfl
  simp (config := { maxSteps := 1000000 }) only [go_sem, ↓reduceIte, Nat.reduceEqDiff, Nat.reduceAdd, Nat.reduceMul, Nat.reduceSub, Nat.reduceLT, Nat.reduceLeDiff, Int.reduceLT, Int.reduceLE, Int.reduceEq, Int.reduceNe, Int.reduceAdd, Int.reduceNeg, Int.reduceToNat]
  intro h6
  refine hook_call rfl (by simp (config := { maxSteps := 1000000 }) only [go_sem, ↓reduceIte, Nat.reduceEqDiff, Nat.reduceAdd, Nat.reduceMul, Nat.reduceSub, Nat.reduceLT, Nat.reduceLeDiff, Int.reduceLT, Int.reduceLE, Int.reduceEq, Int.reduceNe, Int.reduceAdd, Int.reduceNeg, Int.reduceToNat]; exact Read_A s (by omega)) (by simp (config := { maxSteps := 1000000 }) only [go_sem, ↓reduceIte, Nat.reduceEqDiff, Nat.reduceAdd, Nat.reduceMul, Nat.reduceSub, Nat.reduceLT, Nat.reduceLeDiff, Int.reduceLT, Int.reduceLE, Int.reduceEq, Int.reduceNe, Int.reduceAdd, Int.reduceNeg, Int.reduceToNat]; rfl) ?_
  rintro _ rfl
  rcases readB_cases s with ⟨hok, e⟩ | ⟨n, e, he, _, _, _, hr⟩
  · rw [e]
    have hr := linesOf_right hok
    have hl := linesOf_len (splitB s)
    have hl2 := splitB_len s
    have hsh := readB_short hok
    simp (config := { maxSteps := 1000000 }) only [go_sem, ↓reduceIte, Nat.reduceEqDiff, Nat.reduceAdd, Nat.reduceMul, Nat.reduceSub, Nat.reduceLT, Nat.reduceLeDiff, Int.reduceLT, Int.reduceLE, Int.reduceEq, Int.reduceNe, Int.reduceAdd, Int.reduceNeg, Int.reduceToNat, readRV]
    refine hook_call rfl (by simp (config := { maxSteps := 1000000 }) only [go_sem, ↓reduceIte, Nat.reduceEqDiff, Nat.reduceAdd, Nat.reduceMul, Nat.reduceSub, Nat.reduceLT, Nat.reduceLeDiff, Int.reduceLT, Int.reduceLE, Int.reduceEq, Int.reduceNe, Int.reduceAdd, Int.reduceNeg, Int.reduceToNat]; exact Text_A _ (few_right hr (by omega))) (by simp (config := { maxSteps := 1000000 }) only [go_sem, ↓reduceIte, Nat.reduceEqDiff, Nat.reduceAdd, Nat.reduceMul, Nat.reduceSub, Nat.reduceLT, Nat.reduceLeDiff, Int.reduceLT, Int.reduceLE, Int.reduceEq, Int.reduceNe, Int.reduceAdd, Int.reduceNeg, Int.reduceToNat]; rfl) ?_
    rintro _ rfl
    rw [if_pos hr]
    simp (config := { maxSteps := 1000000 }) only [go_sem, ↓reduceIte, Nat.reduceEqDiff, Nat.reduceAdd, Nat.reduceMul, Nat.reduceSub, Nat.reduceLT, Nat.reduceLeDiff, Int.reduceLT, Int.reduceLE, Int.reduceEq, Int.reduceNe, Int.reduceAdd, Int.reduceNeg, Int.reduceToNat, readRV]
    refine hook_call rfl (by simp (config := { maxSteps := 1000000 }) only [go_sem, ↓reduceIte, Nat.reduceEqDiff, Nat.reduceAdd, Nat.reduceMul, Nat.reduceSub, Nat.reduceLT, Nat.reduceLeDiff, Int.reduceLT, Int.reduceLE, Int.reduceEq, Int.reduceNe, Int.reduceAdd, Int.reduceNeg, Int.reduceToNat]; exact Read_A (linesT (linesOf (splitB s))) (by omega)) (by simp (config := { maxSteps := 1000000 }) only [go_sem, ↓reduceIte, Nat.reduceEqDiff, Nat.reduceAdd, Nat.reduceMul, Nat.reduceSub, Nat.reduceLT, Nat.reduceLeDiff, Int.reduceLT, Int.reduceLE, Int.reduceEq, Int.reduceNe, Int.reduceAdd, Int.reduceNeg, Int.reduceToNat]; rfl) ?_
    rintro _ rfl
    rw [readB_text hr]
    simp (config := { maxSteps := 1000000 }) only [go_sem, ↓reduceIte, Nat.reduceEqDiff, Nat.reduceAdd, Nat.reduceMul, Nat.reduceSub, Nat.reduceLT, Nat.reduceLeDiff, Int.reduceLT, Int.reduceLE, Int.reduceEq, Int.reduceNe, Int.reduceAdd, Int.reduceNeg, Int.reduceToNat, readRV]
    refine hook_call rfl (by simp (config := { maxSteps := 1000000 }) only [go_sem, ↓reduceIte, Nat.reduceEqDiff, Nat.reduceAdd, Nat.reduceMul, Nat.reduceSub, Nat.reduceLT, Nat.reduceLeDiff, Int.reduceLT, Int.reduceLE, Int.reduceEq, Int.reduceNe, Int.reduceAdd, Int.reduceNeg, Int.reduceToNat]; exact Same_A _ _ (by omega) (fun l hl => by have := right_bounds (List.all_eq_true.1 hr l hl); omega)) (by simp (config := { maxSteps := 1000000 }) only [go_sem, ↓reduceIte, Nat.reduceEqDiff, Nat.reduceAdd, Nat.reduceMul, Nat.reduceSub, Nat.reduceLT, Nat.reduceLeDiff, Int.reduceLT, Int.reduceLE, Int.reduceEq, Int.reduceNe, Int.reduceAdd, Int.reduceNeg, Int.reduceToNat]; rfl) ?_
    rintro _ rfl
    simp (config := { maxSteps := 1000000 }) only [go_sem, ↓reduceIte, Nat.reduceEqDiff, Nat.reduceAdd, Nat.reduceMul, Nat.reduceSub, Nat.reduceLT, Nat.reduceLeDiff, Int.reduceLT, Int.reduceLE, Int.reduceEq, Int.reduceNe, Int.reduceAdd, Int.reduceNeg, Int.reduceToNat]
  · rw [hr]
    simp (config := { maxSteps := 1000000 }) only [go_sem, ↓reduceIte, Nat.reduceEqDiff, Nat.reduceAdd, Nat.reduceMul, Nat.reduceSub, Nat.reduceLT, Nat.reduceLeDiff, Int.reduceLT, Int.reduceLE, Int.reduceEq, Int.reduceNe, Int.reduceAdd, Int.reduceNeg, Int.reduceToNat, readRV, he]
    simp (config := { maxSteps := 1000000 }) only [go_sem, ↓reduceIte, Nat.reduceEqDiff, Nat.reduceAdd, Nat.reduceMul, Nat.reduceSub, Nat.reduceLT, Nat.reduceLeDiff, Int.reduceLT, Int.reduceLE, Int.reduceEq, Int.reduceNe, Int.reduceAdd, Int.reduceNeg, Int.reduceToNat, linesD]

set_option maxHeartbeats 4000000 in
theorem ScriptShort_A (s : List UInt8) (hs : s.length ≤ 4000000000000000000) : PureR Tryd.prog 12 [sv s] (· = bv true) := by
  refine pure_of_wp Tt_ok mixed Tryd.func12 rfl (by rfl) [2] rfl (by kernel_rfl) (by simp [Tryd.ntmps12]) fun g => ?_
  simp (config := { maxSteps := 1000000 }) only [go_sem, ↓reduceIte, Nat.reduceEqDiff, Nat.reduceAdd, Nat.reduceMul, Nat.reduceSub, Nat.reduceLT, Nat.reduceLeDiff, Int.reduceLT, Int.reduceLE, Int.reduceEq, Int.reduceNe, Int.reduceAdd, Int.reduceNeg, Int.reduceToNat]
  refine hook_call rfl (by simp (config := { maxSteps := 1000000 }) only [go_sem, ↓reduceIte, Nat.reduceEqDiff, Nat.reduceAdd, Nat.reduceMul, Nat.reduceSub, Nat.reduceLT, Nat.reduceLeDiff, Int.reduceLT, Int.reduceLE, Int.reduceEq, Int.reduceNe, Int.reduceAdd, Int.reduceNeg, Int.reduceToNat]; exact alive_A) (by simp (config := { maxSteps := 1000000 }) only [go_sem, ↓reduceIte, Nat.reduceEqDiff, Nat.reduceAdd, Nat.reduceMul, Nat.reduceSub, Nat.reduceLT, Nat.reduceLeDiff, Int.reduceLT, Int.reduceLE, Int.reduceEq, Int.reduceNe, Int.reduceAdd, Int.reduceNeg, Int.reduceToNat]; rfl) ?_
  rintro _ rfl
  simp (config := { maxSteps := 1000000 }) only [go_sem, ↓reduceIte, Nat.reduceEqDiff, Nat.reduceAdd, Nat.reduceMul, Nat.reduceSub, Nat.reduceLT, Nat.reduceLeDiff, Int.reduceLT, Int.reduceLE, Int.reduceEq, Int.reduceNe, Int.reduceAdd, Int.reduceNeg, Int.reduceToNat]
  intro h6
  refine hook_call rfl (by simp (config := { maxSteps := 1000000 }) only [go_sem, ↓reduceIte, Nat.reduceEqDiff, Nat.reduceAdd, Nat.reduceMul, Nat.reduceSub, Nat.reduceLT, Nat.reduceLeDiff, Int.reduceLT, Int.reduceLE, Int.reduceEq, Int.reduceNe, Int.reduceAdd, Int.reduceNeg, Int.reduceToNat]; exact Read_A s (by omega)) (by simp (config := { maxSteps := 1000000 }) only [go_sem, ↓reduceIte, Nat.reduceEqDiff, Nat.reduceAdd, Nat.reduceMul, Nat.reduceSub, Nat.reduceLT, Nat.reduceLeDiff, Int.reduceLT, Int.reduceLE, Int.reduceEq, Int.reduceNe, Int.reduceAdd, Int.reduceNeg, Int.reduceToNat]; rfl) ?_
  rintro _ rfl
  rcases readB_cases s with ⟨hok, e⟩ | ⟨n, e, he, _, _, _, hr⟩
  · rw [e]
    have hr := linesOf_right hok
    have hl := linesOf_len (splitB s)
    have hl2 := splitB_len s
    have hsh := readB_short hok
    have hw := wrap_succ (k := s.length) (by omega)
    simp (config := { maxSteps := 1000000 }) only [go_sem, ↓reduceIte, Nat.reduceEqDiff, Nat.reduceAdd, Nat.reduceMul, Nat.reduceSub, Nat.reduceLT, Nat.reduceLeDiff, Int.reduceLT, Int.reduceLE, Int.reduceEq, Int.reduceNe, Int.reduceAdd, Int.reduceNeg, Int.reduceToNat, readRV]
    refine hook_call rfl (by simp (config := { maxSteps := 1000000 }) only [go_sem, ↓reduceIte, Nat.reduceEqDiff, Nat.reduceAdd, Nat.reduceMul, Nat.reduceSub, Nat.reduceLT, Nat.reduceLeDiff, Int.reduceLT, Int.reduceLE, Int.reduceEq, Int.reduceNe, Int.reduceAdd, Int.reduceNeg, Int.reduceToNat]; exact Text_A _ (few_right hr (by omega))) (by simp (config := { maxSteps := 1000000 }) only [go_sem, ↓reduceIte, Nat.reduceEqDiff, Nat.reduceAdd, Nat.reduceMul, Nat.reduceSub, Nat.reduceLT, Nat.reduceLeDiff, Int.reduceLT, Int.reduceLE, Int.reduceEq, Int.reduceNe, Int.reduceAdd, Int.reduceNeg, Int.reduceToNat]; rfl) ?_
    rintro _ rfl
    rw [if_pos hr]
    have hle : ((linesT (linesOf (splitB s))).length : Int) ≤ ((s.length + 1 : Nat) : Int) := by omega
    simp (config := { maxSteps := 1000000 }) only [go_sem, ↓reduceIte, Nat.reduceEqDiff, Nat.reduceAdd, Nat.reduceMul, Nat.reduceSub, Nat.reduceLT, Nat.reduceLeDiff, Int.reduceLT, Int.reduceLE, Int.reduceEq, Int.reduceNe, Int.reduceAdd, Int.reduceNeg, Int.reduceToNat, readRV, hw, hle]
  · rw [hr]
    simp (config := { maxSteps := 1000000 }) only [go_sem, ↓reduceIte, Nat.reduceEqDiff, Nat.reduceAdd, Nat.reduceMul, Nat.reduceSub, Nat.reduceLT, Nat.reduceLeDiff, Int.reduceLT, Int.reduceLE, Int.reduceEq, Int.reduceNe, Int.reduceAdd, Int.reduceNeg, Int.reduceToNat, readRV, he]

end Go.Proofs.YtdlogfbbcbbllaaDoor

namespace Go.Proofs.YtdlogfbbcbbllaaDoor
open Go Go.Am

theorem linesOf_congr {a b : List UInt8} (h : lineP a = lineP b) : linesOf [a] = linesOf [b] := by unfold linesOf; rw [List.filterMap_cons, List.filterMap_cons, h]

/-- What stands behind a right text's last line, and is no word, plays no part. -/
theorem readB_behind {s u : List UInt8} (h : (splitB s).all okL = true) (hu : overS u = true) (hp : partsS u = []) (hl : 10 ∉ u) (hlen : (s ++ u).length ≤ 20000) : (splitB (s ++ u)).all okL = true ∧ linesOf (splitB (s ++ u)) = linesOf (splitB s) := by
  obtain ⟨xs, x, h1, h2⟩ := splitB_last s u hl
  rw [h1, List.all_append, Bool.and_eq_true] at h
  have hx : okL x = true := by simpa using h.2
  have hxl := splitB_text s x (by rw [h1]; simp)
  have he := lineP_app hx hu hp (by simp only [List.length_append] at hlen ⊢; omega)
  rw [h1, h2]
  refine ⟨?_, ?_⟩
  · have h2 : okL (x ++ u) = true := by simp only [okL, he] at hx ⊢; exact hx
    simp [h.1, h2]
  · rw [linesOf_app, linesOf_app, linesOf_congr he]

theorem parts_hash (t : List UInt8) : partsS (35 :: t) = [] := partsS_note (r := t) (trimS_other (by decide))

theorem no_lf {s : List UInt8} (h : s.all (fun c => decide (c ≠ 10)) = true) : 10 ∉ s := by
  intro hm
  have := List.all_eq_true.1 h 10 hm
  simp at this

set_option maxHeartbeats 4000000 in
theorem ScriptNotes_A (s note : List UInt8) (hs : s.length ≤ 4000000000000000000) (hn : note.length ≤ 4000000000000000000) : PureR Tryd.prog 8 [sv s, sv note] (· = bv true) := by
  refine pure_of_wp Tt_ok mixed Tryd.func8 rfl (by rfl) [4] rfl (by kernel_rfl) (by simp [Tryd.ntmps8]) fun g => ?_
  simp (config := { maxSteps := 1000000 }) only [go_sem, ↓reduceIte, Nat.reduceEqDiff, Nat.reduceAdd, Nat.reduceMul, Nat.reduceSub, Nat.reduceLT, Nat.reduceLeDiff, Int.reduceLT, Int.reduceLE, Int.reduceEq, Int.reduceNe, Int.reduceAdd, Int.reduceNeg, Int.reduceToNat]
  refine hook_call rfl (by simp (config := { maxSteps := 1000000 }) only [go_sem, ↓reduceIte, Nat.reduceEqDiff, Nat.reduceAdd, Nat.reduceMul, Nat.reduceSub, Nat.reduceLT, Nat.reduceLeDiff, Int.reduceLT, Int.reduceLE, Int.reduceEq, Int.reduceNe, Int.reduceAdd, Int.reduceNeg, Int.reduceToNat]; exact alive_A) (by simp (config := { maxSteps := 1000000 }) only [go_sem, ↓reduceIte, Nat.reduceEqDiff, Nat.reduceAdd, Nat.reduceMul, Nat.reduceSub, Nat.reduceLT, Nat.reduceLeDiff, Int.reduceLT, Int.reduceLE, Int.reduceEq, Int.reduceNe, Int.reduceAdd, Int.reduceNeg, Int.reduceToNat]; rfl) ?_
  rintro _ rfl
  simp (config := { maxSteps := 1000000 }) only [go_sem, ↓reduceIte, Nat.reduceEqDiff, Nat.reduceAdd, Nat.reduceMul, Nat.reduceSub, Nat.reduceLT, Nat.reduceLeDiff, Int.reduceLT, Int.reduceLE, Int.reduceEq, Int.reduceNe, Int.reduceAdd, Int.reduceNeg, Int.reduceToNat]
  intro h1 h2
  refine loop_intro (fun n st => ∃ k : Nat, n + k = note.length ∧ st.f 0 = sv s ∧ st.f 1 = sv note ∧ st.f 5 = iv .i64 k ∧ (note.take k).all (fun c => decide (c ≠ 10)) = true) note.length ?_ ?_
  · refine ⟨0, by omega, ?_⟩
    simp (config := { maxSteps := 1000000 }) only [go_sem, ↓reduceIte, Nat.reduceEqDiff, Nat.reduceAdd, Nat.reduceMul, Nat.reduceSub, Nat.reduceLT, Nat.reduceLeDiff, Int.reduceLT, Int.reduceLE, Int.reduceEq, Int.reduceNe, Int.reduceAdd, Int.reduceNeg, Int.reduceToNat]
    simp
  · rintro n f g ob ⟨k, hk, h0, h1', h5, hall⟩
    simp only at h0 h1' h5
    have hw := wrap_succ (k := k) (by omega)
    by_cases hlt : k < note.length
    · obtain ⟨c, hc⟩ := getq hlt
      simp (config := { maxSteps := 1000000 }) only [go_sem, ↓reduceIte, Nat.reduceEqDiff, Nat.reduceAdd, Nat.reduceMul, Nat.reduceSub, Nat.reduceLT, Nat.reduceLeDiff, Int.reduceLT, Int.reduceLE, Int.reduceEq, Int.reduceNe, Int.reduceAdd, Int.reduceNeg, Int.reduceToNat, h0, h1', h5, hlt, hc]
      intro hc10
      simp (config := { maxSteps := 1000000 }) only [go_sem, ↓reduceIte, Nat.reduceEqDiff, Nat.reduceAdd, Nat.reduceMul, Nat.reduceSub, Nat.reduceLT, Nat.reduceLeDiff, Int.reduceLT, Int.reduceLE, Int.reduceEq, Int.reduceNe, Int.reduceAdd, Int.reduceNeg, Int.reduceToNat, h5, hw]
      refine round_end (n - 1) (by omega) ⟨k + 1, by omega, ?_⟩
      simp (config := { maxSteps := 1000000 }) only [go_sem, ↓reduceIte, Nat.reduceEqDiff, Nat.reduceAdd, Nat.reduceMul, Nat.reduceSub, Nat.reduceLT, Nat.reduceLeDiff, Int.reduceLT, Int.reduceLE, Int.reduceEq, Int.reduceNe, Int.reduceAdd, Int.reduceNeg, Int.reduceToNat, h0, h1']
      exact all_take hc hall (by simp only [decide_eq_true_eq]; intro e; exact hc10 (by rw [e]; rfl))
    · rw [List.take_of_length_le (by omega)] at hall
      have hlf := no_lf hall
      simp (config := { maxSteps := 1000000 }) only [go_sem, ↓reduceIte, Nat.reduceEqDiff, Nat.reduceAdd, Nat.reduceMul, Nat.reduceSub, Nat.reduceLT, Nat.reduceLeDiff, Int.reduceLT, Int.reduceLE, Int.reduceEq, Int.reduceNe, Int.reduceAdd, Int.reduceNeg, Int.reduceToNat, h0, h1', h5, hlt]
      refine hook_call rfl (by simp (config := { maxSteps := 1000000 }) only [go_sem, ↓reduceIte, Nat.reduceEqDiff, Nat.reduceAdd, Nat.reduceMul, Nat.reduceSub, Nat.reduceLT, Nat.reduceLeDiff, Int.reduceLT, Int.reduceLE, Int.reduceEq, Int.reduceNe, Int.reduceAdd, Int.reduceNeg, Int.reduceToNat]; exact Read_A s (by omega)) (by simp (config := { maxSteps := 1000000 }) only [go_sem, ↓reduceIte, Nat.reduceEqDiff, Nat.reduceAdd, Nat.reduceMul, Nat.reduceSub, Nat.reduceLT, Nat.reduceLeDiff, Int.reduceLT, Int.reduceLE, Int.reduceEq, Int.reduceNe, Int.reduceAdd, Int.reduceNeg, Int.reduceToNat]; rfl) ?_
      rintro _ rfl
      rcases readB_cases s with ⟨hok, e⟩ | ⟨n, e, he, _, _, _, hr⟩
      · rw [e]
        have hr := linesOf_right hok
        have hl := linesOf_len (splitB s)
        have hl2 := splitB_len s
        have hb := readB_behind (u := 35 :: note) hok rfl (parts_hash note) (by simp [hlf]) (by simp; omega)
        simp (config := { maxSteps := 1000000 }) only [go_sem, ↓reduceIte, Nat.reduceEqDiff, Nat.reduceAdd, Nat.reduceMul, Nat.reduceSub, Nat.reduceLT, Nat.reduceLeDiff, Int.reduceLT, Int.reduceLE, Int.reduceEq, Int.reduceNe, Int.reduceAdd, Int.reduceNeg, Int.reduceToNat, readRV, h0, h1']
        refine ⟨by omega, by simp only [List.length_append, List.length_cons, List.length_nil]; omega, ?_⟩
        refine hook_call rfl (by simp (config := { maxSteps := 1000000 }) only [go_sem, ↓reduceIte, Nat.reduceEqDiff, Nat.reduceAdd, Nat.reduceMul, Nat.reduceSub, Nat.reduceLT, Nat.reduceLeDiff, Int.reduceLT, Int.reduceLE, Int.reduceEq, Int.reduceNe, Int.reduceAdd, Int.reduceNeg, Int.reduceToNat]; exact Read_A (s ++ [35] ++ note) (by simp; omega)) (by simp (config := { maxSteps := 1000000 }) only [go_sem, ↓reduceIte, Nat.reduceEqDiff, Nat.reduceAdd, Nat.reduceMul, Nat.reduceSub, Nat.reduceLT, Nat.reduceLeDiff, Int.reduceLT, Int.reduceLE, Int.reduceEq, Int.reduceNe, Int.reduceAdd, Int.reduceNeg, Int.reduceToNat]; rfl) ?_
        rintro _ rfl
        rw [show s ++ [35] ++ note = s ++ 35 :: note from by simp, readB_ok hb.1, hb.2]
        simp (config := { maxSteps := 1000000 }) only [go_sem, ↓reduceIte, Nat.reduceEqDiff, Nat.reduceAdd, Nat.reduceMul, Nat.reduceSub, Nat.reduceLT, Nat.reduceLeDiff, Int.reduceLT, Int.reduceLE, Int.reduceEq, Int.reduceNe, Int.reduceAdd, Int.reduceNeg, Int.reduceToNat, readRV]
        refine hook_call rfl (by simp (config := { maxSteps := 1000000 }) only [go_sem, ↓reduceIte, Nat.reduceEqDiff, Nat.reduceAdd, Nat.reduceMul, Nat.reduceSub, Nat.reduceLT, Nat.reduceLeDiff, Int.reduceLT, Int.reduceLE, Int.reduceEq, Int.reduceNe, Int.reduceAdd, Int.reduceNeg, Int.reduceToNat]; exact Same_A _ _ (by omega) (fun l hl => by have := right_bounds (List.all_eq_true.1 hr l hl); omega)) (by simp (config := { maxSteps := 1000000 }) only [go_sem, ↓reduceIte, Nat.reduceEqDiff, Nat.reduceAdd, Nat.reduceMul, Nat.reduceSub, Nat.reduceLT, Nat.reduceLeDiff, Int.reduceLT, Int.reduceLE, Int.reduceEq, Int.reduceNe, Int.reduceAdd, Int.reduceNeg, Int.reduceToNat]; rfl) ?_
        rintro _ rfl
        simp (config := { maxSteps := 1000000 }) only [go_sem, ↓reduceIte, Nat.reduceEqDiff, Nat.reduceAdd, Nat.reduceMul, Nat.reduceSub, Nat.reduceLT, Nat.reduceLeDiff, Int.reduceLT, Int.reduceLE, Int.reduceEq, Int.reduceNe, Int.reduceAdd, Int.reduceNeg, Int.reduceToNat]
      · rw [hr]
        simp (config := { maxSteps := 1000000 }) only [go_sem, ↓reduceIte, Nat.reduceEqDiff, Nat.reduceAdd, Nat.reduceMul, Nat.reduceSub, Nat.reduceLT, Nat.reduceLeDiff, Int.reduceLT, Int.reduceLE, Int.reduceEq, Int.reduceNe, Int.reduceAdd, Int.reduceNeg, Int.reduceToNat, readRV, he]

theorem replicate_succ' (m : Nat) : List.replicate m (32 : UInt8) ++ [32] = List.replicate (m + 1) 32 := by rw [List.replicate_succ']

/-- A note behind a line. -/
def noteB : List UInt8 := [32, 35, 32, 97, 32, 110, 111, 116, 101, 32, 34]
theorem over_note (m : Nat) : overS (List.replicate m 32 ++ noteB) = true := by cases m <;> rfl
theorem parts_note (m : Nat) : partsS (List.replicate m 32 ++ noteB) = [] := by
  refine partsS_note (r := [32, 97, 32, 110, 111, 116, 101, 32, 34]) ?_
  rw [trimS_blanks]; decide +kernel

theorem blanks_ok {s : List UInt8} (m : Nat) (hm : m ≤ 4) (hs : s.length ≤ 300) (hlf : 10 ∉ s) (h : okL s = true) : readB ([10] ++ List.replicate m 32 ++ s ++ List.replicate m 32 ++ noteB) = (linesOf [s], 0, 0) := by
  have hlf2 : 10 ∉ List.replicate m (32 : UInt8) := by intro h; have := List.eq_of_mem_replicate h; revert this; decide
  have hlf3 : (10 : UInt8) ∉ noteB := by decide
  obtain ⟨_, hg, _⟩ := okL_cases h
  have hl : (List.replicate m (32 : UInt8)).length = m := by simp
  have hz : lineP (List.replicate m 32 ++ (s ++ (List.replicate m 32 ++ noteB))) = lineP s := by
    rw [lineP_S, lineP_S, if_neg (by simp [noteB]; omega), if_neg (by omega)]
    rw [partsS_trim (t := s ++ (List.replicate m 32 ++ noteB)) (trimS_blanks m _), parts_app _ s _ (Nat.le_refl _) (over_note m) (parts_note m) hg]
  have e : [10] ++ List.replicate m 32 ++ s ++ List.replicate m 32 ++ noteB = [] ++ 10 :: (List.replicate m 32 ++ (s ++ (List.replicate m 32 ++ noteB))) := by simp
  have hsp : splitB ([10] ++ List.replicate m 32 ++ s ++ List.replicate m 32 ++ noteB) = [[], List.replicate m 32 ++ (s ++ (List.replicate m 32 ++ noteB))] := by
    rw [e, splitB_join, splitB_none (s := List.replicate m 32 ++ (s ++ (List.replicate m 32 ++ noteB))) (by simp only [List.mem_append, not_or]; exact ⟨hlf2, hlf, hlf2, hlf3⟩)]
    rfl
  have ho : okL (List.replicate m 32 ++ (s ++ (List.replicate m 32 ++ noteB))) = true := by simp only [okL, hz] at h ⊢; exact h
  rw [readB_ok (by rw [hsp]; simp [okL_nil, ho]), hsp]
  rw [show [[], List.replicate m 32 ++ (s ++ (List.replicate m 32 ++ noteB))] = [[]] ++ [List.replicate m 32 ++ (s ++ (List.replicate m 32 ++ noteB))] from rfl, linesOf_app, linesOf_nil, linesOf_congr hz]
  rfl

theorem blanks_any {s : List UInt8} (m : Nat) (hlf : 10 ∉ s) : (readB ([10] ++ List.replicate m 32 ++ s ++ List.replicate m 32 ++ noteB)).2.2 = 0 ∨ (readB ([10] ++ List.replicate m 32 ++ s ++ List.replicate m 32 ++ noteB)).2.1 = 2 := by
  have hlf2 : 10 ∉ List.replicate m (32 : UInt8) := by intro h; have := List.eq_of_mem_replicate h; revert this; decide
  have hlf3 : (10 : UInt8) ∉ noteB := by decide
  have e : [10] ++ List.replicate m 32 ++ s ++ List.replicate m 32 ++ noteB = [] ++ 10 :: (List.replicate m 32 ++ (s ++ (List.replicate m 32 ++ noteB))) := by simp
  obtain ⟨z, hz⟩ : ∃ z, z = List.replicate m 32 ++ (s ++ (List.replicate m 32 ++ noteB)) := ⟨_, rfl⟩
  have hsp : splitB ([10] ++ List.replicate m 32 ++ s ++ List.replicate m 32 ++ noteB) = [[], z] := by
    rw [e, splitB_join, splitB_none (s := List.replicate m 32 ++ (s ++ (List.replicate m 32 ++ noteB))) (by simp only [List.mem_append, not_or]; exact ⟨hlf2, hlf, hlf2, hlf3⟩), hz]
    rfl
  unfold readB
  rw [hsp]
  by_cases ho : okL z = true
  · left; simp [readFrom, okL_nil, ho]
  · right; simp [readFrom, okL_nil, ho]

set_option maxHeartbeats 4000000 in
theorem ScriptBlanks_A (s : List UInt8) (n8 : Nat) (hn8 : n8 < 256) (hs : s.length ≤ 4000000000000000000) : PureR Tryd.prog 4 [sv s, iv .u8 n8] (· = bv true) := by
  refine pure_of_wp Tt_ok mixed Tryd.func4 rfl (by rfl) [4] rfl (by kernel_rfl) (by simp [Tryd.ntmps4]) fun g => ?_
  simp (config := { maxSteps := 1000000 }) only [go_sem, ↓reduceIte, Nat.reduceEqDiff, Nat.reduceAdd, Nat.reduceMul, Nat.reduceSub, Nat.reduceLT, Nat.reduceLeDiff, Int.reduceLT, Int.reduceLE, Int.reduceEq, Int.reduceNe, Int.reduceAdd, Int.reduceNeg, Int.reduceToNat]
  refine hook_call rfl (by simp (config := { maxSteps := 1000000 }) only [go_sem, ↓reduceIte, Nat.reduceEqDiff, Nat.reduceAdd, Nat.reduceMul, Nat.reduceSub, Nat.reduceLT, Nat.reduceLeDiff, Int.reduceLT, Int.reduceLE, Int.reduceEq, Int.reduceNe, Int.reduceAdd, Int.reduceNeg, Int.reduceToNat]; exact alive_A) (by simp (config := { maxSteps := 1000000 }) only [go_sem, ↓reduceIte, Nat.reduceEqDiff, Nat.reduceAdd, Nat.reduceMul, Nat.reduceSub, Nat.reduceLT, Nat.reduceLeDiff, Int.reduceLT, Int.reduceLE, Int.reduceEq, Int.reduceNe, Int.reduceAdd, Int.reduceNeg, Int.reduceToNat]; rfl) ?_
  rintro _ rfl
  simp (config := { maxSteps := 1000000 }) only [go_sem, ↓reduceIte, Nat.reduceEqDiff, Nat.reduceAdd, Nat.reduceMul, Nat.reduceSub, Nat.reduceLT, Nat.reduceLeDiff, Int.reduceLT, Int.reduceLE, Int.reduceEq, Int.reduceNe, Int.reduceAdd, Int.reduceNeg, Int.reduceToNat]
  intro h1
  refine loop_intro (fun n st => ∃ k : Nat, n + k = s.length ∧ st.f 0 = sv s ∧ st.f 1 = iv .u8 n8 ∧ st.f 5 = iv .i64 k ∧ (s.take k).all (fun c => decide (c ≠ 10)) = true) s.length ?_ ?_
  · refine ⟨0, by omega, ?_⟩
    simp (config := { maxSteps := 1000000 }) only [go_sem, ↓reduceIte, Nat.reduceEqDiff, Nat.reduceAdd, Nat.reduceMul, Nat.reduceSub, Nat.reduceLT, Nat.reduceLeDiff, Int.reduceLT, Int.reduceLE, Int.reduceEq, Int.reduceNe, Int.reduceAdd, Int.reduceNeg, Int.reduceToNat]
    simp
  · rintro n f g ob ⟨k, hk, h0, h1', h5, hall⟩
    simp only at h0 h1' h5
    have hw := wrap_succ (k := k) (by omega)
    by_cases hlt : k < s.length
    · obtain ⟨c, hc⟩ := getq hlt
      simp (config := { maxSteps := 1000000 }) only [go_sem, ↓reduceIte, Nat.reduceEqDiff, Nat.reduceAdd, Nat.reduceMul, Nat.reduceSub, Nat.reduceLT, Nat.reduceLeDiff, Int.reduceLT, Int.reduceLE, Int.reduceEq, Int.reduceNe, Int.reduceAdd, Int.reduceNeg, Int.reduceToNat, h0, h1', h5, hlt, hc]
      intro hc10
      simp (config := { maxSteps := 1000000 }) only [go_sem, ↓reduceIte, Nat.reduceEqDiff, Nat.reduceAdd, Nat.reduceMul, Nat.reduceSub, Nat.reduceLT, Nat.reduceLeDiff, Int.reduceLT, Int.reduceLE, Int.reduceEq, Int.reduceNe, Int.reduceAdd, Int.reduceNeg, Int.reduceToNat, h5, hw]
      refine round_end (n - 1) (by omega) ⟨k + 1, by omega, ?_⟩
      simp (config := { maxSteps := 1000000 }) only [go_sem, ↓reduceIte, Nat.reduceEqDiff, Nat.reduceAdd, Nat.reduceMul, Nat.reduceSub, Nat.reduceLT, Nat.reduceLeDiff, Int.reduceLT, Int.reduceLE, Int.reduceEq, Int.reduceNe, Int.reduceAdd, Int.reduceNeg, Int.reduceToNat, h0, h1']
      exact all_take hc hall (by simp only [decide_eq_true_eq]; intro e; exact hc10 (by rw [e]; rfl))
    · rw [List.take_of_length_le (by omega)] at hall
      have hlf := no_lf hall
      simp (config := { maxSteps := 1000000 }) only [go_sem, ↓reduceIte, Nat.reduceEqDiff, Nat.reduceAdd, Nat.reduceMul, Nat.reduceSub, Nat.reduceLT, Nat.reduceLeDiff, Int.reduceLT, Int.reduceLE, Int.reduceEq, Int.reduceNe, Int.reduceAdd, Int.reduceNeg, Int.reduceToNat, h0, h1', h5, hlt]
      refine loop_intro (fun n st => ∃ k : Nat, n + k = n8 % 5 ∧ st.f 0 = sv s ∧ st.f 1 = iv .u8 n8 ∧ st.f 7 = iv .i64 k ∧ st.f 6 = sv (List.replicate k 32)) (n8 % 5) ?_ ?_
      · refine ⟨0, by omega, ?_⟩
        simp (config := { maxSteps := 1000000 }) only [go_sem, ↓reduceIte, Nat.reduceEqDiff, Nat.reduceAdd, Nat.reduceMul, Nat.reduceSub, Nat.reduceLT, Nat.reduceLeDiff, Int.reduceLT, Int.reduceLE, Int.reduceEq, Int.reduceNe, Int.reduceAdd, Int.reduceNeg, Int.reduceToNat, h0, h1']
        rfl
      · clear h0 h1' h5 hw hk hlt
        rintro n f g ob ⟨k, hk, h0, h1', h7, h6⟩
        simp only at h0 h1' h7 h6
        have hm : n8 % 5 < 5 := Nat.mod_lt _ (by decide)
        have hw := wrap_succ (k := k) (by omega)
        have hrem : ((n8 : Int).tmod 5) = ((n8 % 5 : Nat) : Int) := by rw [Int.tmod_eq_emod_of_nonneg (by omega)]; omega
        have hw2 : IntKind.i64.wrap (((n8 % 5 : Nat) : Int)) = ((n8 % 5 : Nat) : Int) := by rw [wrap_i64] <;> omega
        by_cases hlt : k < n8 % 5
        · have hlt' : (k : Int) < ((n8 % 5 : Nat) : Int) := by omega
          simp (config := { maxSteps := 1000000 }) only [go_sem, ↓reduceIte, Nat.reduceEqDiff, Nat.reduceAdd, Nat.reduceMul, Nat.reduceSub, Nat.reduceLT, Nat.reduceLeDiff, Int.reduceLT, Int.reduceLE, Int.reduceEq, Int.reduceNe, Int.reduceAdd, Int.reduceNeg, Int.reduceToNat, h0, h1', h7, h6, hrem, hw2, hlt']
          refine ⟨by simp; omega, ?_⟩
          simp (config := { maxSteps := 1000000 }) only [go_sem, ↓reduceIte, Nat.reduceEqDiff, Nat.reduceAdd, Nat.reduceMul, Nat.reduceSub, Nat.reduceLT, Nat.reduceLeDiff, Int.reduceLT, Int.reduceLE, Int.reduceEq, Int.reduceNe, Int.reduceAdd, Int.reduceNeg, Int.reduceToNat, h7, hw]
          refine round_end (n - 1) (by omega) ⟨k + 1, by omega, ?_⟩
          simp (config := { maxSteps := 1000000 }) only [go_sem, ↓reduceIte, Nat.reduceEqDiff, Nat.reduceAdd, Nat.reduceMul, Nat.reduceSub, Nat.reduceLT, Nat.reduceLeDiff, Int.reduceLT, Int.reduceLE, Int.reduceEq, Int.reduceNe, Int.reduceAdd, Int.reduceNeg, Int.reduceToNat, h0, h1']
          rw [replicate_succ']
        · have hlt' : ¬ (k : Int) < ((n8 % 5 : Nat) : Int) := by omega
          simp (config := { maxSteps := 1000000 }) only [go_sem, ↓reduceIte, Nat.reduceEqDiff, Nat.reduceAdd, Nat.reduceMul, Nat.reduceSub, Nat.reduceLT, Nat.reduceLeDiff, Int.reduceLT, Int.reduceLE, Int.reduceEq, Int.reduceNe, Int.reduceAdd, Int.reduceNeg, Int.reduceToNat, h0, h1', h7, h6, hrem, hw2, hlt']
          refine hook_call rfl (by simp (config := { maxSteps := 1000000 }) only [go_sem, ↓reduceIte, Nat.reduceEqDiff, Nat.reduceAdd, Nat.reduceMul, Nat.reduceSub, Nat.reduceLT, Nat.reduceLeDiff, Int.reduceLT, Int.reduceLE, Int.reduceEq, Int.reduceNe, Int.reduceAdd, Int.reduceNeg, Int.reduceToNat]; exact Read_A s (by omega)) (by simp (config := { maxSteps := 1000000 }) only [go_sem, ↓reduceIte, Nat.reduceEqDiff, Nat.reduceAdd, Nat.reduceMul, Nat.reduceSub, Nat.reduceLT, Nat.reduceLeDiff, Int.reduceLT, Int.reduceLE, Int.reduceEq, Int.reduceNe, Int.reduceAdd, Int.reduceNeg, Int.reduceToNat]; rfl) ?_
          rintro _ rfl
          simp (config := { maxSteps := 1000000 }) only [go_sem, ↓reduceIte, Nat.reduceEqDiff, Nat.reduceAdd, Nat.reduceMul, Nat.reduceSub, Nat.reduceLT, Nat.reduceLeDiff, Int.reduceLT, Int.reduceLE, Int.reduceEq, Int.reduceNe, Int.reduceAdd, Int.reduceNeg, Int.reduceToNat, readRV, h0, h1', h6]
          obtain ⟨T, hT⟩ : ∃ T, 10 :: (List.replicate k 32 ++ s ++ List.replicate k 32 ++ noteB) = T := ⟨_, rfl⟩
          have hbl : (readB T).2.2 = 0 ∨ (readB T).2.1 = 2 := by rw [← hT]; exact blanks_any k hlf
          have hTl : T.length ≤ 1000000 := by rw [← hT]; simp [noteB]; omega
          have hok : okL s = true → readB T = (linesOf [s], 0, 0) := fun ho => by rw [← hT]; exact blanks_ok k (by omega) (by omega) hlf ho
          refine ⟨by simp; omega, by simp; omega, by simp; omega, by simp; omega, ?_⟩
          refine hook_call rfl (by simp (config := { maxSteps := 1000000 }) only [go_sem, ↓reduceIte, Nat.reduceEqDiff, Nat.reduceAdd, Nat.reduceMul, Nat.reduceSub, Nat.reduceLT, Nat.reduceLeDiff, Int.reduceLT, Int.reduceLE, Int.reduceEq, Int.reduceNe, Int.reduceAdd, Int.reduceNeg, Int.reduceToNat]; rw [show 10 :: (List.replicate k 32 ++ s ++ List.replicate k 32 ++ [32, 35, 32, 97, 32, 110, 111, 116, 101, 32, 34]) = T from hT]; exact Read_A T hTl) (by simp (config := { maxSteps := 1000000 }) only [go_sem, ↓reduceIte, Nat.reduceEqDiff, Nat.reduceAdd, Nat.reduceMul, Nat.reduceSub, Nat.reduceLT, Nat.reduceLeDiff, Int.reduceLT, Int.reduceLE, Int.reduceEq, Int.reduceNe, Int.reduceAdd, Int.reduceNeg, Int.reduceToNat]; rfl) ?_
          rintro _ rfl
          simp (config := { maxSteps := 1000000 }) only [go_sem, ↓reduceIte, Nat.reduceEqDiff, Nat.reduceAdd, Nat.reduceMul, Nat.reduceSub, Nat.reduceLT, Nat.reduceLeDiff, Int.reduceLT, Int.reduceLE, Int.reduceEq, Int.reduceNe, Int.reduceAdd, Int.reduceNeg, Int.reduceToNat, readRV]
          by_cases ho : okL s = true
          · have hr2 := hok ho
            have hsp := splitB_none hlf
            have hr1 : readB s = (linesOf [s], 0, 0) := by rw [readB_ok (by rw [hsp]; simpa using ho), hsp]
            have hrr := linesOf_right (a := [s]) (by simpa using ho)
            have hll := linesOf_len [s]
            rw [hr1, hr2]
            simp (config := { maxSteps := 1000000 }) only [go_sem, ↓reduceIte, Nat.reduceEqDiff, Nat.reduceAdd, Nat.reduceMul, Nat.reduceSub, Nat.reduceLT, Nat.reduceLeDiff, Int.reduceLT, Int.reduceLE, Int.reduceEq, Int.reduceNe, Int.reduceAdd, Int.reduceNeg, Int.reduceToNat]
            refine hook_call rfl (by simp (config := { maxSteps := 1000000 }) only [go_sem, ↓reduceIte, Nat.reduceEqDiff, Nat.reduceAdd, Nat.reduceMul, Nat.reduceSub, Nat.reduceLT, Nat.reduceLeDiff, Int.reduceLT, Int.reduceLE, Int.reduceEq, Int.reduceNe, Int.reduceAdd, Int.reduceNeg, Int.reduceToNat]; exact Same_A _ _ (by simp at hll; omega) (fun l hl => by have := right_bounds (List.all_eq_true.1 hrr l hl); omega)) (by simp (config := { maxSteps := 1000000 }) only [go_sem, ↓reduceIte, Nat.reduceEqDiff, Nat.reduceAdd, Nat.reduceMul, Nat.reduceSub, Nat.reduceLT, Nat.reduceLeDiff, Int.reduceLT, Int.reduceLE, Int.reduceEq, Int.reduceNe, Int.reduceAdd, Int.reduceNeg, Int.reduceToNat]; rfl) ?_
            rintro _ rfl
            simp (config := { maxSteps := 1000000 }) only [go_sem, ↓reduceIte, Nat.reduceEqDiff, Nat.reduceAdd, Nat.reduceMul, Nat.reduceSub, Nat.reduceLT, Nat.reduceLeDiff, Int.reduceLT, Int.reduceLE, Int.reduceEq, Int.reduceNe, Int.reduceAdd, Int.reduceNeg, Int.reduceToNat]
          · have hsp := splitB_none hlf
            have hr1 : readB s = ([], 1, (lineP s).2.2) := by unfold readB; rw [hsp]; simp [readFrom, ho]
            have hne : ¬ (lineP s).2.2 = 0 := by simpa [okL] using ho
            rw [hr1]
            simp (config := { maxSteps := 1000000 }) only [go_sem, ↓reduceIte, Nat.reduceEqDiff, Nat.reduceAdd, Nat.reduceMul, Nat.reduceSub, Nat.reduceLT, Nat.reduceLeDiff, Int.reduceLT, Int.reduceLE, Int.reduceEq, Int.reduceNe, Int.reduceAdd, Int.reduceNeg, Int.reduceToNat, hne, linesD]
            intro h0
            rcases hbl with h | h
            · exact absurd h h0
            · simp [h]

end Go.Proofs.YtdlogfbbcbbllaaDoor

namespace Go.Proofs.YtdlogfbbcbbllaaDoor
open Go Go.Am

theorem splitB_count : ∀ s : List UInt8, (splitB s).length = s.count 10 + 1
  | [] => rfl
  | b :: l => by
    have ih := splitB_count l
    rw [splitB_cons, List.count_cons]
    by_cases hb : b = 10
    · simp [hb, ih]
    · have hb' : (b == 10) = false := by simpa using hb
      simp only [hb, if_false, hb']
      cases hs : splitB l with
      | nil => exact absurd hs (splitB_ne l)
      | cons x xs => rw [hs] at ih; simpa using ih
theorem count_take {s : List UInt8} {k : Nat} {c : UInt8} (h : s[k]? = some c) : (s.take (k + 1)).count 10 = (s.take k).count 10 + (if c = 10 then 1 else 0) := by
  rw [List.take_add_one, h, List.count_append]
  simp only [Option.toList_some, List.count_cons, List.count_nil, Nat.zero_add]
  by_cases hc : c = 10 <;> simp [hc]
theorem readFrom_shift : ∀ {a : List (List UInt8)} {n k : Nat}, readFrom (n + k) a = (readFrom n a).map fun p => (p.1 + k, p.2)
  | [], _, _ => rfl
  | x :: a, n, k => by
    simp only [readFrom]
    split
    · rw [show n + k + 1 = (n + 1) + k from by omega, readFrom_shift]
    · simp only [Option.map_some, Option.some.injEq, Prod.mk.injEq, and_true]; omega

theorem frz_two {s : St} {id g : Nat} {a b : List Line} {cells : List C} (hg : s.gen id = g) (ho : s.obj id = some cells) (hc : cells = (a ++ b).flatMap fun l => (lineD l).map .d) {n : Nat} (hn : n = a.length + b.length) : Frz s (.osl id g 2 0 n) (linesD (a ++ b)) :=
  frz_rows hg (a ++ b) lineD ho hc (fun a _ x hx => by simp [lineD, strs] at hx; rcases hx with rfl | rfl <;> rfl) (fun a _ => rfl) (by rw [hn]; simp)

theorem lines_flat (a : List Line) : ((a.map lineD).flatten.map C.d) = a.flatMap fun l => (lineD l).map .d := by
  induction a with
  | nil => rfl
  | cons l a ih => simp [ih]
theorem flat_two (a : List Line) : (a.map (List.map C.d ∘ lineD)).flatten = a.flatMap fun l => (lineD l).map .d := by rw [List.flatMap_def]; rfl
theorem lines_flat_len (a : List Line) : (a.flatMap fun l => (lineD l).map C.d).length = a.length * 2 := by
  induction a with
  | nil => rfl
  | cons l a ih => rw [List.flatMap_cons, List.length_append, ih]; simp only [lineD, List.length_map, List.length_cons, List.length_nil]; omega
theorem lineD_two (a : List Line) : ∀ e ∈ a.map lineD, e.length = 2 := by
  intro e he; obtain ⟨l, _, rfl⟩ := List.mem_map.1 he; rfl

set_option maxHeartbeats 4000000 in
theorem ScriptJoins_A (a b : List UInt8) (ha : a.length ≤ 4000000000000000000) (hb : b.length ≤ 4000000000000000000) : PureR Tryd.prog 6 [sv a, sv b] (· = bv true) := by
  refine pure_of_wp Tt_ok mixed Tryd.func6 rfl (by rfl) [4] rfl (by kernel_rfl) (by simp [Tryd.ntmps6]) fun g => ?_
  simp (config := { maxSteps := 1000000 }) only [go_sem, ↓reduceIte, Nat.reduceEqDiff, Nat.reduceAdd, Nat.reduceMul, Nat.reduceSub, Nat.reduceLT, Nat.reduceLeDiff, Int.reduceLT, Int.reduceLE, Int.reduceEq, Int.reduceNe, Int.reduceAdd, Int.reduceNeg, Int.reduceToNat]
  refine hook_call rfl (by simp (config := { maxSteps := 1000000 }) only [go_sem, ↓reduceIte, Nat.reduceEqDiff, Nat.reduceAdd, Nat.reduceMul, Nat.reduceSub, Nat.reduceLT, Nat.reduceLeDiff, Int.reduceLT, Int.reduceLE, Int.reduceEq, Int.reduceNe, Int.reduceAdd, Int.reduceNeg, Int.reduceToNat]; exact alive_A) (by simp (config := { maxSteps := 1000000 }) only [go_sem, ↓reduceIte, Nat.reduceEqDiff, Nat.reduceAdd, Nat.reduceMul, Nat.reduceSub, Nat.reduceLT, Nat.reduceLeDiff, Int.reduceLT, Int.reduceLE, Int.reduceEq, Int.reduceNe, Int.reduceAdd, Int.reduceNeg, Int.reduceToNat]; rfl) ?_
  rintro _ rfl
  simp (config := { maxSteps := 1000000 }) only [go_sem, ↓reduceIte, Nat.reduceEqDiff, Nat.reduceAdd, Nat.reduceMul, Nat.reduceSub, Nat.reduceLT, Nat.reduceLeDiff, Int.reduceLT, Int.reduceLE, Int.reduceEq, Int.reduceNe, Int.reduceAdd, Int.reduceNeg, Int.reduceToNat]
  intro h1 h2
  refine loop_intro (fun n st => ∃ k : Nat, n + k = a.length ∧ st.f 0 = sv a ∧ st.f 1 = sv b ∧ st.f 6 = iv .i64 k ∧ st.f 5 = iv .i64 ((1 + (a.take k).count 10 : Nat) : Int) ∧ st.obj = fun _ => none) a.length ?_ ?_
  · refine ⟨0, by omega, ?_⟩
    simp (config := { maxSteps := 1000000 }) only [go_sem, ↓reduceIte, Nat.reduceEqDiff, Nat.reduceAdd, Nat.reduceMul, Nat.reduceSub, Nat.reduceLT, Nat.reduceLeDiff, Int.reduceLT, Int.reduceLE, Int.reduceEq, Int.reduceNe, Int.reduceAdd, Int.reduceNeg, Int.reduceToNat]
    simp
  · rintro n f g ob ⟨k, hk, h0, h1', h6, h5, ho⟩
    simp only at h0 h1' h5 h6 ho
    subst ho
    have hw := wrap_succ (k := k) (by omega)
    by_cases hlt : k < a.length
    · obtain ⟨c, hc⟩ := getq hlt
      have hct := count_take hc
      have hcl : (a.take k).count 10 ≤ (a.take k).length := List.count_le_length
      have hcl2 : (a.take k).length ≤ k := by simp [List.length_take]; omega
      have hw5 := wrap_succ (k := 1 + (a.take k).count 10) (by omega)
      simp (config := { maxSteps := 1000000 }) only [go_sem, ↓reduceIte, Nat.reduceEqDiff, Nat.reduceAdd, Nat.reduceMul, Nat.reduceSub, Nat.reduceLT, Nat.reduceLeDiff, Int.reduceLT, Int.reduceLE, Int.reduceEq, Int.reduceNe, Int.reduceAdd, Int.reduceNeg, Int.reduceToNat, h0, h1', h6, h5, hlt, hc]
      refine ⟨fun e => ?_, fun e => ?_⟩
      · have hc10 : c = 10 := u8_eq (d := 10) e
        rw [if_pos hc10] at hct
        simp (config := { maxSteps := 1000000 }) only [go_sem, ↓reduceIte, Nat.reduceEqDiff, Nat.reduceAdd, Nat.reduceMul, Nat.reduceSub, Nat.reduceLT, Nat.reduceLeDiff, Int.reduceLT, Int.reduceLE, Int.reduceEq, Int.reduceNe, Int.reduceAdd, Int.reduceNeg, Int.reduceToNat, h6, h5, hw, hw5]
        refine round_end (n - 1) (by omega) ⟨k + 1, by omega, ?_⟩
        simp (config := { maxSteps := 1000000 }) only [go_sem, ↓reduceIte, Nat.reduceEqDiff, Nat.reduceAdd, Nat.reduceMul, Nat.reduceSub, Nat.reduceLT, Nat.reduceLeDiff, Int.reduceLT, Int.reduceLE, Int.reduceEq, Int.reduceNe, Int.reduceAdd, Int.reduceNeg, Int.reduceToNat, h0, h1', hct]
        rw [show 1 + (a.take k).count 10 + 1 = 1 + ((a.take k).count 10 + 1) from by omega]
      · have hc10 : c ≠ 10 := fun h => e (by rw [h]; rfl)
        rw [if_neg hc10] at hct
        simp (config := { maxSteps := 1000000 }) only [go_sem, ↓reduceIte, Nat.reduceEqDiff, Nat.reduceAdd, Nat.reduceMul, Nat.reduceSub, Nat.reduceLT, Nat.reduceLeDiff, Int.reduceLT, Int.reduceLE, Int.reduceEq, Int.reduceNe, Int.reduceAdd, Int.reduceNeg, Int.reduceToNat, h6, hw]
        refine round_end (n - 1) (by omega) ⟨k + 1, by omega, ?_⟩
        simp (config := { maxSteps := 1000000 }) only [go_sem, ↓reduceIte, Nat.reduceEqDiff, Nat.reduceAdd, Nat.reduceMul, Nat.reduceSub, Nat.reduceLT, Nat.reduceLeDiff, Int.reduceLT, Int.reduceLE, Int.reduceEq, Int.reduceNe, Int.reduceAdd, Int.reduceNeg, Int.reduceToNat, h0, h1', h5, hct]
    · rw [List.take_of_length_le (by omega)] at h5
      have hcnt := splitB_count a
      have hla := splitB_len a
      have hlb := splitB_len b
      simp (config := { maxSteps := 1000000 }) only [go_sem, ↓reduceIte, Nat.reduceEqDiff, Nat.reduceAdd, Nat.reduceMul, Nat.reduceSub, Nat.reduceLT, Nat.reduceLeDiff, Int.reduceLT, Int.reduceLE, Int.reduceEq, Int.reduceNe, Int.reduceAdd, Int.reduceNeg, Int.reduceToNat, h0, h1', h6, h5, hlt]
      refine hook_call rfl (by simp (config := { maxSteps := 1000000 }) only [go_sem, ↓reduceIte, Nat.reduceEqDiff, Nat.reduceAdd, Nat.reduceMul, Nat.reduceSub, Nat.reduceLT, Nat.reduceLeDiff, Int.reduceLT, Int.reduceLE, Int.reduceEq, Int.reduceNe, Int.reduceAdd, Int.reduceNeg, Int.reduceToNat]; exact Read_A a (by omega)) (by simp (config := { maxSteps := 1000000 }) only [go_sem, ↓reduceIte, Nat.reduceEqDiff, Nat.reduceAdd, Nat.reduceMul, Nat.reduceSub, Nat.reduceLT, Nat.reduceLeDiff, Int.reduceLT, Int.reduceLE, Int.reduceEq, Int.reduceNe, Int.reduceAdd, Int.reduceNeg, Int.reduceToNat]; rfl) ?_
      rintro _ rfl
      simp (config := { maxSteps := 1000000 }) only [go_sem, ↓reduceIte, Nat.reduceEqDiff, Nat.reduceAdd, Nat.reduceMul, Nat.reduceSub, Nat.reduceLT, Nat.reduceLeDiff, Int.reduceLT, Int.reduceLE, Int.reduceEq, Int.reduceNe, Int.reduceAdd, Int.reduceNeg, Int.reduceToNat, readRV, h1']
      refine hook_call rfl (by simp (config := { maxSteps := 1000000 }) only [go_sem, ↓reduceIte, Nat.reduceEqDiff, Nat.reduceAdd, Nat.reduceMul, Nat.reduceSub, Nat.reduceLT, Nat.reduceLeDiff, Int.reduceLT, Int.reduceLE, Int.reduceEq, Int.reduceNe, Int.reduceAdd, Int.reduceNeg, Int.reduceToNat]; exact Read_A b (by omega)) (by simp (config := { maxSteps := 1000000 }) only [go_sem, ↓reduceIte, Nat.reduceEqDiff, Nat.reduceAdd, Nat.reduceMul, Nat.reduceSub, Nat.reduceLT, Nat.reduceLeDiff, Int.reduceLT, Int.reduceLE, Int.reduceEq, Int.reduceNe, Int.reduceAdd, Int.reduceNeg, Int.reduceToNat]; rfl) ?_
      rintro _ rfl
      simp (config := { maxSteps := 1000000 }) only [go_sem, ↓reduceIte, Nat.reduceEqDiff, Nat.reduceAdd, Nat.reduceMul, Nat.reduceSub, Nat.reduceLT, Nat.reduceLeDiff, Int.reduceLT, Int.reduceLE, Int.reduceEq, Int.reduceNe, Int.reduceAdd, Int.reduceNeg, Int.reduceToNat, readRV, h0, h1']
      refine ⟨by omega, by simp only [List.length_append, List.length_cons, List.length_nil]; omega, ?_⟩
      refine hook_call rfl (by simp (config := { maxSteps := 1000000 }) only [go_sem, ↓reduceIte, Nat.reduceEqDiff, Nat.reduceAdd, Nat.reduceMul, Nat.reduceSub, Nat.reduceLT, Nat.reduceLeDiff, Int.reduceLT, Int.reduceLE, Int.reduceEq, Int.reduceNe, Int.reduceAdd, Int.reduceNeg, Int.reduceToNat]; exact Read_A (a ++ [10] ++ b) (by simp; omega)) (by simp (config := { maxSteps := 1000000 }) only [go_sem, ↓reduceIte, Nat.reduceEqDiff, Nat.reduceAdd, Nat.reduceMul, Nat.reduceSub, Nat.reduceLT, Nat.reduceLeDiff, Int.reduceLT, Int.reduceLE, Int.reduceEq, Int.reduceNe, Int.reduceAdd, Int.reduceNeg, Int.reduceToNat]; rfl) ?_
      rintro _ rfl
      have hj : splitB (a ++ [10] ++ b) = splitB a ++ splitB b := by rw [← splitB_join]; simp
      rcases readB_cases a with ⟨oka, ea⟩ | ⟨na, e1, he1, _, _, fa, ra⟩
      · rcases readB_cases b with ⟨okb, eb⟩ | ⟨nb, e2, he2, _, _, fb, rb⟩
        · have hab : readB (a ++ [10] ++ b) = (linesOf (splitB a) ++ linesOf (splitB b), 0, 0) := by
            rw [readB_ok (by rw [hj, List.all_append, oka, okb]; rfl), hj, linesOf_app]
          have l1 := linesOf_len (splitB a)
          have l2 := linesOf_len (splitB b)
          have r1 := linesOf_right oka
          have r2 := linesOf_right okb
          rw [ea, eb, hab]
          simp (config := { maxSteps := 1000000 }) only [go_sem, ↓reduceIte, Nat.reduceEqDiff, Nat.reduceAdd, Nat.reduceMul, Nat.reduceSub, Nat.reduceLT, Nat.reduceLeDiff, Int.reduceLT, Int.reduceLE, Int.reduceEq, Int.reduceNe, Int.reduceAdd, Int.reduceNeg, Int.reduceToNat, readRV, linesD, elemTy]
          have f1 := lines_flat_len (linesOf (splitB a))
          have f2 := lines_flat_len (linesOf (splitB b))
          have f3 : (List.map lineD (linesOf (splitB a))).flatten.length = (linesOf (splitB a)).length * 2 := by rw [← f1, ← lines_flat, List.length_map]
          refine ⟨lineD_two _, ⟨by decide, by omega⟩, by omega, lineD_two _, ⟨by decide, by omega⟩, ?_⟩
          refine hook_view rfl (xs := [.one (.d (linesD (linesOf (splitB a) ++ linesOf (splitB b)))), .one (.d (linesD (linesOf (splitB a) ++ linesOf (splitB b))))]) ?_ (Same_A _ _ (by simp; omega) (fun l hl => by
            rcases List.mem_append.1 hl with hl | hl
            · have := right_bounds (List.all_eq_true.1 r1 l hl); omega
            · have := right_bounds (List.all_eq_true.1 r2 l hl); omega)) (by rintro _ rfl; rfl) ?_
          · simp (config := { maxSteps := 1000000 }) only [go_sem, ↓reduceIte, Nat.reduceEqDiff, Nat.reduceAdd, Nat.reduceMul, Nat.reduceSub, Nat.reduceLT, Nat.reduceLeDiff, Int.reduceLT, Int.reduceLE, Int.reduceEq, Int.reduceNe, Int.reduceAdd, Int.reduceNeg, Int.reduceToNat]
            refine frzVs_two (.d (.sl _)) (frz_two (a := linesOf (splitB a)) (b := linesOf (splitB b)) (by simp [upd]) (by simp [upd]; rfl) ?_ rfl)
            rw [flat_two, flat_two, List.take_of_length_le (Nat.le_of_eq f1), List.flatMap_append]
          · rintro _ rfl
            simp (config := { maxSteps := 1000000 }) only [go_sem, ↓reduceIte, Nat.reduceEqDiff, Nat.reduceAdd, Nat.reduceMul, Nat.reduceSub, Nat.reduceLT, Nat.reduceLeDiff, Int.reduceLT, Int.reduceLE, Int.reduceEq, Int.reduceNe, Int.reduceAdd, Int.reduceNeg, Int.reduceToNat]
        · have hab : readB (a ++ [10] ++ b) = ([], nb + (splitB a).length, e2) := by
            unfold readB
            rw [hj, readFrom_app oka, readFrom_shift, fb]; rfl
          have hwn : IntKind.i64.wrap ((nb : Int) + ((1 + a.count 10 : Nat) : Int)) = ((nb + (splitB a).length : Nat) : Int) := by rw [hcnt, wrap_i64] <;> omega
          rw [ea, rb, hab]
          simp (config := { maxSteps := 1000000 }) only [go_sem, ↓reduceIte, Nat.reduceEqDiff, Nat.reduceAdd, Nat.reduceMul, Nat.reduceSub, Nat.reduceLT, Nat.reduceLeDiff, Int.reduceLT, Int.reduceLE, Int.reduceEq, Int.reduceNe, Int.reduceAdd, Int.reduceNeg, Int.reduceToNat, readRV, he2, h5, hwn]
      · have hab : readB (a ++ [10] ++ b) = ([], na, e1) := by
          unfold readB
          rw [hj, readFrom_first fa]
        rw [ra, hab]
        simp (config := { maxSteps := 1000000 }) only [go_sem, ↓reduceIte, Nat.reduceEqDiff, Nat.reduceAdd, Nat.reduceMul, Nat.reduceSub, Nat.reduceLT, Nat.reduceLeDiff, Int.reduceLT, Int.reduceLE, Int.reduceEq, Int.reduceNe, Int.reduceAdd, Int.reduceNeg, Int.reduceToNat, readRV, he1]

end Go.Proofs.YtdlogfbbcbbllaaDoor

namespace Go.Proofs.YtdlogfbbcbbllaaDoor
open Go Go.Am

theorem n10 : ((UInt8.toNat 10 : Nat) : Int) = 10 := rfl

theorem readB_one {x : List UInt8} (h : 10 ∉ x) : readB x = if okL x = true then (linesOf [x], 0, 0) else ([], 1, (lineP x).2.2) := by
  have hsp := splitB_none h
  split
  · rename_i ho; rw [readB_ok (by rw [hsp]; simpa using ho), hsp]
  · rename_i ho; unfold readB; rw [hsp]; simp [readFrom, ho]

theorem piece_next {s : List UInt8} {k fr : Nat} {c : UInt8} (hc : s[k]? = some c) (h : fr ≤ k) : (s.take (k + 1)).drop fr = (s.take k).drop fr ++ [c] := by
  have hk := (List.getElem?_eq_some_iff.1 hc).1
  rw [List.take_add_one, hc, List.drop_append_of_le_length (by simp only [List.length_take]; omega)]
  rfl
theorem piece_cut {s : List UInt8} {k fr : Nat} (hc : s[k]? = some 10) (h : fr ≤ k) : s.drop fr = (s.take k).drop fr ++ 10 :: s.drop (k + 1) := by
  have hk := (List.getElem?_eq_some_iff.1 hc).1
  conv => lhs; rw [← List.take_append_drop k s]
  rw [List.drop_append_of_le_length (by simp only [List.length_take]; omega), drop_cons hc]
theorem wrong_at {done rest : List (List UInt8)} {x : List UInt8} {s : List UInt8} (h : splitB s = done ++ x :: rest) (ha : done.all okL = true) (hx : ¬ okL x = true) : readB s = ([], done.length + 1, (lineP x).2.2) := by
  unfold readB
  rw [h, readFrom_app ha]
  simp [readFrom, hx]

/-- The lines so far: nil, or an object of the call's own. -/
def AllL (L : List Line) (st : St) : Prop := (st.f 6 = .one (.d .nsl) ∧ L = []) ∨ (st.f 6 = .one (.osl 65 (st.gen 65) 2 0 L.length) ∧ st.obj 65 = some (L.flatMap fun l => (lineD l).map .d))

set_option maxHeartbeats 8000000 in
theorem ScriptLines_A (s : List UInt8) (hs : s.length ≤ 4000000000000000000) : PureR Tryd.prog 9 [sv s] (· = bv true) := by
  refine pure_of_wp Tt_ok mixed Tryd.func9 rfl (by rfl) [2] rfl (by kernel_rfl) (by simp [Tryd.ntmps9]) fun g => ?_
  simp (config := { maxSteps := 1000000 }) only [go_sem, ↓reduceIte, Nat.reduceEqDiff, Nat.reduceAdd, Nat.reduceMul, Nat.reduceSub, Nat.reduceLT, Nat.reduceLeDiff, Int.reduceLT, Int.reduceLE, Int.reduceEq, Int.reduceNe, Int.reduceAdd, Int.reduceNeg, Int.reduceToNat]
  refine hook_call rfl (by simp (config := { maxSteps := 1000000 }) only [go_sem, ↓reduceIte, Nat.reduceEqDiff, Nat.reduceAdd, Nat.reduceMul, Nat.reduceSub, Nat.reduceLT, Nat.reduceLeDiff, Int.reduceLT, Int.reduceLE, Int.reduceEq, Int.reduceNe, Int.reduceAdd, Int.reduceNeg, Int.reduceToNat]; exact alive_A) (by simp (config := { maxSteps := 1000000 }) only [go_sem, ↓reduceIte, Nat.reduceEqDiff, Nat.reduceAdd, Nat.reduceMul, Nat.reduceSub, Nat.reduceLT, Nat.reduceLeDiff, Int.reduceLT, Int.reduceLE, Int.reduceEq, Int.reduceNe, Int.reduceAdd, Int.reduceNeg, Int.reduceToNat]; rfl) ?_
  rintro _ rfl
  simp (config := { maxSteps := 1000000 }) only [go_sem, ↓reduceIte, Nat.reduceEqDiff, Nat.reduceAdd, Nat.reduceMul, Nat.reduceSub, Nat.reduceLT, Nat.reduceLeDiff, Int.reduceLT, Int.reduceLE, Int.reduceEq, Int.reduceNe, Int.reduceAdd, Int.reduceNeg, Int.reduceToNat]
  intro h6
  refine hook_call rfl (by simp (config := { maxSteps := 1000000 }) only [go_sem, ↓reduceIte, Nat.reduceEqDiff, Nat.reduceAdd, Nat.reduceMul, Nat.reduceSub, Nat.reduceLT, Nat.reduceLeDiff, Int.reduceLT, Int.reduceLE, Int.reduceEq, Int.reduceNe, Int.reduceAdd, Int.reduceNeg, Int.reduceToNat]; exact Read_A s (by omega)) (by simp (config := { maxSteps := 1000000 }) only [go_sem, ↓reduceIte, Nat.reduceEqDiff, Nat.reduceAdd, Nat.reduceMul, Nat.reduceSub, Nat.reduceLT, Nat.reduceLeDiff, Int.reduceLT, Int.reduceLE, Int.reduceEq, Int.reduceNe, Int.reduceAdd, Int.reduceNeg, Int.reduceToNat]; rfl) ?_
  rintro _ rfl
  obtain ⟨R, hR⟩ : ∃ R, readB s = R := ⟨_, rfl⟩
  rw [hR]
  simp (config := { maxSteps := 1000000 }) only [go_sem, ↓reduceIte, Nat.reduceEqDiff, Nat.reduceAdd, Nat.reduceMul, Nat.reduceSub, Nat.reduceLT, Nat.reduceLeDiff, Int.reduceLT, Int.reduceLE, Int.reduceEq, Int.reduceNe, Int.reduceAdd, Int.reduceNeg, Int.reduceToNat, readRV]
  have hnl := splitB_len s
  refine loop_intro (fun n st => ∃ (k fr : Nat) (done : List (List UInt8)), n + k = s.length + 1 ∧ st.f 0 = sv s ∧ st.f 3 = .one (.d (linesD R.1)) ∧ st.f 4 = iv .i64 R.2.1 ∧ st.f 5 = iv .i64 R.2.2 ∧ st.f 9 = iv .i64 k ∧ st.f 7 = iv .i64 fr ∧ st.f 8 = iv .i64 ((done.length + 1 : Nat) : Int) ∧ done.all okL = true ∧ AllL (linesOf done) st ∧
    (k ≤ s.length ∧ splitB s = done ++ splitB (s.drop fr) ∧ fr ≤ k ∧ 10 ∉ (s.take k).drop fr ∨ k = s.length + 1 ∧ done = splitB s)) (s.length + 1) ?_ ?_
  · refine ⟨0, 0, [], by omega, ?_⟩
    simp (config := { maxSteps := 1000000 }) only [go_sem, ↓reduceIte, Nat.reduceEqDiff, Nat.reduceAdd, Nat.reduceMul, Nat.reduceSub, Nat.reduceLT, Nat.reduceLeDiff, Int.reduceLT, Int.reduceLE, Int.reduceEq, Int.reduceNe, Int.reduceAdd, Int.reduceNeg, Int.reduceToNat]
    refine ⟨rfl, .inl ⟨by simp [upd], rfl⟩, .inl ⟨Nat.zero_le _, ?_⟩⟩
    simp
  · rintro n f g ob ⟨k, fr, done, hk, h0, h3, h4, h5, h9, h7, h8, hall, hL, hpos⟩
    simp only at h0 h3 h4 h5 h9 h7 h8
    have hw := wrap_succ (k := k) (by omega)
    have hdl : done.length ≤ s.length + 1 := by
      rcases hpos with ⟨_, hp, _⟩ | ⟨_, hp⟩
      · have := congrArg List.length hp; simp only [List.length_append] at this; omega
      · rw [hp]; exact hnl
    have hw8 := wrap_succ (k := done.length + 1) (by omega)
    rcases hpos with ⟨hkl, hsp, hfr, hlf⟩ | ⟨hkl, rfl⟩
    · have hle : (k : Int) ≤ (s.length : Int) := by omega
      have hpiece : ∀ rest, splitB s = done ++ (s.take k).drop fr :: rest → (if okL ((s.take k).drop fr) = true then True else R = ([], done.length + 1, (lineP ((s.take k).drop fr)).2.2)) := fun rest h => by
        split
        · trivial
        · rename_i ho; rw [← hR]; exact wrong_at h hall ho
      by_cases hlt : k < s.length
      · obtain ⟨c, hc⟩ := getq hlt
        by_cases hc10 : c = 10
        · subst hc10
          simp (config := { maxSteps := 1000000 }) only [go_sem, ↓reduceIte, Nat.reduceEqDiff, Nat.reduceAdd, Nat.reduceMul, Nat.reduceSub, Nat.reduceLT, Nat.reduceLeDiff, Int.reduceLT, Int.reduceLE, Int.reduceEq, Int.reduceNe, Int.reduceAdd, Int.reduceNeg, Int.reduceToNat, h0, h9, hle, hlt, hc, h7, n10]
          refine ⟨hfr, by omega, ?_⟩
          have hrest : splitB s = done ++ (s.take k).drop fr :: splitB (s.drop (k + 1)) := by
            rw [hsp]; congr 1
            rw [piece_cut hc hfr, splitB_join, splitB_none hlf]; rfl
          have hp := hpiece _ hrest
          have hxl : ((s.take k).drop fr).length ≤ s.length := by simp only [List.length_drop, List.length_take]; omega
          refine hook_call rfl (by simp (config := { maxSteps := 1000000 }) only [go_sem, ↓reduceIte, Nat.reduceEqDiff, Nat.reduceAdd, Nat.reduceMul, Nat.reduceSub, Nat.reduceLT, Nat.reduceLeDiff, Int.reduceLT, Int.reduceLE, Int.reduceEq, Int.reduceNe, Int.reduceAdd, Int.reduceNeg, Int.reduceToNat]; exact Read_A ((s.take k).drop fr) (by omega)) (by simp (config := { maxSteps := 1000000 }) only [go_sem, ↓reduceIte, Nat.reduceEqDiff, Nat.reduceAdd, Nat.reduceMul, Nat.reduceSub, Nat.reduceLT, Nat.reduceLeDiff, Int.reduceLT, Int.reduceLE, Int.reduceEq, Int.reduceNe, Int.reduceAdd, Int.reduceNeg, Int.reduceToNat]; rfl) ?_
          rintro _ rfl
          rw [readB_one hlf]
          by_cases ho : okL ((s.take k).drop fr) = true
          · rw [if_pos ho]
            have hln := linesOf_len done
            have hl1 := linesOf_len [(s.take k).drop fr]
            simp only [List.length_cons, List.length_nil] at hl1
            have hallx : (done ++ [(s.take k).drop fr]).all okL = true := by rw [List.all_append, hall]; simp [ho]
            have hnext : 0 ≤ 1 ∧ (k + 1 ≤ s.length ∧ splitB s = (done ++ [(s.take k).drop fr]) ++ splitB (s.drop (k + 1)) ∧ k ≤ k ∧ 10 ∉ (s.take (k + 1)).drop (k + 1) ∨ k = s.length ∧ done ++ [(s.take k).drop fr] = splitB s) := ⟨by decide, by
              refine .inl ⟨by omega, by rw [hrest]; simp, Nat.le_refl _, ?_⟩
              rw [List.drop_eq_nil_of_le (by simp only [List.length_take]; omega)]; simp⟩
            have f1 := lines_flat_len (linesOf done)
            have f2 := lines_flat_len (linesOf [(s.take k).drop fr])
            rcases hL with ⟨q6, qL⟩ | ⟨q6, qo⟩
            · simp only at q6
              simp (config := { maxSteps := 1000000 }) only [go_sem, ↓reduceIte, Nat.reduceEqDiff, Nat.reduceAdd, Nat.reduceMul, Nat.reduceSub, Nat.reduceLT, Nat.reduceLeDiff, Int.reduceLT, Int.reduceLE, Int.reduceEq, Int.reduceNe, Int.reduceAdd, Int.reduceNeg, Int.reduceToNat, readRV, linesD, elemTy, h0, h3, h4, h5, h7, h8, h9, q6, hw, hw8]
              refine ⟨lineD_two _, ⟨by decide, by omega⟩, ?_⟩
              refine round_end (n - 1) (by omega) ⟨k + 1, k + 1, done ++ [(s.take k).drop fr], by omega, ?_⟩
              simp (config := { maxSteps := 1000000 }) only [go_sem, ↓reduceIte, Nat.reduceEqDiff, Nat.reduceAdd, Nat.reduceMul, Nat.reduceSub, Nat.reduceLT, Nat.reduceLeDiff, Int.reduceLT, Int.reduceLE, Int.reduceEq, Int.reduceNe, Int.reduceAdd, Int.reduceNeg, Int.reduceToNat, h0, h3, h4, h5, h7, h8, linesD]
              refine ⟨by rw [List.length_append]; rfl, hallx, .inr ⟨?_, ?_⟩, hnext.2⟩
              · simp only [upd]; simp [linesOf_app, qL]
              · simp only [upd]; simp [linesOf_app, qL, flat_two]
            · simp only at q6 qo
              have f3 : (List.map lineD (linesOf [(s.take k).drop fr])).flatten.length = (linesOf [(s.take k).drop fr]).length * 2 := by rw [← f2, ← lines_flat, List.length_map]
              simp (config := { maxSteps := 1000000 }) only [go_sem, ↓reduceIte, Nat.reduceEqDiff, Nat.reduceAdd, Nat.reduceMul, Nat.reduceSub, Nat.reduceLT, Nat.reduceLeDiff, Int.reduceLT, Int.reduceLE, Int.reduceEq, Int.reduceNe, Int.reduceAdd, Int.reduceNeg, Int.reduceToNat, readRV, linesD, elemTy, h0, h3, h4, h5, h7, h8, h9, q6, qo, hw, hw8]
              refine ⟨by omega, lineD_two _, ⟨by decide, by omega⟩, ?_⟩
              refine round_end (n - 1) (by omega) ⟨k + 1, k + 1, done ++ [(s.take k).drop fr], by omega, ?_⟩
              simp (config := { maxSteps := 1000000 }) only [go_sem, ↓reduceIte, Nat.reduceEqDiff, Nat.reduceAdd, Nat.reduceMul, Nat.reduceSub, Nat.reduceLT, Nat.reduceLeDiff, Int.reduceLT, Int.reduceLE, Int.reduceEq, Int.reduceNe, Int.reduceAdd, Int.reduceNeg, Int.reduceToNat, h0, h3, h4, h5, h7, h8, linesD]
              refine ⟨by rw [List.length_append]; rfl, hallx, .inr ⟨?_, ?_⟩, hnext.2⟩
              · simp only [upd]; simp [linesOf_app]
              · simp only [upd]; simp only [if_true]; rw [List.take_of_length_le (Nat.le_of_eq f1), lines_flat, linesOf_app, List.flatMap_append]
          · rw [if_neg ho]
            rw [if_neg ho] at hp
            have hne : ¬ (lineP ((s.take k).drop fr)).2.2 = 0 := by simpa [okL] using ho
            rw [hp] at h4 h5
            simp (config := { maxSteps := 1000000 }) only [go_sem, ↓reduceIte, Nat.reduceEqDiff, Nat.reduceAdd, Nat.reduceMul, Nat.reduceSub, Nat.reduceLT, Nat.reduceLeDiff, Int.reduceLT, Int.reduceLE, Int.reduceEq, Int.reduceNe, Int.reduceAdd, Int.reduceNeg, Int.reduceToNat, readRV, h0, h3, h4, h5, h7, h8, h9, hne]
        · have hcz : ¬ (c.toNat : Int) = 10 := fun e => hc10 (u8_eq (d := 10) e)
          simp (config := { maxSteps := 1000000 }) only [go_sem, ↓reduceIte, Nat.reduceEqDiff, Nat.reduceAdd, Nat.reduceMul, Nat.reduceSub, Nat.reduceLT, Nat.reduceLeDiff, Int.reduceLT, Int.reduceLE, Int.reduceEq, Int.reduceNe, Int.reduceAdd, Int.reduceNeg, Int.reduceToNat, h0, h9, hle, hlt, hc, hcz, hw]
          refine round_end (n - 1) (by omega) ⟨k + 1, fr, done, by omega, ?_⟩
          simp (config := { maxSteps := 1000000 }) only [go_sem, ↓reduceIte, Nat.reduceEqDiff, Nat.reduceAdd, Nat.reduceMul, Nat.reduceSub, Nat.reduceLT, Nat.reduceLeDiff, Int.reduceLT, Int.reduceLE, Int.reduceEq, Int.reduceNe, Int.reduceAdd, Int.reduceNeg, Int.reduceToNat, h0, h3, h4, h5, h7, h8]
          refine ⟨hall, by simpa [AllL, upd] using hL, .inl ⟨by omega, hsp, by omega, ?_⟩⟩
          rw [piece_next hc hfr]
          simp only [List.mem_append, List.mem_singleton, not_or]
          exact ⟨hlf, fun e => hc10 e.symm⟩
      · have hke : k = s.length := by omega
        simp (config := { maxSteps := 1000000 }) only [go_sem, ↓reduceIte, Nat.reduceEqDiff, Nat.reduceAdd, Nat.reduceMul, Nat.reduceSub, Nat.reduceLT, Nat.reduceLeDiff, Int.reduceLT, Int.reduceLE, Int.reduceEq, Int.reduceNe, Int.reduceAdd, Int.reduceNeg, Int.reduceToNat, h0, h9, hle, hlt, h7]
        refine ⟨hfr, by omega, ?_⟩
        have hrest : splitB s = done ++ (s.take k).drop fr :: [] := by
          rw [hsp]; congr 1
          have : (s.take k).drop fr = s.drop fr := by rw [List.take_of_length_le (by omega)]
          rw [← this, splitB_none hlf]
        have hp := hpiece _ hrest
        have hxl : ((s.take k).drop fr).length ≤ s.length := by simp only [List.length_drop, List.length_take]; omega
        refine hook_call rfl (by simp (config := { maxSteps := 1000000 }) only [go_sem, ↓reduceIte, Nat.reduceEqDiff, Nat.reduceAdd, Nat.reduceMul, Nat.reduceSub, Nat.reduceLT, Nat.reduceLeDiff, Int.reduceLT, Int.reduceLE, Int.reduceEq, Int.reduceNe, Int.reduceAdd, Int.reduceNeg, Int.reduceToNat]; exact Read_A ((s.take k).drop fr) (by omega)) (by simp (config := { maxSteps := 1000000 }) only [go_sem, ↓reduceIte, Nat.reduceEqDiff, Nat.reduceAdd, Nat.reduceMul, Nat.reduceSub, Nat.reduceLT, Nat.reduceLeDiff, Int.reduceLT, Int.reduceLE, Int.reduceEq, Int.reduceNe, Int.reduceAdd, Int.reduceNeg, Int.reduceToNat]; rfl) ?_
        rintro _ rfl
        rw [readB_one hlf]
        by_cases ho : okL ((s.take k).drop fr) = true
        · rw [if_pos ho]
          have hln := linesOf_len done
          have hl1 := linesOf_len [(s.take k).drop fr]
          simp only [List.length_cons, List.length_nil] at hl1
          have hallx : (done ++ [(s.take k).drop fr]).all okL = true := by rw [List.all_append, hall]; simp [ho]
          have hnext : 0 ≤ 1 ∧ (k + 1 ≤ s.length ∧ splitB s = (done ++ [(s.take k).drop fr]) ++ splitB (s.drop (k + 1)) ∧ k ≤ k ∧ 10 ∉ (s.take (k + 1)).drop (k + 1) ∨ k = s.length ∧ done ++ [(s.take k).drop fr] = splitB s) := ⟨by decide, by
            exact .inr ⟨by omega, hrest.symm⟩⟩
          have f1 := lines_flat_len (linesOf done)
          have f2 := lines_flat_len (linesOf [(s.take k).drop fr])
          rcases hL with ⟨q6, qL⟩ | ⟨q6, qo⟩
          · simp only at q6
            simp (config := { maxSteps := 1000000 }) only [go_sem, ↓reduceIte, Nat.reduceEqDiff, Nat.reduceAdd, Nat.reduceMul, Nat.reduceSub, Nat.reduceLT, Nat.reduceLeDiff, Int.reduceLT, Int.reduceLE, Int.reduceEq, Int.reduceNe, Int.reduceAdd, Int.reduceNeg, Int.reduceToNat, readRV, linesD, elemTy, h0, h3, h4, h5, h7, h8, h9, q6, hw, hw8]
            refine ⟨lineD_two _, ⟨by decide, by omega⟩, ?_⟩
            refine round_end (n - 1) (by omega) ⟨k + 1, k + 1, done ++ [(s.take k).drop fr], by omega, ?_⟩
            simp (config := { maxSteps := 1000000 }) only [go_sem, ↓reduceIte, Nat.reduceEqDiff, Nat.reduceAdd, Nat.reduceMul, Nat.reduceSub, Nat.reduceLT, Nat.reduceLeDiff, Int.reduceLT, Int.reduceLE, Int.reduceEq, Int.reduceNe, Int.reduceAdd, Int.reduceNeg, Int.reduceToNat, h0, h3, h4, h5, h7, h8, linesD]
            refine ⟨by rw [List.length_append]; rfl, hallx, .inr ⟨?_, ?_⟩, hnext.2⟩
            · simp only [upd]; simp [linesOf_app, qL]
            · simp only [upd]; simp [linesOf_app, qL, flat_two]
          · simp only at q6 qo
            have f3 : (List.map lineD (linesOf [(s.take k).drop fr])).flatten.length = (linesOf [(s.take k).drop fr]).length * 2 := by rw [← f2, ← lines_flat, List.length_map]
            simp (config := { maxSteps := 1000000 }) only [go_sem, ↓reduceIte, Nat.reduceEqDiff, Nat.reduceAdd, Nat.reduceMul, Nat.reduceSub, Nat.reduceLT, Nat.reduceLeDiff, Int.reduceLT, Int.reduceLE, Int.reduceEq, Int.reduceNe, Int.reduceAdd, Int.reduceNeg, Int.reduceToNat, readRV, linesD, elemTy, h0, h3, h4, h5, h7, h8, h9, q6, qo, hw, hw8]
            refine ⟨by omega, lineD_two _, ⟨by decide, by omega⟩, ?_⟩
            refine round_end (n - 1) (by omega) ⟨k + 1, k + 1, done ++ [(s.take k).drop fr], by omega, ?_⟩
            simp (config := { maxSteps := 1000000 }) only [go_sem, ↓reduceIte, Nat.reduceEqDiff, Nat.reduceAdd, Nat.reduceMul, Nat.reduceSub, Nat.reduceLT, Nat.reduceLeDiff, Int.reduceLT, Int.reduceLE, Int.reduceEq, Int.reduceNe, Int.reduceAdd, Int.reduceNeg, Int.reduceToNat, h0, h3, h4, h5, h7, h8, linesD]
            refine ⟨by rw [List.length_append]; rfl, hallx, .inr ⟨?_, ?_⟩, hnext.2⟩
            · simp only [upd]; simp [linesOf_app]
            · simp only [upd]; simp only [if_true]; rw [List.take_of_length_le (Nat.le_of_eq f1), lines_flat, linesOf_app, List.flatMap_append]
        · rw [if_neg ho]
          rw [if_neg ho] at hp
          have hne : ¬ (lineP ((s.take k).drop fr)).2.2 = 0 := by simpa [okL] using ho
          rw [hp] at h4 h5
          simp (config := { maxSteps := 1000000 }) only [go_sem, ↓reduceIte, Nat.reduceEqDiff, Nat.reduceAdd, Nat.reduceMul, Nat.reduceSub, Nat.reduceLT, Nat.reduceLeDiff, Int.reduceLT, Int.reduceLE, Int.reduceEq, Int.reduceNe, Int.reduceAdd, Int.reduceNeg, Int.reduceToNat, readRV, h0, h3, h4, h5, h7, h8, h9, hne]
    · have hle : ¬ (k : Int) ≤ (s.length : Int) := by omega
      have hRo : R = (linesOf (splitB s), 0, 0) := by rw [← hR]; exact readB_ok hall
      have hr := linesOf_right hall
      have hl := linesOf_len (splitB s)
      rw [hRo] at h3 h4 h5
      rcases hL with ⟨q6, qL⟩ | ⟨q6, qo⟩
      · simp only at q6
        simp (config := { maxSteps := 1000000 }) only [go_sem, ↓reduceIte, Nat.reduceEqDiff, Nat.reduceAdd, Nat.reduceMul, Nat.reduceSub, Nat.reduceLT, Nat.reduceLeDiff, Int.reduceLT, Int.reduceLE, Int.reduceEq, Int.reduceNe, Int.reduceAdd, Int.reduceNeg, Int.reduceToNat, h0, h3, h4, h5, h9, hle, q6]
        refine hook_view rfl (xs := [.one (.d (linesD (linesOf (splitB s)))), .one (.d (linesD (linesOf (splitB s))))]) ?_ (Same_A _ _ (by omega) (fun l hl => by have := right_bounds (List.all_eq_true.1 hr l hl); omega)) (by rintro _ rfl; rfl) ?_
        · simp (config := { maxSteps := 1000000 }) only [go_sem, ↓reduceIte, Nat.reduceEqDiff, Nat.reduceAdd, Nat.reduceMul, Nat.reduceSub, Nat.reduceLT, Nat.reduceLeDiff, Int.reduceLT, Int.reduceLE, Int.reduceEq, Int.reduceNe, Int.reduceAdd, Int.reduceNeg, Int.reduceToNat, h3]
          refine frzVs_two (.d (.sl _)) ?_
          rw [qL]; exact .d .nsl
        · rintro _ rfl
          simp (config := { maxSteps := 1000000 }) only [go_sem, ↓reduceIte, Nat.reduceEqDiff, Nat.reduceAdd, Nat.reduceMul, Nat.reduceSub, Nat.reduceLT, Nat.reduceLeDiff, Int.reduceLT, Int.reduceLE, Int.reduceEq, Int.reduceNe, Int.reduceAdd, Int.reduceNeg, Int.reduceToNat]
      · simp only at q6 qo
        simp (config := { maxSteps := 1000000 }) only [go_sem, ↓reduceIte, Nat.reduceEqDiff, Nat.reduceAdd, Nat.reduceMul, Nat.reduceSub, Nat.reduceLT, Nat.reduceLeDiff, Int.reduceLT, Int.reduceLE, Int.reduceEq, Int.reduceNe, Int.reduceAdd, Int.reduceNeg, Int.reduceToNat, h0, h3, h4, h5, h9, hle, q6]
        refine hook_view rfl (xs := [.one (.d (linesD (linesOf (splitB s)))), .one (.d (linesD (linesOf (splitB s))))]) ?_ (Same_A _ _ (by omega) (fun l hl => by have := right_bounds (List.all_eq_true.1 hr l hl); omega)) (by rintro _ rfl; rfl) ?_
        · simp (config := { maxSteps := 1000000 }) only [go_sem, ↓reduceIte, Nat.reduceEqDiff, Nat.reduceAdd, Nat.reduceMul, Nat.reduceSub, Nat.reduceLT, Nat.reduceLeDiff, Int.reduceLT, Int.reduceLE, Int.reduceEq, Int.reduceNe, Int.reduceAdd, Int.reduceNeg, Int.reduceToNat, h3]
          exact frzVs_two (.d (.sl _)) (frz_rows rfl (linesOf (splitB s)) lineD qo rfl (fun a _ x hx => by simp [lineD, strs] at hx; rcases hx with rfl | rfl <;> rfl) (fun a _ => rfl) rfl)
        · rintro _ rfl
          simp (config := { maxSteps := 1000000 }) only [go_sem, ↓reduceIte, Nat.reduceEqDiff, Nat.reduceAdd, Nat.reduceMul, Nat.reduceSub, Nat.reduceLT, Nat.reduceLeDiff, Int.reduceLT, Int.reduceLE, Int.reduceEq, Int.reduceNe, Int.reduceAdd, Int.reduceNeg, Int.reduceToNat]

end Go.Proofs.YtdlogfbbcbbllaaDoor

namespace Go.Proofs.YtdlogfbbcbbllaaDoor
open Go Go.Am

/-- The words so far: nil, or an object of the call's own. -/
def AllW (t : Nat) (ids : List Nat) (L : List (List UInt8)) (st : St) : Prop := (st.f t = .one (.d .nsl) ∧ L = []) ∨ ∃ id ∈ ids, st.f t = .one (.osl id (st.gen id) 1 0 L.length) ∧ st.obj id = some (L.map fun w => .d (.str w))

theorem frz_strs {s : St} {id g n : Nat} {L : List (List UInt8)} (hg : s.gen id = g) (ho : s.obj id = some (L.map fun w => .d (.str w))) (hn : n = L.length) : Frz s (.osl id g 1 0 n) (strs L) := by
  subst hn
  exact frz_map hg ho L (fun w => .str w) (fun _ => rfl) rfl (fun j a h => by simp [h]) (by simp)

set_option maxHeartbeats 4000000 in
theorem linesR_A (s : List UInt8) (hs : s.length ≤ 1000000) : PureR Tryd.prog 23 [sv s] (· = .one (.d (strs (splitB s)))) := by
  refine pure_of_wp Tt_ok mixed Tryd.func23 rfl (by rfl) [2] rfl (by kernel_rfl) (by simp [Tryd.ntmps23]) fun g => ?_
  simp (config := { maxSteps := 1000000 }) only [go_sem, ↓reduceIte, Nat.reduceEqDiff, Nat.reduceAdd, Nat.reduceMul, Nat.reduceSub, Nat.reduceLT, Nat.reduceLeDiff, Int.reduceLT, Int.reduceLE, Int.reduceEq, Int.reduceNe, Int.reduceAdd, Int.reduceNeg, Int.reduceToNat]
  refine loop_intro (fun n st => ∃ (k fr : Nat) (done : List (List UInt8)), n + k = s.length ∧ st.f 0 = sv s ∧ st.f 5 = iv .i64 k ∧ st.f 4 = iv .i64 fr ∧ AllW 3 [22] done st ∧ splitB s = done ++ splitB (s.drop fr) ∧ fr ≤ k ∧ 10 ∉ (s.take k).drop fr) s.length ?_ ?_
  · refine ⟨0, 0, [], by omega, ?_⟩
    simp (config := { maxSteps := 1000000 }) only [go_sem, ↓reduceIte, Nat.reduceEqDiff, Nat.reduceAdd, Nat.reduceMul, Nat.reduceSub, Nat.reduceLT, Nat.reduceLeDiff, Int.reduceLT, Int.reduceLE, Int.reduceEq, Int.reduceNe, Int.reduceAdd, Int.reduceNeg, Int.reduceToNat]
    refine ⟨.inl ⟨by simp [upd], rfl⟩, ?_⟩
    simp
  rintro n f g ob ⟨k, fr, done, hk, h0, h5, h4, hW, hsp, hfr, hlf⟩
  simp only at h0 h5 h4
  have hw := wrap_succ (k := k) (by omega)
  have hdl : done.length ≤ s.length + 1 := by
    have := congrArg List.length hsp
    have h2 := splitB_len s
    simp only [List.length_append] at this; omega
  by_cases hlt : k < s.length
  · obtain ⟨c, hc⟩ := getq hlt
    simp (config := { maxSteps := 1000000 }) only [go_sem, ↓reduceIte, Nat.reduceEqDiff, Nat.reduceAdd, Nat.reduceMul, Nat.reduceSub, Nat.reduceLT, Nat.reduceLeDiff, Int.reduceLT, Int.reduceLE, Int.reduceEq, Int.reduceNe, Int.reduceAdd, Int.reduceNeg, Int.reduceToNat, h0, h5, h4, hlt, hc]
    refine ⟨fun e => ?_, fun e => ?_⟩
    · have hc10 : c = 10 := u8_eq (d := 10) e
      subst hc10
      have hnext : splitB s = (done ++ [(s.take k).drop fr]) ++ splitB (s.drop (k + 1)) := by
        rw [hsp, piece_cut hc hfr, splitB_join, splitB_none hlf]; simp
      rcases hW with ⟨q3, qL⟩ | ⟨id, hid, q3, qo⟩
      · simp only at q3
        simp (config := { maxSteps := 1000000 }) only [go_sem, ↓reduceIte, Nat.reduceEqDiff, Nat.reduceAdd, Nat.reduceMul, Nat.reduceSub, Nat.reduceLT, Nat.reduceLeDiff, Int.reduceLT, Int.reduceLE, Int.reduceEq, Int.reduceNe, Int.reduceAdd, Int.reduceNeg, Int.reduceToNat, q3, elemTy]
        refine ⟨hfr, by omega, ⟨by decide, by decide⟩, ?_⟩
        simp (config := { maxSteps := 1000000 }) only [go_sem, ↓reduceIte, Nat.reduceEqDiff, Nat.reduceAdd, Nat.reduceMul, Nat.reduceSub, Nat.reduceLT, Nat.reduceLeDiff, Int.reduceLT, Int.reduceLE, Int.reduceEq, Int.reduceNe, Int.reduceAdd, Int.reduceNeg, Int.reduceToNat, h5, hw]
        refine round_end (n - 1) (by omega) ⟨k + 1, k + 1, done ++ [(s.take k).drop fr], by omega, ?_⟩
        simp (config := { maxSteps := 1000000 }) only [go_sem, ↓reduceIte, Nat.reduceEqDiff, Nat.reduceAdd, Nat.reduceMul, Nat.reduceSub, Nat.reduceLT, Nat.reduceLeDiff, Int.reduceLT, Int.reduceLE, Int.reduceEq, Int.reduceNe, Int.reduceAdd, Int.reduceNeg, Int.reduceToNat, h0]
        refine ⟨.inr ⟨22, by simp, by simp [upd, qL], by simp [upd, qL]⟩, hnext, ?_⟩
        rw [List.drop_eq_nil_of_le (by simp only [List.length_take]; omega)]; simp
      · simp only [List.mem_singleton] at hid
        subst hid
        simp only at q3 qo
        simp (config := { maxSteps := 1000000 }) only [go_sem, ↓reduceIte, Nat.reduceEqDiff, Nat.reduceAdd, Nat.reduceMul, Nat.reduceSub, Nat.reduceLT, Nat.reduceLeDiff, Int.reduceLT, Int.reduceLE, Int.reduceEq, Int.reduceNe, Int.reduceAdd, Int.reduceNeg, Int.reduceToNat, q3, qo, elemTy]
        refine ⟨hfr, by omega, Nat.le_refl _, ⟨by decide, by omega⟩, ?_⟩
        simp (config := { maxSteps := 1000000 }) only [go_sem, ↓reduceIte, Nat.reduceEqDiff, Nat.reduceAdd, Nat.reduceMul, Nat.reduceSub, Nat.reduceLT, Nat.reduceLeDiff, Int.reduceLT, Int.reduceLE, Int.reduceEq, Int.reduceNe, Int.reduceAdd, Int.reduceNeg, Int.reduceToNat, h5, hw]
        refine round_end (n - 1) (by omega) ⟨k + 1, k + 1, done ++ [(s.take k).drop fr], by omega, ?_⟩
        simp (config := { maxSteps := 1000000 }) only [go_sem, ↓reduceIte, Nat.reduceEqDiff, Nat.reduceAdd, Nat.reduceMul, Nat.reduceSub, Nat.reduceLT, Nat.reduceLeDiff, Int.reduceLT, Int.reduceLE, Int.reduceEq, Int.reduceNe, Int.reduceAdd, Int.reduceNeg, Int.reduceToNat, h0]
        refine ⟨.inr ⟨22, by simp, by simp [upd], by simp [upd, List.take_of_length_le]⟩, hnext, ?_⟩
        rw [List.drop_eq_nil_of_le (by simp only [List.length_take]; omega)]; simp
    · have hc10 : c ≠ 10 := fun h => e (by rw [h]; rfl)
      simp (config := { maxSteps := 1000000 }) only [go_sem, ↓reduceIte, Nat.reduceEqDiff, Nat.reduceAdd, Nat.reduceMul, Nat.reduceSub, Nat.reduceLT, Nat.reduceLeDiff, Int.reduceLT, Int.reduceLE, Int.reduceEq, Int.reduceNe, Int.reduceAdd, Int.reduceNeg, Int.reduceToNat, h5, hw]
      refine round_end (n - 1) (by omega) ⟨k + 1, fr, done, by omega, ?_⟩
      simp (config := { maxSteps := 1000000 }) only [go_sem, ↓reduceIte, Nat.reduceEqDiff, Nat.reduceAdd, Nat.reduceMul, Nat.reduceSub, Nat.reduceLT, Nat.reduceLeDiff, Int.reduceLT, Int.reduceLE, Int.reduceEq, Int.reduceNe, Int.reduceAdd, Int.reduceNeg, Int.reduceToNat, h0, h4]
      refine ⟨by simpa [AllW, upd] using hW, hsp, by omega, ?_⟩
      rw [piece_next hc hfr]
      simp only [List.mem_append, List.mem_singleton, not_or]
      exact ⟨hlf, fun e => hc10 e.symm⟩
  · rw [List.take_of_length_le (by omega)] at hlf
    have hnext : splitB s = done ++ [s.drop fr] := by rw [hsp, splitB_none hlf]
    rcases hW with ⟨q3, qL⟩ | ⟨id, hid, q3, qo⟩
    · simp only at q3
      simp (config := { maxSteps := 1000000 }) only [go_sem, ↓reduceIte, Nat.reduceEqDiff, Nat.reduceAdd, Nat.reduceMul, Nat.reduceSub, Nat.reduceLT, Nat.reduceLeDiff, Int.reduceLT, Int.reduceLE, Int.reduceEq, Int.reduceNe, Int.reduceAdd, Int.reduceNeg, Int.reduceToNat, h0, h5, h4, hlt, q3, elemTy]
      refine ⟨by omega, Nat.le_refl _, ⟨by decide, by decide⟩, _, ⟨_, frz_strs (L := splitB s) rfl ?_ ?_, rfl⟩, rfl⟩
      · simp [upd, hnext, qL]
      · simp [hnext, qL]
    · simp only [List.mem_singleton] at hid
      subst hid
      simp only at q3 qo
      simp (config := { maxSteps := 1000000 }) only [go_sem, ↓reduceIte, Nat.reduceEqDiff, Nat.reduceAdd, Nat.reduceMul, Nat.reduceSub, Nat.reduceLT, Nat.reduceLeDiff, Int.reduceLT, Int.reduceLE, Int.reduceEq, Int.reduceNe, Int.reduceAdd, Int.reduceNeg, Int.reduceToNat, h0, h5, h4, hlt, q3, qo, elemTy]
      refine ⟨by omega, Nat.le_refl _, Nat.le_refl _, ⟨by decide, by omega⟩, _, ⟨_, frz_strs (L := splitB s) rfl ?_ ?_, rfl⟩, rfl⟩
      · simp [upd, hnext, List.take_of_length_le]
      · simp [hnext]

end Go.Proofs.YtdlogfbbcbbllaaDoor

namespace Go.Proofs.YtdlogfbbcbbllaaDoor
open Go Go.Am

def firstB (ps : List Part) : Bool := match ps with | [] => true | p :: _ => p.2.1
def wordsRV (ps : List Part) : AV := if good ps = true then .tup [.one (.d (strs (ps.map (·.1)))), bv (firstB ps), bv true] else .tup [.one (.d (strs [])), bv false, bv false]

structure Wi (s : List UInt8) (k : Nat) (done : List Part) : Prop where
  gd : good done = true
  iff : good (partsS s) = true ↔ ((done = [] ∨ overS (s.drop k) = true) ∧ good (partsS (s.drop k)) = true)
  eq : good (partsS s) = true → partsS s = done ++ partsS (s.drop k)

theorem Wi.begin (s : List UInt8) : Wi s 0 [] := ⟨rfl, by simp, by simp⟩
theorem Wi.done {s : List UInt8} {k : Nat} {done : List Part} (h : Wi s k done) (hp : partsS (s.drop k) = []) (ho : overS (s.drop k) = true) : good (partsS s) = true ∧ partsS s = done := by
  have hg := h.iff.2 ⟨.inr ho, by rw [hp]; rfl⟩
  exact ⟨hg, by rw [h.eq hg, hp, List.append_nil]⟩
theorem Wi.bad {s : List UInt8} {k : Nat} {done : List Part} (h : Wi s k done) (hb : ¬ ((done = [] ∨ overS (s.drop k) = true) ∧ good (partsS (s.drop k)) = true)) : good (partsS s) = false := by
  rw [← Bool.not_eq_true]; exact fun hg => hb (h.iff.1 hg)
theorem Wi.next {s r : List UInt8} {k j m : Nat} {c : UInt8} {w : List UInt8} {b : Bool} {done : List Part} (h : Wi s k done) (hj : s.drop j = c :: r) (ht : trimS (s.drop k) = c :: r) (hc : c ≠ 35) (ho : done = [] ∨ overS (s.drop k) = true) (hcut : cutP (c :: r) = ((w, b, false), m)) : Wi s (j + m) (done ++ [(w, b, false)]) := by
  have hd : (c :: r).drop m = s.drop (j + m) := by rw [← hj, List.drop_drop]
  have hp := partsS_cons ht hc
  rw [hcut] at hp
  simp only [hd] at hp
  refine ⟨?_, ?_, ?_⟩
  · have := h.gd; simp only [good, List.all_append, Bool.and_eq_true] at this ⊢; exact ⟨this, by simp⟩
  · rw [h.iff, hp]
    by_cases hov : overS (s.drop (j + m)) = true
    · rw [if_neg (by simp [hov])]
      simp [ho, hov, good]
    · rw [if_pos (.inr (by simpa using hov))]
      simp [hov, good]
  · intro hg
    have h2 := h.eq hg
    rw [hp] at h2
    have h3 := (h.iff.1 hg).2
    rw [hp] at h3
    by_cases hov : overS (s.drop (j + m)) = true
    · rw [if_neg (by simp [hov])] at h2
      rw [h2]; simp
    · rw [if_pos (.inr (by simpa using hov))] at h3
      simp [good] at h3

theorem firstB_app {done : List Part} {p : Part} : firstB (done ++ [p]) = if done = [] then p.2.1 else firstB done := by
  cases done <;> simp [firstB]

theorem firstB_bare (done : List Part) (w : List UInt8) : firstB done = firstB (done ++ [(w, true, false)]) := by cases done <;> rfl
theorem trimS_all {l : List UInt8} (h : l.all (fun c => decide (c = 32)) = true) : trimS l = [] := by
  induction l with
  | nil => rfl
  | cons c l ih =>
    simp only [List.all_cons, Bool.and_eq_true, decide_eq_true_eq] at h
    rw [h.1, trimS_blank]; exact ih h.2
theorem wordsRV_done {ps done : List Part} (hg : good ps = true) (he : ps = done) : wordsRV ps = .tup [.one (.d (strs (done.map (·.1)))), bv (firstB done), bv true] := by
  unfold wordsRV; rw [if_pos hg, he]
theorem wordsRV_bad {ps : List Part} (hg : good ps = false) : wordsRV ps = .tup [.one (.d (strs [])), bv false, bv false] := by
  unfold wordsRV; rw [if_neg (by simp [hg])]
theorem trim_stop {s : List UInt8} {k j : Nat} (hjk : k ≤ j) (hall : ((s.take j).drop k).all (fun c => decide (c = 32)) = true) (hj : j ≤ s.length) : trimS (s.drop k) = trimS (s.drop j) := by
  have e : s.drop k = (s.take j).drop k ++ s.drop j := by
    conv => lhs; rw [← List.take_append_drop j s]
    rw [List.drop_append_of_le_length (by simp only [List.length_take]; omega)]
  rw [e, trimS_app]
  have : trimS ((s.take j).drop k) = [] := by
    exact trimS_all hall
  rw [if_pos this]
theorem over_moved {s : List UInt8} {k j : Nat} (hjk : k < j) (hall : ((s.take j).drop k).all (fun c => decide (c = 32)) = true) (hj : j ≤ s.length) : overS (s.drop k) = true := by
  obtain ⟨c, hc⟩ := getq (l := s) (k := k) (by omega)
  have hm : c ∈ (s.take j).drop k := by
    refine List.mem_of_getElem? (i := 0) ?_
    rw [List.getElem?_drop, List.getElem?_take, if_pos (by omega)]; exact hc
  have := List.all_eq_true.1 hall c hm
  simp only [decide_eq_true_eq] at this
  rw [drop_cons hc, this]; rfl

/-- The words so far: nil where there are none, else an object of the call's own. -/
def AllN (t : Nat) (ids : List Nat) (L : List (List UInt8)) (st : St) : Prop := (st.f t = .one (.d .nsl) ∧ L = []) ∨ (L ≠ [] ∧ ∃ id ∈ ids, st.f t = .one (.osl id (st.gen id) 1 0 L.length) ∧ st.obj id = some (L.map fun w => .d (.str w)))
theorem allN_mono {t : Nat} {ids : List Nat} {L : List (List UInt8)} {f f' : Nat → AV} {g : Nat → Nat} {ob : Obs} (h : AllN t ids L ⟨f, g, ob⟩) (hf : f' t = f t) : AllN t ids L ⟨f', g, ob⟩ := by
  rcases h with ⟨a, b⟩ | ⟨hn, id, a, b, c⟩
  · exact .inl ⟨hf.trans a, b⟩
  · exact .inr ⟨hn, id, a, hf.trans b, c⟩
theorem allN_len {t : Nat} {ids : List Nat} {L : List (List UInt8)} {f : Nat → AV} {g : Nat → Nat} {ob : Obs} (h : AllN t ids L ⟨f, g, ob⟩) (f' : Nat → AV) {K : AV → Prop} (k : Box K) : lenA ⟨f', g, ob⟩ false true (f t) k = K (iv .i64 L.length) := by
  rcases h with ⟨a, b⟩ | ⟨_, id, _, b, c⟩
  · simp only at a; rw [a, b]; simp [lenA]
  · simp only at b c; rw [b]; simp [lenA, c]

set_option maxHeartbeats 8000000 in
theorem Words_A (s : List UInt8) (hs : s.length ≤ 1000000) : PureR Tryd.prog 24 [sv s] (· = wordsRV (partsS s)) := by
  refine pure_of_wp Tt_ok mixed Tryd.func24 rfl (by rfl) [2, 3, 4] rfl (by kernel_rfl) (by simp [Tryd.ntmps24]) fun g => ?_
  simp (config := { maxSteps := 1000000 }) only [go_sem, ↓reduceIte, Nat.reduceEqDiff, Nat.reduceAdd, Nat.reduceMul, Nat.reduceSub, Nat.reduceLT, Nat.reduceLeDiff, Int.reduceLT, Int.reduceLE, Int.reduceEq, Int.reduceNe, Int.reduceAdd, Int.reduceNeg, Int.reduceToNat]
  refine loop_intro (fun n st => ∃ (k : Nat) (done : List Part), n + k = s.length ∧ st.f 0 = sv s ∧ st.f 7 = iv .i64 k ∧ st.f 6 = bv (firstB done) ∧ AllN 5 [65, 89] (done.map (·.1)) st ∧ Wi s k done ∧ done.length ≤ k) s.length ?_ ?_
  · refine ⟨0, [], by omega, ?_⟩
    simp (config := { maxSteps := 1000000 }) only [go_sem, ↓reduceIte, Nat.reduceEqDiff, Nat.reduceAdd, Nat.reduceMul, Nat.reduceSub, Nat.reduceLT, Nat.reduceLeDiff, Int.reduceLT, Int.reduceLE, Int.reduceEq, Int.reduceNe, Int.reduceAdd, Int.reduceNeg, Int.reduceToNat]
    exact ⟨rfl, .inl ⟨by simp [upd], rfl⟩, Wi.begin s⟩
  rintro n f g ob ⟨k, done, hk, h0, h7, h6, hW, hi, hdk⟩
  simp only at h0 h7 h6
  simp (config := { maxSteps := 1000000 }) only [go_sem, ↓reduceIte, Nat.reduceEqDiff, Nat.reduceAdd, Nat.reduceMul, Nat.reduceSub, Nat.reduceLT, Nat.reduceLeDiff, Int.reduceLT, Int.reduceLE, Int.reduceEq, Int.reduceNe, Int.reduceAdd, Int.reduceNeg, Int.reduceToNat, h0, h7, h6]
  refine loop_intro (fun m st => ∃ j : Nat, m + j = s.length ∧ k ≤ j ∧ st.f 0 = sv s ∧ st.f 7 = iv .i64 j ∧ st.f 8 = iv .i64 k ∧ st.f 6 = bv (firstB done) ∧ AllN 5 [65, 89] (done.map (·.1)) st ∧ ((s.take j).drop k).all (fun c => decide (c = 32)) = true) (s.length - k) ?_ ?_
  · refine ⟨k, by omega, Nat.le_refl _, ?_⟩
    simp (config := { maxSteps := 1000000 }) only [go_sem, ↓reduceIte, Nat.reduceEqDiff, Nat.reduceAdd, Nat.reduceMul, Nat.reduceSub, Nat.reduceLT, Nat.reduceLeDiff, Int.reduceLT, Int.reduceLE, Int.reduceEq, Int.reduceNe, Int.reduceAdd, Int.reduceNeg, Int.reduceToNat, h0, h7, h6]
    refine ⟨allN_mono hW (by simp [upd]), ?_⟩
    rw [List.drop_eq_nil_of_le (by simp only [List.length_take]; omega)]; rfl
  clear hW h0 h7 h6
  rintro m f g ob ⟨j, hj, hkj, h0, h7, h8, h6, hW, hbl⟩
  simp only at h0 h7 h8 h6
  have hw := wrap_succ (k := j) (by omega)
  have htr := trim_stop hkj hbl (by omega)
  by_cases hlt : j < s.length
  · obtain ⟨c, hc⟩ := getq hlt
    have hjne : ¬ (j : Int) = (s.length : Int) := by omega
    by_cases hc32 : c = 32
    · subst hc32
      have hz : ((UInt8.toNat 32 : Nat) : Int) = 32 := rfl
      simp (config := { maxSteps := 1000000 }) only [go_sem, ↓reduceIte, Nat.reduceEqDiff, Nat.reduceAdd, Nat.reduceMul, Nat.reduceSub, Nat.reduceLT, Nat.reduceLeDiff, Int.reduceLT, Int.reduceLE, Int.reduceEq, Int.reduceNe, Int.reduceAdd, Int.reduceNeg, Int.reduceToNat, h0, h7, h8, h6, hlt, hc, hz, hw]
      refine round_end (m - 1) (by omega) ⟨j + 1, by omega, by omega, ?_⟩
      simp (config := { maxSteps := 1000000 }) only [go_sem, ↓reduceIte, Nat.reduceEqDiff, Nat.reduceAdd, Nat.reduceMul, Nat.reduceSub, Nat.reduceLT, Nat.reduceLeDiff, Int.reduceLT, Int.reduceLE, Int.reduceEq, Int.reduceNe, Int.reduceAdd, Int.reduceNeg, Int.reduceToNat, h0, h8, h6]
      refine ⟨allN_mono hW (by simp [upd]), ?_⟩
      rw [piece_next hc hkj, List.all_append, hbl]; simp
    · have hcz : ¬ (c.toNat : Int) = 32 := fun e => hc32 (u8_eq (d := 32) e)
      have hdj := drop_cons hc
      have htc : trimS (s.drop k) = c :: s.drop (j + 1) := by rw [htr, hdj, trimS_other hc32]
      by_cases hc35 : c = 35
      · subst hc35
        have hz : ((UInt8.toNat 35 : Nat) : Int) = 35 := rfl
        have hov : overS (s.drop k) = true := by
          by_cases h : k < j
          · exact over_moved h hbl (by omega)
          · have : k = j := by omega
            rw [this, hdj]; rfl
        obtain ⟨hg, he⟩ := hi.done (partsS_note htc) hov
        have hzz : ¬ ((UInt8.toNat 35 : Nat) : Int) = 32 := by decide
        rcases hW with ⟨q5, qL⟩ | ⟨hLn, id, hid, q5, qo⟩
        · simp only at q5
          simp (config := { maxSteps := 1000000 }) only [go_sem, ↓reduceIte, Nat.reduceEqDiff, Nat.reduceAdd, Nat.reduceMul, Nat.reduceSub, Nat.reduceLT, Nat.reduceLeDiff, Int.reduceLT, Int.reduceLE, Int.reduceEq, Int.reduceNe, Int.reduceAdd, Int.reduceNeg, Int.reduceToNat, h0, h7, h8, h6, hlt, hc, hz, hzz, hjne, q5]
          rw [wordsRV_done hg he, qL]; rfl
        · simp only at q5 qo
          simp (config := { maxSteps := 1000000 }) only [go_sem, ↓reduceIte, Nat.reduceEqDiff, Nat.reduceAdd, Nat.reduceMul, Nat.reduceSub, Nat.reduceLT, Nat.reduceLeDiff, Int.reduceLT, Int.reduceLE, Int.reduceEq, Int.reduceNe, Int.reduceAdd, Int.reduceNeg, Int.reduceToNat, h0, h7, h8, h6, hlt, hc, hz, hzz, hjne, q5]
          refine ⟨_, ⟨_, frz_strs (L := done.map (·.1)) rfl qo (by simp), rfl⟩, ?_⟩
          rw [wordsRV_done hg he]
      · have hz35 : ¬ (c.toNat : Int) = 35 := fun e => hc35 (u8_eq (d := 35) e)
        have hov : j = k ∧ done ≠ [] → overS (s.drop k) = false := fun ⟨h1, _⟩ => by
          rw [← h1, hdj]; simp [overS, hc32, hc35]
        have hov2 : ¬ (j = k ∧ done ≠ []) → done = [] ∨ overS (s.drop k) = true := fun h => by
          by_cases hd : done = []
          · exact .inl hd
          · exact .inr (over_moved (by have : ¬ j = k := fun e => h ⟨e, hd⟩
                                       omega) hbl (by omega))
        have hbad0 : j = k ∧ done ≠ [] → wordsRV (partsS s) = .tup [.one (.d (strs [])), bv false, bv false] := fun h => wordsRV_bad (hi.bad (fun h2 => by
          rcases h2.1 with h3 | h3
          · exact h.2 h3
          · rw [hov h] at h3; cases h3))
        have hcutbad : (cutP (c :: s.drop (j + 1))).1.2.2 = true → wordsRV (partsS s) = .tup [.one (.d (strs [])), bv false, bv false] := fun h => wordsRV_bad (hi.bad (fun h2 => by
          have h3 := h2.2
          rw [partsS_cons htc hc35, if_pos (.inl h)] at h3
          simp [good] at h3))
        have hlA : ∀ (f' : Nat → AV) {K : AV → Prop} (k : Box K), lenA ⟨f', g, ob⟩ false true (f 5) k = K (iv .i64 ((done.length : Nat) : Int)) := fun f' K k => by
          have := allN_len hW f' k
          rwa [List.length_map] at this
        by_cases hfail : j = k ∧ done ≠ []
        · have hdpos : (0 : Int) < (done.length : Int) := by have := List.length_pos_iff.2 hfail.2; omega
          have hb0 := hbad0 hfail
          have hjk : j = k := hfail.1
          subst hjk
          simp (config := { maxSteps := 1000000 }) only [go_sem, ↓reduceIte, Nat.reduceEqDiff, Nat.reduceAdd, Nat.reduceMul, Nat.reduceSub, Nat.reduceLT, Nat.reduceLeDiff, Int.reduceLT, Int.reduceLE, Int.reduceEq, Int.reduceNe, Int.reduceAdd, Int.reduceNeg, Int.reduceToNat, h0, h7, h8, h6, hlt, hc, hcz, hz35, hjne, hlA, hdpos]
          rw [hb0]; rfl
        · have hov3 := hov2 hfail
          have key : (j = k ∧ done = []) ∨ ¬ (j : Int) = (k : Int) := by
            by_cases h : j = k
            · by_cases hd : done = []
              · exact .inl ⟨h, hd⟩
              · exact absurd ⟨h, hd⟩ hfail
            · exact .inr (by omega)
          rcases key with ⟨hjk', hd0⟩ | hjk'
          · have hl0 : ¬ (0 : Int) < (done.length : Int) := by rw [hd0]; simp
            subst hjk'
            have hjk' : True := trivial
            simp (config := { maxSteps := 1000000 }) only [go_sem, ↓reduceIte, Nat.reduceEqDiff, Nat.reduceAdd, Nat.reduceMul, Nat.reduceSub, Nat.reduceLT, Nat.reduceLeDiff, Int.reduceLT, Int.reduceLE, Int.reduceEq, Int.reduceNe, Int.reduceAdd, Int.reduceNeg, Int.reduceToNat, h0, h7, h8, h6, hlt, hc, hcz, hz35, hjne, hjk', hlA, hl0]
            refine ⟨fun c34 => ?_, fun c34 => ?_⟩
            · have hc34 : c = 34 := u8_eq (d := 34) c34
              refine hook_call rfl (by simp (config := { maxSteps := 1000000 }) only [go_sem, ↓reduceIte, Nat.reduceEqDiff, Nat.reduceAdd, Nat.reduceMul, Nat.reduceSub, Nat.reduceLT, Nat.reduceLeDiff, Int.reduceLT, Int.reduceLE, Int.reduceEq, Int.reduceNe, Int.reduceAdd, Int.reduceNeg, Int.reduceToNat]; exact quotedR_A s j hs hlt) (by simp (config := { maxSteps := 1000000 }) only [go_sem, ↓reduceIte, Nat.reduceEqDiff, Nat.reduceAdd, Nat.reduceMul, Nat.reduceSub, Nat.reduceLT, Nat.reduceLeDiff, Int.reduceLT, Int.reduceLE, Int.reduceEq, Int.reduceNe, Int.reduceAdd, Int.reduceNeg, Int.reduceToNat]; rfl) ?_
              rintro r hr
              rcases hu : unq (s.drop (j + 1)) with _ | p
              · rw [hu] at hr
                simp only at hr
                subst hr
                simp (config := { maxSteps := 1000000 }) only [go_sem, ↓reduceIte, Nat.reduceEqDiff, Nat.reduceAdd, Nat.reduceMul, Nat.reduceSub, Nat.reduceLT, Nat.reduceLeDiff, Int.reduceLT, Int.reduceLE, Int.reduceEq, Int.reduceNe, Int.reduceAdd, Int.reduceNeg, Int.reduceToNat]
                rw [hcutbad (by simp [cutP, hc34, hu])]
                rfl
              · rw [hu] at hr
                simp only at hr
                subst hr
                have hul := unq_len _ (Nat.le_refl _) hu
                simp only [List.length_drop] at hul
                have hnx := hi.next (w := p.1) (b := false) (m := p.2 + 1) hdj htc hc35 hov3 (by simp [cutP, hc34, hu])
                rw [show j + (p.2 + 1) = j + 1 + p.2 from by omega] at hnx
                rcases hW with ⟨q5, qL⟩ | ⟨hLn, id, hid, q5, qo⟩
                · have hdn : done = [] := List.map_eq_nil_iff.1 qL
                  simp only at q5
                  simp (config := { maxSteps := 1000000 }) only [go_sem, ↓reduceIte, Nat.reduceEqDiff, Nat.reduceAdd, Nat.reduceMul, Nat.reduceSub, Nat.reduceLT, Nat.reduceLeDiff, Int.reduceLT, Int.reduceLE, Int.reduceEq, Int.reduceNe, Int.reduceAdd, Int.reduceNeg, Int.reduceToNat, h0, h7, h8, h6, q5, elemTy]
                  refine ⟨⟨by decide, by decide⟩, ?_⟩
                  refine round_end (s.length - (j + 1 + p.2)) (by omega) ⟨j + 1 + p.2, done ++ [(p.1, false, false)], by omega, ?_⟩
                  simp (config := { maxSteps := 1000000 }) only [go_sem, ↓reduceIte, Nat.reduceEqDiff, Nat.reduceAdd, Nat.reduceMul, Nat.reduceSub, Nat.reduceLT, Nat.reduceLeDiff, Int.reduceLT, Int.reduceLE, Int.reduceEq, Int.reduceNe, Int.reduceAdd, Int.reduceNeg, Int.reduceToNat, h0]
                  refine ⟨by rw [firstB_app, if_pos hdn], .inr ⟨by simp, 65, by simp, by simp [upd, hdn], by simp [upd, hdn]⟩, hnx, by simp only [List.length_append, List.length_cons, List.length_nil]; omega⟩
                · have hdn : done ≠ [] := fun e => hLn (by rw [e]; rfl)
                  have hdl0 : ¬ ((done.length : Nat) : Int) = 0 := by have := List.length_pos_iff.2 hdn; omega
                  have hid2 : id = 65 ∨ id = 89 := by simpa using hid
                  have e64 : ¬ id = 64 := by omega
                  have e64' : ¬ 64 = id := by omega
                  simp only at q5 qo
                  simp (config := { maxSteps := 1000000 }) only [go_sem, ↓reduceIte, Nat.reduceEqDiff, Nat.reduceAdd, Nat.reduceMul, Nat.reduceSub, Nat.reduceLT, Nat.reduceLeDiff, Int.reduceLT, Int.reduceLE, Int.reduceEq, Int.reduceNe, Int.reduceAdd, Int.reduceNeg, Int.reduceToNat, h0, h7, h8, h6, q5, qo, hdl0, elemTy, e64, e64']
                  refine ⟨Nat.le_refl _, ⟨by decide, by omega⟩, ?_⟩
                  refine round_end (s.length - (j + 1 + p.2)) (by omega) ⟨j + 1 + p.2, done ++ [(p.1, false, false)], by omega, ?_⟩
                  simp (config := { maxSteps := 1000000 }) only [go_sem, ↓reduceIte, Nat.reduceEqDiff, Nat.reduceAdd, Nat.reduceMul, Nat.reduceSub, Nat.reduceLT, Nat.reduceLeDiff, Int.reduceLT, Int.reduceLE, Int.reduceEq, Int.reduceNe, Int.reduceAdd, Int.reduceNeg, Int.reduceToNat, h0, h6]
                  refine ⟨by rw [firstB_app, if_neg hdn], .inr ⟨by simp, id, hid, by simp [upd], by simp [upd, List.take_of_length_le]⟩, hnx, by simp only [List.length_append, List.length_cons, List.length_nil]; omega⟩
            · have hc34' : c ≠ 34 := fun e => c34 (by rw [e]; rfl)
              refine loop_intro (fun m st => ∃ t : Nat, m + t = s.length ∧ j ≤ t ∧ st.f 0 = sv s ∧ st.f 7 = iv .i64 j ∧ st.f 6 = bv (firstB done) ∧ st.f 12 = iv .i64 t ∧ AllN 5 [65, 89] (done.map (·.1)) st ∧ ((s.take t).drop j).all bareC = true) (s.length - j) ?_ ?_
              · refine ⟨j, by omega, Nat.le_refl _, ?_⟩
                simp (config := { maxSteps := 1000000 }) only [go_sem, ↓reduceIte, Nat.reduceEqDiff, Nat.reduceAdd, Nat.reduceMul, Nat.reduceSub, Nat.reduceLT, Nat.reduceLeDiff, Int.reduceLT, Int.reduceLE, Int.reduceEq, Int.reduceNe, Int.reduceAdd, Int.reduceNeg, Int.reduceToNat, h0, h7, h6]
                refine ⟨allN_mono hW (by simp [upd]), ?_⟩
                rw [List.drop_eq_nil_of_le (by simp only [List.length_take]; omega)]; rfl
              clear h0 h7 h8 h6 hW hlA
              rintro m' f g ob ⟨t, ht, hjt, h0, h7, h6, h12, hW, hbr⟩
              simp only at h0 h7 h6 h12
              have hw12 := wrap_succ (k := t) (by omega)
              have hstep : ∀ d, s[t]? = some d → bareC d = true → ((s.take (t + 1)).drop j).all bareC = true := fun d hd hb => by
                rw [piece_next hd hjt, List.all_append, hbr]; simp [hb]
              have hstop : (∀ d, s[t]? = some d → bareC d = false) → bareN (c :: s.drop (j + 1)) = t - j := fun hst => by
                rw [← hdj]
                refine bareN_stop ?_ (by simp only [List.length_drop]; omega) (fun d hd => hst d ?_)
                · rw [← List.drop_take]; exact hbr
                · rw [List.getElem?_drop, show j + (t - j) = t from by omega] at hd; exact hd
              have hend : bareN (c :: s.drop (j + 1)) = t - j → cutP (c :: s.drop (j + 1)) = (((s.take t).drop j, true, decide (t - j = 0)), t - j) := fun hb => by
                simp only [cutP, hc34', if_false, hb]
                rw [← hdj, ← List.drop_take]
              have hfin : (∀ d, s[t]? = some d → bareC d = false) → t ≠ j → Wi s t (done ++ [((s.take t).drop j, true, false)]) := fun hst hne => by
                have e := hend (hstop hst)
                have : ¬ t - j = 0 := by omega
                simp only [this, decide_false] at e
                have hnx := hi.next hdj htc hc35 hov3 e
                rwa [show j + (t - j) = t from by omega] at hnx
              have hfinbad : (∀ d, s[t]? = some d → bareC d = false) → t = j → wordsRV (partsS s) = .tup [.one (.d (strs [])), bv false, bv false] := fun hst he => hcutbad (by
                rw [hend (hstop hst), he]; simp)
              by_cases hlt2 : t < s.length
              · obtain ⟨d, hd⟩ := getq hlt2
                simp (config := { maxSteps := 1000000 }) only [go_sem, ↓reduceIte, Nat.reduceEqDiff, Nat.reduceAdd, Nat.reduceMul, Nat.reduceSub, Nat.reduceLT, Nat.reduceLeDiff, Int.reduceLT, Int.reduceLE, Int.reduceEq, Int.reduceNe, Int.reduceAdd, Int.reduceNeg, Int.reduceToNat, h0, h7, h6, h12, hlt2, hd]
                refine hook_call rfl (by simp (config := { maxSteps := 1000000 }) only [go_sem, ↓reduceIte, Nat.reduceEqDiff, Nat.reduceAdd, Nat.reduceMul, Nat.reduceSub, Nat.reduceLT, Nat.reduceLeDiff, Int.reduceLT, Int.reduceLE, Int.reduceEq, Int.reduceNe, Int.reduceAdd, Int.reduceNeg, Int.reduceToNat]; exact bare_A d) (by simp (config := { maxSteps := 1000000 }) only [go_sem, ↓reduceIte, Nat.reduceEqDiff, Nat.reduceAdd, Nat.reduceMul, Nat.reduceSub, Nat.reduceLT, Nat.reduceLeDiff, Int.reduceLT, Int.reduceLE, Int.reduceEq, Int.reduceNe, Int.reduceAdd, Int.reduceNeg, Int.reduceToNat]; rfl) ?_
                rintro _ rfl
                cases hbd : bareC d
                · have hst : ∀ d', s[t]? = some d' → bareC d' = false := fun d' h => by rw [hd] at h; cases h; exact hbd
                  by_cases htj : t = j
                  · have hbz := hfinbad hst htj
                    subst htj
                    simp (config := { maxSteps := 1000000 }) only [go_sem, ↓reduceIte, Nat.reduceEqDiff, Nat.reduceAdd, Nat.reduceMul, Nat.reduceSub, Nat.reduceLT, Nat.reduceLeDiff, Int.reduceLT, Int.reduceLE, Int.reduceEq, Int.reduceNe, Int.reduceAdd, Int.reduceNeg, Int.reduceToNat, h0, h7, h6, h12, hlt2]
                    rw [hbz]; rfl
                  · have htj' : ¬ (t : Int) = (j : Int) := by omega
                    have hnx := hfin hst htj
                    have hfb : firstB done = firstB (done ++ [((s.take t).drop j, true, false)]) := firstB_bare _ _
                    rcases hW with ⟨q5, qL⟩ | ⟨hLn, id, hid, q5, qo⟩
                    · have hdn : done = [] := List.map_eq_nil_iff.1 qL
                      simp only at q5
                      simp (config := { maxSteps := 1000000 }) only [go_sem, ↓reduceIte, Nat.reduceEqDiff, Nat.reduceAdd, Nat.reduceMul, Nat.reduceSub, Nat.reduceLT, Nat.reduceLeDiff, Int.reduceLT, Int.reduceLE, Int.reduceEq, Int.reduceNe, Int.reduceAdd, Int.reduceNeg, Int.reduceToNat, h0, h7, h6, h12, hlt2, q5, htj', elemTy]
                      refine ⟨hjt, by omega, ⟨by decide, by decide⟩, ?_⟩
                      refine round_end (s.length - t) (by omega) ⟨t, done ++ [((s.take t).drop j, true, false)], by omega, ?_⟩
                      simp (config := { maxSteps := 1000000 }) only [go_sem, ↓reduceIte, Nat.reduceEqDiff, Nat.reduceAdd, Nat.reduceMul, Nat.reduceSub, Nat.reduceLT, Nat.reduceLeDiff, Int.reduceLT, Int.reduceLE, Int.reduceEq, Int.reduceNe, Int.reduceAdd, Int.reduceNeg, Int.reduceToNat, h0, h6]
                      refine ⟨by rw [← hfb], .inr ⟨by simp, 89, by simp, by simp [upd, hdn], by simp [upd, hdn]⟩, hnx, by simp only [List.length_append, List.length_cons, List.length_nil]; omega⟩
                    · have hid2 : id = 65 ∨ id = 89 := by simpa using hid
                      have e88 : ¬ id = 88 := by omega
                      have e88' : ¬ 88 = id := by omega
                      simp only at q5 qo
                      simp (config := { maxSteps := 1000000 }) only [go_sem, ↓reduceIte, Nat.reduceEqDiff, Nat.reduceAdd, Nat.reduceMul, Nat.reduceSub, Nat.reduceLT, Nat.reduceLeDiff, Int.reduceLT, Int.reduceLE, Int.reduceEq, Int.reduceNe, Int.reduceAdd, Int.reduceNeg, Int.reduceToNat, h0, h7, h6, h12, hlt2, q5, qo, htj', elemTy, e88, e88']
                      refine ⟨hjt, by omega, Nat.le_refl _, ⟨by decide, by omega⟩, ?_⟩
                      refine round_end (s.length - t) (by omega) ⟨t, done ++ [((s.take t).drop j, true, false)], by omega, ?_⟩
                      simp (config := { maxSteps := 1000000 }) only [go_sem, ↓reduceIte, Nat.reduceEqDiff, Nat.reduceAdd, Nat.reduceMul, Nat.reduceSub, Nat.reduceLT, Nat.reduceLeDiff, Int.reduceLT, Int.reduceLE, Int.reduceEq, Int.reduceNe, Int.reduceAdd, Int.reduceNeg, Int.reduceToNat, h0, h6]
                      refine ⟨by rw [← hfb], .inr ⟨by simp, id, hid, by simp [upd], by simp [upd, List.take_of_length_le]⟩, hnx, by simp only [List.length_append, List.length_cons, List.length_nil]; omega⟩
                · simp (config := { maxSteps := 1000000 }) only [go_sem, ↓reduceIte, Nat.reduceEqDiff, Nat.reduceAdd, Nat.reduceMul, Nat.reduceSub, Nat.reduceLT, Nat.reduceLeDiff, Int.reduceLT, Int.reduceLE, Int.reduceEq, Int.reduceNe, Int.reduceAdd, Int.reduceNeg, Int.reduceToNat, h0, h7, h6, h12, hw12]
                  refine round_end (m' - 1) (by omega) ⟨t + 1, by omega, by omega, ?_⟩
                  simp (config := { maxSteps := 1000000 }) only [go_sem, ↓reduceIte, Nat.reduceEqDiff, Nat.reduceAdd, Nat.reduceMul, Nat.reduceSub, Nat.reduceLT, Nat.reduceLeDiff, Int.reduceLT, Int.reduceLE, Int.reduceEq, Int.reduceNe, Int.reduceAdd, Int.reduceNeg, Int.reduceToNat, h0, h7, h6]
                  exact ⟨allN_mono hW (by simp [upd]), hstep d hd hbd⟩
              · have hst : ∀ d', s[t]? = some d' → bareC d' = false := fun d' h => by have := (List.getElem?_eq_some_iff.1 h).1; omega
                by_cases htj : t = j
                · have hbz := hfinbad hst htj
                  subst htj
                  simp (config := { maxSteps := 1000000 }) only [go_sem, ↓reduceIte, Nat.reduceEqDiff, Nat.reduceAdd, Nat.reduceMul, Nat.reduceSub, Nat.reduceLT, Nat.reduceLeDiff, Int.reduceLT, Int.reduceLE, Int.reduceEq, Int.reduceNe, Int.reduceAdd, Int.reduceNeg, Int.reduceToNat, h0, h7, h6, h12, hlt2]
                  rw [hbz]; rfl
                · have htj' : ¬ (t : Int) = (j : Int) := by omega
                  have hnx := hfin hst htj
                  have hfb : firstB done = firstB (done ++ [((s.take t).drop j, true, false)]) := firstB_bare _ _
                  rcases hW with ⟨q5, qL⟩ | ⟨hLn, id, hid, q5, qo⟩
                  · have hdn : done = [] := List.map_eq_nil_iff.1 qL
                    simp only at q5
                    simp (config := { maxSteps := 1000000 }) only [go_sem, ↓reduceIte, Nat.reduceEqDiff, Nat.reduceAdd, Nat.reduceMul, Nat.reduceSub, Nat.reduceLT, Nat.reduceLeDiff, Int.reduceLT, Int.reduceLE, Int.reduceEq, Int.reduceNe, Int.reduceAdd, Int.reduceNeg, Int.reduceToNat, h0, h7, h6, h12, hlt2, q5, htj', elemTy]
                    refine ⟨hjt, by omega, ⟨by decide, by decide⟩, ?_⟩
                    refine round_end (s.length - t) (by omega) ⟨t, done ++ [((s.take t).drop j, true, false)], by omega, ?_⟩
                    simp (config := { maxSteps := 1000000 }) only [go_sem, ↓reduceIte, Nat.reduceEqDiff, Nat.reduceAdd, Nat.reduceMul, Nat.reduceSub, Nat.reduceLT, Nat.reduceLeDiff, Int.reduceLT, Int.reduceLE, Int.reduceEq, Int.reduceNe, Int.reduceAdd, Int.reduceNeg, Int.reduceToNat, h0, h6]
                    refine ⟨by rw [← hfb], .inr ⟨by simp, 89, by simp, by simp [upd, hdn], by simp [upd, hdn]⟩, hnx, by simp only [List.length_append, List.length_cons, List.length_nil]; omega⟩
                  · have hid2 : id = 65 ∨ id = 89 := by simpa using hid
                    have e88 : ¬ id = 88 := by omega
                    have e88' : ¬ 88 = id := by omega
                    simp only at q5 qo
                    simp (config := { maxSteps := 1000000 }) only [go_sem, ↓reduceIte, Nat.reduceEqDiff, Nat.reduceAdd, Nat.reduceMul, Nat.reduceSub, Nat.reduceLT, Nat.reduceLeDiff, Int.reduceLT, Int.reduceLE, Int.reduceEq, Int.reduceNe, Int.reduceAdd, Int.reduceNeg, Int.reduceToNat, h0, h7, h6, h12, hlt2, q5, qo, htj', elemTy, e88, e88']
                    refine ⟨hjt, by omega, Nat.le_refl _, ⟨by decide, by omega⟩, ?_⟩
                    refine round_end (s.length - t) (by omega) ⟨t, done ++ [((s.take t).drop j, true, false)], by omega, ?_⟩
                    simp (config := { maxSteps := 1000000 }) only [go_sem, ↓reduceIte, Nat.reduceEqDiff, Nat.reduceAdd, Nat.reduceMul, Nat.reduceSub, Nat.reduceLT, Nat.reduceLeDiff, Int.reduceLT, Int.reduceLE, Int.reduceEq, Int.reduceNe, Int.reduceAdd, Int.reduceNeg, Int.reduceToNat, h0, h6]
                    refine ⟨by rw [← hfb], .inr ⟨by simp, id, hid, by simp [upd], by simp [upd, List.take_of_length_le]⟩, hnx, by simp only [List.length_append, List.length_cons, List.length_nil]; omega⟩
          · have hl0 : True := trivial
            simp (config := { maxSteps := 1000000 }) only [go_sem, ↓reduceIte, Nat.reduceEqDiff, Nat.reduceAdd, Nat.reduceMul, Nat.reduceSub, Nat.reduceLT, Nat.reduceLeDiff, Int.reduceLT, Int.reduceLE, Int.reduceEq, Int.reduceNe, Int.reduceAdd, Int.reduceNeg, Int.reduceToNat, h0, h7, h8, h6, hlt, hc, hcz, hz35, hjne, hjk', hlA, hl0]
            refine ⟨fun c34 => ?_, fun c34 => ?_⟩
            · have hc34 : c = 34 := u8_eq (d := 34) c34
              refine hook_call rfl (by simp (config := { maxSteps := 1000000 }) only [go_sem, ↓reduceIte, Nat.reduceEqDiff, Nat.reduceAdd, Nat.reduceMul, Nat.reduceSub, Nat.reduceLT, Nat.reduceLeDiff, Int.reduceLT, Int.reduceLE, Int.reduceEq, Int.reduceNe, Int.reduceAdd, Int.reduceNeg, Int.reduceToNat]; exact quotedR_A s j hs hlt) (by simp (config := { maxSteps := 1000000 }) only [go_sem, ↓reduceIte, Nat.reduceEqDiff, Nat.reduceAdd, Nat.reduceMul, Nat.reduceSub, Nat.reduceLT, Nat.reduceLeDiff, Int.reduceLT, Int.reduceLE, Int.reduceEq, Int.reduceNe, Int.reduceAdd, Int.reduceNeg, Int.reduceToNat]; rfl) ?_
              rintro r hr
              rcases hu : unq (s.drop (j + 1)) with _ | p
              · rw [hu] at hr
                simp only at hr
                subst hr
                simp (config := { maxSteps := 1000000 }) only [go_sem, ↓reduceIte, Nat.reduceEqDiff, Nat.reduceAdd, Nat.reduceMul, Nat.reduceSub, Nat.reduceLT, Nat.reduceLeDiff, Int.reduceLT, Int.reduceLE, Int.reduceEq, Int.reduceNe, Int.reduceAdd, Int.reduceNeg, Int.reduceToNat]
                rw [hcutbad (by simp [cutP, hc34, hu])]
                rfl
              · rw [hu] at hr
                simp only at hr
                subst hr
                have hul := unq_len _ (Nat.le_refl _) hu
                simp only [List.length_drop] at hul
                have hnx := hi.next (w := p.1) (b := false) (m := p.2 + 1) hdj htc hc35 hov3 (by simp [cutP, hc34, hu])
                rw [show j + (p.2 + 1) = j + 1 + p.2 from by omega] at hnx
                rcases hW with ⟨q5, qL⟩ | ⟨hLn, id, hid, q5, qo⟩
                · have hdn : done = [] := List.map_eq_nil_iff.1 qL
                  simp only at q5
                  simp (config := { maxSteps := 1000000 }) only [go_sem, ↓reduceIte, Nat.reduceEqDiff, Nat.reduceAdd, Nat.reduceMul, Nat.reduceSub, Nat.reduceLT, Nat.reduceLeDiff, Int.reduceLT, Int.reduceLE, Int.reduceEq, Int.reduceNe, Int.reduceAdd, Int.reduceNeg, Int.reduceToNat, h0, h7, h8, h6, q5, elemTy]
                  refine ⟨⟨by decide, by decide⟩, ?_⟩
                  refine round_end (s.length - (j + 1 + p.2)) (by omega) ⟨j + 1 + p.2, done ++ [(p.1, false, false)], by omega, ?_⟩
                  simp (config := { maxSteps := 1000000 }) only [go_sem, ↓reduceIte, Nat.reduceEqDiff, Nat.reduceAdd, Nat.reduceMul, Nat.reduceSub, Nat.reduceLT, Nat.reduceLeDiff, Int.reduceLT, Int.reduceLE, Int.reduceEq, Int.reduceNe, Int.reduceAdd, Int.reduceNeg, Int.reduceToNat, h0]
                  refine ⟨by rw [firstB_app, if_pos hdn], .inr ⟨by simp, 65, by simp, by simp [upd, hdn], by simp [upd, hdn]⟩, hnx, by simp only [List.length_append, List.length_cons, List.length_nil]; omega⟩
                · have hdn : done ≠ [] := fun e => hLn (by rw [e]; rfl)
                  have hdl0 : ¬ ((done.length : Nat) : Int) = 0 := by have := List.length_pos_iff.2 hdn; omega
                  have hid2 : id = 65 ∨ id = 89 := by simpa using hid
                  have e64 : ¬ id = 64 := by omega
                  have e64' : ¬ 64 = id := by omega
                  simp only at q5 qo
                  simp (config := { maxSteps := 1000000 }) only [go_sem, ↓reduceIte, Nat.reduceEqDiff, Nat.reduceAdd, Nat.reduceMul, Nat.reduceSub, Nat.reduceLT, Nat.reduceLeDiff, Int.reduceLT, Int.reduceLE, Int.reduceEq, Int.reduceNe, Int.reduceAdd, Int.reduceNeg, Int.reduceToNat, h0, h7, h8, h6, q5, qo, hdl0, elemTy, e64, e64']
                  refine ⟨Nat.le_refl _, ⟨by decide, by omega⟩, ?_⟩
                  refine round_end (s.length - (j + 1 + p.2)) (by omega) ⟨j + 1 + p.2, done ++ [(p.1, false, false)], by omega, ?_⟩
                  simp (config := { maxSteps := 1000000 }) only [go_sem, ↓reduceIte, Nat.reduceEqDiff, Nat.reduceAdd, Nat.reduceMul, Nat.reduceSub, Nat.reduceLT, Nat.reduceLeDiff, Int.reduceLT, Int.reduceLE, Int.reduceEq, Int.reduceNe, Int.reduceAdd, Int.reduceNeg, Int.reduceToNat, h0, h6]
                  refine ⟨by rw [firstB_app, if_neg hdn], .inr ⟨by simp, id, hid, by simp [upd], by simp [upd, List.take_of_length_le]⟩, hnx, by simp only [List.length_append, List.length_cons, List.length_nil]; omega⟩
            · have hc34' : c ≠ 34 := fun e => c34 (by rw [e]; rfl)
              refine loop_intro (fun m st => ∃ t : Nat, m + t = s.length ∧ j ≤ t ∧ st.f 0 = sv s ∧ st.f 7 = iv .i64 j ∧ st.f 6 = bv (firstB done) ∧ st.f 12 = iv .i64 t ∧ AllN 5 [65, 89] (done.map (·.1)) st ∧ ((s.take t).drop j).all bareC = true) (s.length - j) ?_ ?_
              · refine ⟨j, by omega, Nat.le_refl _, ?_⟩
                simp (config := { maxSteps := 1000000 }) only [go_sem, ↓reduceIte, Nat.reduceEqDiff, Nat.reduceAdd, Nat.reduceMul, Nat.reduceSub, Nat.reduceLT, Nat.reduceLeDiff, Int.reduceLT, Int.reduceLE, Int.reduceEq, Int.reduceNe, Int.reduceAdd, Int.reduceNeg, Int.reduceToNat, h0, h7, h6]
                refine ⟨allN_mono hW (by simp [upd]), ?_⟩
                rw [List.drop_eq_nil_of_le (by simp only [List.length_take]; omega)]; rfl
              clear h0 h7 h8 h6 hW hlA
              rintro m' f g ob ⟨t, ht, hjt, h0, h7, h6, h12, hW, hbr⟩
              simp only at h0 h7 h6 h12
              have hw12 := wrap_succ (k := t) (by omega)
              have hstep : ∀ d, s[t]? = some d → bareC d = true → ((s.take (t + 1)).drop j).all bareC = true := fun d hd hb => by
                rw [piece_next hd hjt, List.all_append, hbr]; simp [hb]
              have hstop : (∀ d, s[t]? = some d → bareC d = false) → bareN (c :: s.drop (j + 1)) = t - j := fun hst => by
                rw [← hdj]
                refine bareN_stop ?_ (by simp only [List.length_drop]; omega) (fun d hd => hst d ?_)
                · rw [← List.drop_take]; exact hbr
                · rw [List.getElem?_drop, show j + (t - j) = t from by omega] at hd; exact hd
              have hend : bareN (c :: s.drop (j + 1)) = t - j → cutP (c :: s.drop (j + 1)) = (((s.take t).drop j, true, decide (t - j = 0)), t - j) := fun hb => by
                simp only [cutP, hc34', if_false, hb]
                rw [← hdj, ← List.drop_take]
              have hfin : (∀ d, s[t]? = some d → bareC d = false) → t ≠ j → Wi s t (done ++ [((s.take t).drop j, true, false)]) := fun hst hne => by
                have e := hend (hstop hst)
                have : ¬ t - j = 0 := by omega
                simp only [this, decide_false] at e
                have hnx := hi.next hdj htc hc35 hov3 e
                rwa [show j + (t - j) = t from by omega] at hnx
              have hfinbad : (∀ d, s[t]? = some d → bareC d = false) → t = j → wordsRV (partsS s) = .tup [.one (.d (strs [])), bv false, bv false] := fun hst he => hcutbad (by
                rw [hend (hstop hst), he]; simp)
              by_cases hlt2 : t < s.length
              · obtain ⟨d, hd⟩ := getq hlt2
                simp (config := { maxSteps := 1000000 }) only [go_sem, ↓reduceIte, Nat.reduceEqDiff, Nat.reduceAdd, Nat.reduceMul, Nat.reduceSub, Nat.reduceLT, Nat.reduceLeDiff, Int.reduceLT, Int.reduceLE, Int.reduceEq, Int.reduceNe, Int.reduceAdd, Int.reduceNeg, Int.reduceToNat, h0, h7, h6, h12, hlt2, hd]
                refine hook_call rfl (by simp (config := { maxSteps := 1000000 }) only [go_sem, ↓reduceIte, Nat.reduceEqDiff, Nat.reduceAdd, Nat.reduceMul, Nat.reduceSub, Nat.reduceLT, Nat.reduceLeDiff, Int.reduceLT, Int.reduceLE, Int.reduceEq, Int.reduceNe, Int.reduceAdd, Int.reduceNeg, Int.reduceToNat]; exact bare_A d) (by simp (config := { maxSteps := 1000000 }) only [go_sem, ↓reduceIte, Nat.reduceEqDiff, Nat.reduceAdd, Nat.reduceMul, Nat.reduceSub, Nat.reduceLT, Nat.reduceLeDiff, Int.reduceLT, Int.reduceLE, Int.reduceEq, Int.reduceNe, Int.reduceAdd, Int.reduceNeg, Int.reduceToNat]; rfl) ?_
                rintro _ rfl
                cases hbd : bareC d
                · have hst : ∀ d', s[t]? = some d' → bareC d' = false := fun d' h => by rw [hd] at h; cases h; exact hbd
                  by_cases htj : t = j
                  · have hbz := hfinbad hst htj
                    subst htj
                    simp (config := { maxSteps := 1000000 }) only [go_sem, ↓reduceIte, Nat.reduceEqDiff, Nat.reduceAdd, Nat.reduceMul, Nat.reduceSub, Nat.reduceLT, Nat.reduceLeDiff, Int.reduceLT, Int.reduceLE, Int.reduceEq, Int.reduceNe, Int.reduceAdd, Int.reduceNeg, Int.reduceToNat, h0, h7, h6, h12, hlt2]
                    rw [hbz]; rfl
                  · have htj' : ¬ (t : Int) = (j : Int) := by omega
                    have hnx := hfin hst htj
                    have hfb : firstB done = firstB (done ++ [((s.take t).drop j, true, false)]) := firstB_bare _ _
                    rcases hW with ⟨q5, qL⟩ | ⟨hLn, id, hid, q5, qo⟩
                    · have hdn : done = [] := List.map_eq_nil_iff.1 qL
                      simp only at q5
                      simp (config := { maxSteps := 1000000 }) only [go_sem, ↓reduceIte, Nat.reduceEqDiff, Nat.reduceAdd, Nat.reduceMul, Nat.reduceSub, Nat.reduceLT, Nat.reduceLeDiff, Int.reduceLT, Int.reduceLE, Int.reduceEq, Int.reduceNe, Int.reduceAdd, Int.reduceNeg, Int.reduceToNat, h0, h7, h6, h12, hlt2, q5, htj', elemTy]
                      refine ⟨hjt, by omega, ⟨by decide, by decide⟩, ?_⟩
                      refine round_end (s.length - t) (by omega) ⟨t, done ++ [((s.take t).drop j, true, false)], by omega, ?_⟩
                      simp (config := { maxSteps := 1000000 }) only [go_sem, ↓reduceIte, Nat.reduceEqDiff, Nat.reduceAdd, Nat.reduceMul, Nat.reduceSub, Nat.reduceLT, Nat.reduceLeDiff, Int.reduceLT, Int.reduceLE, Int.reduceEq, Int.reduceNe, Int.reduceAdd, Int.reduceNeg, Int.reduceToNat, h0, h6]
                      refine ⟨by rw [← hfb], .inr ⟨by simp, 89, by simp, by simp [upd, hdn], by simp [upd, hdn]⟩, hnx, by simp only [List.length_append, List.length_cons, List.length_nil]; omega⟩
                    · have hid2 : id = 65 ∨ id = 89 := by simpa using hid
                      have e88 : ¬ id = 88 := by omega
                      have e88' : ¬ 88 = id := by omega
                      simp only at q5 qo
                      simp (config := { maxSteps := 1000000 }) only [go_sem, ↓reduceIte, Nat.reduceEqDiff, Nat.reduceAdd, Nat.reduceMul, Nat.reduceSub, Nat.reduceLT, Nat.reduceLeDiff, Int.reduceLT, Int.reduceLE, Int.reduceEq, Int.reduceNe, Int.reduceAdd, Int.reduceNeg, Int.reduceToNat, h0, h7, h6, h12, hlt2, q5, qo, htj', elemTy, e88, e88']
                      refine ⟨hjt, by omega, Nat.le_refl _, ⟨by decide, by omega⟩, ?_⟩
                      refine round_end (s.length - t) (by omega) ⟨t, done ++ [((s.take t).drop j, true, false)], by omega, ?_⟩
                      simp (config := { maxSteps := 1000000 }) only [go_sem, ↓reduceIte, Nat.reduceEqDiff, Nat.reduceAdd, Nat.reduceMul, Nat.reduceSub, Nat.reduceLT, Nat.reduceLeDiff, Int.reduceLT, Int.reduceLE, Int.reduceEq, Int.reduceNe, Int.reduceAdd, Int.reduceNeg, Int.reduceToNat, h0, h6]
                      refine ⟨by rw [← hfb], .inr ⟨by simp, id, hid, by simp [upd], by simp [upd, List.take_of_length_le]⟩, hnx, by simp only [List.length_append, List.length_cons, List.length_nil]; omega⟩
                · simp (config := { maxSteps := 1000000 }) only [go_sem, ↓reduceIte, Nat.reduceEqDiff, Nat.reduceAdd, Nat.reduceMul, Nat.reduceSub, Nat.reduceLT, Nat.reduceLeDiff, Int.reduceLT, Int.reduceLE, Int.reduceEq, Int.reduceNe, Int.reduceAdd, Int.reduceNeg, Int.reduceToNat, h0, h7, h6, h12, hw12]
                  refine round_end (m' - 1) (by omega) ⟨t + 1, by omega, by omega, ?_⟩
                  simp (config := { maxSteps := 1000000 }) only [go_sem, ↓reduceIte, Nat.reduceEqDiff, Nat.reduceAdd, Nat.reduceMul, Nat.reduceSub, Nat.reduceLT, Nat.reduceLeDiff, Int.reduceLT, Int.reduceLE, Int.reduceEq, Int.reduceNe, Int.reduceAdd, Int.reduceNeg, Int.reduceToNat, h0, h7, h6]
                  exact ⟨allN_mono hW (by simp [upd]), hstep d hd hbd⟩
              · have hst : ∀ d', s[t]? = some d' → bareC d' = false := fun d' h => by have := (List.getElem?_eq_some_iff.1 h).1; omega
                by_cases htj : t = j
                · have hbz := hfinbad hst htj
                  subst htj
                  simp (config := { maxSteps := 1000000 }) only [go_sem, ↓reduceIte, Nat.reduceEqDiff, Nat.reduceAdd, Nat.reduceMul, Nat.reduceSub, Nat.reduceLT, Nat.reduceLeDiff, Int.reduceLT, Int.reduceLE, Int.reduceEq, Int.reduceNe, Int.reduceAdd, Int.reduceNeg, Int.reduceToNat, h0, h7, h6, h12, hlt2]
                  rw [hbz]; rfl
                · have htj' : ¬ (t : Int) = (j : Int) := by omega
                  have hnx := hfin hst htj
                  have hfb : firstB done = firstB (done ++ [((s.take t).drop j, true, false)]) := firstB_bare _ _
                  rcases hW with ⟨q5, qL⟩ | ⟨hLn, id, hid, q5, qo⟩
                  · have hdn : done = [] := List.map_eq_nil_iff.1 qL
                    simp only at q5
                    simp (config := { maxSteps := 1000000 }) only [go_sem, ↓reduceIte, Nat.reduceEqDiff, Nat.reduceAdd, Nat.reduceMul, Nat.reduceSub, Nat.reduceLT, Nat.reduceLeDiff, Int.reduceLT, Int.reduceLE, Int.reduceEq, Int.reduceNe, Int.reduceAdd, Int.reduceNeg, Int.reduceToNat, h0, h7, h6, h12, hlt2, q5, htj', elemTy]
                    refine ⟨hjt, by omega, ⟨by decide, by decide⟩, ?_⟩
                    refine round_end (s.length - t) (by omega) ⟨t, done ++ [((s.take t).drop j, true, false)], by omega, ?_⟩
                    simp (config := { maxSteps := 1000000 }) only [go_sem, ↓reduceIte, Nat.reduceEqDiff, Nat.reduceAdd, Nat.reduceMul, Nat.reduceSub, Nat.reduceLT, Nat.reduceLeDiff, Int.reduceLT, Int.reduceLE, Int.reduceEq, Int.reduceNe, Int.reduceAdd, Int.reduceNeg, Int.reduceToNat, h0, h6]
                    refine ⟨by rw [← hfb], .inr ⟨by simp, 89, by simp, by simp [upd, hdn], by simp [upd, hdn]⟩, hnx, by simp only [List.length_append, List.length_cons, List.length_nil]; omega⟩
                  · have hid2 : id = 65 ∨ id = 89 := by simpa using hid
                    have e88 : ¬ id = 88 := by omega
                    have e88' : ¬ 88 = id := by omega
                    simp only at q5 qo
                    simp (config := { maxSteps := 1000000 }) only [go_sem, ↓reduceIte, Nat.reduceEqDiff, Nat.reduceAdd, Nat.reduceMul, Nat.reduceSub, Nat.reduceLT, Nat.reduceLeDiff, Int.reduceLT, Int.reduceLE, Int.reduceEq, Int.reduceNe, Int.reduceAdd, Int.reduceNeg, Int.reduceToNat, h0, h7, h6, h12, hlt2, q5, qo, htj', elemTy, e88, e88']
                    refine ⟨hjt, by omega, Nat.le_refl _, ⟨by decide, by omega⟩, ?_⟩
                    refine round_end (s.length - t) (by omega) ⟨t, done ++ [((s.take t).drop j, true, false)], by omega, ?_⟩
                    simp (config := { maxSteps := 1000000 }) only [go_sem, ↓reduceIte, Nat.reduceEqDiff, Nat.reduceAdd, Nat.reduceMul, Nat.reduceSub, Nat.reduceLT, Nat.reduceLeDiff, Int.reduceLT, Int.reduceLE, Int.reduceEq, Int.reduceNe, Int.reduceAdd, Int.reduceNeg, Int.reduceToNat, h0, h6]
                    refine ⟨by rw [← hfb], .inr ⟨by simp, id, hid, by simp [upd], by simp [upd, List.take_of_length_le]⟩, hnx, by simp only [List.length_append, List.length_cons, List.length_nil]; omega⟩
  · have hje : j = s.length := by omega
    have hdj : s.drop j = [] := List.drop_eq_nil_of_le (by omega)
    have hov : overS (s.drop k) = true := by
      by_cases h : k < j
      · exact over_moved h hbl (by omega)
      · have : k = j := by omega
        rw [this, hdj]; rfl
    obtain ⟨hg, he⟩ := hi.done (partsS_nil (by rw [htr, hdj]; rfl)) hov
    rw [hje] at h7
    rcases hW with ⟨q5, qL⟩ | ⟨hLn, id, hid, q5, qo⟩
    · simp only at q5
      simp (config := { maxSteps := 1000000 }) only [go_sem, ↓reduceIte, Nat.reduceEqDiff, Nat.reduceAdd, Nat.reduceMul, Nat.reduceSub, Nat.reduceLT, Nat.reduceLeDiff, Int.reduceLT, Int.reduceLE, Int.reduceEq, Int.reduceNe, Int.reduceAdd, Int.reduceNeg, Int.reduceToNat, h0, h7, h8, h6, Int.lt_irrefl, q5]
      rw [wordsRV_done hg he, qL]; rfl
    · simp only at q5 qo
      simp (config := { maxSteps := 1000000 }) only [go_sem, ↓reduceIte, Nat.reduceEqDiff, Nat.reduceAdd, Nat.reduceMul, Nat.reduceSub, Nat.reduceLT, Nat.reduceLeDiff, Int.reduceLT, Int.reduceLE, Int.reduceEq, Int.reduceNe, Int.reduceAdd, Int.reduceNeg, Int.reduceToNat, h0, h7, h8, h6, Int.lt_irrefl, q5]
      refine ⟨_, ⟨_, frz_strs (L := done.map (·.1)) rfl qo (by simp), rfl⟩, ?_⟩
      rw [wordsRV_done hg he]

end Go.Proofs.YtdlogfbbcbbllaaDoor

namespace Go.Proofs.YtdlogfbbcbbllaaDoor
open Go Go.Am

theorem wordsT_bound {l : List (List UInt8)} (h : ∀ w ∈ l, w.length ≤ 1000000) : (wordsT l).length ≤ 2000003 * l.length := by
  induction l with
  | nil => simp [wordsT]
  | cons w l ih =>
    have h1 := h w (by simp)
    have h2 := ih (fun w hw => h w (by simp [hw]))
    have h3 := wordT_le w
    unfold wordsT at *
    simp only [List.flatMap_cons, List.length_append, List.length_cons]; omega

set_option maxHeartbeats 4000000 in
theorem lineR_A (l : Line) (h1 : l.1.length ≤ 1000000) (h2 : l.2.length ≤ 1000000) (h3 : ∀ w ∈ l.2, w.length ≤ 1000000) : PureR Tryd.prog 30 [lineV l] (· = sv (lineT l)) := by
  refine pure_of_wp Tt_ok mixed Tryd.func30 rfl (by rfl) [2] rfl (by kernel_rfl) (by simp [Tryd.ntmps30]) fun g => ?_
  simp (config := { maxSteps := 1000000 }) only [go_sem, ↓reduceIte, Nat.reduceEqDiff, Nat.reduceAdd, Nat.reduceMul, Nat.reduceSub, Nat.reduceLT, Nat.reduceLeDiff, Int.reduceLT, Int.reduceLE, Int.reduceEq, Int.reduceNe, Int.reduceAdd, Int.reduceNeg, Int.reduceToNat, lineV, strs]
  refine loop_intro (fun n st => ∃ k : Nat, n + k = l.2.length ∧ st.f 1 = .one (.ptr 1 (st.gen 1) 0) ∧ st.obj 1 = some [.d (.str l.1), .d (.sl (l.2.map fun w => [.str w]))] ∧ st.f 4 = iv .i64 k ∧ st.f 3 = sv (l.1 ++ wordsT (l.2.take k))) l.2.length ?_ ?_
  · refine ⟨0, by omega, ?_⟩
    simp (config := { maxSteps := 1000000 }) only [go_sem, ↓reduceIte, Nat.reduceEqDiff, Nat.reduceAdd, Nat.reduceMul, Nat.reduceSub, Nat.reduceLT, Nat.reduceLeDiff, Int.reduceLT, Int.reduceLE, Int.reduceEq, Int.reduceNe, Int.reduceAdd, Int.reduceNeg, Int.reduceToNat]
    simp [wordsT]
  rintro n f g ob ⟨k, hk, h1', ho, h4, h3'⟩
  simp only at h1' ho h4 h3'
  have hw := wrap_succ (k := k) (by omega)
  by_cases hlt : k < l.2.length
  · obtain ⟨w, hwk⟩ := getq hlt
    have hgw := strs_get hwk
    have hwl := h3 w (List.mem_of_getElem? hwk)
    have hwb := wordsT_bound h3
    have hpre := wordsT_pre l.2 k
    have hle := wordT_le w
    simp (config := { maxSteps := 1000000 }) only [go_sem, ↓reduceIte, Nat.reduceEqDiff, Nat.reduceAdd, Nat.reduceMul, Nat.reduceSub, Nat.reduceLT, Nat.reduceLeDiff, Int.reduceLT, Int.reduceLE, Int.reduceEq, Int.reduceNe, Int.reduceAdd, Int.reduceNeg, Int.reduceToNat, h1', ho, h4, h3', hlt, hgw]
    refine ⟨by simp only [List.length_append]; omega, ?_⟩
    refine hook_call rfl (by simp (config := { maxSteps := 1000000 }) only [go_sem, ↓reduceIte, Nat.reduceEqDiff, Nat.reduceAdd, Nat.reduceMul, Nat.reduceSub, Nat.reduceLT, Nat.reduceLeDiff, Int.reduceLT, Int.reduceLE, Int.reduceEq, Int.reduceNe, Int.reduceAdd, Int.reduceNeg, Int.reduceToNat]; exact word_A w hwl) (by simp (config := { maxSteps := 1000000 }) only [go_sem, ↓reduceIte, Nat.reduceEqDiff, Nat.reduceAdd, Nat.reduceMul, Nat.reduceSub, Nat.reduceLT, Nat.reduceLeDiff, Int.reduceLT, Int.reduceLE, Int.reduceEq, Int.reduceNe, Int.reduceAdd, Int.reduceNeg, Int.reduceToNat]; rfl) ?_
    rintro _ rfl
    simp (config := { maxSteps := 1000000 }) only [go_sem, ↓reduceIte, Nat.reduceEqDiff, Nat.reduceAdd, Nat.reduceMul, Nat.reduceSub, Nat.reduceLT, Nat.reduceLeDiff, Int.reduceLT, Int.reduceLE, Int.reduceEq, Int.reduceNe, Int.reduceAdd, Int.reduceNeg, Int.reduceToNat, h1', ho, h4, h3']
    refine ⟨by simp only [List.length_append, List.length_cons, List.length_nil]; omega, ?_⟩
    simp (config := { maxSteps := 1000000 }) only [go_sem, ↓reduceIte, Nat.reduceEqDiff, Nat.reduceAdd, Nat.reduceMul, Nat.reduceSub, Nat.reduceLT, Nat.reduceLeDiff, Int.reduceLT, Int.reduceLE, Int.reduceEq, Int.reduceNe, Int.reduceAdd, Int.reduceNeg, Int.reduceToNat, h4, hw]
    refine round_end (n - 1) (by omega) ⟨k + 1, by omega, ?_⟩
    simp (config := { maxSteps := 1000000 }) only [go_sem, ↓reduceIte, Nat.reduceEqDiff, Nat.reduceAdd, Nat.reduceMul, Nat.reduceSub, Nat.reduceLT, Nat.reduceLeDiff, Int.reduceLT, Int.reduceLE, Int.reduceEq, Int.reduceNe, Int.reduceAdd, Int.reduceNeg, Int.reduceToNat, h1', ho]
    rw [wordsT_take hwk]; simp
  · have hts : l.2.take k = l.2 := List.take_of_length_le (by omega)
    rw [hts] at h3'
    simp (config := { maxSteps := 1000000 }) only [go_sem, ↓reduceIte, Nat.reduceEqDiff, Nat.reduceAdd, Nat.reduceMul, Nat.reduceSub, Nat.reduceLT, Nat.reduceLeDiff, Int.reduceLT, Int.reduceLE, Int.reduceEq, Int.reduceNe, Int.reduceAdd, Int.reduceNeg, Int.reduceToNat, h1', ho, h4, h3', hlt]
    rfl

set_option maxHeartbeats 4000000 in
theorem Right_A (l : Line) (h1 : l.1.length ≤ 1000000) (h2 : l.2.length ≤ 1000000) (h3 : ∀ w ∈ l.2, w.length ≤ 1000000) : PureR Tryd.prog 25 [lineV l] (· = bv (rightL l)) := by
  refine pure_of_wp Tt_ok mixed Tryd.func25 rfl (by rfl) [2] rfl (by kernel_rfl) (by simp [Tryd.ntmps25]) fun g => ?_
  simp (config := { maxSteps := 1000000 }) only [go_sem, ↓reduceIte, Nat.reduceEqDiff, Nat.reduceAdd, Nat.reduceMul, Nat.reduceSub, Nat.reduceLT, Nat.reduceLeDiff, Int.reduceLT, Int.reduceLE, Int.reduceEq, Int.reduceNe, Int.reduceAdd, Int.reduceNeg, Int.reduceToNat, lineV, strs]
  refine hook_call rfl (by simp (config := { maxSteps := 1000000 }) only [go_sem, ↓reduceIte, Nat.reduceEqDiff, Nat.reduceAdd, Nat.reduceMul, Nat.reduceSub, Nat.reduceLT, Nat.reduceLeDiff, Int.reduceLT, Int.reduceLE, Int.reduceEq, Int.reduceNe, Int.reduceAdd, Int.reduceNeg, Int.reduceToNat]; exact Verb_A l.1 (by omega)) (by simp (config := { maxSteps := 1000000 }) only [go_sem, ↓reduceIte, Nat.reduceEqDiff, Nat.reduceAdd, Nat.reduceMul, Nat.reduceSub, Nat.reduceLT, Nat.reduceLeDiff, Int.reduceLT, Int.reduceLE, Int.reduceEq, Int.reduceNe, Int.reduceAdd, Int.reduceNeg, Int.reduceToNat]; rfl) ?_
  rintro _ rfl
  cases hv : verbOk l.1
  · simp (config := { maxSteps := 1000000 }) only [go_sem, ↓reduceIte, Nat.reduceEqDiff, Nat.reduceAdd, Nat.reduceMul, Nat.reduceSub, Nat.reduceLT, Nat.reduceLeDiff, Int.reduceLT, Int.reduceLE, Int.reduceEq, Int.reduceNe, Int.reduceAdd, Int.reduceNeg, Int.reduceToNat]
    simp [rightL, hv]
  simp (config := { maxSteps := 1000000 }) only [go_sem, ↓reduceIte, Nat.reduceEqDiff, Nat.reduceAdd, Nat.reduceMul, Nat.reduceSub, Nat.reduceLT, Nat.reduceLeDiff, Int.reduceLT, Int.reduceLE, Int.reduceEq, Int.reduceNe, Int.reduceAdd, Int.reduceNeg, Int.reduceToNat]
  refine ⟨fun h100 => ?_, fun h100 => ?_⟩
  · refine hook_call rfl (by simp (config := { maxSteps := 1000000 }) only [go_sem, ↓reduceIte, Nat.reduceEqDiff, Nat.reduceAdd, Nat.reduceMul, Nat.reduceSub, Nat.reduceLT, Nat.reduceLeDiff, Int.reduceLT, Int.reduceLE, Int.reduceEq, Int.reduceNe, Int.reduceAdd, Int.reduceNeg, Int.reduceToNat]; exact lineR_A l h1 h2 h3) (by simp (config := { maxSteps := 1000000 }) only [go_sem, ↓reduceIte, Nat.reduceEqDiff, Nat.reduceAdd, Nat.reduceMul, Nat.reduceSub, Nat.reduceLT, Nat.reduceLeDiff, Int.reduceLT, Int.reduceLE, Int.reduceEq, Int.reduceNe, Int.reduceAdd, Int.reduceNeg, Int.reduceToNat, lineV, strs]; rfl) ?_
    rintro _ rfl
    simp (config := { maxSteps := 1000000 }) only [go_sem, ↓reduceIte, Nat.reduceEqDiff, Nat.reduceAdd, Nat.reduceMul, Nat.reduceSub, Nat.reduceLT, Nat.reduceLeDiff, Int.reduceLT, Int.reduceLE, Int.reduceEq, Int.reduceNe, Int.reduceAdd, Int.reduceNeg, Int.reduceToNat]
    have h100' : l.2.length ≤ 100 := by omega
    by_cases h20 : (lineT l).length ≤ 20000
    · have h20' : ((lineT l).length : Int) ≤ 20000 := by omega
      simp only [rightL, hv, h100', h20, h20', decide_true, Bool.and_self]
    · have h20' : ¬ ((lineT l).length : Int) ≤ 20000 := by omega
      simp only [rightL, hv, h100', h20, h20', decide_true, decide_false, Bool.and_false]
  · have : ¬ l.2.length ≤ 100 := by omega
    simp [rightL, this]

/-- Lines that the reference takes. -/
structure FewR (ls : List Line) : Prop where
  n : ls.length ≤ 10000
  v : ∀ l ∈ ls, l.1.length ≤ 1000000
  ws : ∀ l ∈ ls, l.2.length ≤ 1000000
  w : ∀ l ∈ ls, ∀ w ∈ l.2, w.length ≤ 1000000

set_option maxHeartbeats 4000000 in
theorem TextR_A (ls : List Line) (hf : FewR ls) : PureR Tryd.prog 20 [.one (.d (linesD ls))] (· = if ls.all rightL = true then .tup [sv (linesT ls), iv .i64 0] else .tup [sv [], iv .i64 1]) := by
  refine pure_of_wp Tt_ok mixed Tryd.func20 rfl (by rfl) [2, 3] rfl (by kernel_rfl) (by simp [Tryd.ntmps20]) fun g => ?_
  have hn := hf.n
  simp (config := { maxSteps := 1000000 }) only [go_sem, ↓reduceIte, Nat.reduceEqDiff, Nat.reduceAdd, Nat.reduceMul, Nat.reduceSub, Nat.reduceLT, Nat.reduceLeDiff, Int.reduceLT, Int.reduceLE, Int.reduceEq, Int.reduceNe, Int.reduceAdd, Int.reduceNeg, Int.reduceToNat, linesD]
  refine loop_intro (fun n st => ∃ k : Nat, n + k = ls.length ∧ st.f 0 = .one (.d (.sl (ls.map lineD))) ∧ st.f 5 = iv .i64 k ∧ st.f 4 = sv (linesT (ls.take k)) ∧ (linesT (ls.take k)).length ≤ 20001 * k ∧ (ls.take k).all rightL = true) ls.length ?_ ?_
  · refine ⟨0, by omega, ?_⟩
    simp (config := { maxSteps := 1000000 }) only [go_sem, ↓reduceIte, Nat.reduceEqDiff, Nat.reduceAdd, Nat.reduceMul, Nat.reduceSub, Nat.reduceLT, Nat.reduceLeDiff, Int.reduceLT, Int.reduceLE, Int.reduceEq, Int.reduceNe, Int.reduceAdd, Int.reduceNeg, Int.reduceToNat]
    simp [linesT]
  rintro n f g ob ⟨k, hk, h0, h5, h4, hlen, hall⟩
  simp only at h0 h5 h4
  have hw := wrap_succ (k := k) (by omega)
  by_cases hlt : k < ls.length
  · obtain ⟨l, hl⟩ := getq hlt
    have hlm := List.mem_of_getElem? hl
    have hg := lineD_get hl
    simp (config := { maxSteps := 1000000 }) only [go_sem, ↓reduceIte, Nat.reduceEqDiff, Nat.reduceAdd, Nat.reduceMul, Nat.reduceSub, Nat.reduceLT, Nat.reduceLeDiff, Int.reduceLT, Int.reduceLE, Int.reduceEq, Int.reduceNe, Int.reduceAdd, Int.reduceNeg, Int.reduceToNat, h0, h5, h4, hlt, hg, lineD]
    refine hook_call rfl (by simp (config := { maxSteps := 1000000 }) only [go_sem, ↓reduceIte, Nat.reduceEqDiff, Nat.reduceAdd, Nat.reduceMul, Nat.reduceSub, Nat.reduceLT, Nat.reduceLeDiff, Int.reduceLT, Int.reduceLE, Int.reduceEq, Int.reduceNe, Int.reduceAdd, Int.reduceNeg, Int.reduceToNat, lineD]; exact Right_A l (hf.v l hlm) (hf.ws l hlm) (hf.w l hlm)) (by simp (config := { maxSteps := 1000000 }) only [go_sem, ↓reduceIte, Nat.reduceEqDiff, Nat.reduceAdd, Nat.reduceMul, Nat.reduceSub, Nat.reduceLT, Nat.reduceLeDiff, Int.reduceLT, Int.reduceLE, Int.reduceEq, Int.reduceNe, Int.reduceAdd, Int.reduceNeg, Int.reduceToNat, lineD, strs]; rfl) ?_
    rintro _ rfl
    cases hr : rightL l
    · simp (config := { maxSteps := 1000000 }) only [go_sem, ↓reduceIte, Nat.reduceEqDiff, Nat.reduceAdd, Nat.reduceMul, Nat.reduceSub, Nat.reduceLT, Nat.reduceLeDiff, Int.reduceLT, Int.reduceLE, Int.reduceEq, Int.reduceNe, Int.reduceAdd, Int.reduceNeg, Int.reduceToNat]
      have : ls.all rightL = false := by rw [List.all_eq_false]; exact ⟨l, hlm, by simp [hr]⟩
      simp [this]
    · simp (config := { maxSteps := 1000000 }) only [go_sem, ↓reduceIte, Nat.reduceEqDiff, Nat.reduceAdd, Nat.reduceMul, Nat.reduceSub, Nat.reduceLT, Nat.reduceLeDiff, Int.reduceLT, Int.reduceLE, Int.reduceEq, Int.reduceNe, Int.reduceAdd, Int.reduceNeg, Int.reduceToNat, h0, h5, h4, hg, lineD]
      have hle : (lineT l).length ≤ 20000 := by simp only [rightL, Bool.and_eq_true, decide_eq_true_eq] at hr; exact hr.2
      refine hook_call rfl (by simp (config := { maxSteps := 1000000 }) only [go_sem, ↓reduceIte, Nat.reduceEqDiff, Nat.reduceAdd, Nat.reduceMul, Nat.reduceSub, Nat.reduceLT, Nat.reduceLeDiff, Int.reduceLT, Int.reduceLE, Int.reduceEq, Int.reduceNe, Int.reduceAdd, Int.reduceNeg, Int.reduceToNat, lineD]; exact lineR_A l (hf.v l hlm) (hf.ws l hlm) (hf.w l hlm)) (by simp (config := { maxSteps := 1000000 }) only [go_sem, ↓reduceIte, Nat.reduceEqDiff, Nat.reduceAdd, Nat.reduceMul, Nat.reduceSub, Nat.reduceLT, Nat.reduceLeDiff, Int.reduceLT, Int.reduceLE, Int.reduceEq, Int.reduceNe, Int.reduceAdd, Int.reduceNeg, Int.reduceToNat, lineD, strs]; rfl) ?_
      rintro _ rfl
      simp (config := { maxSteps := 1000000 }) only [go_sem, ↓reduceIte, Nat.reduceEqDiff, Nat.reduceAdd, Nat.reduceMul, Nat.reduceSub, Nat.reduceLT, Nat.reduceLeDiff, Int.reduceLT, Int.reduceLE, Int.reduceEq, Int.reduceNe, Int.reduceAdd, Int.reduceNeg, Int.reduceToNat, h0, h5, h4]
      refine ⟨by omega, by simp only [List.length_append]; omega, ?_⟩
      simp (config := { maxSteps := 1000000 }) only [go_sem, ↓reduceIte, Nat.reduceEqDiff, Nat.reduceAdd, Nat.reduceMul, Nat.reduceSub, Nat.reduceLT, Nat.reduceLeDiff, Int.reduceLT, Int.reduceLE, Int.reduceEq, Int.reduceNe, Int.reduceAdd, Int.reduceNeg, Int.reduceToNat, h5, hw]
      refine round_end (n - 1) (by omega) ⟨k + 1, by omega, ?_⟩
      simp (config := { maxSteps := 1000000 }) only [go_sem, ↓reduceIte, Nat.reduceEqDiff, Nat.reduceAdd, Nat.reduceMul, Nat.reduceSub, Nat.reduceLT, Nat.reduceLeDiff, Int.reduceLT, Int.reduceLE, Int.reduceEq, Int.reduceNe, Int.reduceAdd, Int.reduceNeg, Int.reduceToNat, h0]
      rw [linesT_take hl]
      refine ⟨by simp, by simp only [List.length_append, List.length_cons, List.length_nil]; omega, all_take hl hall hr⟩
  · have hts : ls.take k = ls := List.take_of_length_le (by omega)
    rw [hts] at h4 hall
    simp (config := { maxSteps := 1000000 }) only [go_sem, ↓reduceIte, Nat.reduceEqDiff, Nat.reduceAdd, Nat.reduceMul, Nat.reduceSub, Nat.reduceLT, Nat.reduceLeDiff, Int.reduceLT, Int.reduceLE, Int.reduceEq, Int.reduceNe, Int.reduceAdd, Int.reduceNeg, Int.reduceToNat, h0, h5, h4, hlt]
    rw [if_pos hall]

theorem mem_sum {w : List UInt8} : ∀ {L : List (List UInt8)}, w ∈ L → w.length ≤ (L.map List.length).sum
  | [], h => by simp at h
  | x :: xs, h => by
    simp only [List.map_cons, List.sum_cons]
    rcases List.mem_cons.1 h with rfl | h
    · omega
    · have := mem_sum h; omega

theorem few_bounds {ls : List Line} (h : fewB ls = true) : FewR ls ∧ Few ls ∧ ls.length ≤ 20 := by
  simp only [fewB, fewL, Bool.and_eq_true, decide_eq_true_eq, List.all_eq_true] at h
  obtain ⟨h1, h2⟩ := h
  have hw : ∀ l ∈ ls, ∀ w ∈ l.2, w.length ≤ 21000 := fun l hl w hw => by
    have h3 := (h2 l hl).2
    have := mem_sum hw
    omega
  exact ⟨⟨by omega, fun l hl => by have := (h2 l hl).1.1; omega, fun l hl => by have := (h2 l hl).1.2; omega, fun l hl w hw' => by have := hw l hl w hw'; omega⟩,
    ⟨by omega, fun l hl => by have := (h2 l hl).1.1; omega, fun l hl => by have := (h2 l hl).1.2; omega, fun l hl w hw' => by have := hw l hl w hw'; omega⟩, h1⟩

theorem linesT_bound {ls : List Line} (h : ls.all rightL = true) : (linesT ls).length ≤ 20001 * ls.length := by
  induction ls with
  | nil => simp [linesT]
  | cons l ls ih =>
    simp only [List.all_cons, Bool.and_eq_true] at h
    have h1 := ih h.2
    have h2 : (lineT l).length ≤ 20000 := by have := h.1; simp only [rightL, Bool.and_eq_true, decide_eq_true_eq] at this; exact this.2
    unfold linesT at *
    simp only [List.flatMap_cons, List.length_append, List.length_cons, List.length_nil]; omega

set_option maxHeartbeats 4000000 in
theorem ScriptTexts_A (ls : List Line) (hw1 : ∀ l ∈ ls, l.1.length ≤ 1000000000000000) (hw2 : ∀ l ∈ ls, ∀ w ∈ l.2, w.length ≤ 1000000000000000) : PureR Tryd.prog 10 [.one (.d (linesD ls))] (· = bv true) := by
  refine pure_of_wp Tt_ok mixed Tryd.func10 rfl (by rfl) [2] rfl (by kernel_rfl) (by simp [Tryd.ntmps10]) fun g => ?_
  simp (config := { maxSteps := 1000000 }) only [go_sem, ↓reduceIte, Nat.reduceEqDiff, Nat.reduceAdd, Nat.reduceMul, Nat.reduceSub, Nat.reduceLT, Nat.reduceLeDiff, Int.reduceLT, Int.reduceLE, Int.reduceEq, Int.reduceNe, Int.reduceAdd, Int.reduceNeg, Int.reduceToNat]
  refine hook_call rfl (by simp (config := { maxSteps := 1000000 }) only [go_sem, ↓reduceIte, Nat.reduceEqDiff, Nat.reduceAdd, Nat.reduceMul, Nat.reduceSub, Nat.reduceLT, Nat.reduceLeDiff, Int.reduceLT, Int.reduceLE, Int.reduceEq, Int.reduceNe, Int.reduceAdd, Int.reduceNeg, Int.reduceToNat]; exact alive_A) (by simp (config := { maxSteps := 1000000 }) only [go_sem, ↓reduceIte, Nat.reduceEqDiff, Nat.reduceAdd, Nat.reduceMul, Nat.reduceSub, Nat.reduceLT, Nat.reduceLeDiff, Int.reduceLT, Int.reduceLE, Int.reduceEq, Int.reduceNe, Int.reduceAdd, Int.reduceNeg, Int.reduceToNat]; rfl) ?_
  rintro _ rfl
  simp (config := { maxSteps := 1000000 }) only [go_sem, ↓reduceIte, Nat.reduceEqDiff, Nat.reduceAdd, Nat.reduceMul, Nat.reduceSub, Nat.reduceLT, Nat.reduceLeDiff, Int.reduceLT, Int.reduceLE, Int.reduceEq, Int.reduceNe, Int.reduceAdd, Int.reduceNeg, Int.reduceToNat]
  refine hook_call rfl (by simp (config := { maxSteps := 1000000 }) only [go_sem, ↓reduceIte, Nat.reduceEqDiff, Nat.reduceAdd, Nat.reduceMul, Nat.reduceSub, Nat.reduceLT, Nat.reduceLeDiff, Int.reduceLT, Int.reduceLE, Int.reduceEq, Int.reduceNe, Int.reduceAdd, Int.reduceNeg, Int.reduceToNat]; exact few_A ls hw1 hw2) (by simp (config := { maxSteps := 1000000 }) only [go_sem, ↓reduceIte, Nat.reduceEqDiff, Nat.reduceAdd, Nat.reduceMul, Nat.reduceSub, Nat.reduceLT, Nat.reduceLeDiff, Int.reduceLT, Int.reduceLE, Int.reduceEq, Int.reduceNe, Int.reduceAdd, Int.reduceNeg, Int.reduceToNat]; rfl) ?_
  rintro _ rfl
  cases hf : fewB ls
  · simp (config := { maxSteps := 1000000 }) only [go_sem, ↓reduceIte, Nat.reduceEqDiff, Nat.reduceAdd, Nat.reduceMul, Nat.reduceSub, Nat.reduceLT, Nat.reduceLeDiff, Int.reduceLT, Int.reduceLE, Int.reduceEq, Int.reduceNe, Int.reduceAdd, Int.reduceNeg, Int.reduceToNat]
  obtain ⟨f1, f2, f3⟩ := few_bounds hf
  simp (config := { maxSteps := 1000000 }) only [go_sem, ↓reduceIte, Nat.reduceEqDiff, Nat.reduceAdd, Nat.reduceMul, Nat.reduceSub, Nat.reduceLT, Nat.reduceLeDiff, Int.reduceLT, Int.reduceLE, Int.reduceEq, Int.reduceNe, Int.reduceAdd, Int.reduceNeg, Int.reduceToNat]
  refine hook_call rfl (by simp (config := { maxSteps := 1000000 }) only [go_sem, ↓reduceIte, Nat.reduceEqDiff, Nat.reduceAdd, Nat.reduceMul, Nat.reduceSub, Nat.reduceLT, Nat.reduceLeDiff, Int.reduceLT, Int.reduceLE, Int.reduceEq, Int.reduceNe, Int.reduceAdd, Int.reduceNeg, Int.reduceToNat]; exact Text_A ls f2) (by simp (config := { maxSteps := 1000000 }) only [go_sem, ↓reduceIte, Nat.reduceEqDiff, Nat.reduceAdd, Nat.reduceMul, Nat.reduceSub, Nat.reduceLT, Nat.reduceLeDiff, Int.reduceLT, Int.reduceLE, Int.reduceEq, Int.reduceNe, Int.reduceAdd, Int.reduceNeg, Int.reduceToNat]; rfl) ?_
  rintro _ rfl
  by_cases hr : ls.all rightL = true
  · rw [if_pos hr]
    have hb := linesT_bound hr
    simp (config := { maxSteps := 1000000 }) only [go_sem, ↓reduceIte, Nat.reduceEqDiff, Nat.reduceAdd, Nat.reduceMul, Nat.reduceSub, Nat.reduceLT, Nat.reduceLeDiff, Int.reduceLT, Int.reduceLE, Int.reduceEq, Int.reduceNe, Int.reduceAdd, Int.reduceNeg, Int.reduceToNat]
    refine hook_call rfl (by simp (config := { maxSteps := 1000000 }) only [go_sem, ↓reduceIte, Nat.reduceEqDiff, Nat.reduceAdd, Nat.reduceMul, Nat.reduceSub, Nat.reduceLT, Nat.reduceLeDiff, Int.reduceLT, Int.reduceLE, Int.reduceEq, Int.reduceNe, Int.reduceAdd, Int.reduceNeg, Int.reduceToNat]; exact TextR_A ls f1) (by simp (config := { maxSteps := 1000000 }) only [go_sem, ↓reduceIte, Nat.reduceEqDiff, Nat.reduceAdd, Nat.reduceMul, Nat.reduceSub, Nat.reduceLT, Nat.reduceLeDiff, Int.reduceLT, Int.reduceLE, Int.reduceEq, Int.reduceNe, Int.reduceAdd, Int.reduceNeg, Int.reduceToNat]; rfl) ?_
    rintro _ rfl
    rw [if_pos hr]
    simp (config := { maxSteps := 1000000 }) only [go_sem, ↓reduceIte, Nat.reduceEqDiff, Nat.reduceAdd, Nat.reduceMul, Nat.reduceSub, Nat.reduceLT, Nat.reduceLeDiff, Int.reduceLT, Int.reduceLE, Int.reduceEq, Int.reduceNe, Int.reduceAdd, Int.reduceNeg, Int.reduceToNat]
    refine hook_call rfl (by simp (config := { maxSteps := 1000000 }) only [go_sem, ↓reduceIte, Nat.reduceEqDiff, Nat.reduceAdd, Nat.reduceMul, Nat.reduceSub, Nat.reduceLT, Nat.reduceLeDiff, Int.reduceLT, Int.reduceLE, Int.reduceEq, Int.reduceNe, Int.reduceAdd, Int.reduceNeg, Int.reduceToNat]; exact Read_A (linesT ls) (by omega)) (by simp (config := { maxSteps := 1000000 }) only [go_sem, ↓reduceIte, Nat.reduceEqDiff, Nat.reduceAdd, Nat.reduceMul, Nat.reduceSub, Nat.reduceLT, Nat.reduceLeDiff, Int.reduceLT, Int.reduceLE, Int.reduceEq, Int.reduceNe, Int.reduceAdd, Int.reduceNeg, Int.reduceToNat]; rfl) ?_
    rintro _ rfl
    rw [readB_text hr]
    simp (config := { maxSteps := 1000000 }) only [go_sem, ↓reduceIte, Nat.reduceEqDiff, Nat.reduceAdd, Nat.reduceMul, Nat.reduceSub, Nat.reduceLT, Nat.reduceLeDiff, Int.reduceLT, Int.reduceLE, Int.reduceEq, Int.reduceNe, Int.reduceAdd, Int.reduceNeg, Int.reduceToNat, readRV]
    refine hook_call rfl (by simp (config := { maxSteps := 1000000 }) only [go_sem, ↓reduceIte, Nat.reduceEqDiff, Nat.reduceAdd, Nat.reduceMul, Nat.reduceSub, Nat.reduceLT, Nat.reduceLeDiff, Int.reduceLT, Int.reduceLE, Int.reduceEq, Int.reduceNe, Int.reduceAdd, Int.reduceNeg, Int.reduceToNat]; exact Same_A _ _ (by omega) (fun l hl => by have := right_bounds (List.all_eq_true.1 hr l hl); omega)) (by simp (config := { maxSteps := 1000000 }) only [go_sem, ↓reduceIte, Nat.reduceEqDiff, Nat.reduceAdd, Nat.reduceMul, Nat.reduceSub, Nat.reduceLT, Nat.reduceLeDiff, Int.reduceLT, Int.reduceLE, Int.reduceEq, Int.reduceNe, Int.reduceAdd, Int.reduceNeg, Int.reduceToNat]; rfl) ?_
    rintro _ rfl
    simp (config := { maxSteps := 1000000 }) only [go_sem, ↓reduceIte, Nat.reduceEqDiff, Nat.reduceAdd, Nat.reduceMul, Nat.reduceSub, Nat.reduceLT, Nat.reduceLeDiff, Int.reduceLT, Int.reduceLE, Int.reduceEq, Int.reduceNe, Int.reduceAdd, Int.reduceNeg, Int.reduceToNat]
  · rw [if_neg hr]
    simp (config := { maxSteps := 1000000 }) only [go_sem, ↓reduceIte, Nat.reduceEqDiff, Nat.reduceAdd, Nat.reduceMul, Nat.reduceSub, Nat.reduceLT, Nat.reduceLeDiff, Int.reduceLT, Int.reduceLE, Int.reduceEq, Int.reduceNe, Int.reduceAdd, Int.reduceNeg, Int.reduceToNat]
    refine hook_call rfl (by simp (config := { maxSteps := 1000000 }) only [go_sem, ↓reduceIte, Nat.reduceEqDiff, Nat.reduceAdd, Nat.reduceMul, Nat.reduceSub, Nat.reduceLT, Nat.reduceLeDiff, Int.reduceLT, Int.reduceLE, Int.reduceEq, Int.reduceNe, Int.reduceAdd, Int.reduceNeg, Int.reduceToNat]; exact TextR_A ls f1) (by simp (config := { maxSteps := 1000000 }) only [go_sem, ↓reduceIte, Nat.reduceEqDiff, Nat.reduceAdd, Nat.reduceMul, Nat.reduceSub, Nat.reduceLT, Nat.reduceLeDiff, Int.reduceLT, Int.reduceLE, Int.reduceEq, Int.reduceNe, Int.reduceAdd, Int.reduceNeg, Int.reduceToNat]; rfl) ?_
    rintro _ rfl
    rw [if_neg hr]
    simp (config := { maxSteps := 1000000 }) only [go_sem, ↓reduceIte, Nat.reduceEqDiff, Nat.reduceAdd, Nat.reduceMul, Nat.reduceSub, Nat.reduceLT, Nat.reduceLeDiff, Int.reduceLT, Int.reduceLE, Int.reduceEq, Int.reduceNe, Int.reduceAdd, Int.reduceNeg, Int.reduceToNat]

end Go.Proofs.YtdlogfbbcbbllaaDoor

namespace Go.Proofs.YtdlogfbbcbbllaaDoor
open Go Go.Am

theorem line_long {x : List UInt8} (h : 20000 < x.length) : lineP x = (([], []), false, 2) := by rw [lineP_S, if_pos h]
theorem line_bad {x : List UInt8} (h : ¬ 20000 < x.length) (hg : good (partsS x) = false) : lineP x = (([], []), false, 3) := by
  rw [lineP_S, if_neg h]
  unfold partsR
  rw [if_neg (fun ho => by rw [okParts_good ho] at hg; cases hg)]
theorem line_none {x : List UInt8} (h : ¬ 20000 < x.length) (hp : partsS x = []) : lineP x = (([], []), false, 0) := by
  rw [lineP_S, if_neg h, hp]; rfl
theorem line_verb {x : List UInt8} {p : Part} {qs : List Part} (h : ¬ 20000 < x.length) (hp : partsS x = p :: qs) (hv : (p.2.1 && verbOk p.1) = false) : lineP x = (([], []), false, 3) := by
  rw [lineP_S, if_neg h, hp]
  unfold partsR
  rw [if_neg (by simp only [okParts, okPart, Bool.not_true, Bool.false_or, hv]; simp)]
theorem line_there {x : List UInt8} {p : Part} {qs : List Part} (h : ¬ 20000 < x.length) (hp : partsS x = p :: qs) (hg : good (partsS x) = true) (hv : (p.2.1 && verbOk p.1) = true) : lineP x = if rightL (p.1, qs.map (·.1)) = true then ((p.1, qs.map (·.1)), true, 0) else (([], []), false, 2) := by
  rw [lineP_S, if_neg h, hp]
  rw [hp] at hg
  unfold partsR
  simp only [good, List.all_cons, Bool.and_eq_true, Bool.not_eq_true', List.all_eq_true] at hg
  rw [if_pos]
  simp only [okParts, okPart, Bool.not_true, Bool.false_or, hv, hg.1, Bool.not_false, Bool.true_and, List.all_eq_true, Bool.and_true]
  intro q hq
  simp [okPart, hg.2 q hq]

theorem wrong_here {s : List UInt8} {ls : List (List UInt8)} {k : Nat} {x : List UInt8} (hls : splitB s = ls) (hx : ls[k]? = some x) (ha : (ls.take k).all okL = true) (e : Int) (he : (lineP x).2.2 = e) (hne : e ≠ 0) : readRV (readB s) = .tup [.one (.d (.sl [])), iv .i64 ((k + 1 : Nat) : Int), iv .i64 e] := by
  have h := readFrom_wrong (n := 0) hx ha (by simp [okL, he, hne])
  unfold readB
  rw [hls, h, he]
  simp only [readRV, linesD, List.map_nil, Nat.zero_add]

theorem partsS_len (s : List UInt8) : (partsS s).length ≤ s.length + 1 := partsF_len _ _
theorem partsS_text (s : List UInt8) : ∀ p ∈ partsS s, p.1.length ≤ s.length := partsF_text _ _

set_option maxHeartbeats 8000000 in
theorem ReadR_A (s : List UInt8) (hs : s.length ≤ 1000000) : PureR Tryd.prog 15 [sv s] (· = readRV (readB s)) := by
  refine pure_of_wp Tt_ok mixed Tryd.func15 rfl (by rfl) [2, 3, 4] rfl (by kernel_rfl) (by simp [Tryd.ntmps15]) fun g => ?_
  simp (config := { maxSteps := 1000000 }) only [go_sem, ↓reduceIte, Nat.reduceEqDiff, Nat.reduceAdd, Nat.reduceMul, Nat.reduceSub, Nat.reduceLT, Nat.reduceLeDiff, Int.reduceLT, Int.reduceLE, Int.reduceEq, Int.reduceNe, Int.reduceAdd, Int.reduceNeg, Int.reduceToNat]
  refine hook_call rfl (by simp (config := { maxSteps := 1000000 }) only [go_sem, ↓reduceIte, Nat.reduceEqDiff, Nat.reduceAdd, Nat.reduceMul, Nat.reduceSub, Nat.reduceLT, Nat.reduceLeDiff, Int.reduceLT, Int.reduceLE, Int.reduceEq, Int.reduceNe, Int.reduceAdd, Int.reduceNeg, Int.reduceToNat]; exact linesR_A s hs) (by simp (config := { maxSteps := 1000000 }) only [go_sem, ↓reduceIte, Nat.reduceEqDiff, Nat.reduceAdd, Nat.reduceMul, Nat.reduceSub, Nat.reduceLT, Nat.reduceLeDiff, Int.reduceLT, Int.reduceLE, Int.reduceEq, Int.reduceNe, Int.reduceAdd, Int.reduceNeg, Int.reduceToNat]; rfl) ?_
  rintro _ rfl
  have hnl := splitB_len s
  have htx := splitB_text s
  obtain ⟨ls, hls⟩ : ∃ ls, splitB s = ls := ⟨_, rfl⟩
  rw [hls] at hnl htx ⊢
  simp (config := { maxSteps := 1000000 }) only [go_sem, ↓reduceIte, Nat.reduceEqDiff, Nat.reduceAdd, Nat.reduceMul, Nat.reduceSub, Nat.reduceLT, Nat.reduceLeDiff, Int.reduceLT, Int.reduceLE, Int.reduceEq, Int.reduceNe, Int.reduceAdd, Int.reduceNeg, Int.reduceToNat]
  refine loop_intro (fun n st => ∃ k : Nat, n + k = ls.length ∧ st.f 6 = .one (.d (strs ls)) ∧ st.f 7 = iv .i64 k ∧ (ls.take k).all okL = true ∧ ((st.f 5 = .one (.d .nsl) ∧ linesOf (ls.take k) = []) ∨ (st.f 5 = .one (.osl 69 (st.gen 69) 2 0 (linesOf (ls.take k)).length) ∧ st.obj 69 = some ((linesOf (ls.take k)).flatMap fun l => (lineD l).map .d)))) ls.length ?_ ?_
  · refine ⟨0, by omega, ?_⟩
    simp (config := { maxSteps := 1000000 }) only [go_sem, ↓reduceIte, Nat.reduceEqDiff, Nat.reduceAdd, Nat.reduceMul, Nat.reduceSub, Nat.reduceLT, Nat.reduceLeDiff, Int.reduceLT, Int.reduceLE, Int.reduceEq, Int.reduceNe, Int.reduceAdd, Int.reduceNeg, Int.reduceToNat]
    exact ⟨rfl, .inl rfl⟩
  rintro n f g ob ⟨k, hk, h6, h7, hall, hL⟩
  simp only at h6 h7
  have hw := wrap_succ (k := k) (by omega)
  by_cases hlt : k < ls.length
  · obtain ⟨x, hx⟩ := getq hlt
    have hgx := strs_get hx
    have hxl := htx x (List.mem_of_getElem? hx)
    have hwr := fun e he hne => wrong_here hls hx hall e he hne
    simp (config := { maxSteps := 1000000 }) only [go_sem, ↓reduceIte, Nat.reduceEqDiff, Nat.reduceAdd, Nat.reduceMul, Nat.reduceSub, Nat.reduceLT, Nat.reduceLeDiff, Int.reduceLT, Int.reduceLE, Int.reduceEq, Int.reduceNe, Int.reduceAdd, Int.reduceNeg, Int.reduceToNat, h6, h7, hlt, hgx, strs, hw]
    refine ⟨fun h20 => ?_, fun h20 => ?_⟩
    · rw [hwr 2 (by rw [line_long (by omega)]) (by decide)]
    have h20' : ¬ 20000 < x.length := by omega
    refine hook_call rfl (by simp (config := { maxSteps := 1000000 }) only [go_sem, ↓reduceIte, Nat.reduceEqDiff, Nat.reduceAdd, Nat.reduceMul, Nat.reduceSub, Nat.reduceLT, Nat.reduceLeDiff, Int.reduceLT, Int.reduceLE, Int.reduceEq, Int.reduceNe, Int.reduceAdd, Int.reduceNeg, Int.reduceToNat]; exact Words_A x (by omega)) (by simp (config := { maxSteps := 1000000 }) only [go_sem, ↓reduceIte, Nat.reduceEqDiff, Nat.reduceAdd, Nat.reduceMul, Nat.reduceSub, Nat.reduceLT, Nat.reduceLeDiff, Int.reduceLT, Int.reduceLE, Int.reduceEq, Int.reduceNe, Int.reduceAdd, Int.reduceNeg, Int.reduceToNat]; rfl) ?_
    rintro _ rfl
    cases hg : good (partsS x)
    · rw [wordsRV_bad hg]
      simp (config := { maxSteps := 1000000 }) only [go_sem, ↓reduceIte, Nat.reduceEqDiff, Nat.reduceAdd, Nat.reduceMul, Nat.reduceSub, Nat.reduceLT, Nat.reduceLeDiff, Int.reduceLT, Int.reduceLE, Int.reduceEq, Int.reduceNe, Int.reduceAdd, Int.reduceNeg, Int.reduceToNat, h7, hw]
      rw [hwr 3 (by rw [line_bad h20' hg]) (by decide)]
    · rw [wordsRV_done hg rfl]
      have hpl := partsS_len x
      have hpt := partsS_text x
      cases hp : partsS x with
      | nil =>
        have hl0 := line_none h20' hp
        have hok : okL x = true := by simp [okL, hl0]
        simp (config := { maxSteps := 1000000 }) only [go_sem, ↓reduceIte, Nat.reduceEqDiff, Nat.reduceAdd, Nat.reduceMul, Nat.reduceSub, Nat.reduceLT, Nat.reduceLeDiff, Int.reduceLT, Int.reduceLE, Int.reduceEq, Int.reduceNe, Int.reduceAdd, Int.reduceNeg, Int.reduceToNat, strs, h7, hw, firstB]
        refine round_end (n - 1) (by omega) ⟨k + 1, by omega, ?_⟩
        simp (config := { maxSteps := 1000000 }) only [go_sem, ↓reduceIte, Nat.reduceEqDiff, Nat.reduceAdd, Nat.reduceMul, Nat.reduceSub, Nat.reduceLT, Nat.reduceLeDiff, Int.reduceLT, Int.reduceLE, Int.reduceEq, Int.reduceNe, Int.reduceAdd, Int.reduceNeg, Int.reduceToNat, h6]
        refine ⟨rfl, all_take hx hall hok, ?_⟩
        rw [linesOf_take hx, hl0]
        simpa [upd] using hL
      | cons p qs =>
        obtain ⟨pv, pb, pbad⟩ := p
        rw [hp] at hpl hpt
        simp only [List.length_cons] at hpl
        have hne0 : ¬ ((qs.length + 1 : Nat) : Int) = 0 := by omega
        have hpvl : pv.length ≤ 1000000 := by have := hpt (pv, pb, pbad) (by simp); simp only at this; omega
        have hwl : ∀ w ∈ qs.map (·.1), w.length ≤ 1000000 := fun w hw => by
          obtain ⟨q, hq, rfl⟩ := List.mem_map.1 hw
          have := hpt q (by simp [hq]); omega
        have hwn : (qs.map (·.1)).length ≤ 1000000 := by rw [List.length_map]; omega
        simp (config := { maxSteps := 1000000 }) only [go_sem, ↓reduceIte, Nat.reduceEqDiff, Nat.reduceAdd, Nat.reduceMul, Nat.reduceSub, Nat.reduceLT, Nat.reduceLeDiff, Int.reduceLT, Int.reduceLE, Int.reduceEq, Int.reduceNe, Int.reduceAdd, Int.reduceNeg, Int.reduceToNat, strs, h7, hw, firstB, hne0]
        refine draw_det Tt_ok mixed [11] [([8], [0], [], false), ([44], [0], [], false), ([45], [0], [], false), ([8], [0], [], false), ([47], [0], [], false), ([46, 48], [0], [], false), ([], [], [0], false), ([11, 49], [], [], true)] 1 (by decide +kernel) rfl (by decide) ?_
        simp (config := { maxSteps := 1000000 }) only [go_sem, ↓reduceIte, Nat.reduceEqDiff, Nat.reduceAdd, Nat.reduceMul, Nat.reduceSub, Nat.reduceLT, Nat.reduceLeDiff, Int.reduceLT, Int.reduceLE, Int.reduceEq, Int.reduceNe, Int.reduceAdd, Int.reduceNeg, Int.reduceToNat]
        iterate 4 (apply det_pure; · (intro fa ga oa K' hK; simp (config := { maxSteps := 1000000 }) only [go_sem, ↓reduceIte, Nat.reduceEqDiff, Nat.reduceAdd, Nat.reduceMul, Nat.reduceSub, Nat.reduceLT, Nat.reduceLeDiff, Int.reduceLT, Int.reduceLE, Int.reduceEq, Int.reduceNe, Int.reduceAdd, Int.reduceNeg, Int.reduceToNat, strs] at hK ⊢; exact hK))
        refine det_pure (v := .one (.d (.sl ((qs.map (·.1)).map fun w => [.str w])))) (fun fa ga oa K' hK => ?_) ?_
        · simp (config := { maxSteps := 1000000 }) only [go_sem, ↓reduceIte, Nat.reduceEqDiff, Nat.reduceAdd, Nat.reduceMul, Nat.reduceSub, Nat.reduceLT, Nat.reduceLeDiff, Int.reduceLT, Int.reduceLE, Int.reduceEq, Int.reduceNe, Int.reduceAdd, Int.reduceNeg, Int.reduceToNat, strs] at hK ⊢
          refine ⟨Nat.le_refl _, fun e he => ?_, ?_⟩
          · rcases List.mem_cons.1 he with rfl | he
            · rfl
            · obtain ⟨w, _, rfl⟩ := List.mem_map.1 he; rfl
          · rw [List.take_of_length_le (by simp)]
            exact hK
        (apply det_pure; · (intro fa ga oa K' hK; simp (config := { maxSteps := 1000000 }) only [go_sem, ↓reduceIte, Nat.reduceEqDiff, Nat.reduceAdd, Nat.reduceMul, Nat.reduceSub, Nat.reduceLT, Nat.reduceLeDiff, Int.reduceLT, Int.reduceLE, Int.reduceEq, Int.reduceNe, Int.reduceAdd, Int.reduceNeg, Int.reduceToNat, strs, buildA] at hK ⊢; exact hK))
        (apply det_new; · (intro fa ga oa K' hK; simp (config := { maxSteps := 1000000 }) only [go_sem, ↓reduceIte, Nat.reduceEqDiff, Nat.reduceAdd, Nat.reduceMul, Nat.reduceSub, Nat.reduceLT, Nat.reduceLeDiff, Int.reduceLT, Int.reduceLE, Int.reduceEq, Int.reduceNe, Int.reduceAdd, Int.reduceNeg, Int.reduceToNat, strs] at hK ⊢; exact hK))
        apply det_last
        intro K' hK'
        simp (config := { maxSteps := 1000000 }) only [go_sem, ↓reduceIte, Nat.reduceEqDiff, Nat.reduceAdd, Nat.reduceMul, Nat.reduceSub, Nat.reduceLT, Nat.reduceLeDiff, Int.reduceLT, Int.reduceLE, Int.reduceEq, Int.reduceNe, Int.reduceAdd, Int.reduceNeg, Int.reduceToNat]
        refine hK' _ ?_
        clear hK' K'
        cases pb
        · simp (config := { maxSteps := 1000000 }) only [go_sem, ↓reduceIte, Nat.reduceEqDiff, Nat.reduceAdd, Nat.reduceMul, Nat.reduceSub, Nat.reduceLT, Nat.reduceLeDiff, Int.reduceLT, Int.reduceLE, Int.reduceEq, Int.reduceNe, Int.reduceAdd, Int.reduceNeg, Int.reduceToNat, h7, hw]
          rw [hwr 3 (by rw [line_verb h20' hp rfl]) (by decide)]
        · simp (config := { maxSteps := 1000000 }) only [go_sem, ↓reduceIte, Nat.reduceEqDiff, Nat.reduceAdd, Nat.reduceMul, Nat.reduceSub, Nat.reduceLT, Nat.reduceLeDiff, Int.reduceLT, Int.reduceLE, Int.reduceEq, Int.reduceNe, Int.reduceAdd, Int.reduceNeg, Int.reduceToNat]
          refine hook_call rfl (by simp (config := { maxSteps := 1000000 }) only [go_sem, ↓reduceIte, Nat.reduceEqDiff, Nat.reduceAdd, Nat.reduceMul, Nat.reduceSub, Nat.reduceLT, Nat.reduceLeDiff, Int.reduceLT, Int.reduceLE, Int.reduceEq, Int.reduceNe, Int.reduceAdd, Int.reduceNeg, Int.reduceToNat]; exact Verb_A pv (by omega)) (by simp (config := { maxSteps := 1000000 }) only [go_sem, ↓reduceIte, Nat.reduceEqDiff, Nat.reduceAdd, Nat.reduceMul, Nat.reduceSub, Nat.reduceLT, Nat.reduceLeDiff, Int.reduceLT, Int.reduceLE, Int.reduceEq, Int.reduceNe, Int.reduceAdd, Int.reduceNeg, Int.reduceToNat]; rfl) ?_
          rintro _ rfl
          cases hv : verbOk pv
          · simp (config := { maxSteps := 1000000 }) only [go_sem, ↓reduceIte, Nat.reduceEqDiff, Nat.reduceAdd, Nat.reduceMul, Nat.reduceSub, Nat.reduceLT, Nat.reduceLeDiff, Int.reduceLT, Int.reduceLE, Int.reduceEq, Int.reduceNe, Int.reduceAdd, Int.reduceNeg, Int.reduceToNat, h7, hw]
            rw [hwr 3 (by rw [line_verb h20' hp (by simp [hv])]) (by decide)]
          · have hlt3 := line_there h20' hp hg (by simp [hv])
            simp only at hlt3
            simp (config := { maxSteps := 1000000 }) only [go_sem, ↓reduceIte, Nat.reduceEqDiff, Nat.reduceAdd, Nat.reduceMul, Nat.reduceSub, Nat.reduceLT, Nat.reduceLeDiff, Int.reduceLT, Int.reduceLE, Int.reduceEq, Int.reduceNe, Int.reduceAdd, Int.reduceNeg, Int.reduceToNat]
            refine hook_call rfl (by simp (config := { maxSteps := 1000000 }) only [go_sem, ↓reduceIte, Nat.reduceEqDiff, Nat.reduceAdd, Nat.reduceMul, Nat.reduceSub, Nat.reduceLT, Nat.reduceLeDiff, Int.reduceLT, Int.reduceLE, Int.reduceEq, Int.reduceNe, Int.reduceAdd, Int.reduceNeg, Int.reduceToNat]; exact Right_A (pv, qs.map (·.1)) hpvl hwn hwl) (by simp (config := { maxSteps := 1000000 }) only [go_sem, ↓reduceIte, Nat.reduceEqDiff, Nat.reduceAdd, Nat.reduceMul, Nat.reduceSub, Nat.reduceLT, Nat.reduceLeDiff, Int.reduceLT, Int.reduceLE, Int.reduceEq, Int.reduceNe, Int.reduceAdd, Int.reduceNeg, Int.reduceToNat]; rfl) ?_
            rintro _ rfl
            cases hr : rightL (pv, qs.map (·.1))
            · rw [hr] at hlt3
              simp (config := { maxSteps := 1000000 }) only [go_sem, ↓reduceIte, Nat.reduceEqDiff, Nat.reduceAdd, Nat.reduceMul, Nat.reduceSub, Nat.reduceLT, Nat.reduceLeDiff, Int.reduceLT, Int.reduceLE, Int.reduceEq, Int.reduceNe, Int.reduceAdd, Int.reduceNeg, Int.reduceToNat, h7, hw]
              rw [hwr 2 (by rw [hlt3]; rfl) (by decide)]
            · rw [hr, if_pos rfl] at hlt3
              have hok : okL x = true := by simp [okL, hlt3]
              have hlo : linesOf (ls.take (k + 1)) = linesOf (ls.take k) ++ [(pv, qs.map (·.1))] := by rw [linesOf_take hx, hlt3]; rfl
              have hll := linesOf_len (ls.take k)
              simp only [List.length_take] at hll
              have hfl := lines_flat_len (linesOf (ls.take k))
              rcases hL with ⟨q5, qL⟩ | ⟨q5, qo⟩
              · simp only at q5
                simp (config := { maxSteps := 1000000 }) only [go_sem, ↓reduceIte, Nat.reduceEqDiff, Nat.reduceAdd, Nat.reduceMul, Nat.reduceSub, Nat.reduceLT, Nat.reduceLeDiff, Int.reduceLT, Int.reduceLE, Int.reduceEq, Int.reduceNe, Int.reduceAdd, Int.reduceNeg, Int.reduceToNat, q5, h7, hw, elemTy]
                refine ⟨⟨by decide, by decide⟩, ?_⟩
                refine round_end (n - 1) (by omega) ⟨k + 1, by omega, ?_⟩
                simp (config := { maxSteps := 1000000 }) only [go_sem, ↓reduceIte, Nat.reduceEqDiff, Nat.reduceAdd, Nat.reduceMul, Nat.reduceSub, Nat.reduceLT, Nat.reduceLeDiff, Int.reduceLT, Int.reduceLE, Int.reduceEq, Int.reduceNe, Int.reduceAdd, Int.reduceNeg, Int.reduceToNat, h6]
                refine ⟨rfl, all_take hx hall hok, .inr ⟨?_, ?_⟩⟩
                · rw [hlo, qL]; rfl
                · rw [hlo, qL]; simp [upd, lineD, strs]
              · simp only at q5 qo
                simp (config := { maxSteps := 1000000 }) only [go_sem, ↓reduceIte, Nat.reduceEqDiff, Nat.reduceAdd, Nat.reduceMul, Nat.reduceSub, Nat.reduceLT, Nat.reduceLeDiff, Int.reduceLT, Int.reduceLE, Int.reduceEq, Int.reduceNe, Int.reduceAdd, Int.reduceNeg, Int.reduceToNat, q5, qo, h7, hw, elemTy]
                refine ⟨by omega, ⟨by decide, by omega⟩, ?_⟩
                refine round_end (n - 1) (by omega) ⟨k + 1, by omega, ?_⟩
                simp (config := { maxSteps := 1000000 }) only [go_sem, ↓reduceIte, Nat.reduceEqDiff, Nat.reduceAdd, Nat.reduceMul, Nat.reduceSub, Nat.reduceLT, Nat.reduceLeDiff, Int.reduceLT, Int.reduceLE, Int.reduceEq, Int.reduceNe, Int.reduceAdd, Int.reduceNeg, Int.reduceToNat, h6]
                refine ⟨rfl, all_take hx hall hok, .inr ⟨?_, ?_⟩⟩
                · rw [hlo, List.length_append]; rfl
                · rw [hlo, List.flatMap_append, List.take_of_length_le (Nat.le_of_eq hfl)]; simp [upd, lineD, strs]
  · rw [List.take_of_length_le (by omega)] at hall hL
    have hrb : readB s = (linesOf ls, 0, 0) := by rw [readB_ok (by rw [hls]; exact hall), hls]
    rw [hrb]
    rcases hL with ⟨q5, qL⟩ | ⟨q5, qo⟩
    · simp only at q5
      simp (config := { maxSteps := 1000000 }) only [go_sem, ↓reduceIte, Nat.reduceEqDiff, Nat.reduceAdd, Nat.reduceMul, Nat.reduceSub, Nat.reduceLT, Nat.reduceLeDiff, Int.reduceLT, Int.reduceLE, Int.reduceEq, Int.reduceNe, Int.reduceAdd, Int.reduceNeg, Int.reduceToNat, h6, h7, strs, hlt, q5]
      rw [qL]; rfl
    · simp only at q5 qo
      simp (config := { maxSteps := 1000000 }) only [go_sem, ↓reduceIte, Nat.reduceEqDiff, Nat.reduceAdd, Nat.reduceMul, Nat.reduceSub, Nat.reduceLT, Nat.reduceLeDiff, Int.reduceLT, Int.reduceLE, Int.reduceEq, Int.reduceNe, Int.reduceAdd, Int.reduceNeg, Int.reduceToNat, h6, h7, strs, hlt, q5]
      refine ⟨_, ⟨_, frz_rows rfl (linesOf ls) lineD qo rfl (fun a _ x hx => by simp [lineD, strs] at hx; rcases hx with rfl | rfl <;> rfl) (fun a _ => rfl) rfl, rfl⟩, ?_⟩
      rfl

set_option maxHeartbeats 4000000 in
theorem ScriptReads_A (s : List UInt8) (hs : s.length ≤ 4000000000000000000) : PureR Tryd.prog 3 [sv s] (· = bv true) := by
  refine pure_of_wp Tt_ok mixed Tryd.func3 rfl (by rfl) [2] rfl (by kernel_rfl) (by simp [Tryd.ntmps3]) fun g => ?_
  simp (config := { maxSteps := 1000000 }) only [go_sem, ↓reduceIte, Nat.reduceEqDiff, Nat.reduceAdd, Nat.reduceMul, Nat.reduceSub, Nat.reduceLT, Nat.reduceLeDiff, Int.reduceLT, Int.reduceLE, Int.reduceEq, Int.reduceNe, Int.reduceAdd, Int.reduceNeg, Int.reduceToNat]
  refine hook_call rfl (by simp (config := { maxSteps := 1000000 }) only [go_sem, ↓reduceIte, Nat.reduceEqDiff, Nat.reduceAdd, Nat.reduceMul, Nat.reduceSub, Nat.reduceLT, Nat.reduceLeDiff, Int.reduceLT, Int.reduceLE, Int.reduceEq, Int.reduceNe, Int.reduceAdd, Int.reduceNeg, Int.reduceToNat]; exact alive_A) (by simp (config := { maxSteps := 1000000 }) only [go_sem, ↓reduceIte, Nat.reduceEqDiff, Nat.reduceAdd, Nat.reduceMul, Nat.reduceSub, Nat.reduceLT, Nat.reduceLeDiff, Int.reduceLT, Int.reduceLE, Int.reduceEq, Int.reduceNe, Int.reduceAdd, Int.reduceNeg, Int.reduceToNat]; rfl) ?_
  rintro _ rfl
  simp (config := { maxSteps := 1000000 }) only [go_sem, ↓reduceIte, Nat.reduceEqDiff, Nat.reduceAdd, Nat.reduceMul, Nat.reduceSub, Nat.reduceLT, Nat.reduceLeDiff, Int.reduceLT, Int.reduceLE, Int.reduceEq, Int.reduceNe, Int.reduceAdd, Int.reduceNeg, Int.reduceToNat]
  have hbl : s.length ≤ 42000 → (readB s).1.length ≤ 1000000 ∧ ∀ l ∈ (readB s).1, l.2.length ≤ 1000000000 := fun h => by
    rcases readB_cases s with ⟨hok, e⟩ | ⟨n, e, he, _, _, _, hr⟩
    · rw [e]
      have hr := linesOf_right hok
      have hl := linesOf_len (splitB s)
      have hl2 := splitB_len s
      exact ⟨by simp only; omega, fun l hl => by have := right_bounds (List.all_eq_true.1 hr l hl); omega⟩
    · rw [hr]; simp
  have h42 : (¬ 42000 < (s.length : Int)) → s.length ≤ 42000 := fun h => by omega
  refine ⟨fun h1 h2 h3 => ?_, fun h1 h3 => ?_⟩
  all_goals
    have h4 := h42 h3
    obtain ⟨b1, b2⟩ := hbl h4
    refine hook_call rfl (by simp (config := { maxSteps := 1000000 }) only [go_sem, ↓reduceIte, Nat.reduceEqDiff, Nat.reduceAdd, Nat.reduceMul, Nat.reduceSub, Nat.reduceLT, Nat.reduceLeDiff, Int.reduceLT, Int.reduceLE, Int.reduceEq, Int.reduceNe, Int.reduceAdd, Int.reduceNeg, Int.reduceToNat]; exact Read_A s (by omega)) (by simp (config := { maxSteps := 1000000 }) only [go_sem, ↓reduceIte, Nat.reduceEqDiff, Nat.reduceAdd, Nat.reduceMul, Nat.reduceSub, Nat.reduceLT, Nat.reduceLeDiff, Int.reduceLT, Int.reduceLE, Int.reduceEq, Int.reduceNe, Int.reduceAdd, Int.reduceNeg, Int.reduceToNat]; rfl) ?_
    rintro _ rfl
    obtain ⟨R, hR⟩ : ∃ R, readB s = R := ⟨_, rfl⟩
    rw [hR] at b1 b2 ⊢
    simp (config := { maxSteps := 1000000 }) only [go_sem, ↓reduceIte, Nat.reduceEqDiff, Nat.reduceAdd, Nat.reduceMul, Nat.reduceSub, Nat.reduceLT, Nat.reduceLeDiff, Int.reduceLT, Int.reduceLE, Int.reduceEq, Int.reduceNe, Int.reduceAdd, Int.reduceNeg, Int.reduceToNat, readRV]
    refine hook_call rfl (by simp (config := { maxSteps := 1000000 }) only [go_sem, ↓reduceIte, Nat.reduceEqDiff, Nat.reduceAdd, Nat.reduceMul, Nat.reduceSub, Nat.reduceLT, Nat.reduceLeDiff, Int.reduceLT, Int.reduceLE, Int.reduceEq, Int.reduceNe, Int.reduceAdd, Int.reduceNeg, Int.reduceToNat]; exact ReadR_A s (by omega)) (by simp (config := { maxSteps := 1000000 }) only [go_sem, ↓reduceIte, Nat.reduceEqDiff, Nat.reduceAdd, Nat.reduceMul, Nat.reduceSub, Nat.reduceLT, Nat.reduceLeDiff, Int.reduceLT, Int.reduceLE, Int.reduceEq, Int.reduceNe, Int.reduceAdd, Int.reduceNeg, Int.reduceToNat]; rfl) ?_
    rintro _ rfl
    rw [hR]
    simp (config := { maxSteps := 1000000 }) only [go_sem, ↓reduceIte, Nat.reduceEqDiff, Nat.reduceAdd, Nat.reduceMul, Nat.reduceSub, Nat.reduceLT, Nat.reduceLeDiff, Int.reduceLT, Int.reduceLE, Int.reduceEq, Int.reduceNe, Int.reduceAdd, Int.reduceNeg, Int.reduceToNat, readRV]
    refine hook_call rfl (by simp (config := { maxSteps := 1000000 }) only [go_sem, ↓reduceIte, Nat.reduceEqDiff, Nat.reduceAdd, Nat.reduceMul, Nat.reduceSub, Nat.reduceLT, Nat.reduceLeDiff, Int.reduceLT, Int.reduceLE, Int.reduceEq, Int.reduceNe, Int.reduceAdd, Int.reduceNeg, Int.reduceToNat]; exact Same_A _ _ (by omega) b2) (by simp (config := { maxSteps := 1000000 }) only [go_sem, ↓reduceIte, Nat.reduceEqDiff, Nat.reduceAdd, Nat.reduceMul, Nat.reduceSub, Nat.reduceLT, Nat.reduceLeDiff, Int.reduceLT, Int.reduceLE, Int.reduceEq, Int.reduceNe, Int.reduceAdd, Int.reduceNeg, Int.reduceToNat]; rfl) ?_
    rintro _ rfl
    simp (config := { maxSteps := 1000000 }) only [go_sem, ↓reduceIte, Nat.reduceEqDiff, Nat.reduceAdd, Nat.reduceMul, Nat.reduceSub, Nat.reduceLT, Nat.reduceLeDiff, Int.reduceLT, Int.reduceLE, Int.reduceEq, Int.reduceNe, Int.reduceAdd, Int.reduceNeg, Int.reduceToNat]

end Go.Proofs.YtdlogfbbcbbllaaDoor
