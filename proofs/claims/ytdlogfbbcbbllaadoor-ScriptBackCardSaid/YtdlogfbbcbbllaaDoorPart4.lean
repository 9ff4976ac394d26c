/- A part of the proof; no conditions. -/
import Derived.Test.YtdlogfbbcbbllaaDoorPart3
import Derived.Handed
import Derived.Lay
import Derived.LaidMore
import Derived.SevenTiedAt
import Derived.Stop.Joined
import Derived.Test.YtdlogfbbcbbllaaDoorTie
import Derived.Test.YtdlogfbbcbbllaaDoorCards
set_option linter.unusedSimpArgs false
set_option linter.unusedVariables false
namespace Go.Proofs.YtdlogfbbcbbllaaDoor
open Go Go.Am

theorem parts_A (B : Nat) (s : List UInt8) (g : Nat → Nat) (ob : Obs) : FunR Tryd.prog 32 [sv s] g ob (fun r g' ob' => r = .one (.clo 43 [.ptr (B + 1) (g' (B + 1)) 0]) ∧ ob' (B + 1) = some [.d (.str s)] ∧ ∀ i, i ≠ B + 1 → g' i = g i ∧ ob' i = ob i) := by
  refine fun_of_wp B Tt_ok mixed Tryd.func32 rfl (by rfl) [2] rfl (by kernel_rfl) (by simp [Tryd.ntmps32]) ?_
  simp (config := { maxSteps := 1000000 }) only [go_sem, ↓reduceIte, Nat.reduceEqDiff, Nat.reduceAdd, Nat.reduceMul, Nat.reduceSub, Nat.reduceLT, Nat.reduceLeDiff, Int.reduceLT, Int.reduceLE, Int.reduceEq, Int.reduceNe, Int.reduceAdd, Int.reduceNeg, Int.reduceToNat, makeFuncA, pcsOf, pcOf]
  refine ⟨_, SemVs.refl _, ?_, ?_, fun i h => ?_⟩
  · simp only [resAV, upd]; simp
  · simp [upd]
  · simp [upd, h]

/-- May a part stand there? the first one, or a later one. -/
def okPart (first : Bool) (p : Part) : Bool := !p.2.2 && (!first || (p.2.1 && verbOk p.1))
def okParts : List Part → Bool
  | [] => true
  | p :: ps => okPart true p && ps.all (okPart false)
/-- What comes of a line's parts: the line; is there one; the error. -/
def partsR (ps : List Part) : Line × Bool × Int :=
  if okParts ps = true then
    match ps with
    | [] => (([], []), false, 0)
    | p :: qs => if rightL (p.1, qs.map (·.1)) = true then ((p.1, qs.map (·.1)), true, 0) else (([], []), false, 2)
  else (([], []), false, 3)
def lineP (s : List UInt8) : Line × Bool × Int := if 20000 < s.length then (([], []), false, 2) else partsR (partsF (s.length + 1) s)
def lineRV (r : Line × Bool × Int) : AV := .tup [lineV r.1, bv r.2.1, iv .i64 r.2.2]

/-- What is known when so many parts have come. -/
structure JLine (G : Nat → Nat) (ps : List Part) (k : Nat) (g : Nat → Nat) (ob : Obs) : Prop where
  ok : okParts (ps.take k) = true
  g2 : g 2 = G 2 ∧ g 3 = G 3 ∧ g 4 = G 4 ∧ g 5 = G 5 ∧ g 6 = G 6
  o2 : ob 2 = some [.d (.str []), .d .nsl]
  o3 : ob 3 = some [.d (.bool false)]
  o4 : ob 4 = some [.d (.int .i64 0)]
  o6 : ob 6 = some [.d (.bool (decide (0 < k)))]
  o5 : ∃ wc, ob 5 = some [.d (.str ((ps.take k).headD ([], true, true)).1), wc] ∧ (((ps.take k).drop 1 = [] ∧ wc = .d .nsl) ∨ ((ps.take k).drop 1 ≠ [] ∧ wc = .osl 44 (g 44) 1 0 ((ps.take k).drop 1).length ∧ ob 44 = some (((ps.take k).drop 1).map fun p => .d (.str p.1))))

structure JxLine (G : Nat → Nat) (ps : List Part) (g : Nat → Nat) (ob : Obs) : Prop where
  bad : okParts ps = false
  g2 : g 2 = G 2 ∧ g 3 = G 3 ∧ g 4 = G 4
  o2 : ob 2 = some [.d (.str []), .d .nsl]
  o3 : ob 3 = some [.d (.bool false)]
  o4 : ob 4 = some [.d (.int .i64 3)]

theorem frzR_line {s : St} {l : Line} {wc : C} {b : Bool} {n : Int} (h : Frz s wc (strs l.2)) : FrzR s [.agg [.d (.str l.1), wc], bv b, iv .i64 n] (lineRV (l, b, n)) := by
  refine ⟨_, ?_, rfl⟩
  simp only [FrzVs]
  refine ⟨_, _, rfl, ⟨[.str l.1, strs l.2], rfl, fun i c hc => ?_, rfl⟩, _, _, rfl, ⟨.bool b, .d (.bool b), rfl⟩, _, _, rfl, ⟨.int .i64 n, .d (.int .i64 n), rfl⟩, rfl⟩
  match i, hc with
  | 0, hc => cases hc; exact ⟨_, rfl, .d _⟩
  | 1, hc => cases hc; exact ⟨_, rfl, h⟩

theorem partsF_len : ∀ (n : Nat) (s : List UInt8), (partsF n s).length ≤ n
  | 0, s => by simp [partsF]
  | n + 1, s => by
    unfold partsF
    split
    · simp
    · split
      · simp
      · simp only
        split
        · simp
        · simpa using partsF_len n _

theorem unq_text : ∀ (n : Nat) {s : List UInt8}, s.length ≤ n → ∀ {p}, unq s = some p → p.1.length ≤ s.length
  | 0, s, hn, p, h => by
    have : s = [] := List.eq_nil_of_length_eq_zero (by omega)
    subst this; simp [unq] at h
  | n + 1, [], _, p, h => by simp [unq] at h
  | n + 1, c :: r, hn, p, h => by
    simp only [List.length_cons] at hn ⊢
    unfold unq at h
    split at h
    · cases h; simp
    · split at h
      · split at h
        · cases h
        · simp only [List.length_cons] at hn ⊢
          split at h
          · obtain ⟨q, hq, rfl⟩ := Option.map_eq_some_iff.1 h
            have := unq_text n (by omega) hq; simp only [List.length_cons]; omega
          · split at h
            · obtain ⟨q, hq, rfl⟩ := Option.map_eq_some_iff.1 h
              have := unq_text n (by omega) hq; simp only [List.length_cons]; omega
            · cases h
      · obtain ⟨q, hq, rfl⟩ := Option.map_eq_some_iff.1 h
        have := unq_text n (by omega) hq; simp only [List.length_cons]; omega

theorem cutP_text (s : List UInt8) : (cutP s).1.1.length ≤ s.length := by
  unfold cutP
  split
  · simp
  · split
    · split
      · simp
      · rename_i c r _ p hp
        have := unq_text _ (Nat.le_refl _) hp
        simp only [List.length_cons]; omega
    · simp only [List.length_take]; omega

theorem partsF_text : ∀ (n : Nat) (s : List UInt8), ∀ p ∈ partsF n s, p.1.length ≤ s.length
  | 0, s, p, h => by simp [partsF] at h
  | n + 1, s, p, h => by
    have ht := trimS_le s
    unfold partsF at h
    split at h
    · simp at h
    · rename_i c r htt
      rw [htt] at ht
      have hc := cutP_text (c :: r)
      split at h
      · simp at h
      · simp only at h
        split at h
        · simp only [List.mem_singleton] at h
          subst h
          simp only; omega
        · rcases List.mem_cons.1 h with rfl | h
          · omega
          · have := partsF_text n _ p h
            simp only [List.length_drop] at this
            omega

theorem take_head {ps : List Part} {k : Nat} {d : Part} : (ps.take (k + 1 + 1)).headD d = (ps.take (k + 1)).headD d := by cases ps <;> rfl
theorem take_next {ps : List Part} {k : Nat} {x : Part} (h : ps[k + 1]? = some x) : (ps.take (k + 1 + 1)).drop 1 = (ps.take (k + 1)).drop 1 ++ [x] := by
  rw [List.take_add_one (i := k + 1), h]
  cases ps with
  | nil => simp at h
  | cons p ps => simp

theorem okParts_bad {ps : List Part} {k : Nat} {x : Part} (hx : ps[k]? = some x) (hb : okPart (decide (k = 0)) x = false) : okParts ps = false := by
  cases ps with
  | nil => simp at hx
  | cons p ps =>
    cases k with
    | zero => simp at hx; subst hx; simp at hb; simp [okParts, hb]
    | succ k =>
      have hm : x ∈ ps := List.mem_of_getElem? (by simpa using hx)
      have : ps.all (okPart false) = false := by rw [List.all_eq_false]; exact ⟨x, hm, by simpa using hb⟩
      simp [okParts, this]
theorem okParts_next {ps : List Part} {k : Nat} {x : Part} (hx : ps[k]? = some x) (h : okParts (ps.take k) = true) (hb : okPart (decide (k = 0)) x = true) : okParts (ps.take (k + 1)) = true := by
  cases ps with
  | nil => simp at hx
  | cons p ps =>
    cases k with
    | zero => simp at hx; subst hx; simp at hb; simp [okParts, hb]
    | succ k =>
      simp only [List.take_succ_cons, okParts, Bool.and_eq_true] at h ⊢
      exact ⟨h.1, all_take (by simpa using hx) h.2 (by simpa using hb)⟩

set_option maxHeartbeats 8000000 in
theorem line_A (s : List UInt8) (hs : s.length ≤ 1000000) : PureR Tryd.prog 22 [sv s] (· = lineRV (lineP s)) := by
  refine pure_of_wpRF 0 Tt_ok Tryd.func22 rfl (by rfl) [.cell 2 33, .cell 3 4, .cell 4 24] rfl (by kernel_rfl) (by kernel_rfl) (by simp [Tryd.ntmps22]) fun b₀ β0 s0 w0 g => ?_
  simp (config := { maxSteps := 1000000 }) only [go_sem, ↓reduceIte, Nat.reduceEqDiff, Nat.reduceAdd, Nat.reduceMul, Nat.reduceSub, Nat.reduceLT, Nat.reduceLeDiff, Int.reduceLT, Int.reduceLE, Int.reduceEq, Int.reduceNe, Int.reduceAdd, Int.reduceNeg, Int.reduceToNat, buildA]
  refine ⟨fun hl => ?_, fun hl => ?_⟩
  · refine ⟨_, frzR_line (l := ([], [])) (.d .nsl), ?_⟩
    have : 20000 < s.length := by omega
    simp [lineP, this]
  · refine hook_funF kept_phiC rfl (by simp (config := { maxSteps := 1000000 }) only [go_sem, ↓reduceIte, Nat.reduceEqDiff, Nat.reduceAdd, Nat.reduceMul, Nat.reduceSub, Nat.reduceLT, Nat.reduceLeDiff, Int.reduceLT, Int.reduceLE, Int.reduceEq, Int.reduceNe, Int.reduceAdd, Int.reduceNeg, Int.reduceToNat]; exact parts_A 300 s _ _) ?_
    rintro _ g1 ob1 ⟨rfl, o301, hsame⟩
    obtain ⟨G, hG⟩ : ∃ G, g1 = G := ⟨_, rfl⟩
    have v2 : G 2 = nxC 34 (g 2) := by rw [← hG]; exact (hsame 2 (by decide)).1.trans (by simp [upd])
    have v3 : G 3 = nxC 5 (g 3) := by rw [← hG]; exact (hsame 3 (by decide)).1.trans (by simp [upd])
    have v4 : G 4 = nxC 25 (g 4) := by rw [← hG]; exact (hsame 4 (by decide)).1.trans (by simp [upd])
    have v5 : G 5 = nxC 34 (g 5) := by rw [← hG]; exact (hsame 5 (by decide)).1.trans (by simp [upd])
    have v6 : G 6 = nxC 5 (g 6) := by rw [← hG]; exact (hsame 6 (by decide)).1.trans (by simp [upd])
    have hP : lineP s = partsR (partsF (s.length + 1) s) := by
      have : ¬ 20000 < s.length := by omega
      simp [lineP, this]
    rw [hP]
    obtain ⟨ps, hps⟩ : ∃ ps, partsF (s.length + 1) s = ps := ⟨_, rfl⟩
    rw [hps]
    simp (config := { maxSteps := 1000000 }) only [go_sem, ↓reduceIte, Nat.reduceEqDiff, Nat.reduceAdd, Nat.reduceMul, Nat.reduceSub, Nat.reduceLT, Nat.reduceLeDiff, Int.reduceLT, Int.reduceLE, Int.reduceEq, Int.reduceNe, Int.reduceAdd, Int.reduceNeg, Int.reduceToNat]
    refine hook_range Tt_ok (fid := 43) (caps := [.ptr 301 (g1 301) 0]) (by simp (config := { maxSteps := 1000000 }) only [go_sem, ↓reduceIte, Nat.reduceEqDiff, Nat.reduceAdd, Nat.reduceMul, Nat.reduceSub, Nat.reduceLT, Nat.reduceLeDiff, Int.reduceLT, Int.reduceLE, Int.reduceEq, Int.reduceNe, Int.reduceAdd, Int.reduceNeg, Int.reduceToNat]) 400 (fun id => id = 400 ∨ id = 301 ∨ id = 204) (fun id => id = 301 ∨ id = 204) (.inl rfl) (by decide) (fun id h => .inr h) partE ps (fun x => rfl) (by kernel_rfl) (by kernel_rfl)
      (fun g' ob' h => by rw [← hps]; exact partsIt_A 301 (by decide) s hs (h 301 (by decide)).1 ((h 301 (by decide)).2.trans o301)) (JLine G ps) (JxLine G ps) ?_ ?_ ?_ ?_ ?_ ?_
    · rintro k g ob g' ob' ⟨a1, a2, a3, a4, a5, a6, a7⟩ h
      have hh : ∀ id, id = 2 ∨ id = 3 ∨ id = 4 ∨ id = 5 ∨ id = 6 ∨ id = 44 → g' id = g id ∧ ob' id = ob id := fun id hid => h id (by omega)
      have h2 := hh 2 (by simp)
      have h3 := hh 3 (by simp)
      have h4 := hh 4 (by simp)
      have h5 := hh 5 (by simp)
      have h6 := hh 6 (by simp)
      have h44 := hh 44 (by simp)
      exact ⟨a1, by rw [h2.1, h3.1, h4.1, h5.1, h6.1]; exact a2, by rw [h2.2]; exact a3, by rw [h3.2]; exact a4, by rw [h4.2]; exact a5, by rw [h6.2]; exact a6, by rw [h5.2, h44.1, h44.2]; exact a7⟩
    · rintro g ob g' ob' ⟨a1, a2, a3, a4, a5⟩ h
      have hh : ∀ id, id = 2 ∨ id = 3 ∨ id = 4 → g' id = g id ∧ ob' id = ob id := fun id hid => h id (by omega)
      have h2 := hh 2 (by simp)
      have h3 := hh 3 (by simp)
      have h4 := hh 4 (by simp)
      exact ⟨a1, by rw [h2.1, h3.1, h4.1]; exact a2, by rw [h2.2]; exact a3, by rw [h3.2]; exact a4, by rw [h4.2]; exact a5⟩
    · subst hG
      have e2 := hsame 2 (by decide)
      have e3 := hsame 3 (by decide)
      have e4 := hsame 4 (by decide)
      have e5 := hsame 5 (by decide)
      have e6 := hsame 6 (by decide)
      refine ⟨rfl, ⟨rfl, rfl, rfl, rfl, rfl⟩, ?_, ?_, ?_, ?_, ⟨_, ?_, .inl ⟨rfl, rfl⟩⟩⟩
      · exact e2.2.trans (by simp [upd])
      · exact e3.2.trans (by simp [upd])
      · exact e4.2.trans (by simp [upd])
      · exact e6.2.trans (by simp [upd])
      · exact e5.2.trans (by simp [upd])
    · rintro k ⟨tt, bb, bad⟩ g2 ob2 hx ⟨hok, ⟨e2, e3, e4, e5, e6⟩, o2, o3, o4, o6, wc, o5, hwc⟩ l Φ hΦ
      simp (config := { maxSteps := 1000000 }) only [go_sem, ↓reduceIte, Nat.reduceEqDiff, Nat.reduceAdd, Nat.reduceMul, Nat.reduceSub, Nat.reduceLT, Nat.reduceLeDiff, Int.reduceLT, Int.reduceLE, Int.reduceEq, Int.reduceNe, Int.reduceAdd, Int.reduceNeg, Int.reduceToNat, partE, partV]
      refine ⟨fun id hid => ?_, fun o Φ' hΦ' => ?_⟩
      · rcases hid with rfl | rfl | rfl <;> simp [upd]
      have hm := List.mem_of_getElem? hx
      have hlt := (List.getElem?_eq_some_iff.1 hx).1
      have htl : tt.length ≤ s.length := partsF_text (s.length + 1) s _ (by rw [hps]; exact hm)
      have hpl : ps.length ≤ s.length + 1 := by rw [← hps]; exact partsF_len _ _
      rw [v2] at e2; rw [v3] at e3; rw [v4] at e4; rw [v5] at e5; rw [v6] at e6
      have herr : ∀ (G' : Nat → Nat) (ob' : Obs), okParts ps = false → G' 2 = g2 2 → G' 3 = g2 3 → G' 4 = g2 4 → ob' 2 = some [.d (.str []), .d .nsl] → ob' 3 = some [.d (.bool false)] → ob' 4 = some [.d (.int .i64 3)] → JxLine G ps G' ob' :=
        fun G' ob' h1 h2 h3 h4 h5 h6 h7 => ⟨h1, ⟨by rw [h2, e2, v2], by rw [h3, e3, v3], by rw [h4, e4, v4]⟩, h5, h6, h7⟩
      cases bad
      · rcases k with _ | k
        · cases bb
          · simp (config := { maxSteps := 1000000 }) only [go_sem, ↓reduceIte, Nat.reduceEqDiff, Nat.reduceAdd, Nat.reduceMul, Nat.reduceSub, Nat.reduceLT, Nat.reduceLeDiff, Int.reduceLT, Int.reduceLE, Int.reduceEq, Int.reduceNe, Int.reduceAdd, Int.reduceNeg, Int.reduceToNat, partE, partV, o2, o3, o4, o5, o6, e2, e3, e4, e5, e6, Nat.lt_irrefl, buildA, fillA]
            refine ⟨fun id hid => by rcases hid with rfl | rfl | rfl <;> simp, herr _ _ (okParts_bad hx (by simp [okPart])) ?_ ?_ ?_ ?_ ?_ ?_⟩ <;> simp [upd]
          · simp (config := { maxSteps := 1000000 }) only [go_sem, ↓reduceIte, Nat.reduceEqDiff, Nat.reduceAdd, Nat.reduceMul, Nat.reduceSub, Nat.reduceLT, Nat.reduceLeDiff, Int.reduceLT, Int.reduceLE, Int.reduceEq, Int.reduceNe, Int.reduceAdd, Int.reduceNeg, Int.reduceToNat, partE, partV, o2, o3, o4, o5, o6, e2, e3, e4, e5, e6, Nat.lt_irrefl, buildA]
            refine hook_callF hΦ' rfl (by simp (config := { maxSteps := 1000000 }) only [go_sem, ↓reduceIte, Nat.reduceEqDiff, Nat.reduceAdd, Nat.reduceMul, Nat.reduceSub, Nat.reduceLT, Nat.reduceLeDiff, Int.reduceLT, Int.reduceLE, Int.reduceEq, Int.reduceNe, Int.reduceAdd, Int.reduceNeg, Int.reduceToNat]; exact isVerb_A tt (by omega)) (by simp (config := { maxSteps := 1000000 }) only [go_sem, ↓reduceIte, Nat.reduceEqDiff, Nat.reduceAdd, Nat.reduceMul, Nat.reduceSub, Nat.reduceLT, Nat.reduceLeDiff, Int.reduceLT, Int.reduceLE, Int.reduceEq, Int.reduceNe, Int.reduceAdd, Int.reduceNeg, Int.reduceToNat]; rfl) ?_
            rintro _ rfl
            cases hv : verbOk tt
            · simp (config := { maxSteps := 1000000 }) only [go_sem, ↓reduceIte, Nat.reduceEqDiff, Nat.reduceAdd, Nat.reduceMul, Nat.reduceSub, Nat.reduceLT, Nat.reduceLeDiff, Int.reduceLT, Int.reduceLE, Int.reduceEq, Int.reduceNe, Int.reduceAdd, Int.reduceNeg, Int.reduceToNat, partE, partV, o2, o3, o4, o5, o6, e2, e3, e4, e5, e6, Nat.lt_irrefl, buildA, fillA]
              refine ⟨fun id hid => by rcases hid with rfl | rfl | rfl <;> simp, herr _ _ (okParts_bad hx (by simp [okPart, hv])) ?_ ?_ ?_ ?_ ?_ ?_⟩ <;> simp [upd]
            · rcases hwc with ⟨hw1, rfl⟩ | ⟨hw1, _⟩
              · simp (config := { maxSteps := 1000000 }) only [go_sem, ↓reduceIte, Nat.reduceEqDiff, Nat.reduceAdd, Nat.reduceMul, Nat.reduceSub, Nat.reduceLT, Nat.reduceLeDiff, Int.reduceLT, Int.reduceLE, Int.reduceEq, Int.reduceNe, Int.reduceAdd, Int.reduceNeg, Int.reduceToNat, partE, partV, o2, o3, o4, o5, o6, e2, e3, e4, e5, e6, Nat.lt_irrefl, buildA]
                refine ⟨fun id hid => by rcases hid with rfl | rfl | rfl <;> simp, ⟨okParts_next hx hok (by simp [okPart, hv]), ⟨by simp [upd, e2, v2], by simp [upd, e3, v3], by simp [upd, e4, v4], by simp [upd, e5, v5], by simp [upd, e6, v6]⟩, by simp [upd, o2], by simp [upd, o3], by simp [upd, o4], by simp [upd], ⟨.d .nsl, ?_, .inl ⟨?_, rfl⟩⟩⟩⟩
                · cases ps with
                  | nil => simp at hx
                  | cons p ps => simp at hx; subst hx; simp [upd]
                · cases ps with
                  | nil => simp at hx
                  | cons p ps => simp
              · simp at hw1
        · have hd1 : ((ps.take (k + 1)).drop 1).length ≤ 2000000 := by simp only [List.length_drop, List.length_take]; omega
          rcases hwc with ⟨hw1, rfl⟩ | ⟨hw1, rfl, o44⟩
          · simp (config := { maxSteps := 1000000 }) only [go_sem, ↓reduceIte, Nat.reduceEqDiff, Nat.reduceAdd, Nat.reduceMul, Nat.reduceSub, Nat.reduceLT, Nat.reduceLeDiff, Int.reduceLT, Int.reduceLE, Int.reduceEq, Int.reduceNe, Int.reduceAdd, Int.reduceNeg, Int.reduceToNat, partE, partV, o2, o3, o4, o5, o6, e2, e3, e4, e5, e6, Nat.zero_lt_succ, buildA, elemTy]
            refine ⟨⟨by decide, by decide⟩, fun id hid => by rcases hid with rfl | rfl | rfl <;> simp, ⟨okParts_next hx hok (by simp [okPart]), ⟨by simp [upd, e2, v2], by simp [upd, e3, v3], by simp [upd, e4, v4], by simp [upd, e5, v5], by simp [upd, e6, v6]⟩, by simp [upd, o2], by simp [upd, o3], by simp [upd, o4], by simp [upd, o6], ⟨_, ?_, .inr ⟨?_, rfl, ?_⟩⟩⟩⟩
            · rw [take_head, take_next hx, hw1]; simp [upd]
            · rw [take_next hx]; simp
            · rw [take_next hx, hw1]; simp [upd]
          · simp (config := { maxSteps := 1000000 }) only [go_sem, ↓reduceIte, Nat.reduceEqDiff, Nat.reduceAdd, Nat.reduceMul, Nat.reduceSub, Nat.reduceLT, Nat.reduceLeDiff, Int.reduceLT, Int.reduceLE, Int.reduceEq, Int.reduceNe, Int.reduceAdd, Int.reduceNeg, Int.reduceToNat, partE, partV, o2, o3, o4, o5, o6, o44, e2, e3, e4, e5, e6, Nat.zero_lt_succ, buildA, elemTy]
            refine ⟨Nat.le_refl _, ⟨by decide, by omega⟩, fun id hid => by rcases hid with rfl | rfl | rfl <;> simp, ⟨okParts_next hx hok (by simp [okPart]), ⟨by simp [upd, e2, v2], by simp [upd, e3, v3], by simp [upd, e4, v4], by simp [upd, e5, v5], by simp [upd, e6, v6]⟩, by simp [upd, o2], by simp [upd, o3], by simp [upd, o4], by simp [upd, o6], ⟨_, ?_, .inr ⟨?_, rfl, ?_⟩⟩⟩⟩
            · rw [take_head, take_next hx, List.length_append]; simp [upd]
            · rw [take_next hx]; simp
            · rw [take_next hx, List.take_of_length_le (by simp)]; simp [upd]
      · simp (config := { maxSteps := 1000000 }) only [go_sem, ↓reduceIte, Nat.reduceEqDiff, Nat.reduceAdd, Nat.reduceMul, Nat.reduceSub, Nat.reduceLT, Nat.reduceLeDiff, Int.reduceLT, Int.reduceLE, Int.reduceEq, Int.reduceNe, Int.reduceAdd, Int.reduceNeg, Int.reduceToNat, partE, partV, o2, o3, o4, o5, o6, e2, e3, e4, e5, e6, buildA]
        refine ⟨fun id hid => by rcases hid with rfl | rfl | rfl <;> simp, herr _ _ (okParts_bad hx (by simp [okPart])) ?_ ?_ ?_ ?_ ?_ ?_⟩ <;> simp [upd]
    · rintro g' ob' ⟨hok, ⟨e2, e3, e4, e5, e6⟩, o2, o3, o4, o6, wc, o5, hwc⟩
      rw [v2] at e2; rw [v3] at e3; rw [v4] at e4; rw [v5] at e5; rw [v6] at e6
      rw [List.take_of_length_le (Nat.le_refl _)] at hok o5 hwc
      cases ps with
      | nil =>
        simp (config := { maxSteps := 1000000 }) only [go_sem, ↓reduceIte, Nat.reduceEqDiff, Nat.reduceAdd, Nat.reduceMul, Nat.reduceSub, Nat.reduceLT, Nat.reduceLeDiff, Int.reduceLT, Int.reduceLE, Int.reduceEq, Int.reduceNe, Int.reduceAdd, Int.reduceNeg, Int.reduceToNat, o6, e6]
        simp (config := { maxSteps := 1000000 }) only [go_sem, ↓reduceIte, Nat.reduceEqDiff, Nat.reduceAdd, Nat.reduceMul, Nat.reduceSub, Nat.reduceLT, Nat.reduceLeDiff, Int.reduceLT, Int.reduceLE, Int.reduceEq, Int.reduceNe, Int.reduceAdd, Int.reduceNeg, Int.reduceToNat, o2, o3, o4, e2, e3, e4, Nat.lt_irrefl, buildA]
        refine ⟨_, frzR_line (l := ([], [])) (.d .nsl), ?_⟩
        rfl
      | cons p qs =>
        simp (config := { maxSteps := 1000000 }) only [go_sem, ↓reduceIte, Nat.reduceEqDiff, Nat.reduceAdd, Nat.reduceMul, Nat.reduceSub, Nat.reduceLT, Nat.reduceLeDiff, Int.reduceLT, Int.reduceLE, Int.reduceEq, Int.reduceNe, Int.reduceAdd, Int.reduceNeg, Int.reduceToNat, o2, o3, o4, o5, o6, e2, e3, e4, e5, e6, Nat.zero_lt_succ, buildA]
        have hbd : ∀ q ∈ p :: qs, q.1.length ≤ 1000000 := fun q hq => Nat.le_trans (partsF_text (s.length + 1) s q (by rw [hps]; exact hq)) hs
        have hpl : (p :: qs).length ≤ s.length + 1 := by rw [← hps]; exact partsF_len _ _
        have hfz : ∀ s' : St, s'.gen 44 = g' 44 → s'.obj 44 = ob' 44 → Frz s' wc (strs (qs.map (·.1))) := by
          intro s' h1 h2
          rcases hwc with ⟨hw1, rfl⟩ | ⟨hw1, rfl, o44⟩
          · simp only [List.drop_succ_cons, List.drop_zero] at hw1
            rw [hw1]; exact .d .nsl
          · simp only [List.drop_succ_cons, List.drop_zero] at o44 ⊢
            have := frz_map (s := s') (id := 44) (g := g' 44) (off := 0) h1 (h2.trans o44) qs (fun p => .str p.1) (fun _ => rfl) rfl (fun j a h => by simp [h]) (by simp)
            unfold strs
            rw [List.map_map]
            exact this
        have hdl : (p.1, qs.map (·.1)) = ((p.1, qs.map (·.1)) : Line) := rfl
        have hT := text_A (p.1, qs.map (·.1)) (hbd p (by simp)) (by simp only [List.length_map, List.length_cons] at hpl ⊢; omega) (fun w hw => by
          obtain ⟨q, hq, rfl⟩ := List.mem_map.1 hw
          exact Nat.le_trans (hbd q (by simp [hq])) (by decide))
        refine hook_viewF kept_phiC rfl (xs := [lineV (p.1, qs.map (·.1))]) ?_ hT ?_ ?_
        · simp (config := { maxSteps := 1000000 }) only [go_sem, ↓reduceIte, Nat.reduceEqDiff, Nat.reduceAdd, Nat.reduceMul, Nat.reduceSub, Nat.reduceLT, Nat.reduceLeDiff, Int.reduceLT, Int.reduceLE, Int.reduceEq, Int.reduceNe, Int.reduceAdd, Int.reduceNeg, Int.reduceToNat]
          simp only [FrzVs]
          refine ⟨_, _, rfl, ⟨[.str p.1, strs (qs.map (·.1))], rfl, fun i c hc => ?_, rfl⟩, rfl⟩
          match i, hc with
          | 0, hc => cases hc; exact ⟨_, rfl, .d _⟩
          | 1, hc => cases hc; exact ⟨_, rfl, hfz _ rfl rfl⟩
        · rintro _ rfl; split <;> rfl
        · rintro _ rfl
          cases hr : rightL (p.1, qs.map (·.1))
          · simp (config := { maxSteps := 1000000 }) only [go_sem, ↓reduceIte, Nat.reduceEqDiff, Nat.reduceAdd, Nat.reduceMul, Nat.reduceSub, Nat.reduceLT, Nat.reduceLeDiff, Int.reduceLT, Int.reduceLE, Int.reduceEq, Int.reduceNe, Int.reduceAdd, Int.reduceNeg, Int.reduceToNat, o2, o3, o4, o5, o6, e2, e3, e4, e5, e6, buildA]
            refine ⟨_, frzR_line (l := ([], [])) (.d .nsl), ?_⟩
            simp [partsR, hok, hr]
          · simp (config := { maxSteps := 1000000 }) only [go_sem, ↓reduceIte, Nat.reduceEqDiff, Nat.reduceAdd, Nat.reduceMul, Nat.reduceSub, Nat.reduceLT, Nat.reduceLeDiff, Int.reduceLT, Int.reduceLE, Int.reduceEq, Int.reduceNe, Int.reduceAdd, Int.reduceNeg, Int.reduceToNat, o2, o3, o4, o5, o6, e2, e3, e4, e5, e6]
            refine ⟨_, frzR_line (l := (p.1, qs.map (·.1))) (hfz _ ?_ ?_), ?_⟩
            · rfl
            · simp [upd]
            · simp [partsR, hok, hr]
    · rintro g' ob' ⟨hbad, ⟨e2, e3, e4⟩, o2, o3, o4⟩
      rw [v2] at e2; rw [v3] at e3; rw [v4] at e4
      simp (config := { maxSteps := 1000000 }) only [go_sem, ↓reduceIte, Nat.reduceEqDiff, Nat.reduceAdd, Nat.reduceMul, Nat.reduceSub, Nat.reduceLT, Nat.reduceLeDiff, Int.reduceLT, Int.reduceLE, Int.reduceEq, Int.reduceNe, Int.reduceAdd, Int.reduceNeg, Int.reduceToNat, o2, o3, o4, e2, e3, e4]
      refine ⟨_, frzR_line (l := ([], [])) (.d .nsl), ?_⟩
      simp [partsR, hbad]

end Go.Proofs.YtdlogfbbcbbllaaDoor

namespace Go.Proofs.YtdlogfbbcbbllaaDoor
open Go Go.Am

def okL (x : List UInt8) : Bool := decide ((lineP x).2.2 = 0)
def linesOf (ls : List (List UInt8)) : List Line := ls.filterMap fun x => if (lineP x).2.1 = true then some (lineP x).1 else none
/-- The first wrong line's number, and its error. -/
def readFrom : Nat → List (List UInt8) → Option (Nat × Int)
  | _, [] => none
  | n, x :: xs => if okL x = true then readFrom (n + 1) xs else some (n + 1, (lineP x).2.2)
def readB (s : List UInt8) : List Line × Nat × Int :=
  match readFrom 0 (splitB s) with
  | some (n, e) => ([], n, e)
  | none => (linesOf (splitB s), 0, 0)
def readRV (r : List Line × Nat × Int) : AV := .tup [.one (.d (linesD r.1)), iv .i64 r.2.1, iv .i64 r.2.2]

theorem splitB_len : ∀ s : List UInt8, (splitB s).length ≤ s.length + 1
  | [] => by simp [splitB]
  | b :: l => by
    have ih := splitB_len l
    rw [splitB_cons]
    split
    · simp only [List.length_cons]; omega
    · split
      · simp
      · rename_i h; rw [h] at ih; simp only [List.length_cons] at ih ⊢; omega
theorem splitB_text : ∀ s : List UInt8, ∀ x ∈ splitB s, x.length ≤ s.length
  | [], x, h => by simp [splitB] at h; simp [h]
  | b :: l, x, h => by
    have ih := splitB_text l
    rw [splitB_cons] at h
    split at h
    · rcases List.mem_cons.1 h with rfl | h
      · simp
      · have := ih x h; simp only [List.length_cons]; omega
    · split at h
      · simp at h; simp [h]
      · rename_i y ys hy
        rcases List.mem_cons.1 h with rfl | h
        · have := ih y (by rw [hy]; simp); simp only [List.length_cons]; omega
        · have := ih x (by rw [hy]; simp [h]); simp only [List.length_cons]; omega

theorem linesOf_take {ls : List (List UInt8)} {k : Nat} {x : List UInt8} (h : ls[k]? = some x) : linesOf (ls.take (k + 1)) = linesOf (ls.take k) ++ (if (lineP x).2.1 = true then [(lineP x).1] else []) := by
  unfold linesOf
  rw [List.take_add_one, h, List.filterMap_append]
  congr 1
  simp only [Option.toList_some, List.filterMap_cons, List.filterMap_nil]
  split <;> simp_all
theorem readFrom_wrong : ∀ {ls : List (List UInt8)} {n k : Nat} {x : List UInt8}, ls[k]? = some x → (ls.take k).all okL = true → okL x = false → readFrom n ls = some (n + k + 1, (lineP x).2.2)
  | [], n, k, x, h, _, _ => by simp at h
  | y :: ls, n, 0, x, h, _, hx => by simp at h; subst h; simp [readFrom, hx]
  | y :: ls, n, k + 1, x, h, ha, hx => by
    simp only [List.take_succ_cons, List.all_cons, Bool.and_eq_true] at ha
    simp only [readFrom, ha.1, if_true]
    rw [readFrom_wrong (by simpa using h) ha.2 hx]
    congr 2; omega
theorem readFrom_right : ∀ {ls : List (List UInt8)} {n : Nat}, ls.all okL = true → readFrom n ls = none
  | [], _, _ => rfl
  | y :: ls, n, h => by
    simp only [List.all_cons, Bool.and_eq_true] at h
    simp only [readFrom, h.1, if_true]
    exact readFrom_right h.2
theorem linesOf_len (ls : List (List UInt8)) : (linesOf ls).length ≤ ls.length := List.length_filterMap_le _ _

structure JRead (G : Nat → Nat) (ls : List (List UInt8)) (k : Nat) (g : Nat → Nat) (ob : Obs) : Prop where
  ok : (ls.take k).all okL = true
  g2 : g 2 = G 2 ∧ g 3 = G 3 ∧ g 4 = G 4 ∧ g 5 = G 5 ∧ g 6 = G 6
  o2 : ob 2 = some [.d .nsl]
  o3 : ob 3 = some [.d (.int .i64 0)]
  o4 : ob 4 = some [.d (.int .i64 0)]
  o6 : ob 6 = some [.d (.int .i64 k)]
  o5 : ∃ ac, ob 5 = some [ac] ∧ ((linesOf (ls.take k) = [] ∧ ac = .d .nsl) ∨ (linesOf (ls.take k) ≠ [] ∧ ac = .osl 30 (g 30) 2 0 (linesOf (ls.take k)).length ∧ ob 30 = some ((linesOf (ls.take k)).flatMap fun a => (lineD a).map .d)))

structure JxRead (G : Nat → Nat) (ls : List (List UInt8)) (g : Nat → Nat) (ob : Obs) : Prop where
  bad : ∃ (n : Nat) (e : Int), readFrom 0 ls = some (n, e) ∧ ob 3 = some [.d (.int .i64 n)] ∧ ob 4 = some [.d (.int .i64 e)]
  g2 : g 2 = G 2 ∧ g 3 = G 3 ∧ g 4 = G 4
  o2 : ob 2 = some [.d .nsl]

theorem frzR_read {s : St} {ls : List Line} {ac : C} {n m : Int} (h : Frz s ac (linesD ls)) : FrzR s [.one ac, iv .i64 n, iv .i64 m] (.tup [.one (.d (linesD ls)), iv .i64 n, iv .i64 m]) := by
  refine ⟨_, ?_, rfl⟩
  simp only [FrzVs]
  exact ⟨_, _, rfl, ⟨_, h, rfl⟩, _, _, rfl, ⟨.int .i64 n, .d (.int .i64 n), rfl⟩, _, _, rfl, ⟨.int .i64 m, .d (.int .i64 m), rfl⟩, rfl⟩

set_option maxHeartbeats 8000000 in
theorem Read_A (s : List UInt8) (hs : s.length ≤ 1000000) : PureR Tryd.prog 14 [sv s] (· = readRV (readB s)) := by
  refine pure_of_wpRF 0 Tt_ok Tryd.func14 rfl (by rfl) [.cell 2 23, .cell 3 3, .cell 4 24] rfl (by kernel_rfl) (by kernel_rfl) (by simp [Tryd.ntmps14]) fun b₀ β0 s0 w0 g => ?_
  simp (config := { maxSteps := 1000000 }) only [go_sem, ↓reduceIte, Nat.reduceEqDiff, Nat.reduceAdd, Nat.reduceMul, Nat.reduceSub, Nat.reduceLT, Nat.reduceLeDiff, Int.reduceLT, Int.reduceLE, Int.reduceEq, Int.reduceNe, Int.reduceAdd, Int.reduceNeg, Int.reduceToNat]
  refine hook_funF kept_phiC rfl (by simp (config := { maxSteps := 1000000 }) only [go_sem, ↓reduceIte, Nat.reduceEqDiff, Nat.reduceAdd, Nat.reduceMul, Nat.reduceSub, Nat.reduceLT, Nat.reduceLeDiff, Int.reduceLT, Int.reduceLE, Int.reduceEq, Int.reduceNe, Int.reduceAdd, Int.reduceNeg, Int.reduceToNat]; exact SplitSeq_A 300 s _ _) ?_
  rintro _ g1 ob1 ⟨rfl, o303, o304, o305, hsame⟩
  obtain ⟨G, hG⟩ : ∃ G, g1 = G := ⟨_, rfl⟩
  have v2 : G 2 = nxC 24 (g 2) := by rw [← hG]; exact (hsame 2 (by decide) (by decide) (by decide)).1.trans (by simp [upd])
  have v3 : G 3 = nxC 4 (g 3) := by rw [← hG]; exact (hsame 3 (by decide) (by decide) (by decide)).1.trans (by simp [upd])
  have v4 : G 4 = nxC 25 (g 4) := by rw [← hG]; exact (hsame 4 (by decide) (by decide) (by decide)).1.trans (by simp [upd])
  have v5 : G 5 = nxC 24 (g 5) := by rw [← hG]; exact (hsame 5 (by decide) (by decide) (by decide)).1.trans (by simp [upd])
  have v6 : G 6 = nxC 4 (g 6) := by rw [← hG]; exact (hsame 6 (by decide) (by decide) (by decide)).1.trans (by simp [upd])
  unfold readB
  have hnl := splitB_len s
  have htx := splitB_text s
  obtain ⟨ls, hls⟩ : ∃ ls, splitB s = ls := ⟨_, rfl⟩
  rw [hls] at hnl htx ⊢
  simp (config := { maxSteps := 1000000 }) only [go_sem, ↓reduceIte, Nat.reduceEqDiff, Nat.reduceAdd, Nat.reduceMul, Nat.reduceSub, Nat.reduceLT, Nat.reduceLeDiff, Int.reduceLT, Int.reduceLE, Int.reduceEq, Int.reduceNe, Int.reduceAdd, Int.reduceNeg, Int.reduceToNat]
  refine hook_range Tt_ok (fid := 40) (caps := [.ptr 304 (g1 304) 0, .ptr 303 (g1 303) 0, .ptr 305 (g1 305) 0]) (by simp (config := { maxSteps := 1000000 }) only [go_sem, ↓reduceIte, Nat.reduceEqDiff, Nat.reduceAdd, Nat.reduceMul, Nat.reduceSub, Nat.reduceLT, Nat.reduceLeDiff, Int.reduceLT, Int.reduceLE, Int.reduceEq, Int.reduceNe, Int.reduceAdd, Int.reduceNeg, Int.reduceToNat]) 400 (fun id => id = 400 ∨ id = 300 + 3 ∨ id = 300 + 4 ∨ id = 300 + 5) (fun id => id = 300 + 3 ∨ id = 300 + 4 ∨ id = 300 + 5) (.inl rfl) (by decide) (fun id h => .inr h) (fun x => [sv x]) ls (fun x => rfl) (by kernel_rfl) (by kernel_rfl)
    (fun g' ob' h => by
      rw [← hls]
      exact splitSeqIt_A 300 s (by omega) (h 303 (by decide)).1 (h 304 (by decide)).1 (h 305 (by decide)).1 ((h 303 (by decide)).2.trans o303) ((h 304 (by decide)).2.trans o304) ((h 305 (by decide)).2.trans o305)) (JRead G ls) (JxRead G ls) ?_ ?_ ?_ ?_ ?_ ?_
  · rintro k g ob g' ob' ⟨a1, a2, a3, a4, a5, a6, a7⟩ h
    have hh : ∀ id, id = 2 ∨ id = 3 ∨ id = 4 ∨ id = 5 ∨ id = 6 ∨ id = 30 → g' id = g id ∧ ob' id = ob id := fun id hid => h id (by omega)
    have h2 := hh 2 (by simp)
    have h3 := hh 3 (by simp)
    have h4 := hh 4 (by simp)
    have h5 := hh 5 (by simp)
    have h6 := hh 6 (by simp)
    have h30 := hh 30 (by simp)
    exact ⟨a1, by rw [h2.1, h3.1, h4.1, h5.1, h6.1]; exact a2, by rw [h2.2]; exact a3, by rw [h3.2]; exact a4, by rw [h4.2]; exact a5, by rw [h6.2]; exact a6, by rw [h5.2, h30.1, h30.2]; exact a7⟩
  · rintro g ob g' ob' ⟨a1, a2, a3⟩ h
    have hh : ∀ id, id = 2 ∨ id = 3 ∨ id = 4 → g' id = g id ∧ ob' id = ob id := fun id hid => h id (by omega)
    have h2 := hh 2 (by simp)
    have h3 := hh 3 (by simp)
    have h4 := hh 4 (by simp)
    exact ⟨by rw [h3.2, h4.2]; exact a1, by rw [h2.1, h3.1, h4.1]; exact a2, by rw [h2.2]; exact a3⟩
  · subst hG
    have e2 := hsame 2 (by decide) (by decide) (by decide)
    have e3 := hsame 3 (by decide) (by decide) (by decide)
    have e4 := hsame 4 (by decide) (by decide) (by decide)
    have e5 := hsame 5 (by decide) (by decide) (by decide)
    have e6 := hsame 6 (by decide) (by decide) (by decide)
    refine ⟨rfl, ⟨rfl, rfl, rfl, rfl, rfl⟩, ?_, ?_, ?_, ?_, ⟨_, ?_, .inl ⟨rfl, rfl⟩⟩⟩
    · exact e2.2.trans (by simp [upd])
    · exact e3.2.trans (by simp [upd])
    · exact e4.2.trans (by simp [upd])
    · exact e6.2.trans (by simp [upd])
    · exact e5.2.trans (by simp [upd])
  · rintro k x g2 ob2 hx ⟨hok, ⟨e2, e3, e4, e5, e6⟩, o2, o3, o4, o6, ac, o5, hac⟩ l Φ hΦ
    have hm := List.mem_of_getElem? hx
    have hlt := (List.getElem?_eq_some_iff.1 hx).1
    have hxl : x.length ≤ s.length := htx x hm
    have hw := wrap_succ (k := k) (by omega)
    rw [v2] at e2; rw [v3] at e3; rw [v4] at e4; rw [v5] at e5; rw [v6] at e6
    simp (config := { maxSteps := 1000000 }) only [go_sem, ↓reduceIte, Nat.reduceEqDiff, Nat.reduceAdd, Nat.reduceMul, Nat.reduceSub, Nat.reduceLT, Nat.reduceLeDiff, Int.reduceLT, Int.reduceLE, Int.reduceEq, Int.reduceNe, Int.reduceAdd, Int.reduceNeg, Int.reduceToNat]
    intro o Φ' hΦ'
    simp (config := { maxSteps := 1000000 }) only [go_sem, ↓reduceIte, Nat.reduceEqDiff, Nat.reduceAdd, Nat.reduceMul, Nat.reduceSub, Nat.reduceLT, Nat.reduceLeDiff, Int.reduceLT, Int.reduceLE, Int.reduceEq, Int.reduceNe, Int.reduceAdd, Int.reduceNeg, Int.reduceToNat, o2, o3, o4, o5, o6, e2, e3, e4, e5, e6, hw]
    refine hook_callF hΦ' rfl (by simp (config := { maxSteps := 1000000 }) only [go_sem, ↓reduceIte, Nat.reduceEqDiff, Nat.reduceAdd, Nat.reduceMul, Nat.reduceSub, Nat.reduceLT, Nat.reduceLeDiff, Int.reduceLT, Int.reduceLE, Int.reduceEq, Int.reduceNe, Int.reduceAdd, Int.reduceNeg, Int.reduceToNat]; exact line_A x (by omega)) (by simp (config := { maxSteps := 1000000 }) only [go_sem, ↓reduceIte, Nat.reduceEqDiff, Nat.reduceAdd, Nat.reduceMul, Nat.reduceSub, Nat.reduceLT, Nat.reduceLeDiff, Int.reduceLT, Int.reduceLE, Int.reduceEq, Int.reduceNe, Int.reduceAdd, Int.reduceNeg, Int.reduceToNat, lineRV, lineV]; rfl) ?_
    rintro _ rfl
    simp (config := { maxSteps := 1000000 }) only [go_sem, ↓reduceIte, Nat.reduceEqDiff, Nat.reduceAdd, Nat.reduceMul, Nat.reduceSub, Nat.reduceLT, Nat.reduceLeDiff, Int.reduceLT, Int.reduceLE, Int.reduceEq, Int.reduceNe, Int.reduceAdd, Int.reduceNeg, Int.reduceToNat, lineRV, lineV, o2, o3, o4, o5, o6, e2, e3, e4, e5, e6, hw]
    refine ⟨fun he => ?_, fun he => ?_⟩
    · refine draw_detF (B := 0) Tt_ok mixed hΦ' [2, 3, 4] [([6], [0], [], false), ([10], [0, 1], [], false), ([2], [], [0], false), ([3, 24], [], [1], false), ([4, 25], [], [], true)] 3 rfl (by decide +kernel) rfl (by decide) ?_
      simp (config := { maxSteps := 1000000 }) only [go_sem, ↓reduceIte, Nat.reduceEqDiff, Nat.reduceAdd, Nat.reduceMul, Nat.reduceSub, Nat.reduceLT, Nat.reduceLeDiff, Int.reduceLT, Int.reduceLE, Int.reduceEq, Int.reduceNe, Int.reduceAdd, Int.reduceNeg, Int.reduceToNat, o2, o3, o4, o5, o6, e2, e3, e4, e5, e6]
      iterate 2 (apply det_pure; · (intro fa ga oa K' hK; simp (config := { maxSteps := 1000000 }) only [go_sem, ↓reduceIte, Nat.reduceEqDiff, Nat.reduceAdd, Nat.reduceMul, Nat.reduceSub, Nat.reduceLT, Nat.reduceLeDiff, Int.reduceLT, Int.reduceLE, Int.reduceEq, Int.reduceNe, Int.reduceAdd, Int.reduceNeg, Int.reduceToNat, o2, o3, o4, o5, o6, e2, e3, e4, e5, e6] at hK ⊢; exact hK))
      iterate 2 (apply det_store; (focus simp); (focus (intro fa ga oa K' hK; simp (config := { maxSteps := 1000000 }) only [go_sem, ↓reduceIte, Nat.reduceEqDiff, Nat.reduceAdd, Nat.reduceMul, Nat.reduceSub, Nat.reduceLT, Nat.reduceLeDiff, Int.reduceLT, Int.reduceLE, Int.reduceEq, Int.reduceNe, Int.reduceAdd, Int.reduceNeg, Int.reduceToNat, o2, o3, o4, o5, o6, e2, e3, e4, e5, e6] at hK ⊢; exact hK)))
      apply det_last
      intro K' hK'
      simp (config := { maxSteps := 1000000 }) only [go_sem, ↓reduceIte, Nat.reduceEqDiff, Nat.reduceAdd, Nat.reduceMul, Nat.reduceSub, Nat.reduceLT, Nat.reduceLeDiff, Int.reduceLT, Int.reduceLE, Int.reduceEq, Int.reduceNe, Int.reduceAdd, Int.reduceNeg, Int.reduceToNat, o2, o3, o4, o5, o6, e2, e3, e4, e5, e6]
      refine hK' _ ?_
      clear hK' K'
      simp (config := { maxSteps := 1000000 }) only [go_sem, ↓reduceIte, Nat.reduceEqDiff, Nat.reduceAdd, Nat.reduceMul, Nat.reduceSub, Nat.reduceLT, Nat.reduceLeDiff, Int.reduceLT, Int.reduceLE, Int.reduceEq, Int.reduceNe, Int.reduceAdd, Int.reduceNeg, Int.reduceToNat]
      have hw1 : okL x = false := by simpa [okL] using he
      refine ⟨fun id hid => ?_, ⟨⟨k + 1, (lineP x).2.2, ?_, ?_, ?_⟩, ⟨?_, ?_, ?_⟩, ?_⟩⟩
      · rcases hid with rfl | rfl | rfl | rfl <;> simp
      · have := readFrom_wrong (n := 0) hx hok hw1
        rw [this]; congr 2; omega
      · simp [upd]
      · simp [upd]
      · simp [upd, e2, v2]
      · simp [upd, e3, v3]
      · simp [upd, e4, v4]
      · simp [upd]
    · have hok' : okL x = true := by simpa [okL] using he
      cases hth : (lineP x).2.1
      · simp (config := { maxSteps := 1000000 }) only [go_sem, ↓reduceIte, Nat.reduceEqDiff, Nat.reduceAdd, Nat.reduceMul, Nat.reduceSub, Nat.reduceLT, Nat.reduceLeDiff, Int.reduceLT, Int.reduceLE, Int.reduceEq, Int.reduceNe, Int.reduceAdd, Int.reduceNeg, Int.reduceToNat, hth]
        refine ⟨fun id hid => by rcases hid with rfl | rfl | rfl | rfl <;> simp, ⟨all_take hx hok hok', ⟨by simp [upd, e2, v2], by simp [upd, e3, v3], by simp [upd, e4, v4], by simp [upd, e5, v5], by simp [upd, e6, v6]⟩, by simp [upd, o2], by simp [upd, o3], by simp [upd, o4], by simp [upd], ⟨ac, by simp [upd, o5], ?_⟩⟩⟩
        rw [linesOf_take hx, hth, if_neg (by simp), List.append_nil]
        simpa [upd] using hac
      · have hd1 : (linesOf (ls.take k)).length ≤ 2000000 := by have := linesOf_len (ls.take k); simp only [List.length_take] at this; omega
        have hfin : ∀ (G' : Nat → Nat) (ob' : Obs) (ac' : C), G' 2 = g2 2 → G' 3 = g2 3 → G' 4 = g2 4 → G' 5 = g2 5 → G' 6 = g2 6 → ob' 2 = ob2 2 → ob' 3 = ob2 3 → ob' 4 = ob2 4 → ob' 6 = some [.d (.int .i64 ((k + 1 : Nat) : Int))] → ob' 5 = some [ac'] →
            ac' = .osl 30 (G' 30) 2 0 ((linesOf (ls.take k)).length + 1) → ob' 30 = some (((linesOf (ls.take k)).flatMap fun a => (lineD a).map .d) ++ (lineD (lineP x).1).map .d) → JRead G ls (k + 1) G' ob' := by
          intro G' ob' ac' h1 h2 h3 h4 h5 p2 p3 p4 p6 p5 h30 p30
          refine ⟨all_take hx hok hok', ⟨by rw [h1, e2, v2], by rw [h2, e3, v3], by rw [h3, e4, v4], by rw [h4, e5, v5], by rw [h5, e6, v6]⟩, p2.trans o2, p3.trans o3, p4.trans o4, p6, ⟨ac', p5, .inr ⟨?_, ?_, ?_⟩⟩⟩
          · rw [linesOf_take hx, hth]; simp
          · rw [linesOf_take hx, hth, h30]; simp
          · rw [linesOf_take hx, hth, p30]; simp [List.flatMap_append]
        rcases hac with ⟨hw1, rfl⟩ | ⟨hw1, rfl, o30⟩
        · simp (config := { maxSteps := 1000000 }) only [go_sem, ↓reduceIte, Nat.reduceEqDiff, Nat.reduceAdd, Nat.reduceMul, Nat.reduceSub, Nat.reduceLT, Nat.reduceLeDiff, Int.reduceLT, Int.reduceLE, Int.reduceEq, Int.reduceNe, Int.reduceAdd, Int.reduceNeg, Int.reduceToNat, hth, o2, o3, o4, o5, o6, e2, e3, e4, e5, e6, elemTy]
          refine ⟨⟨by decide, by decide⟩, fun id hid => by rcases hid with rfl | rfl | rfl | rfl <;> simp, hfin _ _ _ ?_ ?_ ?_ ?_ ?_ ?_ ?_ ?_ ?_ (by simp [upd]; rfl) ?_ ?_⟩
          all_goals simp [upd, hw1, lineD]
        · simp (config := { maxSteps := 1000000 }) only [go_sem, ↓reduceIte, Nat.reduceEqDiff, Nat.reduceAdd, Nat.reduceMul, Nat.reduceSub, Nat.reduceLT, Nat.reduceLeDiff, Int.reduceLT, Int.reduceLE, Int.reduceEq, Int.reduceNe, Int.reduceAdd, Int.reduceNeg, Int.reduceToNat, hth, o2, o3, o4, o5, o6, o30, e2, e3, e4, e5, e6, elemTy]
          have hfl : ((linesOf (ls.take k)).flatMap fun a => (lineD a).map C.d).length = (linesOf (ls.take k)).length * 2 := by
            generalize linesOf (ls.take k) = L
            induction L with
            | nil => rfl
            | cons a L ih => rw [List.flatMap_cons, List.length_append, ih]; simp only [lineD, List.length_map, List.length_cons, List.length_nil]; omega
          refine ⟨Nat.le_of_eq hfl.symm, ⟨by decide, by omega⟩, fun id hid => by rcases hid with rfl | rfl | rfl | rfl <;> simp, hfin _ _ _ ?_ ?_ ?_ ?_ ?_ ?_ ?_ ?_ ?_ (by simp [upd]; rfl) ?_ ?_⟩
          all_goals simp [upd, lineD]
          exact List.take_of_length_le (Nat.le_of_eq hfl)
  · rintro g' ob' ⟨hok, ⟨e2, e3, e4, e5, e6⟩, o2, o3, o4, o6, ac, o5, hac⟩
    rw [v2] at e2; rw [v3] at e3; rw [v4] at e4; rw [v5] at e5; rw [v6] at e6
    rw [List.take_of_length_le (Nat.le_refl _)] at hok hac
    simp (config := { maxSteps := 1000000 }) only [go_sem, ↓reduceIte, Nat.reduceEqDiff, Nat.reduceAdd, Nat.reduceMul, Nat.reduceSub, Nat.reduceLT, Nat.reduceLeDiff, Int.reduceLT, Int.reduceLE, Int.reduceEq, Int.reduceNe, Int.reduceAdd, Int.reduceNeg, Int.reduceToNat, o2, o3, o4, o5, o6, e2, e3, e4, e5, e6]
    refine ⟨_, frzR_read (ls := linesOf ls) ?_, ?_⟩
    · rcases hac with ⟨hw1, rfl⟩ | ⟨hw1, rfl, o30⟩
      · rw [hw1]; exact .d .nsl
      · exact frz_rows rfl (linesOf ls) lineD (by simp [upd, o30]) rfl (fun a _ x hx => by simp [lineD, strs] at hx; rcases hx with rfl | rfl <;> rfl) (fun a _ => rfl) rfl
    · rw [readFrom_right hok]; rfl
  · rintro g' ob' ⟨⟨n, e, hr, o3, o4⟩, ⟨e2, e3, e4⟩, o2⟩
    rw [v2] at e2; rw [v3] at e3; rw [v4] at e4
    simp (config := { maxSteps := 1000000 }) only [go_sem, ↓reduceIte, Nat.reduceEqDiff, Nat.reduceAdd, Nat.reduceMul, Nat.reduceSub, Nat.reduceLT, Nat.reduceLeDiff, Int.reduceLT, Int.reduceLE, Int.reduceEq, Int.reduceNe, Int.reduceAdd, Int.reduceNeg, Int.reduceToNat, o2, o3, o4, e2, e3, e4]
    refine ⟨_, frzR_read (ls := []) (.d .nsl), ?_⟩
    rw [hr]; rfl

end Go.Proofs.YtdlogfbbcbbllaaDoor

namespace Go.Proofs.YtdlogfbbcbbllaaDoor
open Go Go.Am

theorem take_next_eq {α : Type} {a b : List α} {k : Nat} {x y : α} (hx : a[k]? = some x) (hy : b[k]? = some y) (h : a.take k = b.take k) (e : x = y) : a.take (k + 1) = b.take (k + 1) := by
  rw [List.take_add_one, List.take_add_one, hx, hy, h, e]
theorem get_ne {α : Type} {a b : List α} {k : Nat} {x y : α} (hx : a[k]? = some x) (hy : b[k]? = some y) (e : x ≠ y) : a ≠ b := by
  rintro rfl; rw [hx] at hy; exact e (Option.some.inj hy)

set_option maxHeartbeats 4000000 in
theorem Same_A (a b : List Line) (ha : a.length ≤ 1000000000) (hwa : ∀ l ∈ a, l.2.length ≤ 1000000000) : PureR Tryd.prog 16 [.one (.d (linesD a)), .one (.d (linesD b))] (· = bv (decide (a = b))) := by
  refine pure_of_wp Tt_ok mixed Tryd.func16 rfl (by rfl) [4] rfl (by kernel_rfl) (by simp [Tryd.ntmps16]) fun g => ?_
  simp (config := { maxSteps := 1000000 }) only [go_sem, ↓reduceIte, Nat.reduceEqDiff, Nat.reduceAdd, Nat.reduceMul, Nat.reduceSub, Nat.reduceLT, Nat.reduceLeDiff, Int.reduceLT, Int.reduceLE, Int.reduceEq, Int.reduceNe, Int.reduceAdd, Int.reduceNeg, Int.reduceToNat, linesD]
  refine ⟨fun hne => ?_, fun heq => ?_⟩
  · have : a ≠ b := fun e => hne (by rw [e])
    simp [this]
  have hlen : a.length = b.length := by omega
  refine loop_intro (fun n st => ∃ k : Nat, n + k = a.length ∧ st.f 0 = .one (.d (.sl (a.map lineD))) ∧ st.f 1 = .one (.d (.sl (b.map lineD))) ∧ st.f 5 = iv .i64 k ∧ a.take k = b.take k) a.length ⟨0, by omega, rfl, rfl, rfl, rfl⟩ ?_
  rintro n f g ob ⟨k, hk, h0, h1, h5, htk⟩
  simp only at h0 h1 h5
  have hw := wrap_succ (k := k) (by omega)
  by_cases hlt : k < a.length
  · obtain ⟨x, hx⟩ := getq hlt
    obtain ⟨y, hy⟩ := getq (l := b) (k := k) (by omega)
    have hgx := lineD_get hx
    have hgy := lineD_get hy
    simp (config := { maxSteps := 1000000 }) only [go_sem, ↓reduceIte, Nat.reduceEqDiff, Nat.reduceAdd, Nat.reduceMul, Nat.reduceSub, Nat.reduceLT, Nat.reduceLeDiff, Int.reduceLT, Int.reduceLE, Int.reduceEq, Int.reduceNe, Int.reduceAdd, Int.reduceNeg, Int.reduceToNat, h0, h1, h5, hlt]
    refine draw_intro (by decide +kernel) ?_
    simp (config := { maxSteps := 1000000 }) only [go_sem, ↓reduceIte, Nat.reduceEqDiff, Nat.reduceAdd, Nat.reduceMul, Nat.reduceSub, Nat.reduceLT, Nat.reduceLeDiff, Int.reduceLT, Int.reduceLE, Int.reduceEq, Int.reduceNe, Int.reduceAdd, Int.reduceNeg, Int.reduceToNat, h0, h1, h5, hgx, hgy, lineD, strs]
    refine ⟨fun hv => ?_, fun hv => ⟨fun hl => ?_, fun hl => ?_⟩⟩
    · have : a ≠ b := get_ne hx hy (fun e => hv (by rw [e]))
      simp [this]
    · have : a ≠ b := get_ne hx hy (fun e => hl (by rw [e]))
      simp [this]
    · have hxl := hwa x (List.mem_of_getElem? hx)
      have hll : x.2.length = y.2.length := by omega
      refine loop_intro (fun m st => ∃ j : Nat, m + j = x.2.length ∧ st.f 0 = .one (.d (.sl (a.map lineD))) ∧ st.f 1 = .one (.d (.sl (b.map lineD))) ∧ st.f 5 = iv .i64 k ∧ st.f 6 = iv .i64 j ∧ x.2.take j = y.2.take j) x.2.length ?_ ?_
      · refine ⟨0, by omega, ?_⟩
        simp (config := { maxSteps := 1000000 }) only [go_sem, ↓reduceIte, Nat.reduceEqDiff, Nat.reduceAdd, Nat.reduceMul, Nat.reduceSub, Nat.reduceLT, Nat.reduceLeDiff, Int.reduceLT, Int.reduceLE, Int.reduceEq, Int.reduceNe, Int.reduceAdd, Int.reduceNeg, Int.reduceToNat, h0, h1, h5]
      · clear h0 h1 h5
        rintro m f g ob ⟨j, hj, h0, h1, h5, h6, htj⟩
        simp only at h0 h1 h5 h6
        have hw2 := wrap_succ (k := j) (by omega)
        by_cases hlt2 : j < x.2.length
        · obtain ⟨u, hu⟩ := getq hlt2
          obtain ⟨v, hv2⟩ := getq (l := y.2) (k := j) (by omega)
          have hgu := strs_get hu
          have hgv := strs_get hv2
          simp (config := { maxSteps := 1000000 }) only [go_sem, ↓reduceIte, Nat.reduceEqDiff, Nat.reduceAdd, Nat.reduceMul, Nat.reduceSub, Nat.reduceLT, Nat.reduceLeDiff, Int.reduceLT, Int.reduceLE, Int.reduceEq, Int.reduceNe, Int.reduceAdd, Int.reduceNeg, Int.reduceToNat, h0, h1, h5, h6, hgx, hlt2, lineD, strs]
          refine draw_intro (by decide +kernel) ?_
          simp (config := { maxSteps := 1000000 }) only [go_sem, ↓reduceIte, Nat.reduceEqDiff, Nat.reduceAdd, Nat.reduceMul, Nat.reduceSub, Nat.reduceLT, Nat.reduceLeDiff, Int.reduceLT, Int.reduceLE, Int.reduceEq, Int.reduceNe, Int.reduceAdd, Int.reduceNeg, Int.reduceToNat, h0, h1, h5, h6, hgx, hgy, hgu, hgv, lineD, strs]
          refine ⟨fun he => ?_, fun he => ?_⟩
          · have : a ≠ b := get_ne hx hy (fun e => get_ne hu hv2 he (by rw [e]))
            simp [this]
          · simp (config := { maxSteps := 1000000 }) only [go_sem, ↓reduceIte, Nat.reduceEqDiff, Nat.reduceAdd, Nat.reduceMul, Nat.reduceSub, Nat.reduceLT, Nat.reduceLeDiff, Int.reduceLT, Int.reduceLE, Int.reduceEq, Int.reduceNe, Int.reduceAdd, Int.reduceNeg, Int.reduceToNat, h6, hw2]
            refine round_end (m - 1) (by omega) ⟨j + 1, by omega, ?_⟩
            simp (config := { maxSteps := 1000000 }) only [go_sem, ↓reduceIte, Nat.reduceEqDiff, Nat.reduceAdd, Nat.reduceMul, Nat.reduceSub, Nat.reduceLT, Nat.reduceLeDiff, Int.reduceLT, Int.reduceLE, Int.reduceEq, Int.reduceNe, Int.reduceAdd, Int.reduceNeg, Int.reduceToNat, h0, h1, h5, h6]
            exact take_next_eq hu hv2 htj (Classical.not_not.1 he)
        · have hxy : x = y := by
            rw [List.take_of_length_le (by omega), List.take_of_length_le (by omega)] at htj
            have hv := Classical.not_not.1 hv
            exact Prod.ext hv htj
          simp (config := { maxSteps := 1000000 }) only [go_sem, ↓reduceIte, Nat.reduceEqDiff, Nat.reduceAdd, Nat.reduceMul, Nat.reduceSub, Nat.reduceLT, Nat.reduceLeDiff, Int.reduceLT, Int.reduceLE, Int.reduceEq, Int.reduceNe, Int.reduceAdd, Int.reduceNeg, Int.reduceToNat, h0, h1, h5, h6, hgx, hlt2, lineD, strs, hw]
          refine round_end (n - 1) (by omega) ⟨k + 1, by omega, ?_⟩
          simp (config := { maxSteps := 1000000 }) only [go_sem, ↓reduceIte, Nat.reduceEqDiff, Nat.reduceAdd, Nat.reduceMul, Nat.reduceSub, Nat.reduceLT, Nat.reduceLeDiff, Int.reduceLT, Int.reduceLE, Int.reduceEq, Int.reduceNe, Int.reduceAdd, Int.reduceNeg, Int.reduceToNat, h0, h1, h5, h6]
          exact take_next_eq hx hy htk hxy
  · rw [List.take_of_length_le (by omega), List.take_of_length_le (by omega)] at htk
    simp (config := { maxSteps := 1000000 }) only [go_sem, ↓reduceIte, Nat.reduceEqDiff, Nat.reduceAdd, Nat.reduceMul, Nat.reduceSub, Nat.reduceLT, Nat.reduceLeDiff, Int.reduceLT, Int.reduceLE, Int.reduceEq, Int.reduceNe, Int.reduceAdd, Int.reduceNeg, Int.reduceToNat, h0, h1, h5, hlt]
    simp [htk]

def fewL (l : Line) : Bool := decide (l.1.length ≤ 100) && decide (l.2.length ≤ 120) && decide ((l.2.map List.length).sum ≤ 21000)
def fewB (ls : List Line) : Bool := decide (ls.length ≤ 20) && ls.all fewL

theorem sum_take {l : List (List UInt8)} {k : Nat} {w : List UInt8} (h : l[k]? = some w) : ((l.take (k + 1)).map List.length).sum = ((l.take k).map List.length).sum + w.length := by
  rw [List.take_add_one, h]; simp [List.sum_append]
theorem sum_bound {l : List (List UInt8)} (h : ∀ w ∈ l, w.length ≤ 1000000000000000) : (l.map List.length).sum ≤ 1000000000000000 * l.length := by
  induction l with
  | nil => simp
  | cons w l ih =>
    have h1 := h w (by simp)
    have h2 := ih (fun w hw => h w (by simp [hw]))
    simp only [List.map_cons, List.sum_cons, List.length_cons]; omega

set_option maxHeartbeats 4000000 in
theorem few_A (ls : List Line) (hw1 : ∀ l ∈ ls, l.1.length ≤ 1000000000000000) (hw2 : ∀ l ∈ ls, ∀ w ∈ l.2, w.length ≤ 1000000000000000) : PureR Tryd.prog 18 [.one (.d (linesD ls))] (· = bv (fewB ls)) := by
  refine pure_of_wp Tt_ok mixed Tryd.func18 rfl (by rfl) [2] rfl (by kernel_rfl) (by simp [Tryd.ntmps18]) fun g => ?_
  simp (config := { maxSteps := 1000000 }) only [go_sem, ↓reduceIte, Nat.reduceEqDiff, Nat.reduceAdd, Nat.reduceMul, Nat.reduceSub, Nat.reduceLT, Nat.reduceLeDiff, Int.reduceLT, Int.reduceLE, Int.reduceEq, Int.reduceNe, Int.reduceAdd, Int.reduceNeg, Int.reduceToNat, linesD]
  refine ⟨fun h20 => ?_, fun h20 => ?_⟩
  · have : ¬ ls.length ≤ 20 := by omega
    simp [fewB, this]
  have hl20 : ls.length ≤ 20 := by omega
  refine loop_intro (fun n st => ∃ k : Nat, n + k = ls.length ∧ st.f 0 = .one (.d (.sl (ls.map lineD))) ∧ st.f 3 = iv .i64 k ∧ (ls.take k).all fewL = true) ls.length ⟨0, by omega, rfl, rfl, by simp⟩ ?_
  rintro n f g ob ⟨k, hk, h0, h3, hall⟩
  simp only at h0 h3
  have hw := wrap_succ (k := k) (by omega)
  by_cases hlt : k < ls.length
  · obtain ⟨x, hx⟩ := getq hlt
    have hgx := lineD_get hx
    have hxm := List.mem_of_getElem? hx
    have hno : fewL x = false → fewB ls = false := fun h => by
      have : ls.all fewL = false := by rw [List.all_eq_false]; exact ⟨x, hxm, by simp [h]⟩
      simp [fewB, this]
    simp (config := { maxSteps := 1000000 }) only [go_sem, ↓reduceIte, Nat.reduceEqDiff, Nat.reduceAdd, Nat.reduceMul, Nat.reduceSub, Nat.reduceLT, Nat.reduceLeDiff, Int.reduceLT, Int.reduceLE, Int.reduceEq, Int.reduceNe, Int.reduceAdd, Int.reduceNeg, Int.reduceToNat, h0, h3, hlt, hgx, lineD, strs]
    refine ⟨fun hv => ?_, fun hv => ⟨fun hl => ?_, fun hl => ?_⟩⟩
    · have : ¬ x.1.length ≤ 100 := by omega
      rw [hno (by simp [fewL, this])]
    · have : ¬ x.2.length ≤ 120 := by omega
      rw [hno (by simp [fewL, this])]
    · refine loop_intro (fun m st => ∃ j : Nat, m + j = x.2.length ∧ st.f 0 = .one (.d (.sl (ls.map lineD))) ∧ st.f 3 = iv .i64 k ∧ st.f 5 = iv .i64 j ∧ st.f 4 = iv .i64 ((x.2.take j).map List.length).sum) x.2.length ?_ ?_
      · refine ⟨0, by omega, ?_⟩
        simp (config := { maxSteps := 1000000 }) only [go_sem, ↓reduceIte, Nat.reduceEqDiff, Nat.reduceAdd, Nat.reduceMul, Nat.reduceSub, Nat.reduceLT, Nat.reduceLeDiff, Int.reduceLT, Int.reduceLE, Int.reduceEq, Int.reduceNe, Int.reduceAdd, Int.reduceNeg, Int.reduceToNat, h0, h3]
        simp
      · clear h0 h3
        rintro m f g ob ⟨j, hj, h0, h3, h5, h4⟩
        simp only at h0 h3 h5 h4
        have hw3 := wrap_succ (k := j) (by omega)
        have hsb := sum_bound (l := x.2) (hw2 x hxm)
        by_cases hlt2 : j < x.2.length
        · obtain ⟨u, hu⟩ := getq hlt2
          have hgu := strs_get hu
          have hst := sum_take hu
          have hsb2 := sum_bound (l := x.2.take (j + 1)) (fun w hw => hw2 x hxm w (List.mem_of_mem_take hw))
          have hws : IntKind.i64.wrap (((((x.2.take j).map List.length).sum : Nat) : Int) + (u.length : Int)) = ((((x.2.take (j + 1)).map List.length).sum : Nat) : Int) := by
            rw [hst] at hsb2 ⊢
            simp only [List.length_take] at hsb2
            rw [wrap_i64] <;> omega
          simp (config := { maxSteps := 1000000 }) only [go_sem, ↓reduceIte, Nat.reduceEqDiff, Nat.reduceAdd, Nat.reduceMul, Nat.reduceSub, Nat.reduceLT, Nat.reduceLeDiff, Int.reduceLT, Int.reduceLE, Int.reduceEq, Int.reduceNe, Int.reduceAdd, Int.reduceNeg, Int.reduceToNat, h0, h3, h5, h4, hgx, hgu, hlt2, lineD, strs, hw3, hws]
          refine round_end (m - 1) (by omega) ⟨j + 1, by omega, ?_⟩
          simp (config := { maxSteps := 1000000 }) only [go_sem, ↓reduceIte, Nat.reduceEqDiff, Nat.reduceAdd, Nat.reduceMul, Nat.reduceSub, Nat.reduceLT, Nat.reduceLeDiff, Int.reduceLT, Int.reduceLE, Int.reduceEq, Int.reduceNe, Int.reduceAdd, Int.reduceNeg, Int.reduceToNat, h0, h3, h5]
        · rw [List.take_of_length_le (by omega)] at h4
          simp (config := { maxSteps := 1000000 }) only [go_sem, ↓reduceIte, Nat.reduceEqDiff, Nat.reduceAdd, Nat.reduceMul, Nat.reduceSub, Nat.reduceLT, Nat.reduceLeDiff, Int.reduceLT, Int.reduceLE, Int.reduceEq, Int.reduceNe, Int.reduceAdd, Int.reduceNeg, Int.reduceToNat, h0, h3, h5, h4, hgx, hlt2, lineD, strs, hw]
          refine ⟨fun hs => ?_, fun hs => ?_⟩
          · have : ¬ (x.2.map List.length).sum ≤ 21000 := by omega
            rw [hno (by simp only [fewL, this, decide_false, Bool.and_false])]
          · refine round_end (n - 1) (by omega) ⟨k + 1, by omega, ?_⟩
            simp (config := { maxSteps := 1000000 }) only [go_sem, ↓reduceIte, Nat.reduceEqDiff, Nat.reduceAdd, Nat.reduceMul, Nat.reduceSub, Nat.reduceLT, Nat.reduceLeDiff, Int.reduceLT, Int.reduceLE, Int.reduceEq, Int.reduceNe, Int.reduceAdd, Int.reduceNeg, Int.reduceToNat, h0]
            refine all_take hx hall ?_
            have q1 : x.1.length ≤ 100 := by omega
            have q2 : x.2.length ≤ 120 := by omega
            have q3 : (x.2.map List.length).sum ≤ 21000 := by omega
            simp only [fewL, q1, q2, q3, decide_true, Bool.and_self]
  · rw [List.take_of_length_le (by omega)] at hall
    simp (config := { maxSteps := 1000000 }) only [go_sem, ↓reduceIte, Nat.reduceEqDiff, Nat.reduceAdd, Nat.reduceMul, Nat.reduceSub, Nat.reduceLT, Nat.reduceLeDiff, Int.reduceLT, Int.reduceLE, Int.reduceEq, Int.reduceNe, Int.reduceAdd, Int.reduceNeg, Int.reduceToNat, h0, h3, hlt]
    simp only [fewB, hl20, hall, decide_true, Bool.and_self]

end Go.Proofs.YtdlogfbbcbbllaaDoor

namespace Go.Proofs.YtdlogfbbcbbllaaDoor
open Go Go.Am

theorem frz_line1 {s : St} {id g : Nat} {v : List UInt8} {ws : List (List UInt8)} {c : C} (hg : s.gen id = g) (ho : s.obj id = some [.d (.str v), c]) (hc : Frz s c (strs ws)) : Frz s (.osl id g 2 0 1) (linesD [(v, ws)]) := by
  refine .osl hg ho (by simp) rfl (fun e he => by simp at he; rw [he]; rfl) (fun j => match j with | 0 => .d (.str v) | _ => c) (fun j x hx => ?_) (fun j x hx => ?_)
  · match j, hx with
    | 0, hx => rfl
    | 1, hx => rfl
    | j + 2, hx => simp [lineD] at hx
  · match j, hx with
    | 0, hx => simp [lineD] at hx; subst hx; exact .d _
    | 1, hx => simp [lineD] at hx; subst hx; exact hc
    | j + 2, hx => simp [lineD] at hx

theorem frzVs_two {s : St} {c1 c2 : C} {x1 x2 : D} (h1 : Frz s c1 x1) (h2 : Frz s c2 x2) : FrzVs s [.one c1, .one c2] [.one (.d x1), .one (.d x2)] := by
  simp only [FrzVs]
  exact ⟨_, _, rfl, ⟨_, h1, rfl⟩, _, _, rfl, ⟨_, h2, rfl⟩, rfl⟩

theorem read1 : readB [97, 100, 100, 32, 120, 32, 34, 97, 32, 98, 34, 32, 35, 32, 110, 111, 116, 101] = ([([97, 100, 100], [[120], [97, 32, 98]])], 0, 0) := by decide +kernel
theorem read2 : readB [115, 97, 121, 32, 34, 92, 110, 34] = ([([115, 97, 121], [[10]])], 0, 0) := by decide +kernel
theorem read3 : readB [10, 49, 32, 97] = ([], 2, 3) := by decide +kernel
theorem read4 : readB [115, 97, 121, 32, 34, 97, 34, 98] = ([], 1, 3) := by decide +kernel

set_option maxHeartbeats 8000000 in
theorem alive_A : PureR Tryd.prog 13 [] (· = bv true) := by
  refine pure_of_wp Tt_ok mixed Tryd.func13 rfl (by rfl) [0] rfl (by kernel_rfl) (by simp [Tryd.ntmps13]) fun g => ?_
  simp (config := { maxSteps := 1000000 }) only [go_sem, ↓reduceIte, Nat.reduceEqDiff, Nat.reduceAdd, Nat.reduceMul, Nat.reduceSub, Nat.reduceLT, Nat.reduceLeDiff, Int.reduceLT, Int.reduceLE, Int.reduceEq, Int.reduceNe, Int.reduceAdd, Int.reduceNeg, Int.reduceToNat]
  refine hook_call rfl (by simp (config := { maxSteps := 1000000 }) only [go_sem, ↓reduceIte, Nat.reduceEqDiff, Nat.reduceAdd, Nat.reduceMul, Nat.reduceSub, Nat.reduceLT, Nat.reduceLeDiff, Int.reduceLT, Int.reduceLE, Int.reduceEq, Int.reduceNe, Int.reduceAdd, Int.reduceNeg, Int.reduceToNat]; exact Read_A [97, 100, 100, 32, 120, 32, 34, 97, 32, 98, 34, 32, 35, 32, 110, 111, 116, 101] (by simp)) (by simp (config := { maxSteps := 1000000 }) only [go_sem, ↓reduceIte, Nat.reduceEqDiff, Nat.reduceAdd, Nat.reduceMul, Nat.reduceSub, Nat.reduceLT, Nat.reduceLeDiff, Int.reduceLT, Int.reduceLE, Int.reduceEq, Int.reduceNe, Int.reduceAdd, Int.reduceNeg, Int.reduceToNat]; rfl) ?_
  rintro _ rfl
  rw [read1]
  simp (config := { maxSteps := 1000000 }) only [go_sem, ↓reduceIte, Nat.reduceEqDiff, Nat.reduceAdd, Nat.reduceMul, Nat.reduceSub, Nat.reduceLT, Nat.reduceLeDiff, Int.reduceLT, Int.reduceLE, Int.reduceEq, Int.reduceNe, Int.reduceAdd, Int.reduceNeg, Int.reduceToNat, readRV]
  refine hook_call rfl (by simp (config := { maxSteps := 1000000 }) only [go_sem, ↓reduceIte, Nat.reduceEqDiff, Nat.reduceAdd, Nat.reduceMul, Nat.reduceSub, Nat.reduceLT, Nat.reduceLeDiff, Int.reduceLT, Int.reduceLE, Int.reduceEq, Int.reduceNe, Int.reduceAdd, Int.reduceNeg, Int.reduceToNat]; exact Read_A [115, 97, 121, 32, 34, 92, 110, 34] (by simp)) (by simp (config := { maxSteps := 1000000 }) only [go_sem, ↓reduceIte, Nat.reduceEqDiff, Nat.reduceAdd, Nat.reduceMul, Nat.reduceSub, Nat.reduceLT, Nat.reduceLeDiff, Int.reduceLT, Int.reduceLE, Int.reduceEq, Int.reduceNe, Int.reduceAdd, Int.reduceNeg, Int.reduceToNat]; rfl) ?_
  rintro _ rfl
  rw [read2]
  simp (config := { maxSteps := 1000000 }) only [go_sem, ↓reduceIte, Nat.reduceEqDiff, Nat.reduceAdd, Nat.reduceMul, Nat.reduceSub, Nat.reduceLT, Nat.reduceLeDiff, Int.reduceLT, Int.reduceLE, Int.reduceEq, Int.reduceNe, Int.reduceAdd, Int.reduceNeg, Int.reduceToNat, readRV]
  refine hook_call rfl (by simp (config := { maxSteps := 1000000 }) only [go_sem, ↓reduceIte, Nat.reduceEqDiff, Nat.reduceAdd, Nat.reduceMul, Nat.reduceSub, Nat.reduceLT, Nat.reduceLeDiff, Int.reduceLT, Int.reduceLE, Int.reduceEq, Int.reduceNe, Int.reduceAdd, Int.reduceNeg, Int.reduceToNat]; exact Read_A [10, 49, 32, 97] (by simp)) (by simp (config := { maxSteps := 1000000 }) only [go_sem, ↓reduceIte, Nat.reduceEqDiff, Nat.reduceAdd, Nat.reduceMul, Nat.reduceSub, Nat.reduceLT, Nat.reduceLeDiff, Int.reduceLT, Int.reduceLE, Int.reduceEq, Int.reduceNe, Int.reduceAdd, Int.reduceNeg, Int.reduceToNat]; rfl) ?_
  rintro _ rfl
  rw [read3]
  simp (config := { maxSteps := 1000000 }) only [go_sem, ↓reduceIte, Nat.reduceEqDiff, Nat.reduceAdd, Nat.reduceMul, Nat.reduceSub, Nat.reduceLT, Nat.reduceLeDiff, Int.reduceLT, Int.reduceLE, Int.reduceEq, Int.reduceNe, Int.reduceAdd, Int.reduceNeg, Int.reduceToNat, readRV]
  refine hook_call rfl (by simp (config := { maxSteps := 1000000 }) only [go_sem, ↓reduceIte, Nat.reduceEqDiff, Nat.reduceAdd, Nat.reduceMul, Nat.reduceSub, Nat.reduceLT, Nat.reduceLeDiff, Int.reduceLT, Int.reduceLE, Int.reduceEq, Int.reduceNe, Int.reduceAdd, Int.reduceNeg, Int.reduceToNat]; exact Read_A [115, 97, 121, 32, 34, 97, 34, 98] (by simp)) (by simp (config := { maxSteps := 1000000 }) only [go_sem, ↓reduceIte, Nat.reduceEqDiff, Nat.reduceAdd, Nat.reduceMul, Nat.reduceSub, Nat.reduceLT, Nat.reduceLeDiff, Int.reduceLT, Int.reduceLE, Int.reduceEq, Int.reduceNe, Int.reduceAdd, Int.reduceNeg, Int.reduceToNat]; rfl) ?_
  rintro _ rfl
  rw [read4]
  simp (config := { maxSteps := 1000000 }) only [go_sem, ↓reduceIte, Nat.reduceEqDiff, Nat.reduceAdd, Nat.reduceMul, Nat.reduceSub, Nat.reduceLT, Nat.reduceLeDiff, Int.reduceLT, Int.reduceLE, Int.reduceEq, Int.reduceNe, Int.reduceAdd, Int.reduceNeg, Int.reduceToNat, readRV, elemTy, buildA]
  refine hook_view rfl (xs := [.one (.d (linesD [([97, 100, 100], [[120], [97, 32, 98]])])), .one (.d (linesD [([97, 100, 100], [[120], [97, 32, 98]])]))]) ?_ (Same_A _ _ (by simp) (by simp)) (by rintro _ rfl; rfl) ?_
  · simp (config := { maxSteps := 1000000 }) only [go_sem, ↓reduceIte, Nat.reduceEqDiff, Nat.reduceAdd, Nat.reduceMul, Nat.reduceSub, Nat.reduceLT, Nat.reduceLeDiff, Int.reduceLT, Int.reduceLE, Int.reduceEq, Int.reduceNe, Int.reduceAdd, Int.reduceNeg, Int.reduceToNat]
    refine frzVs_two (.d (.sl _)) (frz_line1 (by simp [upd]) (by simp [upd]; rfl) ?_)
    exact frz_map (cells := [.d (.str [120]), .d (.str [97, 32, 98])]) (by simp [upd]) (by simp [upd]) [[120], [97, 32, 98]] (fun w => .str w) (fun _ => rfl) rfl (fun j a h => by
      match j, h with
      | 0, h => cases h; rfl
      | 1, h => cases h; rfl) (by simp)
  · rintro _ rfl
    simp (config := { maxSteps := 1000000 }) only [go_sem, ↓reduceIte, Nat.reduceEqDiff, Nat.reduceAdd, Nat.reduceMul, Nat.reduceSub, Nat.reduceLT, Nat.reduceLeDiff, Int.reduceLT, Int.reduceLE, Int.reduceEq, Int.reduceNe, Int.reduceAdd, Int.reduceNeg, Int.reduceToNat, linesD, lineD, strs]

end Go.Proofs.YtdlogfbbcbbllaaDoor

namespace Go.Proofs.YtdlogfbbcbbllaaDoor
open Go Go.Am

theorem cutP_pos {c : UInt8} {r : List UInt8} (h : (cutP (c :: r)).1.2.2 = false) : 0 < (cutP (c :: r)).2 := by
  unfold cutP at h ⊢
  by_cases hc : c = 34
  · simp only [hc, if_true] at h ⊢
    cases hu : unq r with
    | none => rw [hu] at h; simp at h
    | some p => simp
  · simp only [hc, if_false] at h ⊢
    simp only [decide_eq_false_iff_not] at h
    omega

theorem partsF_fuel : ∀ (n m : Nat) (s : List UInt8), s.length < n → s.length < m → partsF n s = partsF m s
  | 0, _, _, h, _ => by omega
  | _ + 1, 0, _, _, h => by omega
  | n + 1, m + 1, s, h1, h2 => by
    have ht := trimS_le s
    unfold partsF
    split
    · rfl
    · rename_i c r htt
      rw [htt] at ht
      split
      · rfl
      · simp only
        split
        · rfl
        · rename_i hb
          simp only [not_or, Bool.not_eq_true, Bool.not_eq_false] at hb
          have hp := cutP_pos hb.1
          simp only [List.length_cons] at ht
          rw [partsF_fuel n m _ (by simp only [List.length_drop, List.length_cons]; omega) (by simp only [List.length_drop, List.length_cons]; omega)]

/-- The parts of a line. -/
def partsS (s : List UInt8) : List Part := partsF (s.length + 1) s
theorem partsF_S {n : Nat} {s : List UInt8} (h : s.length < n) : partsF n s = partsS s := partsF_fuel _ _ _ h (by omega)

theorem partsS_trim {s t : List UInt8} (h : trimS s = trimS t) : partsS s = partsS t := by
  have h1 : partsS s = partsF (s.length + t.length + 1) s := (partsF_S (by omega)).symm
  have h2 : partsS t = partsF (s.length + t.length + 1) t := (partsF_S (by omega)).symm
  rw [h1, h2]
  unfold partsF
  rw [h]

theorem partsS_nil {s : List UInt8} (h : trimS s = []) : partsS s = [] := by unfold partsS partsF; rw [h]
theorem partsS_note {s r : List UInt8} (h : trimS s = 35 :: r) : partsS s = [] := by unfold partsS partsF; rw [h]; simp
theorem partsS_cons {s r : List UInt8} {c : UInt8} (h : trimS s = c :: r) (hc : c ≠ 35) : partsS s =
    if (cutP (c :: r)).1.2.2 = true ∨ overS ((c :: r).drop (cutP (c :: r)).2) = false then [((cutP (c :: r)).1.1, (cutP (c :: r)).1.2.1, true)] else (cutP (c :: r)).1 :: partsS ((c :: r).drop (cutP (c :: r)).2) := by
  have ht := trimS_le s
  rw [h] at ht
  conv => lhs; unfold partsS partsF
  rw [h]
  simp only [hc, if_false]
  split
  · rfl
  · rename_i hb
    simp only [not_or, Bool.not_eq_true, Bool.not_eq_false] at hb
    have hp := cutP_pos hb.1
    simp only [List.length_cons] at ht
    rw [partsF_S (by simp only [List.length_drop, List.length_cons]; omega)]

theorem trimS_blank (s : List UInt8) : trimS (32 :: s) = trimS s := by simp [trimS]
theorem trimS_other {c : UInt8} {s : List UInt8} (h : c ≠ 32) : trimS (c :: s) = c :: s := by
  have : (c == 32) = false := by simpa using h
  simp [trimS, this]
theorem trimS_head {s r : List UInt8} {c : UInt8} (h : trimS s = c :: r) : c ≠ 32 := by
  intro hc
  have := List.head?_dropWhile_not (fun x : UInt8 => x == 32) s
  unfold trimS at h
  rw [h] at this
  simp [hc] at this
theorem trimS_blanks (k : Nat) (s : List UInt8) : trimS (List.replicate k 32 ++ s) = trimS s := by
  induction k with
  | zero => simp
  | succ k ih => rw [List.replicate_succ, List.cons_append, trimS_blank, ih]
theorem trimS_app {s t : List UInt8} : trimS (s ++ t) = if trimS s = [] then trimS t else trimS s ++ t := by
  induction s with
  | nil => simp [trimS]
  | cons c s ih =>
    by_cases hc : c = 32
    · rw [hc, List.cons_append, trimS_blank, trimS_blank, ih]
    · rw [List.cons_append, trimS_other hc, trimS_other hc]; simp
theorem trimS_len {s : List UInt8} (h : s.head? = some 32) : (trimS s).length + 1 ≤ s.length := by
  cases s with
  | nil => simp at h
  | cons c s => simp at h; subst h; rw [trimS_blank]; have := trimS_le s; simp only [List.length_cons]; omega

/-- Behind a word. -/
theorem overS_of {u : List UInt8} (h : overS u = true) : u = [] ∨ ∃ r, u = 32 :: r ∨ u = 35 :: r := by
  cases u with
  | nil => exact .inl rfl
  | cons c r => simp [overS] at h; rcases h with rfl | rfl <;> exact .inr ⟨r, by simp⟩

theorem bareN_app {w u : List UInt8} (h : w.all bareC = true) (hu : overS u = true) : bareN (w ++ u) = w.length := by
  refine bareN_stop ?_ (by simp) (fun c hc => ?_)
  · rw [List.take_left]; exact h
  · rw [List.getElem?_append_right (Nat.le_refl _), Nat.sub_self] at hc
    rcases overS_of hu with rfl | ⟨r, rfl | rfl⟩
    · simp at hc
    · simp at hc; subst hc; decide
    · simp at hc; subst hc; decide

theorem bareN_more {w u : List UInt8} (hu : overS u = true) : bareN (w ++ u) = bareN w := by
  induction w with
  | nil =>
    rcases overS_of hu with rfl | ⟨r, rfl | rfl⟩
    · rfl
    · simp [bareN, List.takeWhile_cons]; decide
    · simp [bareN, List.takeWhile_cons]; decide
  | cons c w ih =>
    unfold bareN at ih ⊢
    rw [List.cons_append, List.takeWhile_cons, List.takeWhile_cons]
    split
    · simp only [List.length_cons]; rw [ih]
    · rfl

theorem unq_more : ∀ (n : Nat) {r : List UInt8} (u : List UInt8), r.length ≤ n → ∀ {p}, unq r = some p → unq (r ++ u) = some p
  | 0, r, u, hn, p, h => by
    have : r = [] := List.eq_nil_of_length_eq_zero (by omega)
    subst this; simp [unq] at h
  | n + 1, [], u, _, p, h => by simp [unq] at h
  | n + 1, c :: r, u, hn, p, h => by
    simp only [List.length_cons] at hn
    by_cases h34 : c = 34
    · subst h34
      unfold unq at h ⊢
      simpa using h
    · by_cases h92 : c = 92
      · subst h92
        cases r with
        | nil => unfold unq at h; simp at h
        | cons d r =>
          simp only [List.length_cons] at hn
          rw [List.cons_append, List.cons_append]
          by_cases hd : d = 34 ∨ d = 92
          · rw [unq_esc hd] at h ⊢
            obtain ⟨q, hq, rfl⟩ := Option.map_eq_some_iff.1 h
            rw [unq_more n u (by omega) hq]; rfl
          · by_cases hd2 : d = 110
            · rw [unq_n hd2] at h ⊢
              obtain ⟨q, hq, rfl⟩ := Option.map_eq_some_iff.1 h
              rw [unq_more n u (by omega) hq]; rfl
            · rw [unq_bad (fun e => hd (.inl e)) (fun e => hd (.inr e)) hd2] at h; cases h
      · rw [List.cons_append, unq_else h34 h92]
        rw [unq_else h34 h92] at h
        obtain ⟨q, hq, rfl⟩ := Option.map_eq_some_iff.1 h
        rw [unq_more n u (by omega) hq]; rfl

theorem cutP_more {c : UInt8} {r u : List UInt8} (hu : overS u = true) (h : (cutP (c :: r)).1.2.2 = false) : cutP (c :: (r ++ u)) = cutP (c :: r) := by
  unfold cutP at h ⊢
  by_cases hc : c = 34
  · simp only [hc, if_true] at h ⊢
    cases hq : unq r with
    | none => rw [hq] at h; simp at h
    | some p => rw [unq_more _ u (Nat.le_refl _) hq]
  · simp only [hc, if_false] at h ⊢
    rw [show c :: (r ++ u) = (c :: r) ++ u from rfl, bareN_more hu]
    rw [List.take_append_of_le_length (bareN_le _)]

theorem cutP_le {c : UInt8} {r : List UInt8} : (cutP (c :: r)).2 ≤ (c :: r).length := by
  unfold cutP
  by_cases hc : c = 34
  · simp only [hc, if_true]
    cases hq : unq r with
    | none => simp
    | some p => have := unq_len _ (Nat.le_refl _) hq; simp only [List.length_cons]; omega
  · simp only [hc, if_false]; exact bareN_le _

def good (ps : List Part) : Bool := ps.all fun p => !p.2.2

/-- What stands behind a line, and is no word, changes nothing. -/
theorem parts_app : ∀ (n : Nat) (x u : List UInt8), x.length ≤ n → overS u = true → partsS u = [] → good (partsS x) = true → partsS (x ++ u) = partsS x := by
  intro n
  induction n with
  | zero =>
    intro x u hn hu hp _
    have : x = [] := List.eq_nil_of_length_eq_zero (by omega)
    subst this
    rw [List.nil_append, hp]; rfl
  | succ n ih =>
    intro x u hn hu hp hg
    cases hx : trimS x with
    | nil =>
      have : trimS (x ++ u) = trimS u := by rw [trimS_app, hx]; simp
      rw [partsS_trim this, hp, partsS_nil hx]
    | cons c r =>
      have hxu : trimS (x ++ u) = c :: (r ++ u) := by rw [trimS_app, hx]; simp
      by_cases hc : c = 35
      · subst hc; rw [partsS_note hxu, partsS_note hx]
      · rw [partsS_cons hx hc] at hg ⊢
        rw [partsS_cons hxu hc]
        split at hg
        · simp [good] at hg
        · rename_i hb
          simp only [not_or, Bool.not_eq_true, Bool.not_eq_false] at hb
          have hle := cutP_le (c := c) (r := r)
          have hpos := cutP_pos hb.1
          have htl := trimS_le x
          rw [hx] at htl
          simp only [List.length_cons] at htl hle
          have hdrop : (c :: (r ++ u)).drop (cutP (c :: r)).2 = (c :: r).drop (cutP (c :: r)).2 ++ u := by
            rw [show c :: (r ++ u) = (c :: r) ++ u from rfl, List.drop_append_of_le_length (by simpa using hle)]
          rw [cutP_more hu hb.1, hdrop]
          have hov : overS ((c :: r).drop (cutP (c :: r)).2 ++ u) = true := by
            cases hd : (c :: r).drop (cutP (c :: r)).2 with
            | nil => rw [List.nil_append]; exact hu
            | cons d r' => rw [hd] at hb; exact hb.2
          rw [if_neg (by simp [hb.1, hov]), if_neg (by simp [hb.1, hb.2])]
          congr 1
          refine ih _ _ ?_ hu hp ?_
          · simp only [List.length_drop, List.length_cons]; omega
          · simp only [good, List.all_cons, Bool.and_eq_true] at hg; exact hg.2

/-- A word's text, of which the word is cut: where it begins. -/
theorem parts_word {q u : List UInt8} {w : List UInt8} {b : Bool} (h : ∀ u, overS u = true → cutP (q ++ u) = ((w, b, false), q.length)) (hq : q ≠ []) (h32 : q.head? ≠ some 32) (h35 : q.head? ≠ some 35) (k : Nat) (hu : overS u = true) : partsS (List.replicate k 32 ++ (q ++ u)) = (w, b, false) :: partsS u := by
  cases q with
  | nil => exact absurd rfl hq
  | cons c r =>
    simp only [List.head?_cons, ne_eq, Option.some.injEq] at h32 h35
    have ht : trimS (List.replicate k 32 ++ (c :: r ++ u)) = c :: (r ++ u) := by rw [trimS_blanks, List.cons_append, trimS_other h32]
    have hc := h u hu
    rw [List.cons_append] at hc
    rw [partsS_cons ht h35, hc]
    have hd : (c :: (r ++ u)).drop (c :: r).length = u := by rw [show c :: (r ++ u) = (c :: r) ++ u from rfl, List.drop_left]
    simp only [hd, hu]
    simp

theorem unq_escs : ∀ (w u : List UInt8), unq (w.flatMap esc ++ 34 :: u) = some (w, (w.flatMap esc).length + 1)
  | [], u => by show unq (34 :: u) = _; unfold unq; simp
  | c :: w, u => by
    have ih := unq_escs w u
    simp only [List.flatMap_cons, List.append_assoc]
    by_cases h1 : c = 34 ∨ c = 92
    · have he : esc c = [92, c] := by simp [esc, h1]
      rw [he]
      simp only [List.cons_append, List.nil_append]
      rw [unq_esc h1, ih]
      simp only [Option.map_some, List.length_cons]
    · by_cases h2 : c = 10
      · have he : esc c = [92, 110] := by simp [esc, h2]
        rw [he]
        simp only [List.cons_append, List.nil_append]
        rw [unq_n rfl, ih]
        simp only [Option.map_some, List.length_cons, h2]
      · have he : esc c = [c] := by simp [esc, h1, h2]
        rw [he]
        simp only [List.cons_append, List.nil_append]
        rw [unq_else (fun e => h1 (.inl e)) (fun e => h1 (.inr e)), ih]
        simp only [Option.map_some, List.length_cons]

theorem cut_quoted (w u : List UInt8) : cutP ((34 :: w.flatMap esc ++ [34]) ++ u) = ((w, false, false), (34 :: w.flatMap esc ++ [34]).length) := by
  have : (34 :: w.flatMap esc ++ [34]) ++ u = 34 :: (w.flatMap esc ++ 34 :: u) := by simp
  rw [this]
  unfold cutP
  simp only [if_true]
  rw [unq_escs]
  simp

theorem bareC_ne {c : UInt8} (h : bareC c = true) : c ≠ 34 ∧ c ≠ 32 ∧ c ≠ 35 ∧ c ≠ 10 := by
  have := bareC_of.1 h
  refine ⟨?_, ?_, ?_, ?_⟩ <;> (rintro rfl; simp at this)

theorem cut_bare {w u : List UInt8} (h : bareW w = true) (hu : overS u = true) : cutP (w ++ u) = ((w, true, false), w.length) := by
  simp only [bareW, Bool.and_eq_true, decide_eq_true_eq] at h
  cases w with
  | nil => simp at h
  | cons c r =>
    have hc := bareC_ne (List.all_eq_true.1 h.1 c (by simp))
    have hn := bareN_app h.1 hu
    unfold cutP
    rw [List.cons_append] at hn ⊢
    simp only [hc.1, if_false, hn]
    rw [show c :: (r ++ u) = (c :: r) ++ u from rfl, List.take_left]
    simp

theorem cut_word {w u : List UInt8} (hu : overS u = true) : cutP (wordT w ++ u) = ((w, bareW w, false), (wordT w).length) := by
  unfold wordT
  split
  · rename_i h; rw [cut_bare h hu, h]
  · rename_i h; rw [cut_quoted]; simp [Bool.not_eq_true] at h; rw [h]

theorem wordT_head (w : List UInt8) : (wordT w).head? ≠ some 32 ∧ (wordT w).head? ≠ some 35 := by
  unfold wordT
  split
  · rename_i h
    simp only [bareW, Bool.and_eq_true, decide_eq_true_eq] at h
    cases w with
    | nil => simp at h
    | cons c r =>
      have hc := bareC_ne (List.all_eq_true.1 h.1 c (by simp))
      simp [hc.2.1, hc.2.2.1]
  · simp

end Go.Proofs.YtdlogfbbcbbllaaDoor

namespace Go.Proofs.YtdlogfbbcbbllaaDoor
open Go Go.Am

theorem lineP_S (s : List UInt8) : lineP s = if 20000 < s.length then (([], []), false, 2) else partsR (partsS s) := rfl

theorem okParts_good {ps : List Part} (h : okParts ps = true) : good ps = true := by
  cases ps with
  | nil => rfl
  | cons p ps =>
    simp only [okParts, Bool.and_eq_true] at h
    simp only [good, List.all_cons, Bool.and_eq_true]
    refine ⟨?_, ?_⟩
    · have := h.1; simp only [okPart, Bool.and_eq_true] at this; exact this.1
    · rw [List.all_eq_true] at h ⊢
      intro q hq
      have := h.2 q hq; simp only [okPart, Bool.and_eq_true] at this; exact this.1

/-- What a line that is right is. -/
theorem okL_cases {x : List UInt8} (h : okL x = true) : x.length ≤ 20000 ∧ good (partsS x) = true ∧ ((partsS x = [] ∧ lineP x = (([], []), false, 0)) ∨ ∃ l, rightL l = true ∧ lineP x = (l, true, 0) ∧ ∃ p qs, partsS x = p :: qs ∧ okParts (p :: qs) = true ∧ l = (p.1, qs.map (·.1))) := by
  simp only [okL, decide_eq_true_eq] at h
  rw [lineP_S] at h ⊢
  by_cases hl : 20000 < x.length
  · rw [if_pos hl] at h; simp at h
  · rw [if_neg hl] at h ⊢
    unfold partsR at h ⊢
    by_cases ho : okParts (partsS x) = true
    · rw [if_pos ho] at h ⊢
      refine ⟨by omega, okParts_good ho, ?_⟩
      cases hp : partsS x with
      | nil => exact .inl ⟨rfl, rfl⟩
      | cons p qs =>
        rw [hp] at h ho
        simp only at h ⊢
        by_cases hr : rightL (p.1, qs.map (·.1)) = true
        · rw [if_pos hr]; exact .inr ⟨_, hr, rfl, p, qs, rfl, ho, rfl⟩
        · rw [if_neg hr] at h; simp at h
    · rw [if_neg ho] at h; simp at h

theorem lineP_app {x u : List UInt8} (h : okL x = true) (hu : overS u = true) (hp : partsS u = []) (hl : (x ++ u).length ≤ 20000) : lineP (x ++ u) = lineP x := by
  obtain ⟨h1, h2, _⟩ := okL_cases h
  rw [lineP_S, lineP_S, parts_app _ x u (Nat.le_refl _) hu hp h2, if_neg (by omega), if_neg (by omega)]

theorem verb_bare {v : List UInt8} (h : verbOk v = true) : bareW v = true := by
  simp only [verbOk, Bool.and_eq_true, decide_eq_true_eq] at h
  simp only [bareW, Bool.and_eq_true, decide_eq_true_eq]
  refine ⟨?_, by omega⟩
  rw [List.all_eq_true] at h ⊢
  intro c hc
  have := h.2 c hc
  simp only [Bool.and_eq_true, decide_eq_true_eq] at this
  exact bareC_of.2 (by omega)

theorem overS_words (ws : List (List UInt8)) : overS (wordsT ws) = true := by
  cases ws with
  | nil => rfl
  | cons w ws => simp [wordsT, overS]

def partW (w : List UInt8) : Part := (w, bareW w, false)

theorem parts_words : ∀ ws : List (List UInt8), partsS (wordsT ws) = ws.map partW
  | [] => rfl
  | w :: ws => by
    have h := parts_word (q := wordT w) (w := w) (b := bareW w) (u := wordsT ws) (fun u hu => cut_word hu) (wordT_ne w) (wordT_head w).1 (wordT_head w).2 1 (overS_words ws)
    rw [show wordsT (w :: ws) = List.replicate 1 32 ++ (wordT w ++ wordsT ws) from by simp [wordsT], h, parts_words ws]
    rfl

theorem bare_head {v : List UInt8} (h : bareW v = true) : v ≠ [] ∧ v.head? ≠ some 32 ∧ v.head? ≠ some 35 := by
  simp only [bareW, Bool.and_eq_true, decide_eq_true_eq] at h
  cases v with
  | nil => simp at h
  | cons c r =>
    have hc := bareC_ne (List.all_eq_true.1 h.1 c (by simp))
    simp [hc.2.1, hc.2.2.1]

theorem parts_line {l : Line} (h : verbOk l.1 = true) : partsS (lineT l) = (l.1, true, false) :: l.2.map partW := by
  have hb := verb_bare h
  obtain ⟨h1, h2, h3⟩ := bare_head hb
  have := parts_word (q := l.1) (w := l.1) (b := true) (u := wordsT l.2) (fun u hu => cut_bare hb hu) h1 h2 h3 0 (overS_words l.2)
  rw [List.replicate_zero, List.nil_append] at this
  rw [lineT, this, parts_words]

theorem partsR_ok {l : Line} {qs : List Part} (hr : rightL l = true) (hq : qs.map (·.1) = l.2) (hg : ∀ q ∈ qs, q.2.2 = false) : partsR ((l.1, true, false) :: qs) = (l, true, 0) := by
  have hv : verbOk l.1 = true := by simp only [rightL, Bool.and_eq_true] at hr; exact hr.1.1
  have ho : okParts ((l.1, true, false) :: qs) = true := by
    simp only [okParts, okPart, Bool.and_eq_true, List.all_eq_true]
    refine ⟨by simp [hv], fun q hq => by simp [hg q hq]⟩
  unfold partsR
  rw [if_pos ho]
  simp only
  rw [hq, if_pos hr]

/-- A line's text is read as the line. -/
theorem lineP_text {l : Line} (hr : rightL l = true) : lineP (lineT l) = (l, true, 0) := by
  have hr' := hr
  simp only [rightL, Bool.and_eq_true, decide_eq_true_eq] at hr'
  rw [lineP_S, if_neg (by omega), parts_line hr'.1.1]
  refine partsR_ok hr ?_ ?_
  · rw [List.map_map]; exact List.map_id l.2
  · intro q hq; obtain ⟨w, _, rfl⟩ := List.mem_map.1 hq; rfl

/-! Line feeds. -/
theorem escs_lf (w : List UInt8) : 10 ∉ w.flatMap esc := by
  intro h
  obtain ⟨c, _, hc⟩ := List.mem_flatMap.1 h
  unfold esc at hc
  split at hc
  · rename_i h1; simp at hc; subst hc; simp at h1
  · split at hc
    · simp at hc
    · rename_i h2; simp at hc; exact h2 hc.symm
theorem wordT_lf (w : List UInt8) : 10 ∉ wordT w := by
  unfold wordT
  split
  · rename_i h
    simp only [bareW, Bool.and_eq_true] at h
    intro hm
    exact (bareC_ne (List.all_eq_true.1 h.1 10 hm)).2.2.2 rfl
  · intro h
    simp only [List.mem_append, List.mem_cons, List.not_mem_nil, or_false] at h
    rcases h with (h | h) | h
    · simp at h
    · exact escs_lf w h
    · simp at h
theorem lineT_lf {l : Line} (h : verbOk l.1 = true) : 10 ∉ lineT l := by
  have hb := verb_bare h
  simp only [bareW, Bool.and_eq_true] at hb
  intro hm
  rcases List.mem_append.1 hm with hm | hm
  · exact (bareC_ne (List.all_eq_true.1 hb.1 10 hm)).2.2.2 rfl
  · obtain ⟨w, _, hw⟩ := List.mem_flatMap.1 hm
    rcases List.mem_cons.1 hw with hw | hw
    · simp at hw
    · exact wordT_lf w hw

theorem splitB_none : ∀ {s : List UInt8}, 10 ∉ s → splitB s = [s]
  | [], _ => rfl
  | b :: l, h => by
    simp only [List.mem_cons, not_or] at h
    rw [splitB_cons, if_neg (fun e => h.1 e.symm), splitB_none h.2]
theorem splitB_join : ∀ (a b : List UInt8), splitB (a ++ 10 :: b) = splitB a ++ splitB b
  | [], b => by rw [List.nil_append, splitB_cons]; simp [splitB]
  | c :: a, b => by
    rw [List.cons_append, splitB_cons, splitB_cons, splitB_join a b]
    by_cases hc : c = 10
    · simp [hc]
    · simp only [hc, if_false]
      have := splitB_ne a
      cases hs : splitB a with
      | nil => exact absurd hs this
      | cons x xs => rfl
theorem splitB_lf : ∀ (s : List UInt8), ∀ x ∈ splitB s, 10 ∉ x
  | [], x, h => by simp [splitB] at h; simp [h]
  | b :: l, x, h => by
    have ih := splitB_lf l
    rw [splitB_cons] at h
    split at h
    · rcases List.mem_cons.1 h with rfl | h
      · simp
      · exact ih x h
    · rename_i hb
      split at h
      · simp at h; subst h; simp; exact fun e => hb e.symm
      · rename_i y ys hy
        rcases List.mem_cons.1 h with rfl | h
        · simp only [List.mem_cons, not_or]
          exact ⟨fun e => hb e.symm, ih y (by rw [hy]; simp)⟩
        · exact ih x (by rw [hy]; simp [h])
/-- Behind a text stands something without line feeds: it stands behind its last line. -/
theorem splitB_last : ∀ (s t : List UInt8), 10 ∉ t → ∃ xs x, splitB s = xs ++ [x] ∧ splitB (s ++ t) = xs ++ [x ++ t]
  | [], t, h => ⟨[], [], rfl, by rw [List.nil_append, splitB_none h]; rfl⟩
  | b :: l, t, h => by
    obtain ⟨xs, x, h1, h2⟩ := splitB_last l t h
    rw [List.cons_append, splitB_cons, splitB_cons, h1, h2]
    by_cases hb : b = 10
    · exact ⟨[] :: xs, x, by simp [hb], by simp [hb]⟩
    · simp only [hb, if_false]
      cases xs with
      | nil => exact ⟨[], b :: x, rfl, rfl⟩
      | cons y ys => exact ⟨(b :: y) :: ys, x, rfl, rfl⟩

/-! All lines. -/
theorem readFrom_app : ∀ {a b : List (List UInt8)} {n : Nat}, a.all okL = true → readFrom n (a ++ b) = readFrom (n + a.length) b
  | [], b, n, _ => by simp
  | x :: a, b, n, h => by
    simp only [List.all_cons, Bool.and_eq_true] at h
    simp only [List.cons_append, readFrom, h.1, if_true, List.length_cons]
    rw [readFrom_app h.2]; congr 1; omega
theorem readFrom_none : ∀ {a : List (List UInt8)} {n : Nat}, readFrom n a = none ↔ a.all okL = true
  | [], n => by simp [readFrom]
  | x :: a, n => by
    simp only [readFrom, List.all_cons, Bool.and_eq_true]
    by_cases h : okL x = true
    · simp only [h, if_true, true_and]; exact readFrom_none
    · simp [h]
theorem readFrom_err : ∀ {a : List (List UInt8)} {n m : Nat} {e : Int}, readFrom n a = some (m, e) → e ≠ 0 ∧ n < m ∧ m ≤ n + a.length
  | [], n, m, e, h => by simp [readFrom] at h
  | x :: a, n, m, e, h => by
    simp only [readFrom] at h
    split at h
    · have := readFrom_err h; simp only [List.length_cons]; omega
    · rename_i hx
      simp only [Option.some.injEq, Prod.mk.injEq] at h
      obtain ⟨rfl, rfl⟩ := h
      simp only [okL, decide_eq_true_eq] at hx
      refine ⟨hx, by omega, by simp⟩
theorem readFrom_first : ∀ {a b : List (List UInt8)} {n m : Nat} {e : Int}, readFrom n a = some (m, e) → readFrom n (a ++ b) = some (m, e)
  | [], b, n, m, e, h => by simp [readFrom] at h
  | x :: a, b, n, m, e, h => by
    simp only [List.cons_append, readFrom] at h ⊢
    split at h
    · rename_i hx; rw [if_pos hx]; exact readFrom_first h
    · rename_i hx; rw [if_neg hx]; exact h
theorem linesOf_app (a b : List (List UInt8)) : linesOf (a ++ b) = linesOf a ++ linesOf b := List.filterMap_append

/-- A text that is read right. -/
theorem readB_ok {s : List UInt8} (h : (splitB s).all okL = true) : readB s = (linesOf (splitB s), 0, 0) := by
  unfold readB; rw [readFrom_none.2 h]
theorem readB_e0 {s : List UInt8} : (readB s).2.2 = 0 ↔ (splitB s).all okL = true := by
  constructor
  · intro h
    unfold readB at h
    cases hr : readFrom 0 (splitB s) with
    | none => exact readFrom_none.1 hr
    | some p => rw [hr] at h; exact absurd h (readFrom_err hr).1
  · intro h; rw [readB_ok h]
theorem readB_bad {s : List UInt8} (h : (readB s).2.2 ≠ 0) : ∃ n e, readFrom 0 (splitB s) = some (n, e) ∧ readB s = ([], n, e) := by
  cases hr : readFrom 0 (splitB s) with
  | none => rw [readB_ok (readFrom_none.1 hr)] at h; exact absurd rfl h
  | some p => exact ⟨p.1, p.2, rfl, by unfold readB; rw [hr]⟩

theorem linesOf_right {a : List (List UInt8)} (h : a.all okL = true) : (linesOf a).all rightL = true := by
  rw [List.all_eq_true]
  intro l hl
  obtain ⟨x, hx, hxl⟩ := List.mem_filterMap.1 hl
  obtain ⟨_, _, h3⟩ := okL_cases (List.all_eq_true.1 h x hx)
  rcases h3 with ⟨_, e⟩ | ⟨l', hr, e, _⟩
  · rw [e] at hxl; simp at hxl
  · rw [e] at hxl; simp at hxl; rw [← hxl]; exact hr

/-- The text of lines is read as these lines. -/
theorem splitB_text' : ∀ {ls : List Line}, ls.all rightL = true → splitB (linesT ls) = ls.map lineT ++ [[]]
  | [], _ => rfl
  | l :: ls, h => by
    simp only [List.all_cons, Bool.and_eq_true] at h
    have hv : verbOk l.1 = true := by have := h.1; simp only [rightL, Bool.and_eq_true] at this; exact this.1.1
    rw [show linesT (l :: ls) = lineT l ++ 10 :: linesT ls from by simp [linesT], splitB_join, splitB_none (lineT_lf hv), splitB_text' h.2]
    rfl
theorem okL_text {l : Line} (h : rightL l = true) : okL (lineT l) = true := by simp [okL, lineP_text h]
theorem okL_nil : okL [] = true := by decide +kernel
theorem linesOf_nil : linesOf [[]] = [] := by decide +kernel
theorem readB_text {ls : List Line} (h : ls.all rightL = true) : readB (linesT ls) = (ls, 0, 0) := by
  have h1 : (splitB (linesT ls)).all okL = true := by
    rw [splitB_text' h, List.all_append, Bool.and_eq_true]
    refine ⟨?_, by simp [okL_nil]⟩
    rw [List.all_eq_true] at h ⊢
    intro x hx
    obtain ⟨l, hl, rfl⟩ := List.mem_map.1 hx
    exact okL_text (h l hl)
  rw [readB_ok h1, splitB_text' h, linesOf_app, linesOf_nil, List.append_nil]
  have : linesOf (ls.map lineT) = ls := by
    clear h1
    induction ls with
    | nil => rfl
    | cons l ls ih =>
      simp only [List.all_cons, Bool.and_eq_true] at h
      have e := lineP_text h.1
      unfold linesOf at ih ⊢
      rw [List.map_cons, List.filterMap_cons, e]
      simp only [if_true]
      rw [ih h.2]
  rw [this]

end Go.Proofs.YtdlogfbbcbbllaaDoor

namespace Go.Proofs.YtdlogfbbcbbllaaDoor
open Go Go.Am

theorem esc_one {c : UInt8} (h : c ≠ 10) (h1 : c ≠ 34) (h2 : c ≠ 92) : (esc c).length = 1 := by simp [esc, h, h1, h2]

theorem unq_long : ∀ (n : Nat) {r : List UInt8}, r.length ≤ n → 10 ∉ r → ∀ {p}, unq r = some p → (p.1.flatMap esc).length + 1 ≤ p.2 ∧ p.1.length + 1 ≤ p.2
  | 0, r, hn, _, p, h => by
    have : r = [] := List.eq_nil_of_length_eq_zero (by omega)
    subst this; simp [unq] at h
  | n + 1, [], _, _, p, h => by simp [unq] at h
  | n + 1, c :: r, hn, hl, p, h => by
    simp only [List.length_cons] at hn
    simp only [List.mem_cons, not_or] at hl
    by_cases h34 : c = 34
    · subst h34
      unfold unq at h
      simp only [if_true, Option.some.injEq] at h
      subst h; simp
    · by_cases h92 : c = 92
      · subst h92
        cases r with
        | nil => unfold unq at h; simp at h
        | cons d r =>
          simp only [List.length_cons] at hn
          simp only [List.mem_cons, not_or] at hl
          by_cases hd : d = 34 ∨ d = 92
          · rw [unq_esc hd] at h
            obtain ⟨q, hq, rfl⟩ := Option.map_eq_some_iff.1 h
            have := unq_long n (by omega) hl.2.2 hq
            have := esc_le d
            simp only [List.flatMap_cons, List.length_append, List.length_cons]; omega
          · by_cases hd2 : d = 110
            · rw [unq_n hd2] at h
              obtain ⟨q, hq, rfl⟩ := Option.map_eq_some_iff.1 h
              have := unq_long n (by omega) hl.2.2 hq
              have := esc_le 10
              simp only [List.flatMap_cons, List.length_append, List.length_cons]; omega
            · rw [unq_bad (fun e => hd (.inl e)) (fun e => hd (.inr e)) hd2] at h; cases h
      · rw [unq_else h34 h92] at h
        obtain ⟨q, hq, rfl⟩ := Option.map_eq_some_iff.1 h
        have := unq_long n (by omega) hl.2 hq
        have := esc_one (fun e => hl.1 e.symm) h34 h92
        simp only [List.flatMap_cons, List.length_append, List.length_cons]; omega

theorem cutP_long {c : UInt8} {r : List UInt8} (hl : 10 ∉ c :: r) (h : (cutP (c :: r)).1.2.2 = false) : (wordT (cutP (c :: r)).1.1).length ≤ (cutP (c :: r)).2 := by
  unfold cutP at h ⊢
  by_cases hc : c = 34
  · simp only [hc, if_true] at h ⊢
    cases hq : unq r with
    | none => rw [hq] at h; simp at h
    | some p =>
      have := unq_long _ (Nat.le_refl _) (fun hm => hl (by simp [hm])) hq
      simp only
      unfold wordT
      split
      · omega
      · simp only [List.length_append, List.length_cons, List.length_nil]; omega
  · simp only [hc, if_false] at h ⊢
    simp only [decide_eq_false_iff_not] at h
    have hb : bareW ((c :: r).take (bareN (c :: r))) = true := by
      simp only [bareW, Bool.and_eq_true, decide_eq_true_eq]
      have hle := bareN_le (c :: r)
      refine ⟨?_, by simp only [List.length_take]; omega⟩
      have : (c :: r).take (bareN (c :: r)) = (c :: r).takeWhile bareC := by
        unfold bareN
        exact (List.prefix_iff_eq_take.1 (List.takeWhile_prefix bareC)).symm
      rw [this]
      exact List.all_takeWhile
    unfold wordT
    rw [if_pos hb]
    simp only [List.length_take]; omega

def need (ps : List Part) : Nat := (ps.map fun p => (wordT p.1).length + 1).sum

theorem need_le : ∀ (n : Nat) (s : List UInt8), s.length ≤ n → 10 ∉ s → good (partsS s) = true → need (partsS s) ≤ s.length + 1 ∧ (overS s = true → need (partsS s) ≤ s.length) := by
  intro n
  induction n with
  | zero =>
    intro s hn _ _
    have : s = [] := List.eq_nil_of_length_eq_zero (by omega)
    subst this
    exact ⟨by decide +kernel, fun _ => by decide +kernel⟩
  | succ n ih =>
    intro s hn hl hg
    cases hx : trimS s with
    | nil => rw [partsS_nil hx]; simp [need]
    | cons c r =>
      by_cases hc : c = 35
      · subst hc; rw [partsS_note hx]; simp [need]
      · have hsub : ∀ b ∈ c :: r, b ∈ s := fun b hb => by
          have hs : c :: r <:+ s := by rw [← hx]; exact List.dropWhile_suffix _
          exact hs.subset hb
        have htl := trimS_le s
        rw [hx] at htl
        rw [partsS_cons hx hc] at hg ⊢
        split at hg
        · simp [good] at hg
        · rename_i hb
          rw [if_neg hb]
          simp only [not_or, Bool.not_eq_true, Bool.not_eq_false] at hb
          have hle := cutP_le (c := c) (r := r)
          have hpos := cutP_pos hb.1
          have hlong := cutP_long (fun hm => hl (hsub _ hm)) hb.1
          simp only [good, List.all_cons, Bool.and_eq_true] at hg
          simp only [List.length_cons] at htl hle
          have hr := (ih ((c :: r).drop (cutP (c :: r)).2) (by simp only [List.length_drop, List.length_cons]; omega) (fun hm => hl (hsub _ (List.mem_of_mem_drop hm))) hg.2).2 hb.2
          simp only [List.length_drop, List.length_cons] at hr
          have e : need ((cutP (c :: r)).1 :: partsS ((c :: r).drop (cutP (c :: r)).2)) = (wordT (cutP (c :: r)).1.1).length + 1 + need (partsS ((c :: r).drop (cutP (c :: r)).2)) := by simp [need]
          rw [e]
          refine ⟨by omega, fun ho => ?_⟩
          rcases overS_of ho with rfl | ⟨r', rfl | rfl⟩
          · simp [trimS] at hx
          · have := trimS_len (s := 32 :: r') rfl
            rw [hx] at this
            simp only [List.length_cons] at this ⊢; omega
          · rw [trimS_other (by decide)] at hx
            exact absurd (List.cons.inj hx).1.symm hc

theorem wordsT_need (qs : List Part) : (wordsT (qs.map (·.1))).length = need qs := by
  induction qs with
  | nil => rfl
  | cons q qs ih =>
    unfold wordsT need at *
    simp only [List.map_cons, List.flatMap_cons, List.length_append, List.length_cons, List.sum_cons, ih]

/-- A line's text is as long as the line at most. -/
theorem lineT_short {x : List UInt8} {l : Line} (h : okL x = true) (hl : 10 ∉ x) (he : lineP x = (l, true, 0)) : (lineT l).length ≤ x.length := by
  obtain ⟨_, hg, h3⟩ := okL_cases h
  rcases h3 with ⟨_, e⟩ | ⟨l', hr, e, p, qs, hp, ho, rfl⟩
  · rw [e] at he; simp at he
  · rw [e] at he
    simp only [Prod.mk.injEq, and_true] at he
    subst he
    have hn := (need_le _ x (Nat.le_refl _) hl hg).1
    rw [hp] at hn
    have hv : wordT p.1 = p.1 := by
      simp only [rightL, Bool.and_eq_true] at hr
      unfold wordT; rw [if_pos (verb_bare hr.1.1)]
    have e2 : need (p :: qs) = (wordT p.1).length + 1 + need qs := by simp [need]
    rw [e2, hv] at hn
    simp only [lineT, List.length_append, wordsT_need]
    omega

theorem linesT_len (ls : List Line) : (linesT ls).length = (ls.map fun l => (lineT l).length + 1).sum := by
  induction ls with
  | nil => rfl
  | cons l ls ih => unfold linesT at *; simp only [List.flatMap_cons, List.length_append, List.length_cons, List.length_nil, List.map_cons, List.sum_cons, ih]
theorem splitB_sum : ∀ s : List UInt8, ((splitB s).map fun x => x.length + 1).sum = s.length + 1
  | [] => rfl
  | b :: l => by
    have ih := splitB_sum l
    rw [splitB_cons]
    split
    · simp only [List.map_cons, List.sum_cons, ih, List.length_nil, List.length_cons]; omega
    · split
      · rename_i h; exact absurd h (splitB_ne l)
      · rename_i h; rw [h] at ih; simp only [List.map_cons, List.sum_cons, List.length_cons] at ih ⊢; omega

theorem linesT_short : ∀ {a : List (List UInt8)}, a.all okL = true → (∀ x ∈ a, 10 ∉ x) → (linesT (linesOf a)).length ≤ (a.map fun x => x.length + 1).sum
  | [], _, _ => by simp [linesOf, linesT]
  | x :: a, h, hl => by
    simp only [List.all_cons, Bool.and_eq_true] at h
    have ih := linesT_short h.2 (fun y hy => hl y (by simp [hy]))
    rw [linesT_len] at ih ⊢
    have e : linesOf (x :: a) = (if (lineP x).2.1 = true then [(lineP x).1] else []) ++ linesOf a := by
      unfold linesOf
      rw [List.filterMap_cons]
      by_cases hc : (lineP x).2.1 = true <;> simp [hc]
    rw [e, List.map_append, List.sum_append, List.map_cons, List.sum_cons]
    by_cases ht : (lineP x).2.1 = true
    · have he : lineP x = ((lineP x).1, true, 0) := by
        have h0 := h.1
        simp only [okL, decide_eq_true_eq] at h0
        rw [← ht, ← h0]
      have := lineT_short h.1 (hl x (by simp)) he
      simp only [ht, if_true, List.map_cons, List.map_nil, List.sum_cons, List.sum_nil]
      omega
    · simp only [ht, if_false, List.map_nil, List.sum_nil, Bool.false_eq_true]; omega

/-- The text of a text's lines is no longer, but for a line feed at its end. -/
theorem readB_short {s : List UInt8} (h : (splitB s).all okL = true) : (linesT (linesOf (splitB s))).length ≤ s.length + 1 := by
  rw [← splitB_sum]; exact linesT_short h (splitB_lf s)

end Go.Proofs.YtdlogfbbcbbllaaDoor

namespace Go.Proofs.YtdlogfbbcbbllaaDoor
open Go Go.Am

theorem right_bounds {l : Line} (h : rightL l = true) : l.1.length ≤ 20 ∧ l.2.length ≤ 100 ∧ ∀ w ∈ l.2, w.length ≤ 20000 := by
  simp only [rightL, verbOk, Bool.and_eq_true, decide_eq_true_eq] at h
  refine ⟨h.1.1.1.2, h.1.2, fun w hw => ?_⟩
  obtain ⟨k, hk⟩ := List.getElem?_of_mem hw
  have h1 := wordsT_pre l.2 (k + 1)
  rw [wordsT_take hk] at h1
  have h2 := wordT_ge w
  have h3 := h.2
  simp only [lineT, List.length_append, List.length_cons] at h1 h3
  omega
theorem few_right {ls : List Line} (h : ls.all rightL = true) (hn : ls.length ≤ 10000) : Few ls := by
  rw [List.all_eq_true] at h
  exact ⟨hn, fun l hl => by have := right_bounds (h l hl); omega, fun l hl => by have := right_bounds (h l hl); omega, fun l hl w hw => by have := (right_bounds (h l hl)).2.2 w hw; omega⟩

theorem readB_cases (s : List UInt8) : ((splitB s).all okL = true ∧ readB s = (linesOf (splitB s), 0, 0)) ∨ ∃ n e, e ≠ 0 ∧ 1 ≤ n ∧ n ≤ (splitB s).length ∧ readFrom 0 (splitB s) = some (n, e) ∧ readB s = ([], n, e) := by
  by_cases h : (splitB s).all okL = true
  · exact .inl ⟨h, readB_ok h⟩
  · obtain ⟨n, e, h1, h2⟩ := readB_bad (fun e => h (readB_e0.1 e))
    have := readFrom_err h1
    exact .inr ⟨n, e, this.1, by omega, by omega, h1, h2⟩

set_option maxHeartbeats 4000000 in
theorem ScriptBack_A (s : List UInt8) (hs : s.length ≤ 4000000000000000000) : PureR Tryd.prog 11 [sv s] (· = bv true) := by
  refine pure_of_wp Tt_ok mixed Tryd.func11 rfl (by rfl) [2] rfl (by kernel_rfl) (by simp [Tryd.ntmps11]) fun g => ?_
  simp (config := { maxSteps := 1000000 }) only [go_sem, ↓reduceIte, Nat.reduceEqDiff, Nat.reduceAdd, Nat.reduceMul, Nat.reduceSub, Nat.reduceLT, Nat.reduceLeDiff, Int.reduceLT, Int.reduceLE, Int.reduceEq, Int.reduceNe, Int.reduceAdd, Int.reduceNeg, Int.reduceToNat]
  refine hook_call rfl (by simp (config := { maxSteps := 1000000 }) only [go_sem, ↓reduceIte, Nat.reduceEqDiff, Nat.reduceAdd, Nat.reduceMul, Nat.reduceSub, Nat.reduceLT, Nat.reduceLeDiff, Int.reduceLT, Int.reduceLE, Int.reduceEq, Int.reduceNe, Int.reduceAdd, Int.reduceNeg, Int.reduceToNat]; exact alive_A) (by simp (config := { maxSteps := 1000000 }) only [go_sem, ↓reduceIte, Nat.reduceEqDiff, Nat.reduceAdd, Nat.reduceMul, Nat.reduceSub, Nat.reduceLT, Nat.reduceLeDiff, Int.reduceLT, Int.reduceLE, Int.reduceEq, Int.reduceNe, Int.reduceAdd, Int.reduceNeg, Int.reduceToNat]; rfl) ?_
  rintro _ rfl
  simp (config := { maxSteps := 1000000 }) only [go_sem, ↓reduceIte, Nat.reduceEqDiff, Nat.reduceAdd, Nat.reduceMul, Nat.reduceSub, Nat.reduceLT, Nat.reduceLeDiff, Int.reduceLT, Int.reduceLE, Int.reduceEq, Int.reduceNe, Int.reduceAdd, Int.reduceNeg, Int.reduceToNat]
  intro h6
  refine hook_call rfl (by simp (config := { maxSteps := 1000000 }) only [go_sem, ↓reduceIte, Nat.reduceEqDiff, Nat.reduceAdd, Nat.reduceMul, Nat.reduceSub, Nat.reduceLT, Nat.reduceLeDiff, Int.reduceLT, Int.reduceLE, Int.reduceEq, Int.reduceNe, Int.reduceAdd, Int.reduceNeg, Int.reduceToNat]; exact Read_A s (by omega)) (by simp (config := { maxSteps := 1000000 }) only [go_sem, ↓reduceIte, Nat.reduceEqDiff, Nat.reduceAdd, Nat.reduceMul, Nat.reduceSub, Nat.reduceLT, Nat.reduceLeDiff, Int.reduceLT, Int.reduceLE, Int.reduceEq, Int.reduceNe, Int.reduceAdd, Int.reduceNeg, Int.reduceToNat]; rfl) ?_
  rintro _ rfl
  rcases readB_cases s with ⟨hok, e⟩ | ⟨n, e, he, _, _, _, hr⟩
  · rw [e]
    have hr := linesOf_right hok
    have hl := linesOf_len (splitB s)
    have hl2 := splitB_len s
    have hsh := readB_short hok
    simp (config := { maxSteps := 1000000 }) only [go_sem, ↓reduceIte, Nat.reduceEqDiff, Nat.reduceAdd, Nat.reduceMul, Nat.reduceSub, Nat.reduceLT, Nat.reduceLeDiff, Int.reduceLT, Int.reduceLE, Int.reduceEq, Int.reduceNe, Int.reduceAdd, Int.reduceNeg, Int.reduceToNat, readRV]
    refine hook_call rfl (by simp (config := { maxSteps := 1000000 }) only [go_sem, ↓reduceIte, Nat.reduceEqDiff, Nat.reduceAdd, Nat.reduceMul, Nat.reduceSub, Nat.reduceLT, Nat.reduceLeDiff, Int.reduceLT, Int.reduceLE, Int.reduceEq, Int.reduceNe, Int.reduceAdd, Int.reduceNeg, Int.reduceToNat]; exact Text_A _ (few_right hr (by omega))) (by simp (config := { maxSteps := 1000000 }) only [go_sem, ↓reduceIte, Nat.reduceEqDiff, Nat.reduceAdd, Nat.reduceMul, Nat.reduceSub, Nat.reduceLT, Nat.reduceLeDiff, Int.reduceLT, Int.reduceLE, Int.reduceEq, Int.reduceNe, Int.reduceAdd, Int.reduceNeg, Int.reduceToNat]; rfl) ?_
    rintro _ rfl
    rw [if_pos hr]
    simp (config := { maxSteps := 1000000 }) only [go_sem, ↓reduceIte, Nat.reduceEqDiff, Nat.reduceAdd, Nat.reduceMul, Nat.reduceSub, Nat.reduceLT, Nat.reduceLeDiff, Int.reduceLT, Int.reduceLE, Int.reduceEq, Int.reduceNe, Int.reduceAdd, Int.reduceNeg, Int.reduceToNat, readRV]
    refine hook_call rfl (by simp (config := { maxSteps := 1000000 }) only [go_sem, ↓reduceIte, Nat.reduceEqDiff, Nat.reduceAdd, Nat.reduceMul, Nat.reduceSub, Nat.reduceLT, Nat.reduceLeDiff, Int.reduceLT, Int.reduceLE, Int.reduceEq, Int.reduceNe, Int.reduceAdd, Int.reduceNeg, Int.reduceToNat]; exact Read_A (linesT (linesOf (splitB s))) (by omega)) (by simp (config := { maxSteps := 1000000 }) only [go_sem, ↓reduceIte, Nat.reduceEqDiff, Nat.reduceAdd, Nat.reduceMul, Nat.reduceSub, Nat.reduceLT, Nat.reduceLeDiff, Int.reduceLT, Int.reduceLE, Int.reduceEq, Int.reduceNe, Int.reduceAdd, Int.reduceNeg, Int.reduceToNat]; rfl) ?_
    rintro _ rfl
    rw [readB_text hr]
    simp (config := { maxSteps := 1000000 }) only [go_sem, ↓reduceIte, Nat.reduceEqDiff, Nat.reduceAdd, Nat.reduceMul, Nat.reduceSub, Nat.reduceLT, Nat.reduceLeDiff, Int.reduceLT, Int.reduceLE, Int.reduceEq, Int.reduceNe, Int.reduceAdd, Int.reduceNeg, Int.reduceToNat, readRV]
    refine hook_call rfl (by simp (config := { maxSteps := 1000000 }) only [go_sem, ↓reduceIte, Nat.reduceEqDiff, Nat.reduceAdd, Nat.reduceMul, Nat.reduceSub, Nat.reduceLT, Nat.reduceLeDiff, Int.reduceLT, Int.reduceLE, Int.reduceEq, Int.reduceNe, Int.reduceAdd, Int.reduceNeg, Int.reduceToNat]; exact Same_A _ _ (by omega) (fun l hl => by have := right_bounds (List.all_eq_true.1 hr l hl); omega)) (by simp (config := { maxSteps := 1000000 }) only [go_sem, ↓reduceIte, Nat.reduceEqDiff, Nat.reduceAdd, Nat.reduceMul, Nat.reduceSub, Nat.reduceLT, Nat.reduceLeDiff, Int.reduceLT, Int.reduceLE, Int.reduceEq, Int.reduceNe, Int.reduceAdd, Int.reduceNeg, Int.reduceToNat]; rfl) ?_
    rintro _ rfl
    simp (config := { maxSteps := 1000000 }) only [go_sem, ↓reduceIte, Nat.reduceEqDiff, Nat.reduceAdd, Nat.reduceMul, Nat.reduceSub, Nat.reduceLT, Nat.reduceLeDiff, Int.reduceLT, Int.reduceLE, Int.reduceEq, Int.reduceNe, Int.reduceAdd, Int.reduceNeg, Int.reduceToNat]
  · rw [hr]
    simp (config := { maxSteps := 1000000 }) only [go_sem, ↓reduceIte, Nat.reduceEqDiff, Nat.reduceAdd, Nat.reduceMul, Nat.reduceSub, Nat.reduceLT, Nat.reduceLeDiff, Int.reduceLT, Int.reduceLE, Int.reduceEq, Int.reduceNe, Int.reduceAdd, Int.reduceNeg, Int.reduceToNat, readRV, he]
    simp (config := { maxSteps := 1000000 }) only [go_sem, ↓reduceIte, Nat.reduceEqDiff, Nat.reduceAdd, Nat.reduceMul, Nat.reduceSub, Nat.reduceLT, Nat.reduceLeDiff, Int.reduceLT, Int.reduceLE, Int.reduceEq, Int.reduceNe, Int.reduceAdd, Int.reduceNeg, Int.reduceToNat, linesD]

set_option maxHeartbeats 4000000 in
theorem ScriptShort_A (s : List UInt8) (hs : s.length ≤ 4000000000000000000) : PureR Tryd.prog 12 [sv s] (· = bv true) := by
  refine pure_of_wp Tt_ok mixed Tryd.func12 rfl (by rfl) [2] rfl (by kernel_rfl) (by simp [Tryd.ntmps12]) fun g => ?_
  simp (config := { maxSteps := 1000000 }) only [go_sem, ↓reduceIte, Nat.reduceEqDiff, Nat.reduceAdd, Nat.reduceMul, Nat.reduceSub, Nat.reduceLT, Nat.reduceLeDiff, Int.reduceLT, Int.reduceLE, Int.reduceEq, Int.reduceNe, Int.reduceAdd, Int.reduceNeg, Int.reduceToNat]
  refine hook_call rfl (by simp (config := { maxSteps := 1000000 }) only [go_sem, ↓reduceIte, Nat.reduceEqDiff, Nat.reduceAdd, Nat.reduceMul, Nat.reduceSub, Nat.reduceLT, Nat.reduceLeDiff, Int.reduceLT, Int.reduceLE, Int.reduceEq, Int.reduceNe, Int.reduceAdd, Int.reduceNeg, Int.reduceToNat]; exact alive_A) (by simp (config := { maxSteps := 1000000 }) only [go_sem, ↓reduceIte, Nat.reduceEqDiff, Nat.reduceAdd, Nat.reduceMul, Nat.reduceSub, Nat.reduceLT, Nat.reduceLeDiff, Int.reduceLT, Int.reduceLE, Int.reduceEq, Int.reduceNe, Int.reduceAdd, Int.reduceNeg, Int.reduceToNat]; rfl) ?_
  rintro _ rfl
  simp (config := { maxSteps := 1000000 }) only [go_sem, ↓reduceIte, Nat.reduceEqDiff, Nat.reduceAdd, Nat.reduceMul, Nat.reduceSub, Nat.reduceLT, Nat.reduceLeDiff, Int.reduceLT, Int.reduceLE, Int.reduceEq, Int.reduceNe, Int.reduceAdd, Int.reduceNeg, Int.reduceToNat]
  intro h6
  refine hook_call rfl (by simp (config := { maxSteps := 1000000 }) only [go_sem, ↓reduceIte, Nat.reduceEqDiff, Nat.reduceAdd, Nat.reduceMul, Nat.reduceSub, Nat.reduceLT, Nat.reduceLeDiff, Int.reduceLT, Int.reduceLE, Int.reduceEq, Int.reduceNe, Int.reduceAdd, Int.reduceNeg, Int.reduceToNat]; exact Read_A s (by omega)) (by simp (config := { maxSteps := 1000000 }) only [go_sem, ↓reduceIte, Nat.reduceEqDiff, Nat.reduceAdd, Nat.reduceMul, Nat.reduceSub, Nat.reduceLT, Nat.reduceLeDiff, Int.reduceLT, Int.reduceLE, Int.reduceEq, Int.reduceNe, Int.reduceAdd, Int.reduceNeg, Int.reduceToNat]; rfl) ?_
  rintro _ rfl
  rcases readB_cases s with ⟨hok, e⟩ | ⟨n, e, he, _, _, _, hr⟩
  · rw [e]
    have hr := linesOf_right hok
    have hl := linesOf_len (splitB s)
    have hl2 := splitB_len s
    have hsh := readB_short hok
    have hw := wrap_succ (k := s.length) (by omega)
    simp (config := { maxSteps := 1000000 }) only [go_sem, ↓reduceIte, Nat.reduceEqDiff, Nat.reduceAdd, Nat.reduceMul, Nat.reduceSub, Nat.reduceLT, Nat.reduceLeDiff, Int.reduceLT, Int.reduceLE, Int.reduceEq, Int.reduceNe, Int.reduceAdd, Int.reduceNeg, Int.reduceToNat, readRV]
    refine hook_call rfl (by simp (config := { maxSteps := 1000000 }) only [go_sem, ↓reduceIte, Nat.reduceEqDiff, Nat.reduceAdd, Nat.reduceMul, Nat.reduceSub, Nat.reduceLT, Nat.reduceLeDiff, Int.reduceLT, Int.reduceLE, Int.reduceEq, Int.reduceNe, Int.reduceAdd, Int.reduceNeg, Int.reduceToNat]; exact Text_A _ (few_right hr (by omega))) (by simp (config := { maxSteps := 1000000 }) only [go_sem, ↓reduceIte, Nat.reduceEqDiff, Nat.reduceAdd, Nat.reduceMul, Nat.reduceSub, Nat.reduceLT, Nat.reduceLeDiff, Int.reduceLT, Int.reduceLE, Int.reduceEq, Int.reduceNe, Int.reduceAdd, Int.reduceNeg, Int.reduceToNat]; rfl) ?_
    rintro _ rfl
    rw [if_pos hr]
    have hle : ((linesT (linesOf (splitB s))).length : Int) ≤ ((s.length + 1 : Nat) : Int) := by omega
    simp (config := { maxSteps := 1000000 }) only [go_sem, ↓reduceIte, Nat.reduceEqDiff, Nat.reduceAdd, Nat.reduceMul, Nat.reduceSub, Nat.reduceLT, Nat.reduceLeDiff, Int.reduceLT, Int.reduceLE, Int.reduceEq, Int.reduceNe, Int.reduceAdd, Int.reduceNeg, Int.reduceToNat, readRV, hw, hle]
  · rw [hr]
    simp (config := { maxSteps := 1000000 }) only [go_sem, ↓reduceIte, Nat.reduceEqDiff, Nat.reduceAdd, Nat.reduceMul, Nat.reduceSub, Nat.reduceLT, Nat.reduceLeDiff, Int.reduceLT, Int.reduceLE, Int.reduceEq, Int.reduceNe, Int.reduceAdd, Int.reduceNeg, Int.reduceToNat, readRV, he]

end Go.Proofs.YtdlogfbbcbbllaaDoor

namespace Go.Am
open Go.ChangeShapes Go.WideShapes Go.ChangeAt Go.RowKit
variable {H : Type} {enc : TypeId × Value → H}

theorem returns_of_law_laid {C : Checked} {os : Os} {f : FuncId} {fn : Func} {s : ChangeSpec} {conds : List PathCond} {laid : List (String × DataW Unit)} (own : ownKnob C.prog.godebug = none) (started : os.Started) (noInit : C.prog.inits.idxOf? f = none) (hfn : C.prog.funcs[f]? = some fn)
    (witness : ∃ (w : World) (tape : Tape) (i : Input), w.os = os ∧ (w.forCall tape i).Shaped C.prog ∧ i.vars = [] ∧ Input.okWide C.prog (w.forCall tape i) .any w.heap.size f i ∧
      ((s.pre enc C.prog fn conds false (w.forCall tape i).memory i.args ∧ laidMetH C.prog laid (w.forCall tape i).memory) ∧ sizedMet enc C.prog fn (OpenSpec.ofChange s) false (w.forCall tape i).memory i.args) ∧ Assume.holds {} C.prog (lone (Frame.enter C.prog f i.args .normal) [] (w.forCall tape i)))
    (hvars : s.vars = []) (hl : laidOutB C.prog = true) (hts : fn.params.toList.all (fun t => C.prog.readableRec t && decide (t < C.prog.types.size)) = true) {tb : TypeId} (hres : fn.resultTypes = #[tb]) (htb : C.prog.underlying tb = some .bool)
    (hspec : ∀ ds : List (DataW H), ds.length = fn.params.toList.length → s.fn H ds = { results := [.lit (.bool true)], args := ds })
    (hcall : ∀ (W : World) (base : Nat) (args : Array Value) (ds : List (DataW H)) (ps : List MemPlace), (∀ (j : Nat) t v, fn.params[j]? = some t → args[j]? = some v → Value.okWide C.prog W .any base t v) → DataW.TrodAll enc C.prog W 0 (fun _ => true) true fn.params.toList args.toList ds ps → (DataW.weightsEach C.prog fn.params.toList ds).all (· ≤ reachBytes) = true → SaysTrue C.prog f args W) :
    ReturnsInHanded {} C os f .any (fun w args => (s.pre enc C.prog fn conds false w args ∧ laidMetH C.prog laid w) ∧ sizedMet enc C.prog fn (OpenSpec.ofChange s) false w args) (s.post enc C.prog fn false true false false) := by
  refine returnsInHanded_of_change_and (X := fun w _ => laidMetH C.prog laid w) (fun _ _ _ hh h => h.of_heap hh) own started noInit hfn witness ?_
  intro W base args ds gs before hval hW hcnd hsz _ _
  have hW' := hW
  obtain ⟨p, q, hA, hV, rfl, hfz, hnd⟩ := hW
  rw [hvars] at hV
  obtain ⟨rfl, rfl⟩ := trodVars_none hV
  have hvt : s.plain.varTypes C.prog = [] := by simp [ChangeSpec.plain, DataSpec.varTypes, hvars]
  rw [hvt, List.append_nil, List.append_nil] at hsz
  refine (hcall W base args ds p hval hA hsz).mono fun e W' ⟨he, hs, hb, ho⟩ => ⟨_, he, ?_⟩
  have hlt : ∀ x ∈ p, x.block < W.heap.size := fun x hx => hW'.lt x (by simp [hx])
  have hsp : s.fn H (ds ++ []) = { results := [.lit (.bool true)], args := ds } := by rw [List.append_nil]; exact hspec ds (trodAll_len _ _ _ _ hA)
  refine ⟨ds, [], p ++ [], [], p, [], hW', ?_, ?_, ?_, kept_of hb ho _, fun h => by cases h⟩
  · rw [hsp, hres]
    exact trodAll_mk1 ⟨1, by simp [DataW.trod, htb, Value.cells]⟩
  · rw [hsp]
    exact trodAll_stays hl hb _ _ _ _ hts hlt hA
  · rw [hsp, hvars]
    exact rfl

end Go.Am

namespace Go.Proofs.YtdlogfbbcbbllaaDoor
open Go Go.Am Go.ChangeShapes Go.WideShapes Go.ChangeAt Go.RowKit

theorem own : ownKnob Tryd.prog.godebug = none := by kernel_rfl
theorem laidOut : laidOutB Tryd.prog = true := by kernel_rfl
def laidV : List (String × DataW Unit) := [("unicode/utf8.acceptRanges", Rows.laid_unicode_utf8_acceptRanges), ("unicode/utf8.first", Rows.laid_unicode_utf8_first)]

theorem reach_eq : reachBytes = 140737488351232 := by kernel_rfl
theorem u9 : Tryd.prog.underlying 9 = some .string := by kernel_rfl
theorem u5 : Tryd.prog.underlying 5 = some (.int .u8) := by kernel_rfl
theorem u30 : Tryd.prog.underlying 30 = some (.slice 9) := by kernel_rfl
theorem u4 : Tryd.prog.underlying 4 = some .bool := by kernel_rfl

theorem hasT_str {n : Nat} {x : D} (h : HasT Tryd.prog (n + 1) 9 [x]) : ∃ s, x = .str s ∧ s.length ≤ 140737488351232 := by
  unfold HasT at h
  rw [u9] at h
  obtain ⟨s, h1, h2⟩ := h
  simp only [List.cons.injEq, and_true] at h1
  rw [reach_eq] at h2
  exact ⟨s, h1, h2⟩

theorem hasT_u8 {n : Nat} {x : D} (h : HasT Tryd.prog (n + 1) 5 [x]) : ∃ m : Nat, x = .int .u8 m ∧ m < 256 := by
  unfold HasT at h
  rw [u5] at h
  obtain ⟨m, h1, h2⟩ := h
  simp only [List.cons.injEq, and_true] at h1
  have : 0 ≤ m ∧ m ≤ 255 := by
    simp only [Lit.wf, Bool.and_eq_true, decide_eq_true_eq] at h2
    have e1 : IntKind.u8.min = 0 := by decide
    have e2 : IntKind.u8.max = 255 := by decide
    rw [e1, e2] at h2; exact h2
  exact ⟨m.toNat, by rw [h1]; congr 1; omega, by omega⟩

theorem hasT_strs {n : Nat} {x : D} (h : HasT Tryd.prog (n + 2) 30 [x]) : ∃ ws : List (List UInt8), x = strs ws ∧ ws.length ≤ 140737488351232 ∧ ∀ w ∈ ws, w.length ≤ 140737488351232 := by
  unfold HasT at h
  rw [u30] at h
  obtain ⟨es, h1, h2, h3⟩ := h
  simp only [List.cons.injEq, and_true] at h1
  subst h1
  obtain ⟨r, hr, hx⟩ := exists_list (p := fun i (m : List UInt8) => es[i]? = some [.str m] ∧ m.length ≤ 140737488351232) es.length (fun i hi => by
    have h4 := h3 es[i] (List.getElem_mem hi)
    have h5 := h4
    unfold HasT at h4
    rw [u9] at h4
    obtain ⟨m, hm, h6⟩ := h4
    rw [reach_eq] at h6
    exact ⟨m, by rw [List.getElem?_eq_getElem hi, hm], h6⟩)
  have hby : Tryd.prog.bytesOf 9 = 16 := by kernel_rfl
  rw [hby, reach_eq] at h2
  refine ⟨r, ?_, by omega, fun m hm => ?_⟩
  · unfold strs
    congr 1
    apply List.ext_getElem?
    intro i
    rw [List.getElem?_map]
    cases hq : r[i]? with
    | none =>
      have : es.length ≤ i := by rw [← hr]; simpa using hq
      simpa using this
    | some m => rw [(hx i m hq).1]; rfl
  · obtain ⟨i, hi⟩ := List.getElem?_of_mem hm
    exact (hx i m hi).2

end Go.Proofs.YtdlogfbbcbbllaaDoor
