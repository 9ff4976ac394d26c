/- A part of the proof; no conditions. -/
import Derived.Test.YtfhmibodjfpdfaaG5
import Derived.Test.YtfhmibodjfpdfaaGP3
import Derived.Test.YtfhmibodjfpdfaaAm14
set_option linter.unusedSimpArgs false
set_option linter.unusedVariables false
namespace Go.Proofs.Ytfhmibodjfpdfaa
open Go Go.Am

def bcells (l : List Bool) : List C := l.map fun b => .d (.bool b)
theorem bcells_len {l : List Bool} : (bcells l).length = l.length := by simp [bcells]
theorem bcells_get {l : List Bool} {k : Nat} {v : Bool} (h : l[k]? = some v) : (bcells l)[k]? = some (.d (.bool v)) := by simp [bcells, h]
theorem bcells_set {l : List Bool} {k : Nat} {v : Bool} : (bcells l).set k (.d (.bool v)) = bcells (l.set k v) := by simp [bcells, List.map_set]
theorem bcells_rep {n : Nat} : (List.replicate n [C.d (D.bool false)]).flatten = bcells (List.replicate n false) := by
  induction n with
  | zero => rfl
  | succ n ih => simp only [List.replicate_succ, List.flatten_cons, ih, bcells, List.map_cons, List.cons_append, List.nil_append]
theorem frz_bools {s : St} {id g len : Nat} {l : List Bool} (hg : s.gen id = g) (ho : s.obj id = some (bcells l)) (hl : l.length = len) : Frz s (.osl id g 1 0 len) (bools l) :=
  frz_map hg ho l (fun m : Bool => .bool m) (fun _ => rfl) hl (fun j a h => by rw [Nat.zero_add]; exact bcells_get h) (by rw [bcells_len]; omega)

def gcells (ys : List (List Nat)) (t : Nat) (lv : List Nat) : List C := (List.range t).map fun k => .d (nats (group lv ys.length k))

theorem nowOf_succ (ys : List (List Nat)) (t : Nat) (lv : List Nat) (i : Nat) : nowOf ys t lv (i + 1) = if isNow ys t lv i = true then nowOf ys t lv i ++ [i] else nowOf ys t lv i := by
  simp only [nowOf, List.range_succ, List.filter_append, List.filter_cons, List.filter_nil]
  split <;> simp
def marks (l : List Nat) (d : List Bool) : List Bool := l.foldl (fun d a => d.set a true) d
theorem marks_len : ∀ {l : List Nat} {d : List Bool}, (marks l d).length = d.length
  | [], _ => rfl
  | a :: l, d => by
    have := marks_len (l := l) (d := d.set a true)
    simpa [marks] using this
theorem marks_snoc {l : List Nat} {d : List Bool} {a : Nat} : marks (l ++ [a]) d = (marks l d).set a true := by simp [marks, List.foldl_append]
theorem marks_get : ∀ {l : List Nat} {d : List Bool} {a : Nat}, a < d.length → (marks l d)[a]? = if a ∈ l then some true else d[a]?
  | [], _, _, _ => by simp [marks]
  | b :: l, d, a, h => by
    have h1 := marks_get (l := l) (d := d.set b true) (a := a) (by simpa using h)
    have e : marks (b :: l) d = marks l (d.set b true) := rfl
    rw [e, h1, List.getElem?_set]
    by_cases hm : a ∈ l
    · simp [hm]
    · by_cases hb : b = a
      · subst hb; simp [hm, h]
      · have : ¬ a = b := fun e => hb e.symm
        simp [hm, hb, this]
theorem marks_done {ys : List (List Nat)} {t : Nat} {lv : List Nat} (h : J ys t lv) : marks (nowOf ys t lv ys.length) (doneOf t lv) = doneOf (t + 1) (nextLv ys t lv) := by
  apply List.ext_getElem?
  intro a
  by_cases ha : a < ys.length
  · have hl : a < lv.length := by rw [h.len]; exact ha
    rw [marks_get (by simpa [doneOf] using hl), doneOf_get hl, doneOf_get (by simpa [nextLv] using ha), nextLv_get ha]
    simp only [nowOf, isNow, List.mem_filter, List.mem_range, Bool.and_eq_true, decide_eq_true_eq, ha, true_and]
    by_cases h1 : lv.getD a 0 < t
    · have e : lv.getD a 0 < t + 1 := by omega
      simp only [h1, not_true_eq_false, false_and, if_false, if_true, e, decide_true]
    · by_cases h2 : ∀ p ∈ row ys a, lv.getD p 0 < t
      · have e : t < t + 1 := by omega
        simp only [h1, not_false_eq_true, true_and, if_pos h2, if_false, e, decide_true]
      · have e : ¬ t + 1 < t + 1 := by omega
        simp only [h1, not_false_eq_true, true_and, if_neg h2, if_false, e, decide_false]
  · rw [List.getElem?_eq_none (by rw [marks_len]; simp [doneOf, h.len]; omega), List.getElem?_eq_none (by simp [doneOf, nextLv]; omega)]
theorem gcells_succ {ys : List (List Nat)} {t : Nat} {lv : List Nat} (h : J ys t lv) : gcells ys (t + 1) (nextLv ys t lv) = gcells ys t lv ++ [.d (nats (nowOf ys t lv ys.length))] := by
  simp only [gcells, List.range_succ, List.map_append, List.map_cons, List.map_nil, nextLv_now h]
  congr 1
  apply List.map_congr_left
  intro k hk
  rw [nextLv_group h (List.mem_range.1 hk)]
theorem gcells_len {ys : List (List Nat)} {t : Nat} {lv : List Nat} : (gcells ys t lv).length = t := by simp [gcells]
theorem frzp_nats {P : Nat → Prop} {s : St} {id g len : Nat} {l : List Nat} (hp : P id) (hg : s.gen id = g) (ho : s.obj id = some (ncells l)) (hl : l.length = len) : FrzP P s (.osl id g 1 0 len) (nats l) :=
  frzp_map hp hg ho l (fun m : Nat => .int .i64 m) hl (fun j a h => by rw [Nat.zero_add]; exact ncells_get h) (by rw [ncells_len]; omega)
theorem doneOf_len {t : Nat} {lv : List Nat} : (doneOf t lv).length = lv.length := by simp [doneOf]
theorem ints_nats (r : List Nat) : ints (r.map fun m : Nat => (m : Int)) = nats r := by simp [ints, nats, Function.comp_def]

set_option maxHeartbeats 2000000 in
theorem RLevels_A (xs : List (List Int)) (hb : Fits xs) : PureR Try.prog 14 [.one (.d (intss xs))] (LevelsOut xs) := by
  have hbn := hb.n
  refine pure_of_wp Tt_ok mixed Try.func14 rfl (by rfl) [2, 3] rfl (by kernel_rfl) (by simp [Try.ntmps14]) fun g => ?_
  simp (config := { maxSteps := 1000000 }) only [go_sem, ↓reduceIte, Nat.reduceEqDiff, Nat.reduceAdd, Nat.reduceMul, Nat.reduceSub, Nat.reduceLT, Nat.reduceLeDiff, Int.reduceLT, Int.reduceLE, Int.reduceEq, Int.reduceNe, Int.reduceAdd, Int.reduceNeg, Int.reduceToNat, intss]
  refine hook_call rfl (Right_A xs hb) (by rfl) ?_
  rintro r rfl
  simp (config := { maxSteps := 1000000 }) only [go_sem, ↓reduceIte, Nat.reduceEqDiff, Nat.reduceAdd, Nat.reduceMul, Nat.reduceSub, Nat.reduceLT, Nat.reduceLeDiff, Int.reduceLT, Int.reduceLE, Int.reduceEq, Int.reduceNe, Int.reduceAdd, Int.reduceNeg, Int.reduceToNat, intss]
  refine ⟨fun hR => ?_, fun hR => ?_⟩
  rotate_left
  · exact .inl ⟨hR, rfl⟩
  obtain ⟨ys, rfl, hRt⟩ := hR.nat
  have hyl : (toI ys).length = ys.length := by simp [toI]
  have hys : D.sl (List.map (fun r => [ints r]) (toI ys)) = natss ys := intss_toI ys
  have hrows : ∀ r ∈ ys, r.length ≤ 1000000 := fun r hr => by
    have := hb.rows (r.map fun m : Nat => (m : Int)) (List.mem_map.2 ⟨r, hr, rfl⟩)
    simpa using this
  rw [hyl] at hbn ⊢
  rw [hys]
  refine ⟨Nat.le_refl _, by omega, by omega, ?_⟩
  refine loop_vs _ (vs_grab (t := 5) (id := 65) (sz := 1) ?_)
    (fun n s => ∃ (t : Nat) (lv : List Nat), n = undone ys t lv ∧ t + undone ys t lv ≤ ys.length ∧ s.f 0 = .one (.d (natss ys)) ∧ s.f 4 = .one (.osl 15 (s.gen 15) 1 0 ys.length) ∧
      s.f 5 = .one (.osl 65 (s.gen 65) 1 0 t) ∧ s.f 6 = iv .i64 (undone ys t lv) ∧ s.obj 15 = some (bcells (doneOf t lv)) ∧ s.obj 65 = some (gcells ys t lv) ∧ J ys t lv) ys.length ?_ ?_
  · simp (config := { maxSteps := 1000000 }) only [go_sem, ↓reduceIte, Nat.reduceEqDiff, Nat.reduceAdd, Nat.reduceMul, Nat.reduceSub, Nat.reduceLT, Nat.reduceLeDiff, Int.reduceLT, Int.reduceLE, Int.reduceEq, Int.reduceNe, Int.reduceAdd, Int.reduceNeg, Int.reduceToNat]
  · refine ⟨0, List.replicate ys.length 0, undone_zero.symm, by rw [undone_zero]; omega, ?_⟩
    simp (config := { maxSteps := 1000000 }) only [go_sem, ↓reduceIte, Nat.reduceEqDiff, Nat.reduceAdd, Nat.reduceMul, Nat.reduceSub, Nat.reduceLT, Nat.reduceLeDiff, Int.reduceLT, Int.reduceLE, Int.reduceEq, Int.reduceNe, Int.reduceAdd, Int.reduceNeg, Int.reduceToNat, St.grab, undone_zero, bcells_rep]
    refine ⟨?_, rfl, J.init ys⟩
    simp [doneOf]
  · rintro n f g ob ⟨t, lv, hn, htu, h0, h4, h5, h6, o15, o65, hJ⟩
    simp only at h0 h4 h5 h6 o15 o65
    have hul := undone_le (ys := ys) (t := t) (lv := lv)
    simp (config := { maxSteps := 1000000 }) only [go_sem, ↓reduceIte, Nat.reduceEqDiff, Nat.reduceAdd, Nat.reduceMul, Nat.reduceSub, Nat.reduceLT, Nat.reduceLeDiff, Int.reduceLT, Int.reduceLE, Int.reduceEq, Int.reduceNe, Int.reduceAdd, Int.reduceNeg, Int.reduceToNat, h0, h4, h5, h6, o15, o65]
    refine ⟨fun hpos => ?_, fun hz => ?_⟩
    rotate_left
    · have hall : ∀ a, a < ys.length → lv.getD a 0 < t := fun a ha => Classical.byContradiction fun hna => by
        have := undone_pos.2 ⟨a, ha, hna⟩; omega
      obtain ⟨hLv, hdp⟩ := hJ.isLv hall
      have hfz : ∀ f', Frz ⟨f', g, ob⟩ (.osl 65 (g 65) 1 0 t) (natss (groups lv)) := by
        intro f'
        have := frz_map (s := ⟨f', g, ob⟩) (id := 65) (g := g 65) (off := 0) (len := t) rfl o65 ((List.range t).map (group lv ys.length)) nats (fun _ => rfl) (by simp) (fun j a hja => ?_) (by simp [gcells])
        · rw [groups, hdp, hLv.len]; exact this
        · rw [Nat.zero_add, gcells, List.getElem?_map]
          rw [List.getElem?_map] at hja
          cases hq : (List.range t)[j]? with
          | none => rw [hq] at hja; cases hja
          | some q => rw [hq] at hja; cases hja; rfl
      exact ⟨_, ⟨_, hfz _, rfl⟩, .inr ⟨ys, rfl, hRt, .inl ⟨lv, hLv, rfl⟩⟩⟩
    have hpos : 0 < undone ys t lv := by omega
    refine loop_vs _ (vs_grab (t := 7) (id := 42) (sz := 1) ?_)
      (fun n s => ∃ (i : Nat), n + i = ys.length ∧ s.f 0 = .one (.d (natss ys)) ∧ s.f 4 = .one (.osl 15 (s.gen 15) 1 0 ys.length) ∧
        s.f 5 = .one (.osl 65 (s.gen 65) 1 0 t) ∧ s.f 6 = iv .i64 (undone ys t lv) ∧ s.f 7 = .one (.osl 42 (s.gen 42) 1 0 (nowOf ys t lv i).length) ∧ s.f 8 = iv .i64 i ∧
        s.obj 15 = some (bcells (doneOf t lv)) ∧ s.obj 65 = some (gcells ys t lv) ∧ s.obj 42 = some (ncells (nowOf ys t lv i))) ys.length ?_ ?_
    · simp (config := { maxSteps := 1000000 }) only [go_sem, ↓reduceIte, Nat.reduceEqDiff, Nat.reduceAdd, Nat.reduceMul, Nat.reduceSub, Nat.reduceLT, Nat.reduceLeDiff, Int.reduceLT, Int.reduceLE, Int.reduceEq, Int.reduceNe, Int.reduceAdd, Int.reduceNeg, Int.reduceToNat]
    · refine ⟨0, ?_⟩
      simp (config := { maxSteps := 1000000 }) only [go_sem, ↓reduceIte, Nat.reduceEqDiff, Nat.reduceAdd, Nat.reduceMul, Nat.reduceSub, Nat.reduceLT, Nat.reduceLeDiff, Int.reduceLT, Int.reduceLE, Int.reduceEq, Int.reduceNe, Int.reduceAdd, Int.reduceNeg, Int.reduceToNat, St.grab, h0, h4, h5, h6, o15, o65]
      exact ⟨rfl, rfl, rfl, rfl⟩
    · clear h0 h4 h5 h6 o15 o65
      rintro n2 f g ob ⟨i, hi, h0, h4, h5, h6, h7, h8, o15, o65, o42⟩
      simp only at h0 h4 h5 h6 h7 h8 o15 o65 o42
      have hw := wrap_succ (k := i) (by omega)
      by_cases hlt : i < ys.length
      · obtain ⟨r, hr⟩ := getq hlt
        have hrl := hrows r (List.mem_of_getElem? hr)
        have hdi : (bcells (doneOf t lv))[i]? = some (.d (.bool (decide (lv.getD i 0 < t)))) := bcells_get (doneOf_get (by rw [hJ.len]; exact hlt))
        have hnl : (nowOf ys t lv i).length ≤ i := by
          have := List.length_filter_le (isNow ys t lv) (List.range i)
          simpa [nowOf] using this
        have hsu := nowOf_succ ys t lv i
        by_cases hdn : lv.getD i 0 < t
        · have hnot : isNow ys t lv i = false := by simp only [isNow, hdn, not_true_eq_false, decide_false, Bool.false_and]
          rw [if_neg (by rw [hnot]; exact Bool.false_ne_true)] at hsu
          rw [decide_eq_true hdn] at hdi
          simp (config := { maxSteps := 1000000 }) only [go_sem, ↓reduceIte, Nat.reduceEqDiff, Nat.reduceAdd, Nat.reduceMul, Nat.reduceSub, Nat.reduceLT, Nat.reduceLeDiff, Int.reduceLT, Int.reduceLE, Int.reduceEq, Int.reduceNe, Int.reduceAdd, Int.reduceNeg, Int.reduceToNat, h0, h4, h5, h6, h7, h8, o15, o65, o42, hlt, natss, hr, hdi, hw]
          refine round_end (n2 - 1) (by omega) ⟨i + 1, by omega, ?_⟩
          simp (config := { maxSteps := 1000000 }) only [go_sem, ↓reduceIte, Nat.reduceEqDiff, Nat.reduceAdd, Nat.reduceMul, Nat.reduceSub, Nat.reduceLT, Nat.reduceLeDiff, Int.reduceLT, Int.reduceLE, Int.reduceEq, Int.reduceNe, Int.reduceAdd, Int.reduceNeg, Int.reduceToNat, h0, h4, h5, h6, h7, natss, hsu, o15, o65, o42]
        · rw [decide_eq_false hdn] at hdi
          simp (config := { maxSteps := 1000000 }) only [go_sem, ↓reduceIte, Nat.reduceEqDiff, Nat.reduceAdd, Nat.reduceMul, Nat.reduceSub, Nat.reduceLT, Nat.reduceLeDiff, Int.reduceLT, Int.reduceLE, Int.reduceEq, Int.reduceNe, Int.reduceAdd, Int.reduceNeg, Int.reduceToNat, h0, h4, h5, h6, h7, h8, o15, o65, o42, hlt, natss, hr, hdi, hw]
          have hrn : ∀ m ∈ r, m < ys.length := fun m hm => (hRt.lt (a := i) (by rw [row_of hr]; exact hm)).1
          refine hook_view rfl (xs := [.one (.d (ints (r.map fun m : Nat => (m : Int)))), .one (.d (bools (doneOf t lv)))]) ?_ (ready_A (r.map fun m : Nat => (m : Int)) (doneOf t lv) (by simpa using hrl) (fun m hm => ?_)) ?_ ?_
          · refine ⟨_, _, rfl, ⟨_, ?_, rfl⟩, _, _, rfl, ⟨_, ?_, rfl⟩, rfl⟩
            · rw [ints_nats]
              exact .d (nats r)
            · exact frz_bools rfl o15 (by rw [doneOf_len, hJ.len])
          · obtain ⟨q, hq, rfl⟩ := List.mem_map.1 hm
            have := hrn q hq
            rw [doneOf_len, hJ.len]; omega
          · rintro r rfl; rfl
          · rintro _ rfl
            have hdec : (∀ m ∈ r.map (fun m : Nat => (m : Int)), (doneOf t lv)[m.toNat]? = some true) ↔ isNow ys t lv i = true := by
              simp only [List.mem_map, isNow, hdn, not_false_eq_true, decide_true, Bool.true_and, decide_eq_true_eq, row_of hr]
              constructor
              · intro h p hp
                have := h (p : Int) ⟨p, hp, rfl⟩
                rw [Int.toNat_natCast, doneOf_get (by rw [hJ.len]; exact hrn p hp)] at this
                simpa using this
              · rintro h _ ⟨p, hp, rfl⟩
                rw [Int.toNat_natCast, doneOf_get (by rw [hJ.len]; exact hrn p hp), decide_eq_true (h p hp)]
            simp (config := { maxSteps := 1000000 }) only [go_sem, ↓reduceIte, Nat.reduceEqDiff, Nat.reduceAdd, Nat.reduceMul, Nat.reduceSub, Nat.reduceLT, Nat.reduceLeDiff, Int.reduceLT, Int.reduceLE, Int.reduceEq, Int.reduceNe, Int.reduceAdd, Int.reduceNeg, Int.reduceToNat, hdec, h0, h4, h5, h6, h7, h8, o15, o65, o42, ncells_len]
            refine ⟨fun hy => ?_, fun hno => ?_⟩
            · rw [if_pos hy] at hsu
              refine ⟨Nat.le_refl _, room8 (by omega), ?_⟩
              simp (config := { maxSteps := 1000000 }) only [go_sem, ↓reduceIte, Nat.reduceEqDiff, Nat.reduceAdd, Nat.reduceMul, Nat.reduceSub, Nat.reduceLT, Nat.reduceLeDiff, Int.reduceLT, Int.reduceLE, Int.reduceEq, Int.reduceNe, Int.reduceAdd, Int.reduceNeg, Int.reduceToNat, hw]
              refine round_end (n2 - 1) (by omega) ⟨i + 1, by omega, ?_⟩
              simp (config := { maxSteps := 1000000 }) only [go_sem, ↓reduceIte, Nat.reduceEqDiff, Nat.reduceAdd, Nat.reduceMul, Nat.reduceSub, Nat.reduceLT, Nat.reduceLeDiff, Int.reduceLT, Int.reduceLE, Int.reduceEq, Int.reduceNe, Int.reduceAdd, Int.reduceNeg, Int.reduceToNat, h0, h4, h5, h6, natss, hsu, o15, o65, o42, List.length_append, ncells_take, ncells_snoc]
            · rw [if_neg hno] at hsu
              simp (config := { maxSteps := 1000000 }) only [go_sem, ↓reduceIte, Nat.reduceEqDiff, Nat.reduceAdd, Nat.reduceMul, Nat.reduceSub, Nat.reduceLT, Nat.reduceLeDiff, Int.reduceLT, Int.reduceLE, Int.reduceEq, Int.reduceNe, Int.reduceAdd, Int.reduceNeg, Int.reduceToNat, hw]
              refine round_end (n2 - 1) (by omega) ⟨i + 1, by omega, ?_⟩
              simp (config := { maxSteps := 1000000 }) only [go_sem, ↓reduceIte, Nat.reduceEqDiff, Nat.reduceAdd, Nat.reduceMul, Nat.reduceSub, Nat.reduceLT, Nat.reduceLeDiff, Int.reduceLT, Int.reduceLE, Int.reduceEq, Int.reduceNe, Int.reduceAdd, Int.reduceNeg, Int.reduceToNat, h0, h4, h5, h6, h7, natss, hsu, o15, o65, o42]
      · have hin : i = ys.length := by omega
        subst hin
        have hnl : (nowOf ys t lv ys.length).length ≤ ys.length := by
          have := List.length_filter_le (isNow ys t lv) (List.range ys.length)
          simpa [nowOf] using this
        simp (config := { maxSteps := 1000000 }) only [go_sem, ↓reduceIte, Nat.reduceEqDiff, Nat.reduceAdd, Nat.reduceMul, Nat.reduceSub, Nat.reduceLT, Nat.reduceLeDiff, Int.reduceLT, Int.reduceLE, Int.reduceEq, Int.reduceNe, Int.reduceAdd, Int.reduceNeg, Int.reduceToNat, h0, h4, h5, h6, h7, h8, o15, o65, o42, hlt, natss]
        refine ⟨fun hz => .inr ⟨ys, rfl, hRt, .inr ⟨J.noLv hRt (List.eq_nil_of_length_eq_zero (by omega)) (undone_pos.1 hpos), rfl⟩⟩, fun hnz => ?_⟩
        have hnz : nowOf ys t lv ys.length ≠ [] := fun e => hnz (by rw [e]; rfl)
        have hJ' := hJ.next hRt hnz
        have hun := undone_next hJ
        have hnp : 0 < (nowOf ys t lv ys.length).length := List.length_pos_iff.2 hnz
        refine loop_intro (fun n s => ∃ (i : Nat), n + i = (nowOf ys t lv ys.length).length ∧ s.f 0 = .one (.d (natss ys)) ∧ s.f 4 = .one (.osl 15 (s.gen 15) 1 0 ys.length) ∧
          s.f 5 = .one (.osl 65 (s.gen 65) 1 0 t) ∧ s.f 6 = iv .i64 (undone ys t lv) ∧ s.f 7 = .one (.osl 42 (s.gen 42) 1 0 (nowOf ys t lv ys.length).length) ∧ s.f 9 = iv .i64 i ∧
          s.obj 15 = some (bcells (marks ((nowOf ys t lv ys.length).take i) (doneOf t lv))) ∧ s.obj 65 = some (gcells ys t lv) ∧ s.obj 42 = some (ncells (nowOf ys t lv ys.length))) (nowOf ys t lv ys.length).length ?_ ?_
        · refine ⟨0, ?_⟩
          simp (config := { maxSteps := 1000000 }) only [go_sem, ↓reduceIte, Nat.reduceEqDiff, Nat.reduceAdd, Nat.reduceMul, Nat.reduceSub, Nat.reduceLT, Nat.reduceLeDiff, Int.reduceLT, Int.reduceLE, Int.reduceEq, Int.reduceNe, Int.reduceAdd, Int.reduceNeg, Int.reduceToNat, h0, h4, h5, h6, h7, o15, o65, o42, natss]
          exact ⟨rfl, rfl, rfl⟩
        · clear h0 h4 h5 h6 h7 h8 o15 o65 o42
          rintro n3 f g ob ⟨i, hi, h0, h4, h5, h6, h7, h9, o15, o65, o42⟩
          simp only at h0 h4 h5 h6 h7 h9 o15 o65 o42
          have hw := wrap_succ (k := i) (by omega)
          by_cases hil : i < (nowOf ys t lv ys.length).length
          · obtain ⟨x, hx⟩ := getq hil
            have hxn : x < ys.length := by
              have := List.mem_of_getElem? hx
              simp only [nowOf, List.mem_filter, List.mem_range] at this
              exact this.1
            have hx1 : x + 1 ≤ ys.length := hxn
            simp (config := { maxSteps := 1000000 }) only [go_sem, ↓reduceIte, Nat.reduceEqDiff, Nat.reduceAdd, Nat.reduceMul, Nat.reduceSub, Nat.reduceLT, Nat.reduceLeDiff, Int.reduceLT, Int.reduceLE, Int.reduceEq, Int.reduceNe, Int.reduceAdd, Int.reduceNeg, Int.reduceToNat, h0, h4, h5, h6, h7, h9, o15, o65, o42, hil, ncells_get hx, hxn, hx1, bcells_len, marks_len, doneOf_len, hJ.len, bcells_set, hw]
            refine round_end (n3 - 1) (by omega) ⟨i + 1, by omega, ?_⟩
            have htk : (nowOf ys t lv ys.length).take (i + 1) = (nowOf ys t lv ys.length).take i ++ [x] := by rw [List.take_add_one, hx]; rfl
            simp (config := { maxSteps := 1000000 }) only [go_sem, ↓reduceIte, Nat.reduceEqDiff, Nat.reduceAdd, Nat.reduceMul, Nat.reduceSub, Nat.reduceLT, Nat.reduceLeDiff, Int.reduceLT, Int.reduceLE, Int.reduceEq, Int.reduceNe, Int.reduceAdd, Int.reduceNeg, Int.reduceToNat, h0, h4, h5, h6, h7, o15, o65, o42, natss, htk, marks_snoc]
          · rw [List.take_of_length_le (by omega), marks_done hJ] at o15
            have hws : IntKind.i64.wrap ((undone ys t lv : Int) - ((nowOf ys t lv ys.length).length : Int)) = ((undone ys (t + 1) (nextLv ys t lv) : Nat) : Int) := by
              rw [wrap_i64] <;> omega
            simp (config := { maxSteps := 1000000 }) only [go_sem, ↓reduceIte, Nat.reduceEqDiff, Nat.reduceAdd, Nat.reduceMul, Nat.reduceSub, Nat.reduceLT, Nat.reduceLeDiff, Int.reduceLT, Int.reduceLE, Int.reduceEq, Int.reduceNe, Int.reduceAdd, Int.reduceNeg, Int.reduceToNat, h0, h4, h5, h6, h7, h9, o15, o65, o42, hil, hws, gcells_len]
            have hgt : (gcells ys t lv).take t = gcells ys t lv := List.take_of_length_le (by rw [gcells_len]; exact Nat.le_refl _)
            rw [hgt]
            refine ⟨Nat.le_refl _, ⟨by decide, by omega⟩, undone ys (t + 1) (nextLv ys t lv), St.drop1 _ 42 65 (gcells ys (t + 1) (nextLv ys t lv)), by omega,
              vs_drop1 (cells := gcells ys t lv ++ [.osl 42 (g 42) 1 0 (nowOf ys t lv ys.length).length]) ?_ ?_ ?_, t + 1, nextLv ys t lv, rfl, by omega, ?_⟩
            · simp (config := { maxSteps := 1000000 }) only [go_sem, ↓reduceIte, Nat.reduceEqDiff, Nat.reduceAdd, Nat.reduceMul, Nat.reduceSub, Nat.reduceLT, Nat.reduceLeDiff, Int.reduceLT, Int.reduceLE, Int.reduceEq, Int.reduceNe, Int.reduceAdd, Int.reduceNeg, Int.reduceToNat]
            · simp only [gcells_len, List.length_append, List.length_singleton]
            · rw [gcells_succ hJ]
              intro j c c' e1 e2
              by_cases hj : j < t
              · rw [List.getElem?_append_left (by rw [gcells_len]; exact hj)] at e1 e2
                rw [e1] at e2
                exact .inl (Option.some.inj e2).symm
              · rw [List.getElem?_append_right (by rw [gcells_len]; omega)] at e1 e2
                rw [gcells_len] at e1 e2
                have hj0 : j - t = 0 := by
                  have := (List.getElem?_eq_some_iff.1 e1).1
                  simpa using this
                rw [hj0] at e1 e2
                cases e1
                cases e2
                refine .inr ⟨_, frzp_nats rfl ?_ (l := nowOf ys t lv ys.length) ?_ rfl, rfl⟩
                · simp (config := { maxSteps := 1000000 }) only [go_sem, ↓reduceIte, Nat.reduceEqDiff, Nat.reduceAdd, Nat.reduceMul, Nat.reduceSub, Nat.reduceLT, Nat.reduceLeDiff, Int.reduceLT, Int.reduceLE, Int.reduceEq, Int.reduceNe, Int.reduceAdd, Int.reduceNeg, Int.reduceToNat]
                · simp (config := { maxSteps := 1000000 }) only [go_sem, ↓reduceIte, Nat.reduceEqDiff, Nat.reduceAdd, Nat.reduceMul, Nat.reduceSub, Nat.reduceLT, Nat.reduceLeDiff, Int.reduceLT, Int.reduceLE, Int.reduceEq, Int.reduceNe, Int.reduceAdd, Int.reduceNeg, Int.reduceToNat, o42]
            · simp (config := { maxSteps := 1000000 }) only [go_sem, ↓reduceIte, Nat.reduceEqDiff, Nat.reduceAdd, Nat.reduceMul, Nat.reduceSub, Nat.reduceLT, Nat.reduceLeDiff, Int.reduceLT, Int.reduceLE, Int.reduceEq, Int.reduceNe, Int.reduceAdd, Int.reduceNeg, Int.reduceToNat, St.drop1, h0, h4, h5, h6, h7, o15, natss]
              exact hJ'

end Go.Proofs.Ytfhmibodjfpdfaa
