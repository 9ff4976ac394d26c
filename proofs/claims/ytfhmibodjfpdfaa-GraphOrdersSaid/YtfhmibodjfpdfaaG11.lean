/- The fixed facts. -/
import Derived.Test.YtfhmibodjfpdfaaG10
set_option linter.unusedSimpArgs false
set_option linter.unusedVariables false
namespace Go.Proofs.Ytfhmibodjfpdfaa
open Go Go.Am

instance (ys : List (List Nat)) : Decidable (Rt ys) := by unfold Rt; exact inferInstance

theorem lv_lit {ys : List (List Nat)} {lv : List Nat} (h : lv.length = ys.length ∧ (∀ a, a < ys.length → (∀ p ∈ row ys a, lv.getD p 0 + 1 ≤ lv.getD a 0) ∧ (lv.getD a 0 = 0 ∨ ∃ p ∈ row ys a, lv.getD a 0 = lv.getD p 0 + 1))) : IsLv ys lv := by
  obtain ⟨h1, h2⟩ := h
  refine ⟨h1, fun a p hp => ?_, fun a => ?_⟩
  · by_cases ha : a < ys.length
    · exact (h2 a ha).1 p hp
    · rw [row_out (by omega)] at hp; cases hp
  · by_cases ha : a < ys.length
    · exact (h2 a ha).2
    · left; simp only [List.getD]; rw [List.getElem?_eq_none (by omega)]; rfl

theorem toI_inj {ys zs : List (List Nat)} (h : toI ys = toI zs) : ys = zs := by
  have hj : ∀ {l m : List Nat}, (l.map fun k : Nat => (k : Int)) = (m.map fun k : Nat => (k : Int)) → l = m := fun {l m} h => by
    have := List.map_inj_right (f := fun k : Nat => (k : Int)) (fun a b h => Int.ofNat_inj.1 h) |>.1 h
    exact this
  exact (List.map_inj_right (f := fun r : List Nat => r.map fun m : Nat => (m : Int)) (fun a b h => hj h)).1 h

/-- The three examples. -/
theorem ex1 {r : AV} (h : LevelsOut [[1, 2], [2], []] r) : r = .tup [.one (.d (natss [[2], [1], [0]])), iv .i64 0] := by
  have hl : IsLv [[1, 2], [2], []] [2, 1, 0] := lv_lit (by decide)
  have hR : Rt [[1, 2], [2], []] := by decide
  rcases h with ⟨hn, _⟩ | ⟨ys, e, hRt, h⟩
  · exact absurd (by decide) hn
  · have : ys = [[1, 2], [2], []] := toI_inj (by rw [← e]; rfl)
    subst this
    rcases h with ⟨lv, h1, rfl⟩ | ⟨hno, _⟩
    · rw [IsLv.unique hRt h1 hl]; rfl
    · exact absurd ⟨_, hl⟩ hno

theorem circ2 : Circ [[1], [0]] [0, 1] := ⟨by simp, by decide, by decide, fun i a h => by
  match i, h with
  | 0, h => cases h; exact ⟨1, rfl, by decide⟩
  | 1, h => cases h; exact ⟨0, rfl, by decide⟩
  | i + 2, h => simp at h⟩

theorem ex2 {r : AV} (h : LevelsOut [[1], [0]] r) : r = .tup [.one (.d (.sl [])), iv .i64 11] := by
  have hno := circ2.noLv
  rcases h with ⟨hn, _⟩ | ⟨ys, e, hRt, h⟩
  · exact absurd (by decide) hn
  · have : ys = [[1], [0]] := toI_inj (by rw [← e]; rfl)
    subst this
    rcases h with ⟨lv, h1, _⟩ | ⟨_, h⟩
    · exact absurd ⟨_, h1⟩ hno
    · exact h

theorem ex3 {r : AV} (h : LevelsOut [[1]] r) : r = .tup [.one (.d (.sl [])), iv .i64 1] := by
  rcases h with ⟨_, h⟩ | ⟨ys, e, hRt, h⟩
  · exact h
  · exfalso
    have : ys = [[1]] := toI_inj (by rw [← e]; rfl)
    subst this
    exact absurd hRt (by decide)

theorem ex4 {r : AV} (h : CircleOut [[1], [0]] r) : ∃ c : List Nat, r = .one (.d (nats c)) ∧ c.length = 2 := by
  obtain ⟨c, rfl, h⟩ := h
  refine ⟨c, rfl, ?_⟩
  rcases h with ⟨hn, _⟩ | ⟨ys, e, hRt, h⟩
  · exact absurd (by decide) hn
  · have : ys = [[1], [0]] := toI_inj (by rw [← e]; rfl)
    subst this
    rcases h with ⟨_, h1⟩ | hc
    · exact absurd h1 circ2.noLv
    · have h1 := nodup_length hc.nodup hc.lt
      match c, hc, h1 with
      | [], hc, _ => exact absurd rfl hc.ne
      | [a], hc, _ =>
        exfalso
        obtain ⟨b, hb, hbr⟩ := hc.next 0 a rfl
        simp at hb
        subst hb
        have ha := hc.lt a (by simp)
        match a, ha with
        | 0, _ => simp [row] at hbr
        | 1, _ => simp [row] at hbr
      | [a, b], _, _ => rfl

theorem frzp_ints {P : Nat → Prop} {s : St} {id g len : Nat} {l : List Int} (hp : P id) (hg : s.gen id = g) (ho : s.obj id = some (l.map fun m => .d (.int .i64 m))) (hl : l.length = len) : FrzP P s (.osl id g 1 0 len) (ints l) :=
  frzp_map hp hg ho l (fun m => .int .i64 m) hl (fun j a h => by simp [h]) (by simp; omega)

theorem frzp_in {P : Nat → Prop} {s : St} {id g len : Nat} {cells : List C} {xs : List (List Int)} (hp : P id) (hg : s.gen id = g) (ho : s.obj id = some cells) (hl : cells.length = xs.length) (hlen : xs.length = len)
    (h : ∀ (j : Nat) (r : List Int) (c : C), xs[j]? = some r → cells[j]? = some c → FrzP P s c (ints r)) : FrzP P s (.osl id g 1 0 len) (intss xs) := by
  subst hlen
  have := frzp_list (len := xs.length) hp hg ho (xs.map ints) (by simp) (by simp; omega) (fun j d c h1 h2 => by
    rw [List.getElem?_map] at h1
    cases hq : xs[j]? with
    | none => rw [hq] at h1; cases h1
    | some r => rw [hq] at h1; cases h1; exact h j r c hq h2)
  simpa [intss, List.map_map, Function.comp_def] using this

theorem fits_lit {xs : List (List Int)} (h : xs.length ≤ 1000000 ∧ ∀ r ∈ xs, r.length ≤ 1000000) : Fits xs := ⟨h.1, h.2⟩

set_option maxHeartbeats 4000000 in
set_option maxRecDepth 100000 in
theorem awake_A : PureR Try.prog 10 [] (· = bv true) := by
  refine pure_of_wp Tt_ok mixed Try.func10 rfl (by rfl) [0] rfl (by kernel_rfl) (by simp [Try.ntmps10]) fun g => ?_
  simp (config := { maxSteps := 1000000 }) only [go_sem, ↓reduceIte, Nat.reduceEqDiff, Nat.reduceAdd, Nat.reduceMul, Nat.reduceSub, Nat.reduceLT, Nat.reduceLeDiff, Int.reduceLT, Int.reduceLE, Int.reduceEq, Int.reduceNe, Int.reduceAdd, Int.reduceNeg, Int.reduceToNat]
  refine hook_vs _ (vs_gives (fun i => i == 8 || i == 9 || i == 10) (t := 10) rfl (x := intss [[1, 2], [2], []]) ?_) ?_
  · refine frzp_in (ho := rfl) ?_ ?_ ?_ ?_ ?_
    · rfl
    · rfl
    · rfl
    · rfl
    rintro (_ | _ | _ | j) r c h1 h2
    · cases h1; cases h2; exact frzp_ints rfl rfl rfl rfl
    · cases h1; cases h2; exact frzp_ints rfl rfl rfl rfl
    · cases h1; cases h2; exact .nil
    · simp at h1
  refine hook_call rfl (Levels_A [[1, 2], [2], []] (fits_lit (by decide))) (by rfl) ?_
  intro r hr
  rw [ex1 hr]
  clear hr r
  simp (config := { maxSteps := 1000000 }) only [go_sem, ↓reduceIte, Nat.reduceEqDiff, Nat.reduceAdd, Nat.reduceMul, Nat.reduceSub, Nat.reduceLT, Nat.reduceLeDiff, Int.reduceLT, Int.reduceLE, Int.reduceEq, Int.reduceNe, Int.reduceAdd, Int.reduceNeg, Int.reduceToNat]
  refine hook_vs _ (vs_gives (fun i => i == 15 || i == 16 || i == 17) (t := 17) rfl (x := intss [[1], [0]]) ?_) ?_
  · refine frzp_in (ho := rfl) ?_ ?_ ?_ ?_ ?_
    · rfl
    · rfl
    · rfl
    · rfl
    rintro (_ | _ | j) r c h1 h2
    · cases h1; cases h2; exact frzp_ints rfl rfl rfl rfl
    · cases h1; cases h2; exact frzp_ints rfl rfl rfl rfl
    · simp at h1
  refine hook_call rfl (Levels_A [[1], [0]] (fits_lit (by decide))) (by rfl) ?_
  intro r hr
  rw [ex2 hr]
  clear hr r
  simp (config := { maxSteps := 1000000 }) only [go_sem, ↓reduceIte, Nat.reduceEqDiff, Nat.reduceAdd, Nat.reduceMul, Nat.reduceSub, Nat.reduceLT, Nat.reduceLeDiff, Int.reduceLT, Int.reduceLE, Int.reduceEq, Int.reduceNe, Int.reduceAdd, Int.reduceNeg, Int.reduceToNat]
  refine hook_vs _ (vs_gives (fun i => i == 22 || i == 23) (t := 23) rfl (x := intss [[1]]) ?_) ?_
  · refine frzp_in (ho := rfl) ?_ ?_ ?_ ?_ ?_
    · rfl
    · rfl
    · rfl
    · rfl
    rintro (_ | j) r c h1 h2
    · cases h1; cases h2; exact frzp_ints rfl rfl rfl rfl
    · simp at h1
  refine hook_call rfl (Levels_A [[1]] (fits_lit (by decide))) (by rfl) ?_
  intro r hr
  rw [ex3 hr]
  clear hr r
  simp (config := { maxSteps := 1000000 }) only [go_sem, ↓reduceIte, Nat.reduceEqDiff, Nat.reduceAdd, Nat.reduceMul, Nat.reduceSub, Nat.reduceLT, Nat.reduceLeDiff, Int.reduceLT, Int.reduceLE, Int.reduceEq, Int.reduceNe, Int.reduceAdd, Int.reduceNeg, Int.reduceToNat, natss, List.map_cons, List.map_nil, nats]
  refine hook_view rfl (xs := [.one (.d (ints [2])), .one (.d (ints [2]))]) ?_ (Same_A [2] [2] (by decide) (by decide)) (by rintro _ rfl; rfl) ?_
  · refine ⟨_, _, rfl, ⟨_, .d _, rfl⟩, _, _, rfl, ⟨_, frz_map rfl rfl [2] (fun m : Int => .int .i64 m) (fun _ => rfl) rfl ?_ (by decide), rfl⟩, rfl⟩
    rintro (_ | j) a h
    · cases h; rfl
    · simp at h
  rintro _ rfl
  simp (config := { maxSteps := 1000000 }) only [go_sem, ↓reduceIte, Nat.reduceEqDiff, Nat.reduceAdd, Nat.reduceMul, Nat.reduceSub, Nat.reduceLT, Nat.reduceLeDiff, Int.reduceLT, Int.reduceLE, Int.reduceEq, Int.reduceNe, Int.reduceAdd, Int.reduceNeg, Int.reduceToNat]
  refine hook_view rfl (xs := [.one (.d (ints [0])), .one (.d (ints [0]))]) ?_ (Same_A [0] [0] (by decide) (by decide)) (by rintro _ rfl; rfl) ?_
  · refine ⟨_, _, rfl, ⟨_, .d _, rfl⟩, _, _, rfl, ⟨_, frz_map rfl rfl [0] (fun m : Int => .int .i64 m) (fun _ => rfl) rfl ?_ (by decide), rfl⟩, rfl⟩
    rintro (_ | j) a h
    · cases h; rfl
    · simp at h
  rintro _ rfl
  simp (config := { maxSteps := 1000000 }) only [go_sem, ↓reduceIte, Nat.reduceEqDiff, Nat.reduceAdd, Nat.reduceMul, Nat.reduceSub, Nat.reduceLT, Nat.reduceLeDiff, Int.reduceLT, Int.reduceLE, Int.reduceEq, Int.reduceNe, Int.reduceAdd, Int.reduceNeg, Int.reduceToNat]
  refine hook_vs _ (vs_gives (fun i => i == 57 || i == 58 || i == 59) (t := 59) rfl (x := intss [[1], [0]]) ?_) ?_
  · refine frzp_in (ho := rfl) ?_ ?_ ?_ ?_ ?_
    · rfl
    · rfl
    · rfl
    · rfl
    rintro (_ | _ | j) r c h1 h2
    · cases h1; cases h2; exact frzp_ints rfl rfl rfl rfl
    · cases h1; cases h2; exact frzp_ints rfl rfl rfl rfl
    · simp at h1
  refine hook_call rfl (Circle_A [[1], [0]] (fits_lit (by decide))) (by rfl) ?_
  intro r hr
  obtain ⟨c, rfl, hc⟩ := ex4 hr
  have hc' : ((c.length : Nat) : Int) = 2 := by omega
  simp (config := { maxSteps := 1000000 }) only [go_sem, ↓reduceIte, Nat.reduceEqDiff, Nat.reduceAdd, Nat.reduceMul, Nat.reduceSub, Nat.reduceLT, Nat.reduceLeDiff, Int.reduceLT, Int.reduceLE, Int.reduceEq, Int.reduceNe, Int.reduceAdd, Int.reduceNeg, Int.reduceToNat, nats, hc']

end Go.Proofs.Ytfhmibodjfpdfaa
