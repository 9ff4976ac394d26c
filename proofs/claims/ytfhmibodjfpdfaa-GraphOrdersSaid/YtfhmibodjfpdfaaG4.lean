/- A part of the proof; no conditions. -/
import Derived.Test.YtfhmibodjfpdfaaG3
import Derived.Test.YtfhmibodjfpdfaaAm13
import Derived.Test.YtfhmibodjfpdfaaGP
set_option linter.unusedSimpArgs false
set_option linter.unusedVariables false
namespace Go.Proofs.Ytfhmibodjfpdfaa
open Go Go.Am

def nats (l : List Nat) : D := .sl (l.map fun m : Nat => [.int .i64 m])
def natss (ys : List (List Nat)) : D := .sl (ys.map fun r => [nats r])
def toI (ys : List (List Nat)) : List (List Int) := ys.map fun r => r.map fun m : Nat => (m : Int)

theorem intss_toI (ys : List (List Nat)) : intss (toI ys) = natss ys := by simp [intss, natss, toI, ints, nats, Function.comp_def]

theorem Right.nat {xs : List (List Int)} (h : Right xs) : ∃ ys, xs = toI ys ∧ Rt ys := by
  refine ⟨xs.map fun r => r.map Int.toNat, ?_, ?_⟩
  · simp only [toI, List.map_map]
    symm
    rw [List.map_congr_left (g := id)]
    · simp
    · intro r hr
      simp only [Function.comp_def, List.map_map, id]
      rw [List.map_congr_left (g := id)]
      · simp
      · intro m hm
        have := h r hr m hm
        simp only [id]; omega
  · intro r hr m hm
    obtain ⟨r', hr', rfl⟩ := List.mem_map.1 hr
    obtain ⟨m', hm', rfl⟩ := List.mem_map.1 hm
    have := h r' hr' m' hm'
    simp only [List.length_map]; omega

/-- What stands in memory of a list of lists that are appended to: objects of their own, from the number b on. -/
def ocells (b : Nat) (gen : Nat → Nat) (n : Nat) (bh : Nat → List Nat) : List C := (List.range n).map fun k => .osl (k + b) (gen (k + b)) 1 0 (bh k).length
def ncells (l : List Nat) : List C := l.map fun m : Nat => .d (.int .i64 m)

/-- The state of the queue's memory. -/
structure Mem (n : Nat) (bh : Nat → List Nat) (op lv rd : List Nat) (s : St) : Prop where
  f4 : s.f 4 = .one (.osl 25 (s.gen 25) 1 0 n)
  f5 : s.f 5 = .one (.osl 28 (s.gen 28) 1 0 n)
  f6 : s.f 6 = .one (.osl 31 (s.gen 31) 1 0 n)
  f7 : s.f 7 = .one (.osl 67 (s.gen 67) 1 0 rd.length)
  o25 : s.obj 25 = some (ocells 1000 s.gen n bh)
  obh : ∀ k, k < n → s.obj (k + 1000) = some (ncells (bh k))
  o28 : s.obj 28 = some (ncells op)
  o31 : s.obj 31 = some (ncells lv)
  o67 : s.obj 67 = some (ncells rd)

theorem ocells_get {b n k : Nat} {gen : Nat → Nat} {bh : Nat → List Nat} (h : k < n) : (ocells b gen n bh)[k]? = some (.osl (k + b) (gen (k + b)) 1 0 (bh k).length) := by
  simp [ocells, h]
theorem ocells_len {b n : Nat} {gen : Nat → Nat} {bh : Nat → List Nat} : (ocells b gen n bh).length = n := by simp [ocells]

theorem ocells_set {b n x : Nat} {gen gen' : Nat → Nat} {bh bh' : Nat → List Nat} {g' l : Nat} (hg : gen' (x + b) = g') (hl : (bh' x).length = l)
    (h : ∀ k, k ≠ x → gen' (k + b) = gen (k + b) ∧ bh' k = bh k) : (ocells b gen n bh).set x (.osl (x + b) g' 1 0 l) = ocells b gen' n bh' := by
  apply List.ext_getElem?
  intro k
  simp only [ocells, List.getElem?_set, List.length_map, List.length_range, List.getElem?_map]
  by_cases hk : k < n
  · rw [List.getElem?_range hk]
    by_cases he : x = k
    · subst he; simp [hk, hg, hl]
    · have := h k (fun e => he e.symm)
      simp [he, this]
  · have h2 : (List.range n)[k]? = none := by simp; omega
    rw [h2]
    by_cases he : x = k
    · subst he; simp [hk]
    · simp [he]
theorem ocells_congr {b n : Nat} {gen gen' : Nat → Nat} {bh : Nat → List Nat} (h : ∀ k, k < n → gen' (k + b) = gen (k + b)) : ocells b gen n bh = ocells b gen' n bh := by
  simp only [ocells]
  apply List.map_congr_left
  intro k hk
  rw [h k (List.mem_range.1 hk)]
theorem getD_some {l : List Nat} {k v : Nat} (h : l[k]? = some v) : l.getD k 0 = v := by simp [List.getD, h]
theorem imax (a b : Nat) : max (a : Int) (b : Int) = ((max a b : Nat) : Int) := by omega
theorem imax1 (a b : Nat) : max ((a : Int) - 1) (b : Int) = ((max a (b + 1) : Nat) : Int) - 1 := by omega
theorem wrap_pred {k : Nat} (h0 : 0 < k) (h : k ≤ 4000000000000000000) : IntKind.i64.wrap ((k : Int) - 1) = ((k - 1 : Nat) : Int) := by rw [wrap_i64] <;> omega
theorem ncells_len {l : List Nat} : (ncells l).length = l.length := by simp [ncells]
theorem ncells_take {l : List Nat} : (ncells l).take l.length = ncells l := by rw [← ncells_len, List.take_length]
theorem ncells_snoc {l : List Nat} {x : Nat} : ncells (l ++ [x]) = ncells l ++ [.d (.int .i64 x)] := by simp [ncells]
theorem ncells_set {l : List Nat} {k v : Nat} : (ncells l).set k (.d (.int .i64 v)) = ncells (l.set k v) := by simp [ncells, List.map_set]
theorem ncells_get {l : List Nat} {k v : Nat} (h : l[k]? = some v) : (ncells l)[k]? = some (.d (.int .i64 v)) := by simp [ncells, h]
theorem ncells_rep {n : Nat} : (List.replicate n [C.d (D.int IntKind.i64 0)]).flatten = ncells (List.replicate n 0) := by
  induction n with
  | zero => rfl
  | succ n ih => simp only [List.replicate_succ, List.flatten_cons, ih, ncells, List.map_cons, List.cons_append, List.nil_append]; rfl

theorem room8 {n : Nat} (h : n ≤ 2000000000000) : roomOk n 8 := ⟨by decide, by omega⟩

theorem frz_nats {s : St} {id g len : Nat} {l : List Nat} (hg : s.gen id = g) (ho : s.obj id = some (ncells l)) (hl : l.length = len) : Frz s (.osl id g 1 0 len) (nats l) :=
  frz_map hg ho l (fun m : Nat => .int .i64 m) (fun _ => rfl) hl (fun j a h => by rw [Nat.zero_add]; exact ncells_get h) (by rw [ncells_len]; omega)

theorem frz_natss {s : St} {id g b n : Nat} {bh : Nat → List Nat} (hg : s.gen id = g) (ho : s.obj id = some (ocells b s.gen n bh)) (hi : ∀ k, k < n → s.obj (k + b) = some (ncells (bh k))) :
    Frz s (.osl id g 1 0 n) (natss ((List.range n).map bh)) := by
  have hfl : (((List.range n).map bh).map fun r => [nats r]).flatten = (List.range n).map fun k => nats (bh k) := by
    generalize List.range n = l
    induction l with
    | nil => rfl
    | cons a l ih => simp only [List.map_cons, List.flatten_cons, ih, List.cons_append, List.nil_append]
  have hget : ∀ (j : Nat) (x : D), (((List.range n).map bh).map fun r => [nats r]).flatten[j]? = some x → j < n ∧ x = nats (bh j) := by
    intro j x hx
    rw [hfl, List.getElem?_map] at hx
    by_cases hj : j < n
    · rw [List.getElem?_range hj] at hx
      exact ⟨hj, (Option.some.inj hx).symm⟩
    · have h2 : (List.range n)[j]? = none := by simp; omega
      rw [h2] at hx; cases hx
  refine .osl hg ho (by rw [ocells_len]; omega) (by simp) (fun e he => by obtain ⟨r, _, rfl⟩ := List.mem_map.1 he; rfl) (fun j => .osl (j + b) (s.gen (j + b)) 1 0 (bh j).length) (fun j x hx => ?_) (fun j x hx => ?_)
  · obtain ⟨hj, _⟩ := hget j x hx
    rw [Nat.zero_add, ocells_get hj]
  · obtain ⟨hj, rfl⟩ := hget j x hx
    exact frz_nats rfl (hi j hj) rfl

/-- What Levels gives. -/
def LevelsOut (xs : List (List Int)) (r : AV) : Prop :=
  (¬ Right xs ∧ r = .tup [.one (.d (.sl [])), iv .i64 1]) ∨
  ∃ ys, xs = toI ys ∧ Rt ys ∧ ((∃ lv, IsLv ys lv ∧ r = .tup [.one (.d (natss (groups lv))), iv .i64 0]) ∨ ((¬ ∃ lv, IsLv ys lv) ∧ r = .tup [.one (.d (.sl [])), iv .i64 11]))

set_option maxHeartbeats 2000000 in
theorem Levels_A (xs : List (List Int)) (hb : Fits xs) : PureR Try.prog 11 [.one (.d (intss xs))] (LevelsOut xs) := by
  have hbn := hb.n
  refine pure_of_wp Tt_ok mixed Try.func11 rfl (by rfl) [2, 3] rfl (by kernel_rfl) (by simp [Try.ntmps11]) fun g => ?_
  simp (config := { maxSteps := 1000000 }) only [go_sem, ↓reduceIte, Nat.reduceEqDiff, Nat.reduceAdd, Nat.reduceMul, Nat.reduceSub, Nat.reduceLT, Nat.reduceLeDiff, Int.reduceLT, Int.reduceLE, Int.reduceEq, Int.reduceNe, Int.reduceAdd, Int.reduceNeg, Int.reduceToNat, intss]
  refine hook_call rfl (mayBe_A xs hb) (by rfl) ?_
  rintro r rfl
  simp (config := { maxSteps := 1000000 }) only [go_sem, ↓reduceIte, Nat.reduceEqDiff, Nat.reduceAdd, Nat.reduceMul, Nat.reduceSub, Nat.reduceLT, Nat.reduceLeDiff, Int.reduceLT, Int.reduceLE, Int.reduceEq, Int.reduceNe, Int.reduceAdd, Int.reduceNeg, Int.reduceToNat, intss]
  refine ⟨fun hR => ?_, fun hR => ?_⟩
  rotate_left
  · exact .inl ⟨hR, rfl⟩
  obtain ⟨ys, rfl, hRt⟩ := hR.nat
  have hyl : (toI ys).length = ys.length := by simp [toI]
  have hys : D.sl (List.map (fun r => [ints r]) (toI ys)) = natss ys := intss_toI ys
  have hrows : ∀ r ∈ ys, r.length ≤ 1000000 := fun r hr => by
    have := hb.rows (r.map fun m : Nat => (m : Int)) (List.mem_map.2 ⟨r, hr, rfl⟩)
    simpa using this
  rw [hyl] at hbn ⊢
  rw [hys]
  refine ⟨Nat.le_refl _, by omega, by omega, Nat.le_refl _, by omega, by omega, Nat.le_refl _, by omega, by omega, ?_⟩
  refine loop_vs _ (SemVs.trans (vs_claim (id := 25) (b := 1000) (n := ys.length) (sz := 1) ?_ (by omega)) (vs_grab (t := 7) (id := 67) (sz := 1) ?_))
    (fun n s => ∃ (i : Nat) (bh : Nat → List Nat) (op rd : List Nat), n + i = ys.length ∧ s.f 0 = .one (.d (natss ys)) ∧ s.f 32 = .one (.d (natss ys)) ∧ s.f 33 = iv .i64 ys.length ∧ s.f 34 = iv .i64 i ∧
      Mem ys.length bh op (List.replicate ys.length 0) rd s ∧ Bh ys i 0 bh ∧ (∀ k, (bh k).length ≤ i * 1000000) ∧ Fst ys i op rd) ys.length ?_ ?_
  · simp (config := { maxSteps := 1000000 }) only [go_sem, ↓reduceIte, Nat.reduceEqDiff, Nat.reduceAdd, Nat.reduceMul, Nat.reduceSub, Nat.reduceLT, Nat.reduceLeDiff, Int.reduceLT, Int.reduceLE, Int.reduceEq, Int.reduceNe, Int.reduceAdd, Int.reduceNeg, Int.reduceToNat]
    simp
  · simp (config := { maxSteps := 1000000 }) only [go_sem, ↓reduceIte, Nat.reduceEqDiff, Nat.reduceAdd, Nat.reduceMul, Nat.reduceSub, Nat.reduceLT, Nat.reduceLeDiff, Int.reduceLT, Int.reduceLE, Int.reduceEq, Int.reduceNe, Int.reduceAdd, Int.reduceNeg, Int.reduceToNat, St.claim]
  · refine ⟨0, fun _ => [], List.replicate ys.length 0, [], ?_⟩
    simp (config := { maxSteps := 1000000 }) only [go_sem, ↓reduceIte, Nat.reduceEqDiff, Nat.reduceAdd, Nat.reduceMul, Nat.reduceSub, Nat.reduceLT, Nat.reduceLeDiff, Int.reduceLT, Int.reduceLE, Int.reduceEq, Int.reduceNe, Int.reduceAdd, Int.reduceNeg, Int.reduceToNat, St.claim, St.grab]
    refine ⟨rfl, rfl, ⟨?_, ?_, ?_, ?_, ?_, fun k hk => ?_, ?_, ?_, ?_⟩, Bh.init ys, Fst.init ys⟩
    · simp (config := { maxSteps := 1000000 }) only [go_sem, ↓reduceIte, Nat.reduceEqDiff, Nat.reduceAdd, Nat.reduceMul, Nat.reduceSub, Nat.reduceLT, Nat.reduceLeDiff, Int.reduceLT, Int.reduceLE, Int.reduceEq, Int.reduceNe, Int.reduceAdd, Int.reduceNeg, Int.reduceToNat, false_and]
    · simp (config := { maxSteps := 1000000 }) only [go_sem, ↓reduceIte, Nat.reduceEqDiff, Nat.reduceAdd, Nat.reduceMul, Nat.reduceSub, Nat.reduceLT, Nat.reduceLeDiff, Int.reduceLT, Int.reduceLE, Int.reduceEq, Int.reduceNe, Int.reduceAdd, Int.reduceNeg, Int.reduceToNat, false_and]
    · simp (config := { maxSteps := 1000000 }) only [go_sem, ↓reduceIte, Nat.reduceEqDiff, Nat.reduceAdd, Nat.reduceMul, Nat.reduceSub, Nat.reduceLT, Nat.reduceLeDiff, Int.reduceLT, Int.reduceLE, Int.reduceEq, Int.reduceNe, Int.reduceAdd, Int.reduceNeg, Int.reduceToNat, false_and]
    · simp (config := { maxSteps := 1000000 }) only [go_sem, ↓reduceIte, Nat.reduceEqDiff, Nat.reduceAdd, Nat.reduceMul, Nat.reduceSub, Nat.reduceLT, Nat.reduceLeDiff, Int.reduceLT, Int.reduceLE, Int.reduceEq, Int.reduceNe, Int.reduceAdd, Int.reduceNeg, Int.reduceToNat, false_and]
    · simp (config := { maxSteps := 1000000 }) only [go_sem, ↓reduceIte, Nat.reduceEqDiff, Nat.reduceAdd, Nat.reduceMul, Nat.reduceSub, Nat.reduceLT, Nat.reduceLeDiff, Int.reduceLT, Int.reduceLE, Int.reduceEq, Int.reduceNe, Int.reduceAdd, Int.reduceNeg, Int.reduceToNat, false_and]
      simp only [ocells, Option.some.injEq]
      apply List.map_congr_left
      intro k hk
      have hk := List.mem_range.1 hk
      have h1 : 1000 ≤ k + 1000 ∧ k + 1000 < 1000 + ys.length := by omega
      have h2 := h1.2
      simp (config := { maxSteps := 1000000 }) only [go_sem, ↓reduceIte, Nat.reduceEqDiff, Nat.reduceAdd, Nat.reduceMul, Nat.reduceSub, Nat.reduceLT, Nat.reduceLeDiff, Int.reduceLT, Int.reduceLE, Int.reduceEq, Int.reduceNe, Int.reduceAdd, Int.reduceNeg, Int.reduceToNat, h2, List.length_nil]
    · have h1 : 1000 ≤ k + 1000 ∧ k + 1000 < 1000 + ys.length := by omega
      simp (config := { maxSteps := 1000000 }) only [go_sem, ↓reduceIte, Nat.reduceEqDiff, Nat.reduceAdd, Nat.reduceMul, Nat.reduceSub, Nat.reduceLT, Nat.reduceLeDiff, Int.reduceLT, Int.reduceLE, Int.reduceEq, Int.reduceNe, Int.reduceAdd, Int.reduceNeg, Int.reduceToNat, h1]
      rfl
    · simp (config := { maxSteps := 1000000 }) only [go_sem, ↓reduceIte, Nat.reduceEqDiff, Nat.reduceAdd, Nat.reduceMul, Nat.reduceSub, Nat.reduceLT, Nat.reduceLeDiff, Int.reduceLT, Int.reduceLE, Int.reduceEq, Int.reduceNe, Int.reduceAdd, Int.reduceNeg, Int.reduceToNat, false_and, ncells_rep]
    · simp (config := { maxSteps := 1000000 }) only [go_sem, ↓reduceIte, Nat.reduceEqDiff, Nat.reduceAdd, Nat.reduceMul, Nat.reduceSub, Nat.reduceLT, Nat.reduceLeDiff, Int.reduceLT, Int.reduceLE, Int.reduceEq, Int.reduceNe, Int.reduceAdd, Int.reduceNeg, Int.reduceToNat, false_and, ncells_rep]
    · simp (config := { maxSteps := 1000000 }) only [go_sem, ↓reduceIte, Nat.reduceEqDiff, Nat.reduceAdd, Nat.reduceMul, Nat.reduceSub, Nat.reduceLT, Nat.reduceLeDiff, Int.reduceLT, Int.reduceLE, Int.reduceEq, Int.reduceNe, Int.reduceAdd, Int.reduceNeg, Int.reduceToNat]
      rfl
  · rintro n f g ob ⟨i, bh, op, rd, hi, h0, h32, h33, h34, hM, hbh, hbl, hF⟩
    obtain ⟨f4, f5, f6, f7, o25, obh, o28, o31, o67⟩ := hM
    simp only at h0 h32 h33 h34 f4 f5 f6 f7 o25 obh o28 o31 o67
    have hw := wrap_succ (k := i) (by omega)
    by_cases hlt : i < ys.length
    · obtain ⟨r, hr⟩ := getq hlt
      have hrl := hrows r (List.mem_of_getElem? hr)
      simp (config := { maxSteps := 1000000 }) only [go_sem, ↓reduceIte, Nat.reduceEqDiff, Nat.reduceAdd, Nat.reduceMul, Nat.reduceSub, Nat.reduceLT, Nat.reduceLeDiff, Int.reduceLT, Int.reduceLE, Int.reduceEq, Int.reduceNe, Int.reduceAdd, Int.reduceNeg, Int.reduceToNat, h0, h32, h33, h34, natss, hr, hlt, nats]
      refine loop_intro (fun n s => ∃ (j : Nat) (bh : Nat → List Nat), n + j = r.length ∧ s.f 0 = .one (.d (natss ys)) ∧ s.f 32 = .one (.d (natss ys)) ∧ s.f 33 = iv .i64 ys.length ∧ s.f 34 = iv .i64 i ∧
        s.f 8 = iv .i64 i ∧ s.f 9 = .one (.d (nats r)) ∧ s.f 39 = .one (.d (nats r)) ∧ s.f 40 = iv .i64 r.length ∧ s.f 41 = iv .i64 j ∧
        Mem ys.length bh op (List.replicate ys.length 0) rd s ∧ Bh ys i j bh ∧ (∀ k, (bh k).length ≤ i * 1000000 + j)) r.length ?_ ?_
      · refine ⟨0, bh, ?_⟩
        simp (config := { maxSteps := 1000000 }) only [go_sem, ↓reduceIte, Nat.reduceEqDiff, Nat.reduceAdd, Nat.reduceMul, Nat.reduceSub, Nat.reduceLT, Nat.reduceLeDiff, Int.reduceLT, Int.reduceLE, Int.reduceEq, Int.reduceNe, Int.reduceAdd, Int.reduceNeg, Int.reduceToNat, h0, h32, h33, h34, natss, nats]
        refine ⟨rfl, rfl, ⟨?_, ?_, ?_, ?_, ?_, fun k hk => ?_, ?_, ?_, ?_⟩, hbh, ?_⟩
        · simp (config := { maxSteps := 1000000 }) only [go_sem, ↓reduceIte, Nat.reduceEqDiff, Nat.reduceAdd, Nat.reduceMul, Nat.reduceSub, Nat.reduceLT, Nat.reduceLeDiff, Int.reduceLT, Int.reduceLE, Int.reduceEq, Int.reduceNe, Int.reduceAdd, Int.reduceNeg, Int.reduceToNat, f4]
        · simp (config := { maxSteps := 1000000 }) only [go_sem, ↓reduceIte, Nat.reduceEqDiff, Nat.reduceAdd, Nat.reduceMul, Nat.reduceSub, Nat.reduceLT, Nat.reduceLeDiff, Int.reduceLT, Int.reduceLE, Int.reduceEq, Int.reduceNe, Int.reduceAdd, Int.reduceNeg, Int.reduceToNat, f5]
        · simp (config := { maxSteps := 1000000 }) only [go_sem, ↓reduceIte, Nat.reduceEqDiff, Nat.reduceAdd, Nat.reduceMul, Nat.reduceSub, Nat.reduceLT, Nat.reduceLeDiff, Int.reduceLT, Int.reduceLE, Int.reduceEq, Int.reduceNe, Int.reduceAdd, Int.reduceNeg, Int.reduceToNat, f6]
        · simp (config := { maxSteps := 1000000 }) only [go_sem, ↓reduceIte, Nat.reduceEqDiff, Nat.reduceAdd, Nat.reduceMul, Nat.reduceSub, Nat.reduceLT, Nat.reduceLeDiff, Int.reduceLT, Int.reduceLE, Int.reduceEq, Int.reduceNe, Int.reduceAdd, Int.reduceNeg, Int.reduceToNat, f7]
        · simp (config := { maxSteps := 1000000 }) only [go_sem, ↓reduceIte, Nat.reduceEqDiff, Nat.reduceAdd, Nat.reduceMul, Nat.reduceSub, Nat.reduceLT, Nat.reduceLeDiff, Int.reduceLT, Int.reduceLE, Int.reduceEq, Int.reduceNe, Int.reduceAdd, Int.reduceNeg, Int.reduceToNat, o25]
        · simp (config := { maxSteps := 1000000 }) only [go_sem, ↓reduceIte, Nat.reduceEqDiff, Nat.reduceAdd, Nat.reduceMul, Nat.reduceSub, Nat.reduceLT, Nat.reduceLeDiff, Int.reduceLT, Int.reduceLE, Int.reduceEq, Int.reduceNe, Int.reduceAdd, Int.reduceNeg, Int.reduceToNat, obh k hk]
        · simp (config := { maxSteps := 1000000 }) only [go_sem, ↓reduceIte, Nat.reduceEqDiff, Nat.reduceAdd, Nat.reduceMul, Nat.reduceSub, Nat.reduceLT, Nat.reduceLeDiff, Int.reduceLT, Int.reduceLE, Int.reduceEq, Int.reduceNe, Int.reduceAdd, Int.reduceNeg, Int.reduceToNat, o28]
        · simp (config := { maxSteps := 1000000 }) only [go_sem, ↓reduceIte, Nat.reduceEqDiff, Nat.reduceAdd, Nat.reduceMul, Nat.reduceSub, Nat.reduceLT, Nat.reduceLeDiff, Int.reduceLT, Int.reduceLE, Int.reduceEq, Int.reduceNe, Int.reduceAdd, Int.reduceNeg, Int.reduceToNat, o31]
        · simp (config := { maxSteps := 1000000 }) only [go_sem, ↓reduceIte, Nat.reduceEqDiff, Nat.reduceAdd, Nat.reduceMul, Nat.reduceSub, Nat.reduceLT, Nat.reduceLeDiff, Int.reduceLT, Int.reduceLE, Int.reduceEq, Int.reduceNe, Int.reduceAdd, Int.reduceNeg, Int.reduceToNat, o67]
        · intro k
          rw [Nat.add_zero]
          exact hbl k
      · rintro n2 f g ob ⟨j, bh, hj, h0, h32, h33, h34, h8, h9, h39, h40, h41, hM, hbh, hbl⟩
        obtain ⟨f4, f5, f6, f7, o25, obh, o28, o31, o67⟩ := hM
        simp only at h0 h32 h33 h34 h8 h9 h39 h40 h41 f4 f5 f6 f7 o25 obh o28 o31 o67
        have hw2 := wrap_succ (k := j) (by omega)
        by_cases hjl : j < r.length
        · obtain ⟨x, hx⟩ := getq hjl
          have hxl : x < ys.length := hRt r (List.mem_of_getElem? hr) x (List.mem_of_getElem? hx)
          have hbx := hbl x
          have hox := obh x hxl
          simp (config := { maxSteps := 1000000 }) only [go_sem, ↓reduceIte, Nat.reduceEqDiff, Nat.reduceAdd, Nat.reduceMul, Nat.reduceSub, Nat.reduceLT, Nat.reduceLeDiff, Int.reduceLT, Int.reduceLE, Int.reduceEq, Int.reduceNe, Int.reduceAdd, Int.reduceNeg, Int.reduceToNat, h0, h32, h33, h34, h8, h9, h39, h40, h41, natss, nats, hjl, hx, f4, o25, hox, ocells_get hxl, ocells_len, hw2]
          refine ⟨hxl, by rw [ncells_len]; exact Nat.le_refl _, room8 (by omega), hxl, by omega, ?_⟩
          refine round_end (n2 - 1) (by omega) ⟨j + 1, fun k => if k = x then bh k ++ [i] else bh k, by omega, ?_⟩
          simp (config := { maxSteps := 1000000 }) only [go_sem, ↓reduceIte, Nat.reduceEqDiff, Nat.reduceAdd, Nat.reduceMul, Nat.reduceSub, Nat.reduceLT, Nat.reduceLeDiff, Int.reduceLT, Int.reduceLE, Int.reduceEq, Int.reduceNe, Int.reduceAdd, Int.reduceNeg, Int.reduceToNat, h0, h32, h33, h34, h8, h9, h39, h40, natss, nats]
          refine ⟨⟨?_, ?_, ?_, ?_, ?_, fun k hk => ?_, ?_, ?_, ?_⟩, hbh.step (by rw [row_of hr]; exact hx), fun k => ?_⟩
          · simp (config := { maxSteps := 1000000 }) only [go_sem, ↓reduceIte, Nat.reduceEqDiff, Nat.reduceAdd, Nat.reduceMul, Nat.reduceSub, Nat.reduceLT, Nat.reduceLeDiff, Int.reduceLT, Int.reduceLE, Int.reduceEq, Int.reduceNe, Int.reduceAdd, Int.reduceNeg, Int.reduceToNat, f4]
          · simp (config := { maxSteps := 1000000 }) only [go_sem, ↓reduceIte, Nat.reduceEqDiff, Nat.reduceAdd, Nat.reduceMul, Nat.reduceSub, Nat.reduceLT, Nat.reduceLeDiff, Int.reduceLT, Int.reduceLE, Int.reduceEq, Int.reduceNe, Int.reduceAdd, Int.reduceNeg, Int.reduceToNat, f5]
          · simp (config := { maxSteps := 1000000 }) only [go_sem, ↓reduceIte, Nat.reduceEqDiff, Nat.reduceAdd, Nat.reduceMul, Nat.reduceSub, Nat.reduceLT, Nat.reduceLeDiff, Int.reduceLT, Int.reduceLE, Int.reduceEq, Int.reduceNe, Int.reduceAdd, Int.reduceNeg, Int.reduceToNat, f6]
          · simp (config := { maxSteps := 1000000 }) only [go_sem, ↓reduceIte, Nat.reduceEqDiff, Nat.reduceAdd, Nat.reduceMul, Nat.reduceSub, Nat.reduceLT, Nat.reduceLeDiff, Int.reduceLT, Int.reduceLE, Int.reduceEq, Int.reduceNe, Int.reduceAdd, Int.reduceNeg, Int.reduceToNat, f7]
          · simp (config := { maxSteps := 1000000 }) only [go_sem, ↓reduceIte, Nat.reduceEqDiff, Nat.reduceAdd, Nat.reduceMul, Nat.reduceSub, Nat.reduceLT, Nat.reduceLeDiff, Int.reduceLT, Int.reduceLE, Int.reduceEq, Int.reduceNe, Int.reduceAdd, Int.reduceNeg, Int.reduceToNat]
            rw [ocells_set (gen' := upd (upd g 52 (g 52 + 1)) (x + 1000) (g (x + 1000) + 1)) (bh' := fun k => if k = x then bh k ++ [i] else bh k)]
            · simp (config := { maxSteps := 1000000 }) only [go_sem, ↓reduceIte, Nat.reduceEqDiff, Nat.reduceAdd, Nat.reduceMul, Nat.reduceSub, Nat.reduceLT, Nat.reduceLeDiff, Int.reduceLT, Int.reduceLE, Int.reduceEq, Int.reduceNe, Int.reduceAdd, Int.reduceNeg, Int.reduceToNat]
            · simp
            · intro k hk
              simp (config := { maxSteps := 1000000 }) only [go_sem, ↓reduceIte, Nat.reduceEqDiff, Nat.reduceAdd, Nat.reduceMul, Nat.reduceSub, Nat.reduceLT, Nat.reduceLeDiff, Int.reduceLT, Int.reduceLE, Int.reduceEq, Int.reduceNe, Int.reduceAdd, Int.reduceNeg, Int.reduceToNat, hk, Nat.add_right_cancel_iff]
          · by_cases hkx : k = x
            · subst hkx
              simp (config := { maxSteps := 1000000 }) only [go_sem, ↓reduceIte, Nat.reduceEqDiff, Nat.reduceAdd, Nat.reduceMul, Nat.reduceSub, Nat.reduceLT, Nat.reduceLeDiff, Int.reduceLT, Int.reduceLE, Int.reduceEq, Int.reduceNe, Int.reduceAdd, Int.reduceNeg, Int.reduceToNat, ncells_take, ncells_snoc]
            · have := obh k hk
              simp (config := { maxSteps := 1000000 }) only [go_sem, ↓reduceIte, Nat.reduceEqDiff, Nat.reduceAdd, Nat.reduceMul, Nat.reduceSub, Nat.reduceLT, Nat.reduceLeDiff, Int.reduceLT, Int.reduceLE, Int.reduceEq, Int.reduceNe, Int.reduceAdd, Int.reduceNeg, Int.reduceToNat, hkx, Nat.add_right_cancel_iff, this]
          · simp (config := { maxSteps := 1000000 }) only [go_sem, ↓reduceIte, Nat.reduceEqDiff, Nat.reduceAdd, Nat.reduceMul, Nat.reduceSub, Nat.reduceLT, Nat.reduceLeDiff, Int.reduceLT, Int.reduceLE, Int.reduceEq, Int.reduceNe, Int.reduceAdd, Int.reduceNeg, Int.reduceToNat, o28]
          · simp (config := { maxSteps := 1000000 }) only [go_sem, ↓reduceIte, Nat.reduceEqDiff, Nat.reduceAdd, Nat.reduceMul, Nat.reduceSub, Nat.reduceLT, Nat.reduceLeDiff, Int.reduceLT, Int.reduceLE, Int.reduceEq, Int.reduceNe, Int.reduceAdd, Int.reduceNeg, Int.reduceToNat, o31]
          · simp (config := { maxSteps := 1000000 }) only [go_sem, ↓reduceIte, Nat.reduceEqDiff, Nat.reduceAdd, Nat.reduceMul, Nat.reduceSub, Nat.reduceLT, Nat.reduceLeDiff, Int.reduceLT, Int.reduceLE, Int.reduceEq, Int.reduceNe, Int.reduceAdd, Int.reduceNeg, Int.reduceToNat, o67]
          · have := hbl k
            split
            · simp only [List.length_append, List.length_singleton]; omega
            · omega
        · have hjl' : j = r.length := by omega
          have hbn' := hbh.next (by rw [row_of hr]; exact hjl)
          have hrd := hF.rdlen
          have hF' := hF.step hlt
          rw [row_of hr] at hF'
          simp (config := { maxSteps := 1000000 }) only [go_sem, ↓reduceIte, Nat.reduceEqDiff, Nat.reduceAdd, Nat.reduceMul, Nat.reduceSub, Nat.reduceLT, Nat.reduceLeDiff, Int.reduceLT, Int.reduceLE, Int.reduceEq, Int.reduceNe, Int.reduceAdd, Int.reduceNeg, Int.reduceToNat, h0, h32, h33, h34, h8, h9, h39, h40, h41, natss, nats, hjl, f5, o28, f7, o67]
          refine ⟨hlt, by rw [ncells_len, hF.len]; omega, fun hz => ?_, fun hz => ?_⟩
          · have hz : r.length = 0 := by omega
            rw [if_pos hz] at hF'
            refine ⟨by rw [ncells_len]; exact Nat.le_refl _, room8 (by omega), ?_⟩
            simp (config := { maxSteps := 1000000 }) only [go_sem, ↓reduceIte, Nat.reduceEqDiff, Nat.reduceAdd, Nat.reduceMul, Nat.reduceSub, Nat.reduceLT, Nat.reduceLeDiff, Int.reduceLT, Int.reduceLE, Int.reduceEq, Int.reduceNe, Int.reduceAdd, Int.reduceNeg, Int.reduceToNat, hw]
            refine round_end (n - 1) (by omega) ⟨i + 1, bh, op.set i r.length, rd ++ [i], by omega, ?_⟩
            simp (config := { maxSteps := 1000000 }) only [go_sem, ↓reduceIte, Nat.reduceEqDiff, Nat.reduceAdd, Nat.reduceMul, Nat.reduceSub, Nat.reduceLT, Nat.reduceLeDiff, Int.reduceLT, Int.reduceLE, Int.reduceEq, Int.reduceNe, Int.reduceAdd, Int.reduceNeg, Int.reduceToNat, h0, h32, h33, natss, nats]
            refine ⟨⟨?_, ?_, ?_, ?_, ?_, fun k hk => ?_, ?_, ?_, ?_⟩, hbn', fun k => ?_, hF'⟩
            · simp (config := { maxSteps := 1000000 }) only [go_sem, ↓reduceIte, Nat.reduceEqDiff, Nat.reduceAdd, Nat.reduceMul, Nat.reduceSub, Nat.reduceLT, Nat.reduceLeDiff, Int.reduceLT, Int.reduceLE, Int.reduceEq, Int.reduceNe, Int.reduceAdd, Int.reduceNeg, Int.reduceToNat, f4]
            · simp (config := { maxSteps := 1000000 }) only [go_sem, ↓reduceIte, Nat.reduceEqDiff, Nat.reduceAdd, Nat.reduceMul, Nat.reduceSub, Nat.reduceLT, Nat.reduceLeDiff, Int.reduceLT, Int.reduceLE, Int.reduceEq, Int.reduceNe, Int.reduceAdd, Int.reduceNeg, Int.reduceToNat, f5]
            · simp (config := { maxSteps := 1000000 }) only [go_sem, ↓reduceIte, Nat.reduceEqDiff, Nat.reduceAdd, Nat.reduceMul, Nat.reduceSub, Nat.reduceLT, Nat.reduceLeDiff, Int.reduceLT, Int.reduceLE, Int.reduceEq, Int.reduceNe, Int.reduceAdd, Int.reduceNeg, Int.reduceToNat, f6]
            · simp (config := { maxSteps := 1000000 }) only [go_sem, ↓reduceIte, Nat.reduceEqDiff, Nat.reduceAdd, Nat.reduceMul, Nat.reduceSub, Nat.reduceLT, Nat.reduceLeDiff, Int.reduceLT, Int.reduceLE, Int.reduceEq, Int.reduceNe, Int.reduceAdd, Int.reduceNeg, Int.reduceToNat, f7, List.length_append]
            · simp (config := { maxSteps := 1000000 }) only [go_sem, ↓reduceIte, Nat.reduceEqDiff, Nat.reduceAdd, Nat.reduceMul, Nat.reduceSub, Nat.reduceLT, Nat.reduceLeDiff, Int.reduceLT, Int.reduceLE, Int.reduceEq, Int.reduceNe, Int.reduceAdd, Int.reduceNeg, Int.reduceToNat, o25]
              refine ocells_congr fun k hk => ?_
              simp (config := { maxSteps := 1000000 }) only [go_sem, ↓reduceIte, Nat.reduceEqDiff, Nat.reduceAdd, Nat.reduceMul, Nat.reduceSub, Nat.reduceLT, Nat.reduceLeDiff, Int.reduceLT, Int.reduceLE, Int.reduceEq, Int.reduceNe, Int.reduceAdd, Int.reduceNeg, Int.reduceToNat]
            · have := obh k hk
              simp (config := { maxSteps := 1000000 }) only [go_sem, ↓reduceIte, Nat.reduceEqDiff, Nat.reduceAdd, Nat.reduceMul, Nat.reduceSub, Nat.reduceLT, Nat.reduceLeDiff, Int.reduceLT, Int.reduceLE, Int.reduceEq, Int.reduceNe, Int.reduceAdd, Int.reduceNeg, Int.reduceToNat, this]
            · simp (config := { maxSteps := 1000000 }) only [go_sem, ↓reduceIte, Nat.reduceEqDiff, Nat.reduceAdd, Nat.reduceMul, Nat.reduceSub, Nat.reduceLT, Nat.reduceLeDiff, Int.reduceLT, Int.reduceLE, Int.reduceEq, Int.reduceNe, Int.reduceAdd, Int.reduceNeg, Int.reduceToNat, ncells_set]
            · simp (config := { maxSteps := 1000000 }) only [go_sem, ↓reduceIte, Nat.reduceEqDiff, Nat.reduceAdd, Nat.reduceMul, Nat.reduceSub, Nat.reduceLT, Nat.reduceLeDiff, Int.reduceLT, Int.reduceLE, Int.reduceEq, Int.reduceNe, Int.reduceAdd, Int.reduceNeg, Int.reduceToNat, o31]
            · simp (config := { maxSteps := 1000000 }) only [go_sem, ↓reduceIte, Nat.reduceEqDiff, Nat.reduceAdd, Nat.reduceMul, Nat.reduceSub, Nat.reduceLT, Nat.reduceLeDiff, Int.reduceLT, Int.reduceLE, Int.reduceEq, Int.reduceNe, Int.reduceAdd, Int.reduceNeg, Int.reduceToNat, ncells_take, ncells_snoc]
            · have := hbl k; omega
          · rw [if_neg (by omega)] at hF'
            simp (config := { maxSteps := 1000000 }) only [go_sem, ↓reduceIte, Nat.reduceEqDiff, Nat.reduceAdd, Nat.reduceMul, Nat.reduceSub, Nat.reduceLT, Nat.reduceLeDiff, Int.reduceLT, Int.reduceLE, Int.reduceEq, Int.reduceNe, Int.reduceAdd, Int.reduceNeg, Int.reduceToNat, hw]
            refine round_end (n - 1) (by omega) ⟨i + 1, bh, op.set i r.length, rd, by omega, ?_⟩
            simp (config := { maxSteps := 1000000 }) only [go_sem, ↓reduceIte, Nat.reduceEqDiff, Nat.reduceAdd, Nat.reduceMul, Nat.reduceSub, Nat.reduceLT, Nat.reduceLeDiff, Int.reduceLT, Int.reduceLE, Int.reduceEq, Int.reduceNe, Int.reduceAdd, Int.reduceNeg, Int.reduceToNat, h0, h32, h33, natss, nats]
            refine ⟨⟨?_, ?_, ?_, ?_, ?_, fun k hk => ?_, ?_, ?_, ?_⟩, hbn', fun k => ?_, hF'⟩
            · simp (config := { maxSteps := 1000000 }) only [go_sem, ↓reduceIte, Nat.reduceEqDiff, Nat.reduceAdd, Nat.reduceMul, Nat.reduceSub, Nat.reduceLT, Nat.reduceLeDiff, Int.reduceLT, Int.reduceLE, Int.reduceEq, Int.reduceNe, Int.reduceAdd, Int.reduceNeg, Int.reduceToNat, f4]
            · simp (config := { maxSteps := 1000000 }) only [go_sem, ↓reduceIte, Nat.reduceEqDiff, Nat.reduceAdd, Nat.reduceMul, Nat.reduceSub, Nat.reduceLT, Nat.reduceLeDiff, Int.reduceLT, Int.reduceLE, Int.reduceEq, Int.reduceNe, Int.reduceAdd, Int.reduceNeg, Int.reduceToNat, f5]
            · simp (config := { maxSteps := 1000000 }) only [go_sem, ↓reduceIte, Nat.reduceEqDiff, Nat.reduceAdd, Nat.reduceMul, Nat.reduceSub, Nat.reduceLT, Nat.reduceLeDiff, Int.reduceLT, Int.reduceLE, Int.reduceEq, Int.reduceNe, Int.reduceAdd, Int.reduceNeg, Int.reduceToNat, f6]
            · simp (config := { maxSteps := 1000000 }) only [go_sem, ↓reduceIte, Nat.reduceEqDiff, Nat.reduceAdd, Nat.reduceMul, Nat.reduceSub, Nat.reduceLT, Nat.reduceLeDiff, Int.reduceLT, Int.reduceLE, Int.reduceEq, Int.reduceNe, Int.reduceAdd, Int.reduceNeg, Int.reduceToNat, f7]
            · simp (config := { maxSteps := 1000000 }) only [go_sem, ↓reduceIte, Nat.reduceEqDiff, Nat.reduceAdd, Nat.reduceMul, Nat.reduceSub, Nat.reduceLT, Nat.reduceLeDiff, Int.reduceLT, Int.reduceLE, Int.reduceEq, Int.reduceNe, Int.reduceAdd, Int.reduceNeg, Int.reduceToNat, o25]
            · have := obh k hk
              simp (config := { maxSteps := 1000000 }) only [go_sem, ↓reduceIte, Nat.reduceEqDiff, Nat.reduceAdd, Nat.reduceMul, Nat.reduceSub, Nat.reduceLT, Nat.reduceLeDiff, Int.reduceLT, Int.reduceLE, Int.reduceEq, Int.reduceNe, Int.reduceAdd, Int.reduceNeg, Int.reduceToNat, this]
            · simp (config := { maxSteps := 1000000 }) only [go_sem, ↓reduceIte, Nat.reduceEqDiff, Nat.reduceAdd, Nat.reduceMul, Nat.reduceSub, Nat.reduceLT, Nat.reduceLeDiff, Int.reduceLT, Int.reduceLE, Int.reduceEq, Int.reduceNe, Int.reduceAdd, Int.reduceNeg, Int.reduceToNat, ncells_set]
            · simp (config := { maxSteps := 1000000 }) only [go_sem, ↓reduceIte, Nat.reduceEqDiff, Nat.reduceAdd, Nat.reduceMul, Nat.reduceSub, Nat.reduceLT, Nat.reduceLeDiff, Int.reduceLT, Int.reduceLE, Int.reduceEq, Int.reduceNe, Int.reduceAdd, Int.reduceNeg, Int.reduceToNat, o31]
            · simp (config := { maxSteps := 1000000 }) only [go_sem, ↓reduceIte, Nat.reduceEqDiff, Nat.reduceAdd, Nat.reduceMul, Nat.reduceSub, Nat.reduceLT, Nat.reduceLeDiff, Int.reduceLT, Int.reduceLE, Int.reduceEq, Int.reduceNe, Int.reduceAdd, Int.reduceNeg, Int.reduceToNat, o67]
            · have := hbl k; omega
    · have hin : i = ys.length := by omega
      subst hin
      have hW := hF.done
      have hcnt := hbh.done
      simp (config := { maxSteps := 1000000 }) only [go_sem, ↓reduceIte, Nat.reduceEqDiff, Nat.reduceAdd, Nat.reduceMul, Nat.reduceSub, Nat.reduceLT, Nat.reduceLeDiff, Int.reduceLT, Int.reduceLE, Int.reduceEq, Int.reduceNe, Int.reduceAdd, Int.reduceNeg, Int.reduceToNat, h33, h34, hlt]
      refine loop_intro (fun n s => ∃ (d : Nat) (op lv rd : List Nat) (h : Nat), n + d = ys.length ∧ s.f 0 = .one (.d (natss ys)) ∧ s.f 12 = iv .i64 ((h : Int) - 1) ∧ s.f 13 = iv .i64 d ∧
        Mem ys.length bh op lv rd s ∧ W ys rd (edges bh (rd.take d)) op lv ∧ Hi lv (rd.take d) h ∧ d ≤ rd.length ∧ (∀ a, lv.getD a 0 ≤ d)) ys.length ?_ ?_
      · refine ⟨0, op, List.replicate ys.length 0, rd, 0, ?_⟩
        simp (config := { maxSteps := 1000000 }) only [go_sem, ↓reduceIte, Nat.reduceEqDiff, Nat.reduceAdd, Nat.reduceMul, Nat.reduceSub, Nat.reduceLT, Nat.reduceLeDiff, Int.reduceLT, Int.reduceLE, Int.reduceEq, Int.reduceNe, Int.reduceAdd, Int.reduceNeg, Int.reduceToNat, h0]
        refine ⟨rfl, rfl, rfl, ⟨?_, ?_, ?_, ?_, ?_, fun k hk => ?_, ?_, ?_, ?_⟩, hW, ⟨fun p hp => (nomatch hp), .inl ⟨rfl, rfl⟩⟩, Nat.zero_le _, fun a => ?_⟩
        · simp (config := { maxSteps := 1000000 }) only [go_sem, ↓reduceIte, Nat.reduceEqDiff, Nat.reduceAdd, Nat.reduceMul, Nat.reduceSub, Nat.reduceLT, Nat.reduceLeDiff, Int.reduceLT, Int.reduceLE, Int.reduceEq, Int.reduceNe, Int.reduceAdd, Int.reduceNeg, Int.reduceToNat, f4]
        · simp (config := { maxSteps := 1000000 }) only [go_sem, ↓reduceIte, Nat.reduceEqDiff, Nat.reduceAdd, Nat.reduceMul, Nat.reduceSub, Nat.reduceLT, Nat.reduceLeDiff, Int.reduceLT, Int.reduceLE, Int.reduceEq, Int.reduceNe, Int.reduceAdd, Int.reduceNeg, Int.reduceToNat, f5]
        · simp (config := { maxSteps := 1000000 }) only [go_sem, ↓reduceIte, Nat.reduceEqDiff, Nat.reduceAdd, Nat.reduceMul, Nat.reduceSub, Nat.reduceLT, Nat.reduceLeDiff, Int.reduceLT, Int.reduceLE, Int.reduceEq, Int.reduceNe, Int.reduceAdd, Int.reduceNeg, Int.reduceToNat, f6]
        · simp (config := { maxSteps := 1000000 }) only [go_sem, ↓reduceIte, Nat.reduceEqDiff, Nat.reduceAdd, Nat.reduceMul, Nat.reduceSub, Nat.reduceLT, Nat.reduceLeDiff, Int.reduceLT, Int.reduceLE, Int.reduceEq, Int.reduceNe, Int.reduceAdd, Int.reduceNeg, Int.reduceToNat, f7]
        · simp (config := { maxSteps := 1000000 }) only [go_sem, ↓reduceIte, Nat.reduceEqDiff, Nat.reduceAdd, Nat.reduceMul, Nat.reduceSub, Nat.reduceLT, Nat.reduceLeDiff, Int.reduceLT, Int.reduceLE, Int.reduceEq, Int.reduceNe, Int.reduceAdd, Int.reduceNeg, Int.reduceToNat, o25]
        · simp (config := { maxSteps := 1000000 }) only [go_sem, ↓reduceIte, Nat.reduceEqDiff, Nat.reduceAdd, Nat.reduceMul, Nat.reduceSub, Nat.reduceLT, Nat.reduceLeDiff, Int.reduceLT, Int.reduceLE, Int.reduceEq, Int.reduceNe, Int.reduceAdd, Int.reduceNeg, Int.reduceToNat, obh k hk]
        · simp (config := { maxSteps := 1000000 }) only [go_sem, ↓reduceIte, Nat.reduceEqDiff, Nat.reduceAdd, Nat.reduceMul, Nat.reduceSub, Nat.reduceLT, Nat.reduceLeDiff, Int.reduceLT, Int.reduceLE, Int.reduceEq, Int.reduceNe, Int.reduceAdd, Int.reduceNeg, Int.reduceToNat, o28]
        · simp (config := { maxSteps := 1000000 }) only [go_sem, ↓reduceIte, Nat.reduceEqDiff, Nat.reduceAdd, Nat.reduceMul, Nat.reduceSub, Nat.reduceLT, Nat.reduceLeDiff, Int.reduceLT, Int.reduceLE, Int.reduceEq, Int.reduceNe, Int.reduceAdd, Int.reduceNeg, Int.reduceToNat, o31]
        · simp (config := { maxSteps := 1000000 }) only [go_sem, ↓reduceIte, Nat.reduceEqDiff, Nat.reduceAdd, Nat.reduceMul, Nat.reduceSub, Nat.reduceLT, Nat.reduceLeDiff, Int.reduceLT, Int.reduceLE, Int.reduceEq, Int.reduceNe, Int.reduceAdd, Int.reduceNeg, Int.reduceToNat, o67]
        · simp only [List.getD, List.getElem?_replicate]; split <;> simp
      · clear h0 h32 h33 h34 f4 f5 f6 f7 o25 obh o28 o31 o67 hW hF
        rintro n f g ob ⟨d, op, lv, rd, h, hd, h0, h12, h13, hM, hW, hH, hdr, hlb⟩
        obtain ⟨f4, f5, f6, f7, o25, obh, o28, o31, o67⟩ := hM
        simp only at h0 h12 h13 f4 f5 f6 f7 o25 obh o28 o31 o67
        have hrn := nodup_length hW.nodup hW.lt
        have hw := wrap_succ (k := d) (by omega)
        by_cases hlt : d < rd.length
        · obtain ⟨k, hk⟩ := getq hlt
          have hkn : k < ys.length := hW.lt k (List.mem_of_getElem? hk)
          obtain ⟨lk, hlk⟩ := getq (l := lv) (k := k) (by rw [hW.lvl]; exact hkn)
          simp (config := { maxSteps := 1000000 }) only [go_sem, ↓reduceIte, Nat.reduceEqDiff, Nat.reduceAdd, Nat.reduceMul, Nat.reduceSub, Nat.reduceLT, Nat.reduceLeDiff, Int.reduceLT, Int.reduceLE, Int.reduceEq, Int.reduceNe, Int.reduceAdd, Int.reduceNeg, Int.reduceToNat, h0, h12, h13, f4, f5, f6, f7, o25, obh k hkn, o31, o67, hlt, ncells_get hk, ncells_get hlk, ocells_get hkn, ocells_len, ncells_len, imax1]
          refine ⟨hkn, hkn, ?_⟩
          have htk : rd.take (d + 1) = rd.take d ++ [k] := by rw [List.take_add_one, hk]; rfl
          have hH' := hH.add k
          rw [← htk, getD_some hlk] at hH'
          generalize hhh : max h (lk + 1) = h' at *
          have hblk := hbl k
          refine loop_intro (fun n s => ∃ (j : Nat) (op lv rd : List Nat), n + j = (bh k).length ∧ s.f 0 = .one (.d (natss ys)) ∧ s.f 12 = iv .i64 ((h' : Int) - 1) ∧ s.f 13 = iv .i64 d ∧ s.f 14 = iv .i64 k ∧
            s.f 88 = .one (.osl (k + 1000) (s.gen (k + 1000)) 1 0 (bh k).length) ∧ s.f 89 = iv .i64 (bh k).length ∧ s.f 90 = iv .i64 j ∧
            Mem ys.length bh op lv rd s ∧ W ys rd (edges bh (rd.take d) ++ ((bh k).take j).map fun a => (k, a)) op lv ∧ Hi lv (rd.take (d + 1)) h' ∧ rd[d]? = some k ∧ (∀ a, lv.getD a 0 ≤ d + 1) ∧ lv.getD k 0 ≤ d) (bh k).length ?_ ?_
          · refine ⟨0, op, lv, rd, ?_⟩
            simp (config := { maxSteps := 1000000 }) only [go_sem, ↓reduceIte, Nat.reduceEqDiff, Nat.reduceAdd, Nat.reduceMul, Nat.reduceSub, Nat.reduceLT, Nat.reduceLeDiff, Int.reduceLT, Int.reduceLE, Int.reduceEq, Int.reduceNe, Int.reduceAdd, Int.reduceNeg, Int.reduceToNat, h0, h13]
            refine ⟨rfl, rfl, ⟨?_, ?_, ?_, ?_, ?_, fun k hk => ?_, ?_, ?_, ?_⟩, by simpa using hW, hH', hk, fun a => Nat.le_succ_of_le (hlb a), hlb k⟩
            · simp (config := { maxSteps := 1000000 }) only [go_sem, ↓reduceIte, Nat.reduceEqDiff, Nat.reduceAdd, Nat.reduceMul, Nat.reduceSub, Nat.reduceLT, Nat.reduceLeDiff, Int.reduceLT, Int.reduceLE, Int.reduceEq, Int.reduceNe, Int.reduceAdd, Int.reduceNeg, Int.reduceToNat, f4]
            · simp (config := { maxSteps := 1000000 }) only [go_sem, ↓reduceIte, Nat.reduceEqDiff, Nat.reduceAdd, Nat.reduceMul, Nat.reduceSub, Nat.reduceLT, Nat.reduceLeDiff, Int.reduceLT, Int.reduceLE, Int.reduceEq, Int.reduceNe, Int.reduceAdd, Int.reduceNeg, Int.reduceToNat, f5]
            · simp (config := { maxSteps := 1000000 }) only [go_sem, ↓reduceIte, Nat.reduceEqDiff, Nat.reduceAdd, Nat.reduceMul, Nat.reduceSub, Nat.reduceLT, Nat.reduceLeDiff, Int.reduceLT, Int.reduceLE, Int.reduceEq, Int.reduceNe, Int.reduceAdd, Int.reduceNeg, Int.reduceToNat, f6]
            · simp (config := { maxSteps := 1000000 }) only [go_sem, ↓reduceIte, Nat.reduceEqDiff, Nat.reduceAdd, Nat.reduceMul, Nat.reduceSub, Nat.reduceLT, Nat.reduceLeDiff, Int.reduceLT, Int.reduceLE, Int.reduceEq, Int.reduceNe, Int.reduceAdd, Int.reduceNeg, Int.reduceToNat, f7]
            · simp (config := { maxSteps := 1000000 }) only [go_sem, ↓reduceIte, Nat.reduceEqDiff, Nat.reduceAdd, Nat.reduceMul, Nat.reduceSub, Nat.reduceLT, Nat.reduceLeDiff, Int.reduceLT, Int.reduceLE, Int.reduceEq, Int.reduceNe, Int.reduceAdd, Int.reduceNeg, Int.reduceToNat, o25]
            · simp (config := { maxSteps := 1000000 }) only [go_sem, ↓reduceIte, Nat.reduceEqDiff, Nat.reduceAdd, Nat.reduceMul, Nat.reduceSub, Nat.reduceLT, Nat.reduceLeDiff, Int.reduceLT, Int.reduceLE, Int.reduceEq, Int.reduceNe, Int.reduceAdd, Int.reduceNeg, Int.reduceToNat, obh k hk]
            · simp (config := { maxSteps := 1000000 }) only [go_sem, ↓reduceIte, Nat.reduceEqDiff, Nat.reduceAdd, Nat.reduceMul, Nat.reduceSub, Nat.reduceLT, Nat.reduceLeDiff, Int.reduceLT, Int.reduceLE, Int.reduceEq, Int.reduceNe, Int.reduceAdd, Int.reduceNeg, Int.reduceToNat, o28]
            · simp (config := { maxSteps := 1000000 }) only [go_sem, ↓reduceIte, Nat.reduceEqDiff, Nat.reduceAdd, Nat.reduceMul, Nat.reduceSub, Nat.reduceLT, Nat.reduceLeDiff, Int.reduceLT, Int.reduceLE, Int.reduceEq, Int.reduceNe, Int.reduceAdd, Int.reduceNeg, Int.reduceToNat, o31]
            · simp (config := { maxSteps := 1000000 }) only [go_sem, ↓reduceIte, Nat.reduceEqDiff, Nat.reduceAdd, Nat.reduceMul, Nat.reduceSub, Nat.reduceLT, Nat.reduceLeDiff, Int.reduceLT, Int.reduceLE, Int.reduceEq, Int.reduceNe, Int.reduceAdd, Int.reduceNeg, Int.reduceToNat, o67]
          · clear hH' h0 h12 h13 f4 f5 f6 f7 o25 obh o28 o31 o67 hW hH hhh hlk htk hk hlb hrn hlt hdr hw
            clear op lv rd h lk
            rintro n2 f g ob ⟨j, op, lv, rd, hj, h0, h12, h13, h14, h88, h89, h90, hM, hW, hH, hk, hlb, hlk⟩
            obtain ⟨f4, f5, f6, f7, o25, obh, o28, o31, o67⟩ := hM
            simp only at h0 h12 h13 h14 h88 h89 h90 f4 f5 f6 f7 o25 obh o28 o31 o67
            have hrn := nodup_length hW.nodup hW.lt
            have hdr : d < rd.length := (List.getElem?_eq_some_iff.1 hk).1
            have hw2 := wrap_succ (k := j) (by omega)
            by_cases hjl : j < (bh k).length
            · obtain ⟨x, hx⟩ := getq hjl
              have hxk : k ∈ row ys x := (edge_iff hcnt).1 (List.mem_of_getElem? hx)
              have hxn : x < ys.length := (hRt.lt hxk).2
              obtain ⟨o, ho⟩ := getq (l := op) (k := x) (by rw [hW.opl]; exact hxn)
              obtain ⟨lx, hlx⟩ := getq (l := lv) (k := x) (by rw [hW.lvl]; exact hxn)
              obtain ⟨lk, hlk'⟩ := getq (l := lv) (k := k) (by rw [hW.lvl]; exact hkn)
              have hpos := hW.pos hcnt hk hx hxn
              have hrow : o ≤ 1000000 := by
                have h1 := hW.cnt x hxn
                obtain ⟨r, hr⟩ := getq hxn
                have h2 := hrows r (List.mem_of_getElem? hr)
                rw [row_of hr, getD_some ho] at h1
                omega
              rw [getD_some ho] at hpos
              rw [getD_some hlk'] at hlk
              have hw3 := wrap_succ (k := lk) (by omega)
              have hw4 := wrap_pred hpos (by omega)
              have hst := hW.step hxn (List.mem_of_getElem? hk) (by rw [getD_some ho]; exact hpos)
              rw [getD_some ho, getD_some hlx, getD_some hlk'] at hst
              have ho' : (ncells (op.set x (o - 1)))[x]? = some (.d (.int .i64 ((o - 1 : Nat) : Int))) := ncells_get (by rw [List.getElem?_set_self (by rw [hW.opl]; exact hxn)])
              have hx1 : x + 1 ≤ ys.length := hxn
              have hxr : x ∉ rd := fun hm => by have := (hW.zero x hxn).2 hm; rw [getD_some ho] at this; omega
              have hEe : edges bh (rd.take d) ++ ((bh k).take (j + 1)).map (fun a => (k, a)) = edges bh (rd.take d) ++ ((bh k).take j).map (fun a => (k, a)) ++ [(k, x)] := by
                rw [List.take_add_one, hx]; simp
              have hlb' : ∀ a, (lv.set x (max lx (lk + 1))).getD a 0 ≤ d + 1 := fun a => by
                rw [getD_set _ _ _ _ (by rw [hW.lvl]; exact hxn)]
                have h1 := hlb x
                rw [getD_some hlx] at h1
                split
                · omega
                · exact hlb a
              have hkx : k ≠ x := fun e => hxr (e ▸ List.mem_of_getElem? hk)
              have hlk2 : (lv.set x (max lx (lk + 1))).getD k 0 ≤ d := by
                rw [getD_set _ _ _ _ (by rw [hW.lvl]; exact hxn), if_neg hkx, getD_some hlk']; exact hlk
              have hH2 : Hi (lv.set x (max lx (lk + 1))) (rd.take (d + 1)) h' := hH.set (fun hm => hxr (List.mem_of_mem_take hm)) (by rw [hW.lvl]; exact hxn)
              rw [← hEe] at hst
              simp (config := { maxSteps := 1000000 }) only [go_sem, ↓reduceIte, Nat.reduceEqDiff, Nat.reduceAdd, Nat.reduceMul, Nat.reduceSub, Nat.reduceLT, Nat.reduceLeDiff, Int.reduceLT, Int.reduceLE, Int.reduceEq, Int.reduceNe, Int.reduceAdd, Int.reduceNeg, Int.reduceToNat, h12, h13, h14, h88, h89, h90, f4, f5, f6, f7, o25, obh k hkn, o28, o31, o67, hjl, ncells_get hx, ncells_len, hW.opl, hW.lvl]
              refine draw_intro (by decide +kernel) ?_
              simp (config := { maxSteps := 1000000 }) only [go_sem, ↓reduceIte, Nat.reduceEqDiff, Nat.reduceAdd, Nat.reduceMul, Nat.reduceSub, Nat.reduceLT, Nat.reduceLeDiff, Int.reduceLT, Int.reduceLE, Int.reduceEq, Int.reduceNe, Int.reduceAdd, Int.reduceNeg, Int.reduceToNat, h12, h13, h14, h88, h89, h90, f4, f5, f6, f7, o25, obh k hkn, o28, o31, o67, hjl, ncells_get hx, ncells_get ho, ncells_get hlx, ncells_get hlk', ncells_len, hW.opl, hW.lvl, hw3, hw4, imax, ncells_set, hw2, ho', hxn, hx1, hkn]
              refine ⟨fun hz => ?_, fun hz => ?_⟩
              · have hz : o - 1 = 0 := by omega
                rw [if_pos hz] at hst
                have htd : (rd ++ [x]).take d = rd.take d := List.take_append_of_le_length (by omega)
                have htd1 : (rd ++ [x]).take (d + 1) = rd.take (d + 1) := List.take_append_of_le_length (by omega)
                refine ⟨Nat.le_refl _, room8 (by omega), ?_⟩
                refine round_end (n2 - 1) (by omega) ⟨j + 1, op.set x (o - 1), lv.set x (max lx (lk + 1)), rd ++ [x], by omega, ?_⟩
                simp (config := { maxSteps := 1000000 }) only [go_sem, ↓reduceIte, Nat.reduceEqDiff, Nat.reduceAdd, Nat.reduceMul, Nat.reduceSub, Nat.reduceLT, Nat.reduceLeDiff, Int.reduceLT, Int.reduceLE, Int.reduceEq, Int.reduceNe, Int.reduceAdd, Int.reduceNeg, Int.reduceToNat, h0, h12, h13, h14, h88, h89]
                refine ⟨⟨?_, ?_, ?_, ?_, ?_, fun k hk => ?_, ?_, ?_, ?_⟩, by rw [htd]; exact hst, by rw [htd1]; exact hH2, by rw [List.getElem?_append_left hdr]; exact hk, hlb', hlk2⟩
                · simp (config := { maxSteps := 1000000 }) only [go_sem, ↓reduceIte, Nat.reduceEqDiff, Nat.reduceAdd, Nat.reduceMul, Nat.reduceSub, Nat.reduceLT, Nat.reduceLeDiff, Int.reduceLT, Int.reduceLE, Int.reduceEq, Int.reduceNe, Int.reduceAdd, Int.reduceNeg, Int.reduceToNat, f4]
                · simp (config := { maxSteps := 1000000 }) only [go_sem, ↓reduceIte, Nat.reduceEqDiff, Nat.reduceAdd, Nat.reduceMul, Nat.reduceSub, Nat.reduceLT, Nat.reduceLeDiff, Int.reduceLT, Int.reduceLE, Int.reduceEq, Int.reduceNe, Int.reduceAdd, Int.reduceNeg, Int.reduceToNat, f5]
                · simp (config := { maxSteps := 1000000 }) only [go_sem, ↓reduceIte, Nat.reduceEqDiff, Nat.reduceAdd, Nat.reduceMul, Nat.reduceSub, Nat.reduceLT, Nat.reduceLeDiff, Int.reduceLT, Int.reduceLE, Int.reduceEq, Int.reduceNe, Int.reduceAdd, Int.reduceNeg, Int.reduceToNat, f6]
                · simp (config := { maxSteps := 1000000 }) only [go_sem, ↓reduceIte, Nat.reduceEqDiff, Nat.reduceAdd, Nat.reduceMul, Nat.reduceSub, Nat.reduceLT, Nat.reduceLeDiff, Int.reduceLT, Int.reduceLE, Int.reduceEq, Int.reduceNe, Int.reduceAdd, Int.reduceNeg, Int.reduceToNat, f7, List.length_append]
                · simp (config := { maxSteps := 1000000 }) only [go_sem, ↓reduceIte, Nat.reduceEqDiff, Nat.reduceAdd, Nat.reduceMul, Nat.reduceSub, Nat.reduceLT, Nat.reduceLeDiff, Int.reduceLT, Int.reduceLE, Int.reduceEq, Int.reduceNe, Int.reduceAdd, Int.reduceNeg, Int.reduceToNat, o25]
                  refine ocells_congr fun k hk => ?_
                  simp (config := { maxSteps := 1000000 }) only [go_sem, ↓reduceIte, Nat.reduceEqDiff, Nat.reduceAdd, Nat.reduceMul, Nat.reduceSub, Nat.reduceLT, Nat.reduceLeDiff, Int.reduceLT, Int.reduceLE, Int.reduceEq, Int.reduceNe, Int.reduceAdd, Int.reduceNeg, Int.reduceToNat]
                · simp (config := { maxSteps := 1000000 }) only [go_sem, ↓reduceIte, Nat.reduceEqDiff, Nat.reduceAdd, Nat.reduceMul, Nat.reduceSub, Nat.reduceLT, Nat.reduceLeDiff, Int.reduceLT, Int.reduceLE, Int.reduceEq, Int.reduceNe, Int.reduceAdd, Int.reduceNeg, Int.reduceToNat, obh k hk]
                · simp (config := { maxSteps := 1000000 }) only [go_sem, ↓reduceIte, Nat.reduceEqDiff, Nat.reduceAdd, Nat.reduceMul, Nat.reduceSub, Nat.reduceLT, Nat.reduceLeDiff, Int.reduceLT, Int.reduceLE, Int.reduceEq, Int.reduceNe, Int.reduceAdd, Int.reduceNeg, Int.reduceToNat]
                · simp (config := { maxSteps := 1000000 }) only [go_sem, ↓reduceIte, Nat.reduceEqDiff, Nat.reduceAdd, Nat.reduceMul, Nat.reduceSub, Nat.reduceLT, Nat.reduceLeDiff, Int.reduceLT, Int.reduceLE, Int.reduceEq, Int.reduceNe, Int.reduceAdd, Int.reduceNeg, Int.reduceToNat]
                · simp (config := { maxSteps := 1000000 }) only [go_sem, ↓reduceIte, Nat.reduceEqDiff, Nat.reduceAdd, Nat.reduceMul, Nat.reduceSub, Nat.reduceLT, Nat.reduceLeDiff, Int.reduceLT, Int.reduceLE, Int.reduceEq, Int.reduceNe, Int.reduceAdd, Int.reduceNeg, Int.reduceToNat, ncells_take, ncells_snoc]
              · rw [if_neg (by omega)] at hst
                refine round_end (n2 - 1) (by omega) ⟨j + 1, op.set x (o - 1), lv.set x (max lx (lk + 1)), rd, by omega, ?_⟩
                simp (config := { maxSteps := 1000000 }) only [go_sem, ↓reduceIte, Nat.reduceEqDiff, Nat.reduceAdd, Nat.reduceMul, Nat.reduceSub, Nat.reduceLT, Nat.reduceLeDiff, Int.reduceLT, Int.reduceLE, Int.reduceEq, Int.reduceNe, Int.reduceAdd, Int.reduceNeg, Int.reduceToNat, h0, h12, h13, h14, h88, h89]
                refine ⟨⟨?_, ?_, ?_, ?_, ?_, fun k hk => ?_, ?_, ?_, ?_⟩, hst, hH2, hk, hlb', hlk2⟩
                · simp (config := { maxSteps := 1000000 }) only [go_sem, ↓reduceIte, Nat.reduceEqDiff, Nat.reduceAdd, Nat.reduceMul, Nat.reduceSub, Nat.reduceLT, Nat.reduceLeDiff, Int.reduceLT, Int.reduceLE, Int.reduceEq, Int.reduceNe, Int.reduceAdd, Int.reduceNeg, Int.reduceToNat, f4]
                · simp (config := { maxSteps := 1000000 }) only [go_sem, ↓reduceIte, Nat.reduceEqDiff, Nat.reduceAdd, Nat.reduceMul, Nat.reduceSub, Nat.reduceLT, Nat.reduceLeDiff, Int.reduceLT, Int.reduceLE, Int.reduceEq, Int.reduceNe, Int.reduceAdd, Int.reduceNeg, Int.reduceToNat, f5]
                · simp (config := { maxSteps := 1000000 }) only [go_sem, ↓reduceIte, Nat.reduceEqDiff, Nat.reduceAdd, Nat.reduceMul, Nat.reduceSub, Nat.reduceLT, Nat.reduceLeDiff, Int.reduceLT, Int.reduceLE, Int.reduceEq, Int.reduceNe, Int.reduceAdd, Int.reduceNeg, Int.reduceToNat, f6]
                · simp (config := { maxSteps := 1000000 }) only [go_sem, ↓reduceIte, Nat.reduceEqDiff, Nat.reduceAdd, Nat.reduceMul, Nat.reduceSub, Nat.reduceLT, Nat.reduceLeDiff, Int.reduceLT, Int.reduceLE, Int.reduceEq, Int.reduceNe, Int.reduceAdd, Int.reduceNeg, Int.reduceToNat, f7]
                · simp (config := { maxSteps := 1000000 }) only [go_sem, ↓reduceIte, Nat.reduceEqDiff, Nat.reduceAdd, Nat.reduceMul, Nat.reduceSub, Nat.reduceLT, Nat.reduceLeDiff, Int.reduceLT, Int.reduceLE, Int.reduceEq, Int.reduceNe, Int.reduceAdd, Int.reduceNeg, Int.reduceToNat, o25]
                · simp (config := { maxSteps := 1000000 }) only [go_sem, ↓reduceIte, Nat.reduceEqDiff, Nat.reduceAdd, Nat.reduceMul, Nat.reduceSub, Nat.reduceLT, Nat.reduceLeDiff, Int.reduceLT, Int.reduceLE, Int.reduceEq, Int.reduceNe, Int.reduceAdd, Int.reduceNeg, Int.reduceToNat, obh k hk]
                · simp (config := { maxSteps := 1000000 }) only [go_sem, ↓reduceIte, Nat.reduceEqDiff, Nat.reduceAdd, Nat.reduceMul, Nat.reduceSub, Nat.reduceLT, Nat.reduceLeDiff, Int.reduceLT, Int.reduceLE, Int.reduceEq, Int.reduceNe, Int.reduceAdd, Int.reduceNeg, Int.reduceToNat]
                · simp (config := { maxSteps := 1000000 }) only [go_sem, ↓reduceIte, Nat.reduceEqDiff, Nat.reduceAdd, Nat.reduceMul, Nat.reduceSub, Nat.reduceLT, Nat.reduceLeDiff, Int.reduceLT, Int.reduceLE, Int.reduceEq, Int.reduceNe, Int.reduceAdd, Int.reduceNeg, Int.reduceToNat]
                · simp (config := { maxSteps := 1000000 }) only [go_sem, ↓reduceIte, Nat.reduceEqDiff, Nat.reduceAdd, Nat.reduceMul, Nat.reduceSub, Nat.reduceLT, Nat.reduceLeDiff, Int.reduceLT, Int.reduceLE, Int.reduceEq, Int.reduceNe, Int.reduceAdd, Int.reduceNeg, Int.reduceToNat, o67]
            · have hw := wrap_succ (k := d) (by omega)
              simp (config := { maxSteps := 1000000 }) only [go_sem, ↓reduceIte, Nat.reduceEqDiff, Nat.reduceAdd, Nat.reduceMul, Nat.reduceSub, Nat.reduceLT, Nat.reduceLeDiff, Int.reduceLT, Int.reduceLE, Int.reduceEq, Int.reduceNe, Int.reduceAdd, Int.reduceNeg, Int.reduceToNat, h12, h13, h14, h88, h89, h90, hjl, hw]
              refine round_end (n - 1) (by omega) ⟨d + 1, op, lv, rd, h', by omega, ?_⟩
              simp (config := { maxSteps := 1000000 }) only [go_sem, ↓reduceIte, Nat.reduceEqDiff, Nat.reduceAdd, Nat.reduceMul, Nat.reduceSub, Nat.reduceLT, Nat.reduceLeDiff, Int.reduceLT, Int.reduceLE, Int.reduceEq, Int.reduceNe, Int.reduceAdd, Int.reduceNeg, Int.reduceToNat, h0, h12, h13]
              have hEe : edges bh (rd.take d) ++ ((bh k).take j).map (fun a => (k, a)) = edges bh (rd.take (d + 1)) := by
                rw [List.take_of_length_le (l := bh k) (by omega), List.take_add_one, hk]; simp [edges]
              rw [hEe] at hW
              refine ⟨⟨?_, ?_, ?_, ?_, ?_, fun k hk => ?_, ?_, ?_, ?_⟩, hW, hH, hdr, hlb⟩
              · simp (config := { maxSteps := 1000000 }) only [go_sem, ↓reduceIte, Nat.reduceEqDiff, Nat.reduceAdd, Nat.reduceMul, Nat.reduceSub, Nat.reduceLT, Nat.reduceLeDiff, Int.reduceLT, Int.reduceLE, Int.reduceEq, Int.reduceNe, Int.reduceAdd, Int.reduceNeg, Int.reduceToNat, f4]
              · simp (config := { maxSteps := 1000000 }) only [go_sem, ↓reduceIte, Nat.reduceEqDiff, Nat.reduceAdd, Nat.reduceMul, Nat.reduceSub, Nat.reduceLT, Nat.reduceLeDiff, Int.reduceLT, Int.reduceLE, Int.reduceEq, Int.reduceNe, Int.reduceAdd, Int.reduceNeg, Int.reduceToNat, f5]
              · simp (config := { maxSteps := 1000000 }) only [go_sem, ↓reduceIte, Nat.reduceEqDiff, Nat.reduceAdd, Nat.reduceMul, Nat.reduceSub, Nat.reduceLT, Nat.reduceLeDiff, Int.reduceLT, Int.reduceLE, Int.reduceEq, Int.reduceNe, Int.reduceAdd, Int.reduceNeg, Int.reduceToNat, f6]
              · simp (config := { maxSteps := 1000000 }) only [go_sem, ↓reduceIte, Nat.reduceEqDiff, Nat.reduceAdd, Nat.reduceMul, Nat.reduceSub, Nat.reduceLT, Nat.reduceLeDiff, Int.reduceLT, Int.reduceLE, Int.reduceEq, Int.reduceNe, Int.reduceAdd, Int.reduceNeg, Int.reduceToNat, f7]
              · simp (config := { maxSteps := 1000000 }) only [go_sem, ↓reduceIte, Nat.reduceEqDiff, Nat.reduceAdd, Nat.reduceMul, Nat.reduceSub, Nat.reduceLT, Nat.reduceLeDiff, Int.reduceLT, Int.reduceLE, Int.reduceEq, Int.reduceNe, Int.reduceAdd, Int.reduceNeg, Int.reduceToNat, o25]
              · simp (config := { maxSteps := 1000000 }) only [go_sem, ↓reduceIte, Nat.reduceEqDiff, Nat.reduceAdd, Nat.reduceMul, Nat.reduceSub, Nat.reduceLT, Nat.reduceLeDiff, Int.reduceLT, Int.reduceLE, Int.reduceEq, Int.reduceNe, Int.reduceAdd, Int.reduceNeg, Int.reduceToNat, obh k hk]
              · simp (config := { maxSteps := 1000000 }) only [go_sem, ↓reduceIte, Nat.reduceEqDiff, Nat.reduceAdd, Nat.reduceMul, Nat.reduceSub, Nat.reduceLT, Nat.reduceLeDiff, Int.reduceLT, Int.reduceLE, Int.reduceEq, Int.reduceNe, Int.reduceAdd, Int.reduceNeg, Int.reduceToNat, o28]
              · simp (config := { maxSteps := 1000000 }) only [go_sem, ↓reduceIte, Nat.reduceEqDiff, Nat.reduceAdd, Nat.reduceMul, Nat.reduceSub, Nat.reduceLT, Nat.reduceLeDiff, Int.reduceLT, Int.reduceLE, Int.reduceEq, Int.reduceNe, Int.reduceAdd, Int.reduceNeg, Int.reduceToNat, o31]
              · simp (config := { maxSteps := 1000000 }) only [go_sem, ↓reduceIte, Nat.reduceEqDiff, Nat.reduceAdd, Nat.reduceMul, Nat.reduceSub, Nat.reduceLT, Nat.reduceLeDiff, Int.reduceLT, Int.reduceLE, Int.reduceEq, Int.reduceNe, Int.reduceAdd, Int.reduceNeg, Int.reduceToNat, o67]
        · have hdr' : d = rd.length := by omega
          subst hdr'
          rw [List.take_length] at hW hH
          have hh : h ≤ rd.length + 1 := by
            rcases hH.2 with ⟨h0, _⟩ | ⟨p, _, h1⟩
            · omega
            · have := hlb p; omega
          have hwh : IntKind.i64.wrap (h : Int) = (h : Int) := wrap_i64 _ (by omega) (by omega)
          simp (config := { maxSteps := 1000000 }) only [go_sem, ↓reduceIte, Nat.reduceEqDiff, Nat.reduceAdd, Nat.reduceMul, Nat.reduceSub, Nat.reduceLT, Nat.reduceLeDiff, Int.reduceLT, Int.reduceLE, Int.reduceEq, Int.reduceNe, Int.reduceAdd, Int.reduceNeg, Int.reduceToNat, h0, h12, h13, f4, f5, f6, f7, o31, o67, hlt, natss, Int.sub_add_cancel, hwh]
          refine ⟨fun hlt => .inr ⟨ys, rfl, hRt, .inr ⟨hW.noLv hRt hcnt hlt, rfl⟩⟩, fun hge => ?_⟩
          obtain ⟨hLv, hall⟩ := hW.isLv hRt hcnt (by omega)
          have hdp := hH.depth hW.lvl hall hW.lt
          refine ⟨Nat.le_refl _, by omega, by omega, ?_⟩
          refine loop_vs _ (vs_claim (id := 130) (b := 1000) (n := h) (sz := 1) ?_ (by omega))
            (fun n s => ∃ (i : Nat), n + i = ys.length ∧ s.f 17 = .one (.osl 130 (s.gen 130) 1 0 h) ∧ s.f 131 = .one (.osl 31 (s.gen 31) 1 0 ys.length) ∧ s.f 132 = iv .i64 ys.length ∧ s.f 133 = iv .i64 i ∧
              s.obj 31 = some (ncells lv) ∧ s.obj 130 = some (ocells 1000 s.gen h (group lv i)) ∧ (∀ k, k < h → s.obj (k + 1000) = some (ncells (group lv i k)))) ys.length ?_ ?_
          · simp (config := { maxSteps := 1000000 }) only [go_sem, ↓reduceIte, Nat.reduceEqDiff, Nat.reduceAdd, Nat.reduceMul, Nat.reduceSub, Nat.reduceLT, Nat.reduceLeDiff, Int.reduceLT, Int.reduceLE, Int.reduceEq, Int.reduceNe, Int.reduceAdd, Int.reduceNeg, Int.reduceToNat]
            simp
          · refine ⟨0, ?_⟩
            simp (config := { maxSteps := 1000000 }) only [go_sem, ↓reduceIte, Nat.reduceEqDiff, Nat.reduceAdd, Nat.reduceMul, Nat.reduceSub, Nat.reduceLT, Nat.reduceLeDiff, Int.reduceLT, Int.reduceLE, Int.reduceEq, Int.reduceNe, Int.reduceAdd, Int.reduceNeg, Int.reduceToNat, St.claim, false_and]
            refine ⟨rfl, rfl, ?_, ?_, fun k hk => ?_⟩
            · simp (config := { maxSteps := 1000000 }) only [go_sem, ↓reduceIte, Nat.reduceEqDiff, Nat.reduceAdd, Nat.reduceMul, Nat.reduceSub, Nat.reduceLT, Nat.reduceLeDiff, Int.reduceLT, Int.reduceLE, Int.reduceEq, Int.reduceNe, Int.reduceAdd, Int.reduceNeg, Int.reduceToNat, o31]
            · simp only [ocells, Option.some.injEq]
              apply List.map_congr_left
              intro k hk
              have hk := List.mem_range.1 hk
              have h1 : 1000 ≤ k + 1000 ∧ k + 1000 < 1000 + h := by omega
              have h2 := h1.2
              simp (config := { maxSteps := 1000000 }) only [go_sem, ↓reduceIte, Nat.reduceEqDiff, Nat.reduceAdd, Nat.reduceMul, Nat.reduceSub, Nat.reduceLT, Nat.reduceLeDiff, Int.reduceLT, Int.reduceLE, Int.reduceEq, Int.reduceNe, Int.reduceAdd, Int.reduceNeg, Int.reduceToNat, h2, group, List.range_zero, List.filter_nil]
            · have h1 : 1000 ≤ k + 1000 ∧ k + 1000 < 1000 + h := by omega
              have h2 := h1.2
              simp (config := { maxSteps := 1000000 }) only [go_sem, ↓reduceIte, Nat.reduceEqDiff, Nat.reduceAdd, Nat.reduceMul, Nat.reduceSub, Nat.reduceLT, Nat.reduceLeDiff, Int.reduceLT, Int.reduceLE, Int.reduceEq, Int.reduceNe, Int.reduceAdd, Int.reduceNeg, Int.reduceToNat, h1, h2]
              rfl
          · clear h0 h12 h13 f4 f5 f6 f7 o25 obh o28 o31 o67
            rintro n f g ob ⟨i, hi, f17, h131, h132, h133, o31, o130, obh⟩
            simp only at f17 h131 h132 h133 o31 o130 obh
            have hw := wrap_succ (k := i) (by omega)
            have hlvl := hW.lvl
            by_cases hlt : i < ys.length
            · obtain ⟨k, hk⟩ := getq (l := lv) (k := i) (by rw [hlvl]; exact hlt)
              have hkd : k < h := by
                rw [hdp, ← getD_some hk]; exact depth_ge (by rw [hlvl]; exact hlt)
              have hk1 : k + 1 ≤ h := hkd
              have hgl : (group lv i k).length ≤ i := by
                have := List.length_filter_le (fun a => lv.getD a 0 == k) (List.range i)
                simpa [group] using this
              simp (config := { maxSteps := 1000000 }) only [go_sem, ↓reduceIte, Nat.reduceEqDiff, Nat.reduceAdd, Nat.reduceMul, Nat.reduceSub, Nat.reduceLT, Nat.reduceLeDiff, Int.reduceLT, Int.reduceLE, Int.reduceEq, Int.reduceNe, Int.reduceAdd, Int.reduceNeg, Int.reduceToNat, f17, h131, h132, h133, o31, o130, obh k hkd, hlt, hlvl, ncells_get hk, ncells_len, ocells_get hkd, ocells_len, hkd, hw, hk1]
              refine ⟨Nat.le_refl _, room8 (by omega), ?_⟩
              refine round_end (n - 1) (by omega) ⟨i + 1, by omega, ?_⟩
              have hgs : ∀ q, group lv (i + 1) q = if q = k then group lv i q ++ [i] else group lv i q := fun q => by rw [group_succ, getD_some hk]
              simp (config := { maxSteps := 1000000 }) only [go_sem, ↓reduceIte, Nat.reduceEqDiff, Nat.reduceAdd, Nat.reduceMul, Nat.reduceSub, Nat.reduceLT, Nat.reduceLeDiff, Int.reduceLT, Int.reduceLE, Int.reduceEq, Int.reduceNe, Int.reduceAdd, Int.reduceNeg, Int.reduceToNat, h131, h132, o31]
              refine ⟨f17, ?_, fun q hq => ?_⟩
              · refine ocells_set ?_ ?_ ?_
                · simp (config := { maxSteps := 1000000 }) only [go_sem, ↓reduceIte, Nat.reduceEqDiff, Nat.reduceAdd, Nat.reduceMul, Nat.reduceSub, Nat.reduceLT, Nat.reduceLeDiff, Int.reduceLT, Int.reduceLE, Int.reduceEq, Int.reduceNe, Int.reduceAdd, Int.reduceNeg, Int.reduceToNat]
                · rw [hgs, if_pos rfl]; simp
                · intro q hq
                  rw [hgs, if_neg hq]
                  simp (config := { maxSteps := 1000000 }) only [go_sem, ↓reduceIte, Nat.reduceEqDiff, Nat.reduceAdd, Nat.reduceMul, Nat.reduceSub, Nat.reduceLT, Nat.reduceLeDiff, Int.reduceLT, Int.reduceLE, Int.reduceEq, Int.reduceNe, Int.reduceAdd, Int.reduceNeg, Int.reduceToNat, hq, Nat.add_right_cancel_iff]
              · rw [hgs]
                by_cases hqk : q = k
                · subst hqk
                  simp (config := { maxSteps := 1000000 }) only [go_sem, ↓reduceIte, Nat.reduceEqDiff, Nat.reduceAdd, Nat.reduceMul, Nat.reduceSub, Nat.reduceLT, Nat.reduceLeDiff, Int.reduceLT, Int.reduceLE, Int.reduceEq, Int.reduceNe, Int.reduceAdd, Int.reduceNeg, Int.reduceToNat, ncells_take, ncells_snoc]
                · have := obh q hq
                  simp (config := { maxSteps := 1000000 }) only [go_sem, ↓reduceIte, Nat.reduceEqDiff, Nat.reduceAdd, Nat.reduceMul, Nat.reduceSub, Nat.reduceLT, Nat.reduceLeDiff, Int.reduceLT, Int.reduceLE, Int.reduceEq, Int.reduceNe, Int.reduceAdd, Int.reduceNeg, Int.reduceToNat, hqk, this]
            · have hin : i = ys.length := by omega
              subst hin
              simp (config := { maxSteps := 1000000 }) only [go_sem, ↓reduceIte, Nat.reduceEqDiff, Nat.reduceAdd, Nat.reduceMul, Nat.reduceSub, Nat.reduceLT, Nat.reduceLeDiff, Int.reduceLT, Int.reduceLE, Int.reduceEq, Int.reduceNe, Int.reduceAdd, Int.reduceNeg, Int.reduceToNat, f17, h131, h132, h133, o31, o130, hlt]
              refine ⟨_, ⟨_, frz_natss rfl o130 obh, rfl⟩, .inr ⟨ys, rfl, hRt, .inl ⟨lv, hLv, ?_⟩⟩⟩
              rw [groups, ← hdp, hlvl]

end Go.Proofs.Ytfhmibodjfpdfaa
