/- The document's stack machine, as far as one fixed program goes. -/
import Derived.Test.YthengcpckdlpgaaL16
set_option linter.unusedSimpArgs false
set_option linter.unusedVariables false
namespace Go.Proofs.Ythengcpckdlpgaa
open Go Go.Am Go.Lower

def c32 (l : List Int) : List C := l.map fun v => .d (.int .u32 v)
def c8 (l : List Int) : List C := l.map fun v => .d (.int .u8 v)
theorem c32_len (l : List Int) : (c32 l).length = l.length := by simp [c32]
theorem c8_len (l : List Int) : (c8 l).length = l.length := by simp [c8]

/-- A machine in the midst of its one call. -/
structure Ms (fd : D) (mc : C) (g : Nat → Nat) (ob : Obs) (at' steps en : Int) (l out : List Int) (calls : Nat) : Prop where
  m : ob 25 = some [.d (.int .i64 0), .d fd, .d (.str []), .d (.int .i64 0), mc, .osl 101 (g 101) 1 0 out.length, .d (.int .i64 steps), .d (.int .i64 en), .osl 23 (g 23) 3 0 calls]
  c : ob 23 = some [.d (.int .i64 0), .d (.int .i64 at'), .osl 100 (g 100) 1 0 l.length]
  l : ∃ r, ob 100 = some (c32 l ++ r)
  o : ob 101 = some (c8 out)

theorem Ms.same {fd : D} {mc : C} {g g' : Nat → Nat} {ob ob' : Obs} {at' steps en : Int} {l out : List Int} {calls : Nat} (h : Ms fd mc g ob at' steps en l out calls) (hg : ∀ i, i ≤ 101 → g' i = g i) (ho : ∀ i, i = 25 ∨ i = 23 ∨ i = 100 ∨ i = 101 → ob' i = ob i) : Ms fd mc g' ob' at' steps en l out calls :=
  ⟨by rw [ho 25 (by simp), hg 101 (by decide), hg 23 (by decide)]; exact h.m, by rw [ho 23 (by simp), hg 100 (by decide)]; exact h.c, by rw [ho 100 (by simp)]; exact h.l, by rw [ho 101 (by simp)]; exact h.o⟩

set_option maxHeartbeats 4000000 in
set_option maxRecDepth 100000 in
theorem push_A {fd : D} {mc : C} {g : Nat → Nat} {ob : Obs} {at' steps en : Int} {l out : List Int} {g25 : Nat} {v : Int} (h : Ms fd mc g ob at' steps en l out 1) (h25 : g 25 = g25) (hl : l.length ≤ 100) :
    FunR Try.prog 32 [.one (.ptr 25 g25 0), iv .u32 v] g ob (fun r g' ob' => r = uv ∧ Ms fd mc g' ob' at' steps en (l ++ [v]) out 1 ∧ g' 25 = g25 ∧ ∀ i, i < 500 → i ≠ 23 → i ≠ 100 → ob' i = ob i ∧ g' i = g i) := by
  refine fun_of_wp 500 Tt_ok mixed Try.func32 rfl (by rfl) [] rfl (by kernel_rfl) (by simp [Try.ntmps32]) ?_
  obtain ⟨hm, hc, ⟨r, hll⟩, ho⟩ := h
  subst h25
  have hs : IntKind.i64.wrap ((1 : Int) - 1) = 0 := by decide
  simp (config := { maxSteps := 1000000 }) only [go_sem, ↓reduceIte, Nat.reduceEqDiff, Nat.reduceAdd, Nat.reduceMul, Nat.reduceSub, Nat.reduceLT, Nat.reduceLeDiff, Int.reduceLT, Int.reduceLE, Int.reduceEq, Int.reduceNe, Int.reduceAdd, Int.reduceNeg, Int.reduceToNat, hm, hc, hs]
  refine draw_det Tt_ok mixed [525, 100, 23] [([0], [0, 1], [], false), ([11], [0, 1], [], false), ([12], [0, 1], [], false), ([13], [0, 1], [], false), ([4], [0, 1], [], false), ([0], [0], [], false), ([16], [0], [], false), ([17], [0], [], false), ([18], [0], [], false), ([4], [0], [], false), ([19, 20], [0], [], false), ([21], [0], [], false), ([22], [0], [], false), ([1], [], [], false), ([24], [], [0], false), ([23, 25], [], [1], false), ([14, 15], [], [], false), ([27], [], [], false), ([28, 26], [], [], true)] 3 (by decide +kernel) rfl (by decide) ?_
  simp (config := { maxSteps := 1000000 }) only [go_sem, ↓reduceIte, Nat.reduceEqDiff, Nat.reduceAdd, Nat.reduceMul, Nat.reduceSub, Nat.reduceLT, Nat.reduceLeDiff, Int.reduceLT, Int.reduceLE, Int.reduceEq, Int.reduceNe, Int.reduceAdd, Int.reduceNeg, Int.reduceToNat]
  iterate 14 (apply det_pure; · (intro fa ga oa K' hK; simp (config := { maxSteps := 1000000 }) only [go_sem, ↓reduceIte, Nat.reduceEqDiff, Nat.reduceAdd, Nat.reduceMul, Nat.reduceSub, Nat.reduceLT, Nat.reduceLeDiff, Int.reduceLT, Int.reduceLE, Int.reduceEq, Int.reduceNe, Int.reduceAdd, Int.reduceNeg, Int.reduceToNat, hm, hc, hs] at hK ⊢; exact hK))
  (apply det_new; · (intro fa ga oa K' hK; simp (config := { maxSteps := 1000000 }) only [go_sem, ↓reduceIte, Nat.reduceEqDiff, Nat.reduceAdd, Nat.reduceMul, Nat.reduceSub, Nat.reduceLT, Nat.reduceLeDiff, Int.reduceLT, Int.reduceLE, Int.reduceEq, Int.reduceNe, Int.reduceAdd, Int.reduceNeg, Int.reduceToNat, hm, hc, hs] at hK ⊢; exact hK))
  apply det_new
  · intro fa ga oa K' hK
    simp (config := { maxSteps := 1000000 }) only [go_sem, ↓reduceIte, Nat.reduceEqDiff, Nat.reduceAdd, Nat.reduceMul, Nat.reduceSub, Nat.reduceLT, Nat.reduceLeDiff, Int.reduceLT, Int.reduceLE, Int.reduceEq, Int.reduceNe, Int.reduceAdd, Int.reduceNeg, Int.reduceToNat, hll, c32_len] at hK ⊢
    refine ⟨?_, ⟨?_, ?_⟩, hK⟩
    · rw [List.length_append, c32_len]; omega
    · decide
    · omega
  iterate 2 (apply det_pure; · (intro fa ga oa K' hK; simp (config := { maxSteps := 1000000 }) only [go_sem, ↓reduceIte, Nat.reduceEqDiff, Nat.reduceAdd, Nat.reduceMul, Nat.reduceSub, Nat.reduceLT, Nat.reduceLeDiff, Int.reduceLT, Int.reduceLE, Int.reduceEq, Int.reduceNe, Int.reduceAdd, Int.reduceNeg, Int.reduceToNat, hm, hc, hs] at hK ⊢; exact hK))
  apply det_last
  intro K' hK'
  simp (config := { maxSteps := 1000000 }) only [go_sem, ↓reduceIte, Nat.reduceEqDiff, Nat.reduceAdd, Nat.reduceMul, Nat.reduceSub, Nat.reduceLT, Nat.reduceLeDiff, Int.reduceLT, Int.reduceLE, Int.reduceEq, Int.reduceNe, Int.reduceAdd, Int.reduceNeg, Int.reduceToNat, hm, hc]
  refine hK' _ ?_
  refine ⟨_, SemVs.refl _, rfl, ⟨?_, ?_, ⟨[], ?_⟩, ?_⟩, ?_, ?_⟩
  · simp [upd, hm]
  · simp [upd, setAt]
  · simp [upd, c32]
  · simp [upd, ho]
  · simp [upd]
  · intro i hi h1 h2
    simp [upd, h1, h2, show ¬ i = 525 by omega]

set_option maxHeartbeats 4000000 in
set_option maxRecDepth 100000 in
theorem pop_A {fd : D} {mc : C} {g : Nat → Nat} {ob : Obs} {at' steps en : Int} {l out : List Int} {g25 : Nat} {v : Int} (h : Ms fd mc g ob at' steps en (l ++ [v]) out 1) (h25 : g 25 = g25) (hl : l.length ≤ 100) :
    FunR Try.prog 33 [.one (.ptr 25 g25 0)] g ob (fun r g' ob' => r = iv .u32 v ∧ Ms fd mc g' ob' at' steps en l out 1 ∧ g' 25 = g25 ∧ ∀ i, i < 500 → i ≠ 23 → i ≠ 100 → ob' i = ob i ∧ g' i = g i) := by
  refine fun_of_wp 500 Tt_ok mixed Try.func33 rfl (by rfl) [2] rfl (by kernel_rfl) (by simp [Try.ntmps33]) ?_
  obtain ⟨hm, hc, ⟨r, hll⟩, ho⟩ := h
  subst h25
  have hs : IntKind.i64.wrap ((1 : Int) - 1) = 0 := by decide
  have hs2 : IntKind.i64.wrap (((l ++ [v]).length : Int) - 1) = (l.length : Int) := by rw [wrap_i64] <;> simp <;> omega
  have hv : (c32 (l ++ [v]) ++ r)[l.length]? = some (.d (.int .u32 v)) := by
    rw [List.getElem?_append_left (by rw [c32_len]; simp)]
    simp [c32]
  have hlt : l.length < (l ++ [v]).length := by simp
  have hle : l.length ≤ (l ++ [v]).length := by simp
  simp (config := { maxSteps := 1000000 }) only [go_sem, ↓reduceIte, Nat.reduceEqDiff, Nat.reduceAdd, Nat.reduceMul, Nat.reduceSub, Nat.reduceLT, Nat.reduceLeDiff, Int.reduceLT, Int.reduceLE, Int.reduceEq, Int.reduceNe, Int.reduceAdd, Int.reduceNeg, Int.reduceToNat, hm, hc, hs, hs2, hll, hv, hlt]
  refine draw_introB (by decide +kernel) ?_
  simp (config := { maxSteps := 1000000 }) only [go_sem, ↓reduceIte, Nat.reduceEqDiff, Nat.reduceAdd, Nat.reduceMul, Nat.reduceSub, Nat.reduceLT, Nat.reduceLeDiff, Int.reduceLT, Int.reduceLE, Int.reduceEq, Int.reduceNe, Int.reduceAdd, Int.reduceNeg, Int.reduceToNat, hm, hc, hs, hs2, hll, hle]
  refine ⟨Nat.zero_le _, _, SemVs.refl _, rfl, ⟨?_, ?_, ⟨c32 [v] ++ r, ?_⟩, ?_⟩, rfl, ?_⟩
  · simp [upd, hm]
  · simp [upd, setAt]
  · simp only [upd]; simp [hll, c32]
  · simp [upd, ho]
  · intro i hi h1 h2
    simp [upd, h1]

set_option maxHeartbeats 4000000 in
set_option maxRecDepth 100000 in
theorem mjump_A {fd : D} {mc : C} {g : Nat → Nat} {ob : Obs} {at' steps en a : Int} {l out : List Int} {g25 : Nat} (h : Ms fd mc g ob at' steps en l out 1) (h25 : g 25 = g25) :
    FunR Try.prog 31 [.one (.ptr 25 g25 0), iv .i64 a] g ob (fun r g' ob' => r = uv ∧ Ms fd mc g' ob' a steps en l out 1 ∧ g' 25 = g25 ∧ ∀ i, i < 500 → i ≠ 23 → i ≠ 100 → ob' i = ob i ∧ g' i = g i) := by
  refine fun_of_wp 500 Tt_ok mixed Try.func31 rfl (by rfl) [] rfl (by kernel_rfl) (by simp [Try.ntmps31]) ?_
  obtain ⟨hm, hc, ⟨r, hll⟩, ho⟩ := h
  subst h25
  have hs : IntKind.i64.wrap ((1 : Int) - 1) = 0 := by decide
  simp (config := { maxSteps := 1000000 }) only [go_sem, ↓reduceIte, Nat.reduceEqDiff, Nat.reduceAdd, Nat.reduceMul, Nat.reduceSub, Nat.reduceLT, Nat.reduceLeDiff, Int.reduceLT, Int.reduceLE, Int.reduceEq, Int.reduceNe, Int.reduceAdd, Int.reduceNeg, Int.reduceToNat]
  refine draw_introB (by decide +kernel) ?_
  simp (config := { maxSteps := 1000000 }) only [go_sem, ↓reduceIte, Nat.reduceEqDiff, Nat.reduceAdd, Nat.reduceMul, Nat.reduceSub, Nat.reduceLT, Nat.reduceLeDiff, Int.reduceLT, Int.reduceLE, Int.reduceEq, Int.reduceNe, Int.reduceAdd, Int.reduceNeg, Int.reduceToNat, hm, hc, hs]
  refine ⟨_, SemVs.refl _, rfl, ⟨?_, ?_, ⟨r, ?_⟩, ?_⟩, rfl, ?_⟩
  · simp [upd, hm]
  · simp [upd, setAt]
  · simp [upd, hll]
  · simp [upd, ho]
  · intro i hi h1 h2
    simp [upd, h1]

set_option maxHeartbeats 4000000 in
set_option maxRecDepth 100000 in
theorem mret_A {fs : List Fn} {fx : Fn} (hfx : fs[0]? = some fx) (hwd : fx.word = false) {mc : C} {g : Nat → Nat} {ob : Obs} {at' steps en : Int} {l out : List Int} {g25 : Nat} (h : Ms (.sl (fs.map sfD)) mc g ob at' steps en l out 1) (h25 : g 25 = g25) :
    FunR Try.prog 36 [.one (.ptr 25 g25 0)] g ob (fun r g' ob' => r = uv ∧ Ms (.sl (fs.map sfD)) mc g' ob' at' steps 1 l out 0 ∧ g' 25 = g25 ∧ ∀ i, i ≠ 25 → ob' i = ob i ∧ g' i = g i) := by
  refine fun_of_wp 500 Tt_ok mixed Try.func36 rfl (by rfl) [] rfl (by kernel_rfl) (by simp [Try.ntmps36]) ?_
  obtain ⟨hm, hc, ⟨r, hll⟩, ho⟩ := h
  subst h25
  have hs : IntKind.i64.wrap ((1 : Int) - 1) = 0 := by decide
  simp (config := { maxSteps := 1000000 }) only [go_sem, ↓reduceIte, Nat.reduceEqDiff, Nat.reduceAdd, Nat.reduceMul, Nat.reduceSub, Nat.reduceLT, Nat.reduceLeDiff, Int.reduceLT, Int.reduceLE, Int.reduceEq, Int.reduceNe, Int.reduceAdd, Int.reduceNeg, Int.reduceToNat]
  refine draw_introB (by decide +kernel) ?_
  simp (config := { maxSteps := 1000000 }) only [go_sem, ↓reduceIte, Nat.reduceEqDiff, Nat.reduceAdd, Nat.reduceMul, Nat.reduceSub, Nat.reduceLT, Nat.reduceLeDiff, Int.reduceLT, Int.reduceLE, Int.reduceEq, Int.reduceNe, Int.reduceAdd, Int.reduceNeg, Int.reduceToNat, hm, hc, hs, hfx, sfD, hwd]
  refine draw_introB (by decide +kernel) ?_
  simp (config := { maxSteps := 1000000 }) only [go_sem, ↓reduceIte, Nat.reduceEqDiff, Nat.reduceAdd, Nat.reduceMul, Nat.reduceSub, Nat.reduceLT, Nat.reduceLeDiff, Int.reduceLT, Int.reduceLE, Int.reduceEq, Int.reduceNe, Int.reduceAdd, Int.reduceNeg, Int.reduceToNat, hm, hc, hs, setAt]
  refine ⟨_, SemVs.refl _, rfl, ⟨?_, ?_, ⟨r, ?_⟩, ?_⟩, rfl, fun i hi => ⟨?_, rfl⟩⟩
  · simp [upd, setAt]
  · simp [upd, hc]
  · simp [upd, hll]
  · simp [upd, ho]
  · simp [upd, hi]

set_option maxHeartbeats 4000000 in
set_option maxRecDepth 100000 in
theorem Apply_A : PureR Try.prog 34 [iv .i64 4, iv .u32 40, iv .u32 25] (· = .tup [iv .u32 65, iv .i64 0]) := by
  refine pure_of_wp Tt_ok mixed Try.func34 rfl (by rfl) [6, 7] rfl (by kernel_rfl) (by simp [Try.ntmps34]) fun g => ?_
  simp (config := { maxSteps := 1000000 }) only [go_sem, ↓reduceIte, Nat.reduceEqDiff, Nat.reduceAdd, Nat.reduceMul, Nat.reduceSub, Nat.reduceLT, Nat.reduceLeDiff, Int.reduceLT, Int.reduceLE, Int.reduceEq, Int.reduceNe, Int.reduceAdd, Int.reduceNeg, Int.reduceToNat, show IntKind.u64.wrap 40 = 40 by decide, show IntKind.u64.wrap 25 = 25 by decide, show IntKind.u64.wrap 65 = 65 by decide, show IntKind.u32.wrap 65 = 65 by decide, show (65 : Int).tmod 4294967296 = 65 by decide]

/-- What these few instructions do. -/
inductive Does : Ins → List Int → List Int → List Int → List Int → Int → Nat → Prop where
  | push (n : Int) (l out : List Int) : Does ⟨1, 0, 0, n⟩ l out (l ++ [n]) out 0 1
  | add (l out : List Int) : Does ⟨6, 4, 0, 0⟩ (l ++ [40] ++ [25]) out (l ++ [65]) out 0 1
  | put (l out : List Int) : Does ⟨13, 0, 0, 0⟩ (l ++ [65]) out l (out ++ [65]) 0 1
  | ret (l out : List Int) : Does ⟨11, 0, 0, 0⟩ l out l out 1 0

set_option maxHeartbeats 8000000 in
set_option maxRecDepth 100000 in
theorem step_A {fs : List Fn} {fx : Fn} (hfx : fs[0]? = some fx) (hwd : fx.word = false) {mc : C} {g : Nat → Nat} {ob : Obs} {at' steps : Nat} {l out l' out' : List Int} {en : Int} {calls g25 : Nat} {x : Ins} {d : Int}
    (h : Ms (.sl (fs.map sfD)) mc g ob at' steps 0 l out 1) (h25 : g 25 = g25) (hx : (codeOf fx.word fx.body)[at']? = some (x, d)) (hd : Does x l out l' out' en calls) (hl : l.length ≤ 50) (hol : out.length ≤ 50) (hst : steps ≤ 1000) (hat : at' ≤ 1000) :
    FunR Try.prog 22 [.one (.ptr 25 g25 0)] g ob (fun r g' ob' => r = uv ∧ Ms (.sl (fs.map sfD)) mc g' ob' ((at' + 1 : Nat) : Int) ((steps + 1 : Nat) : Int) en l' out' calls ∧ g' 25 = g25 ∧ ∀ i, i < 200 → i ≠ 25 → i ≠ 23 → i ≠ 100 → i ≠ 101 → ob' i = ob i ∧ g' i = g i) := by
  refine fun_of_wp 200 Tt_ok mixed Try.func22 rfl (by rfl) [] rfl (by kernel_rfl) (by simp [Try.ntmps22]) ?_
  have hs : IntKind.i64.wrap ((1 : Int) - 1) = 0 := by decide
  have hm := h.m
  have hc := h.c
  have hwa := wrap_succ (k := at') (by omega)
  have hws := wrap_succ (k := steps) (by omega)
  have hatl : at' < (codeOf fx.word fx.body).length := (List.getElem?_eq_some_iff.1 hx).1
  simp (config := { maxSteps := 1000000 }) only [go_sem, ↓reduceIte, Nat.reduceEqDiff, Nat.reduceAdd, Nat.reduceMul, Nat.reduceSub, Nat.reduceLT, Nat.reduceLeDiff, Int.reduceLT, Int.reduceLE, Int.reduceEq, Int.reduceNe, Int.reduceAdd, Int.reduceNeg, Int.reduceToNat]
  refine draw_det Tt_ok mixed [202] [([0], [0], [], false), ([15], [0], [], false), ([16], [0], [], false), ([17], [0], [], false), ([0], [0], [], false), ([19], [0], [], false), ([20], [0], [], false), ([21], [0], [], false), ([22], [0], [], false), ([23], [0], [], false), ([18, 24], [0], [], false), ([25], [0], [], false), ([], [], [0], false), ([2, 26], [], [], true)] 1 (by decide +kernel) rfl (by decide) ?_
  simp (config := { maxSteps := 1000000 }) only [go_sem, ↓reduceIte, Nat.reduceEqDiff, Nat.reduceAdd, Nat.reduceMul, Nat.reduceSub, Nat.reduceLT, Nat.reduceLeDiff, Int.reduceLT, Int.reduceLE, Int.reduceEq, Int.reduceNe, Int.reduceAdd, Int.reduceNeg, Int.reduceToNat]
  iterate 12 (apply det_pure; · (intro fa ga oa K' hK; simp (config := { maxSteps := 1000000 }) only [go_sem, ↓reduceIte, Nat.reduceEqDiff, Nat.reduceAdd, Nat.reduceMul, Nat.reduceSub, Nat.reduceLT, Nat.reduceLeDiff, Int.reduceLT, Int.reduceLE, Int.reduceEq, Int.reduceNe, Int.reduceAdd, Int.reduceNeg, Int.reduceToNat, hm, hc, hs, h25] at hK ⊢; exact hK))
  (apply det_new; · (intro fa ga oa K' hK; simp (config := { maxSteps := 1000000 }) only [go_sem, ↓reduceIte, Nat.reduceEqDiff, Nat.reduceAdd, Nat.reduceMul, Nat.reduceSub, Nat.reduceLT, Nat.reduceLeDiff, Int.reduceLT, Int.reduceLE, Int.reduceEq, Int.reduceNe, Int.reduceAdd, Int.reduceNeg, Int.reduceToNat] at hK ⊢; exact hK))
  apply det_last
  intro K' hK'
  simp (config := { maxSteps := 1000000 }) only [go_sem, ↓reduceIte, Nat.reduceEqDiff, Nat.reduceAdd, Nat.reduceMul, Nat.reduceSub, Nat.reduceLT, Nat.reduceLeDiff, Int.reduceLT, Int.reduceLE, Int.reduceEq, Int.reduceNe, Int.reduceAdd, Int.reduceNeg, Int.reduceToNat, setAt]
  refine hK' _ ?_
  clear hK' K'
  simp (config := { maxSteps := 1000000 }) only [go_sem, ↓reduceIte, Nat.reduceEqDiff, Nat.reduceAdd, Nat.reduceMul, Nat.reduceSub, Nat.reduceLT, Nat.reduceLeDiff, Int.reduceLT, Int.reduceLE, Int.reduceEq, Int.reduceNe, Int.reduceAdd, Int.reduceNeg, Int.reduceToNat]
  refine draw_det Tt_ok mixed [203] [([0], [0], [], false), ([27], [0], [], false), ([28], [0], [], false), ([29], [0], [], false), ([30], [0], [], false), ([2], [0], [], false), ([32], [0], [], false), ([31, 33], [0], [], false), ([34], [0], [], false), ([35], [0], [], false), ([2], [0], [], false), ([37], [0], [], false), ([36, 38], [0], [], false), ([39], [0], [], false), ([], [], [0], false), ([3, 40], [], [], true)] 1 (by decide +kernel) rfl (by decide) ?_
  simp (config := { maxSteps := 1000000 }) only [go_sem, ↓reduceIte, Nat.reduceEqDiff, Nat.reduceAdd, Nat.reduceMul, Nat.reduceSub, Nat.reduceLT, Nat.reduceLeDiff, Int.reduceLT, Int.reduceLE, Int.reduceEq, Int.reduceNe, Int.reduceAdd, Int.reduceNeg, Int.reduceToNat]
  iterate 14 (apply det_pure; · (intro fa ga oa K' hK; simp (config := { maxSteps := 1000000 }) only [go_sem, ↓reduceIte, Nat.reduceEqDiff, Nat.reduceAdd, Nat.reduceMul, Nat.reduceSub, Nat.reduceLT, Nat.reduceLeDiff, Int.reduceLT, Int.reduceLE, Int.reduceEq, Int.reduceNe, Int.reduceAdd, Int.reduceNeg, Int.reduceToNat, hm, hc, hs, h25, hfx, sfD, hx, hatl, List.length_map, insD_len] at hK ⊢; exact hK))
  (apply det_new; · (intro fa ga oa K' hK; simp (config := { maxSteps := 1000000 }) only [go_sem, ↓reduceIte, Nat.reduceEqDiff, Nat.reduceAdd, Nat.reduceMul, Nat.reduceSub, Nat.reduceLT, Nat.reduceLeDiff, Int.reduceLT, Int.reduceLE, Int.reduceEq, Int.reduceNe, Int.reduceAdd, Int.reduceNeg, Int.reduceToNat] at hK ⊢; exact hK))
  apply det_last
  intro K' hK'
  simp (config := { maxSteps := 1000000 }) only [go_sem, ↓reduceIte, Nat.reduceEqDiff, Nat.reduceAdd, Nat.reduceMul, Nat.reduceSub, Nat.reduceLT, Nat.reduceLeDiff, Int.reduceLT, Int.reduceLE, Int.reduceEq, Int.reduceNe, Int.reduceAdd, Int.reduceNeg, Int.reduceToNat, setAt, insD]
  refine hK' _ ?_
  clear hK' K'
  simp (config := { maxSteps := 1000000 }) only [go_sem, ↓reduceIte, Nat.reduceEqDiff, Nat.reduceAdd, Nat.reduceMul, Nat.reduceSub, Nat.reduceLT, Nat.reduceLeDiff, Int.reduceLT, Int.reduceLE, Int.reduceEq, Int.reduceNe, Int.reduceAdd, Int.reduceNeg, Int.reduceToNat, hwa]
  refine hook_fun rfl (mjump_A (a := ((at' + 1 : Nat) : Int)) (h.same (fun i hi => by simp only [upd]; rw [if_neg (by omega), if_neg (by omega)]) (fun i hi => by simp only [upd]; rw [if_neg (by omega), if_neg (by omega), if_neg (by omega), if_neg (by omega)])) (by simp [upd, h25])) ?_
  rintro _ g1 ob1 ⟨rfl, h1, e25, q⟩
  have o203 : ob1 203 = some [.d (.int .i64 x.op), .d (.int .i64 x.a), .d (.int .i64 x.b), .d (.int .u32 x.n)] := by rw [(q 203 (by decide) (by decide) (by decide)).1]; simp [upd]
  have g203 : g1 203 = g 203 + 1 := by rw [(q 203 (by decide) (by decide) (by decide)).2]; simp [upd]
  have hq : ∀ i, i < 200 → i ≠ 25 → i ≠ 23 → i ≠ 100 → i ≠ 101 → ob1 i = ob i ∧ g1 i = g i := fun i h1 h2 h3 h4 h5 => by
    obtain ⟨e1, e2⟩ := q i (by omega) h3 h4
    refine ⟨e1.trans ?_, e2.trans ?_⟩
    · simp only [upd]; rw [if_neg (by omega), if_neg (by omega), if_neg (by omega), if_neg (by omega)]
    · simp only [upd]; rw [if_neg (by omega), if_neg (by omega)]
  clear q
  have h2 : Ms (.sl (fs.map sfD)) mc g1 (upd ob1 25 (some [.d (.int .i64 0), .d (.sl (fs.map sfD)), .d (.str []), .d (.int .i64 0), mc, .osl 101 (g1 101) 1 0 out.length, .d (.int .i64 ((steps + 1 : Nat) : Int)), .d (.int .i64 0), .osl 23 (g1 23) 3 0 1])) ((at' + 1 : Nat) : Int) ((steps + 1 : Nat) : Int) 0 l out 1 :=
    ⟨by simp [upd], by simp [upd, h1.c], by simpa [upd] using h1.l, by simp [upd, h1.o]⟩
  have hm1 := h1.m
  clear h1 hc hm h
  cases hd with
  | push n l out =>
    simp (config := { maxSteps := 1000000 }) only [go_sem, ↓reduceIte, Nat.reduceEqDiff, Nat.reduceAdd, Nat.reduceMul, Nat.reduceSub, Nat.reduceLT, Nat.reduceLeDiff, Int.reduceLT, Int.reduceLE, Int.reduceEq, Int.reduceNe, Int.reduceAdd, Int.reduceNeg, Int.reduceToNat, hm1, e25, hws, setAt, o203, g203]
    refine hook_fun rfl (push_A h2 e25 (by omega)) ?_
    rintro _ g2 ob2 ⟨rfl, h3, e25', q2⟩
    simp (config := { maxSteps := 1000000 }) only [go_sem, ↓reduceIte, Nat.reduceEqDiff, Nat.reduceAdd, Nat.reduceMul, Nat.reduceSub, Nat.reduceLT, Nat.reduceLeDiff, Int.reduceLT, Int.reduceLE, Int.reduceEq, Int.reduceNe, Int.reduceAdd, Int.reduceNeg, Int.reduceToNat]
    refine ⟨_, SemVs.refl _, rfl, h3, e25', fun i h1 h2 h3 h4 h5 => ?_⟩
    obtain ⟨e1, e2⟩ := hq i h1 h2 h3 h4 h5
    obtain ⟨e3, e4⟩ := q2 i (by omega) h3 h4
    exact ⟨e3.trans ((by simp [upd, h2] : _ = ob1 i).trans e1), e4.trans e2⟩
  | add l out =>
    simp only [List.length_append, List.length_cons, List.length_nil] at hl
    simp (config := { maxSteps := 1000000 }) only [go_sem, ↓reduceIte, Nat.reduceEqDiff, Nat.reduceAdd, Nat.reduceMul, Nat.reduceSub, Nat.reduceLT, Nat.reduceLeDiff, Int.reduceLT, Int.reduceLE, Int.reduceEq, Int.reduceNe, Int.reduceAdd, Int.reduceNeg, Int.reduceToNat, hm1, e25, hws, setAt, o203, g203]
    refine hook_fun rfl (pop_A h2 e25 (by simp only [List.length_append, List.length_cons, List.length_nil]; omega)) ?_
    rintro _ g2 ob2 ⟨rfl, h3, e25b, q2⟩
    simp (config := { maxSteps := 1000000 }) only [go_sem, ↓reduceIte, Nat.reduceEqDiff, Nat.reduceAdd, Nat.reduceMul, Nat.reduceSub, Nat.reduceLT, Nat.reduceLeDiff, Int.reduceLT, Int.reduceLE, Int.reduceEq, Int.reduceNe, Int.reduceAdd, Int.reduceNeg, Int.reduceToNat]
    refine hook_fun rfl (pop_A h3 e25b (by omega)) ?_
    rintro _ g3 ob3 ⟨rfl, h4, e25c, q3⟩
    have o203' : ob3 203 = some [.d (.int .i64 6), .d (.int .i64 4), .d (.int .i64 0), .d (.int .u32 0)] := (q3 203 (by decide) (by decide) (by decide)).1.trans ((q2 203 (by decide) (by decide) (by decide)).1.trans (by simp [upd, o203]))
    have g203' : g3 203 = g 203 + 1 := (q3 203 (by decide) (by decide) (by decide)).2.trans ((q2 203 (by decide) (by decide) (by decide)).2.trans g203)
    simp (config := { maxSteps := 1000000 }) only [go_sem, ↓reduceIte, Nat.reduceEqDiff, Nat.reduceAdd, Nat.reduceMul, Nat.reduceSub, Nat.reduceLT, Nat.reduceLeDiff, Int.reduceLT, Int.reduceLE, Int.reduceEq, Int.reduceNe, Int.reduceAdd, Int.reduceNeg, Int.reduceToNat, o203', g203']
    refine hook_pure rfl Apply_A (by rfl) ?_
    rintro _ rfl
    simp (config := { maxSteps := 1000000 }) only [go_sem, ↓reduceIte, Nat.reduceEqDiff, Nat.reduceAdd, Nat.reduceMul, Nat.reduceSub, Nat.reduceLT, Nat.reduceLeDiff, Int.reduceLT, Int.reduceLE, Int.reduceEq, Int.reduceNe, Int.reduceAdd, Int.reduceNeg, Int.reduceToNat]
    refine hook_fun rfl (push_A h4 e25c (by omega)) ?_
    rintro _ g4 ob4 ⟨rfl, h5, e25d, q4⟩
    simp (config := { maxSteps := 1000000 }) only [go_sem, ↓reduceIte, Nat.reduceEqDiff, Nat.reduceAdd, Nat.reduceMul, Nat.reduceSub, Nat.reduceLT, Nat.reduceLeDiff, Int.reduceLT, Int.reduceLE, Int.reduceEq, Int.reduceNe, Int.reduceAdd, Int.reduceNeg, Int.reduceToNat]
    refine ⟨_, SemVs.refl _, rfl, h5, e25d, fun i h1 h2 h3 h4 h5 => ?_⟩
    obtain ⟨e1, e2⟩ := hq i h1 h2 h3 h4 h5
    obtain ⟨e3, e4⟩ := q2 i (by omega) h3 h4
    obtain ⟨e5, e6⟩ := q3 i (by omega) h3 h4
    obtain ⟨e7, e8⟩ := q4 i (by omega) h3 h4
    exact ⟨e7.trans (e5.trans (e3.trans ((by simp [upd, h2] : _ = ob1 i).trans e1))), e8.trans (e6.trans (e4.trans e2))⟩
  | put l out =>
    simp only [List.length_append, List.length_cons, List.length_nil] at hl
    simp (config := { maxSteps := 1000000 }) only [go_sem, ↓reduceIte, Nat.reduceEqDiff, Nat.reduceAdd, Nat.reduceMul, Nat.reduceSub, Nat.reduceLT, Nat.reduceLeDiff, Int.reduceLT, Int.reduceLE, Int.reduceEq, Int.reduceNe, Int.reduceAdd, Int.reduceNeg, Int.reduceToNat, hm1, e25, hws, setAt, o203, g203]
    refine hook_fun rfl (pop_A h2 e25 (by omega)) ?_
    rintro _ g2 ob2 ⟨rfl, h3, e25', q2⟩
    have hol' : ¬ (65536 : Int) ≤ out.length := by omega
    simp (config := { maxSteps := 1000000 }) only [go_sem, ↓reduceIte, Nat.reduceEqDiff, Nat.reduceAdd, Nat.reduceMul, Nat.reduceSub, Nat.reduceLT, Nat.reduceLeDiff, Int.reduceLT, Int.reduceLE, Int.reduceEq, Int.reduceNe, Int.reduceAdd, Int.reduceNeg, Int.reduceToNat, h3.m, h3.o, e25', hol', c8_len, show IntKind.u8.wrap 65 = 65 by decide]
    refine ⟨Nat.le_refl _, ⟨by decide, by omega⟩, ?_⟩
    obtain ⟨r, hr⟩ := h3.l
    refine ⟨_, SemVs.refl _, rfl, ⟨?_, ?_, ⟨r, ?_⟩, ?_⟩, ?_, fun i h1 h2 h3 h4 h5 => ?_⟩
    · simp [upd, List.length_append]
    · simp [upd, h3.c]
    · simp [upd, hr]
    · simp [upd, c8, List.take_of_length_le]
    · simp [upd, e25']
    · obtain ⟨e1, e2⟩ := hq i h1 h2 h3 h4 h5
      obtain ⟨e3, e4⟩ := q2 i (by omega) h3 h4
      simp only [upd, if_neg h2, if_neg h5, if_neg (show ¬ i = 273 by omega)]
      exact ⟨e3.trans ((by simp [upd, h2] : _ = ob1 i).trans e1), e4.trans e2⟩
  | ret l out =>
    simp (config := { maxSteps := 1000000 }) only [go_sem, ↓reduceIte, Nat.reduceEqDiff, Nat.reduceAdd, Nat.reduceMul, Nat.reduceSub, Nat.reduceLT, Nat.reduceLeDiff, Int.reduceLT, Int.reduceLE, Int.reduceEq, Int.reduceNe, Int.reduceAdd, Int.reduceNeg, Int.reduceToNat, hm1, e25, hws, setAt, o203, g203]
    refine hook_fun rfl (mret_A hfx hwd h2 e25) ?_
    rintro _ g2 ob2 ⟨rfl, h3, e25', q2⟩
    simp (config := { maxSteps := 1000000 }) only [go_sem, ↓reduceIte, Nat.reduceEqDiff, Nat.reduceAdd, Nat.reduceMul, Nat.reduceSub, Nat.reduceLT, Nat.reduceLeDiff, Int.reduceLT, Int.reduceLE, Int.reduceEq, Int.reduceNe, Int.reduceAdd, Int.reduceNeg, Int.reduceToNat]
    refine ⟨_, SemVs.refl _, rfl, h3, e25', fun i h1 h2 h3 h4 h5 => ?_⟩
    obtain ⟨e1, e2⟩ := hq i h1 h2 h3 h4 h5
    obtain ⟨e3, e4⟩ := q2 i h2
    exact ⟨e3.trans ((by simp [upd, h2] : _ = ob1 i).trans e1), e4.trans e2⟩

end Go.Proofs.Ythengcpckdlpgaa
