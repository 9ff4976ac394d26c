/- A part of the proof; no conditions. -/
import Derived.Test.YtifciocionlciaaDoorPart4
import Derived.Handed
import Derived.Lay
import Derived.LaidMore
import Derived.SevenTiedAt
import Derived.Stop.Joined
set_option linter.unusedSimpArgs false
set_option linter.unusedVariables false
namespace Go.Proofs.YtifciocionlciaaDoor
open Go Go.Am Go.Asm

def codeD (code : List Nat) : D := .sl (code.map fun n => [.int .u32 (n : Nat)])
def imgV (m : List Nat × Nat) : AV := .agg [.d (codeD m.1), .d (.int .i64 (m.2 : Nat))]
def readV (r : (List Nat × Nat) × Nat × Nat) : AV := .tup [imgV r.1, iv .i64 (r.2.1 : Nat), iv .i64 (r.2.2 : Nat)]

theorem frz_read {s : St} {cc : C} {code : List Nat} {d : Nat} (hc : Frz s cc (codeD code)) {n e : Nat} : FrzR s [.agg [cc, .d (.int .i64 (d : Nat))], iv .i64 (n : Nat), iv .i64 (e : Nat)] (readV ((code, d), n, e)) := by
  refine ⟨_, ⟨imgV (code, d), _, rfl, ⟨[codeD code, .int .i64 (d : Nat)], rfl, fun i c hc' => ?_, rfl⟩, _, _, rfl, ⟨_, .d _, rfl⟩, _, _, rfl, ⟨_, .d _, rfl⟩, rfl⟩, rfl⟩
  match i, hc' with
  | 0, hc' => cases hc'; exact ⟨_, rfl, hc⟩
  | 1, hc' => cases hc'; exact ⟨_, rfl, .d _⟩
theorem frz_code {s : St} {id g n : Nat} {code : List Nat} (hg : s.gen id = g) (ho : s.obj id = some (code.map fun n => C.d (.int .u32 (n : Nat)))) (hn : code.length = n) : Frz s (.osl id g 1 0 n) (codeD code) := by
  refine frz_rows hg code (fun n => [.int .u32 (n : Nat)]) ho ?_ (fun a _ x hx => ?_) (fun a _ => rfl) hn
  · clear ho hn; induction code with | nil => rfl | cons a l ih => simpa using ih
  · simp at hx; subst hx; rfl

theorem use_at {us : List (Nat × Nat × Str)} {j : Nat} {u : Nat × Nat × Str} (h : us[j]? = some u) : ((us.flatMap useD).drop (j * 3)).take 3 = useD u := by
  induction us generalizing j with
  | nil => simp at h
  | cons v us ih =>
    cases j with
    | zero => simp at h; subst h; simp [useD]
    | succ j =>
      have := ih (j := j) (by simpa using h)
      rw [List.flatMap_cons, show (j + 1) * 3 = (useD v).length + j * 3 by simp [useD]; omega, ← List.drop_drop, List.drop_left]
      exact this

theorem or_add {x p : Nat} (h1 : x % 65536 = 0) (h2 : x < 4294967296) (h3 : p < 65536) : IntKind.u32.wrap ((BitVec.ofInt 32 (x : Int) ||| BitVec.ofInt 32 (IntKind.u32.wrap (p : Int))).toNat : Int) = ((x + p : Nat) : Int) := by
  rw [wrapN p (by omega), or32 x p h2 (by omega)]
  have e : x = (x / 65536) * 2 ^ 16 := by omega
  rw [e, orAdd _ p 16 (by omega), wrapN _ (by omega)]

theorem linesA_ok {n : Nat} {st st' : Sta} {s : Str} {ls : List Str} (h : stepA (n + 1) st s = .ok st') : linesA n st (s :: ls) = linesA (n + 1) st' ls := by
  conv => lhs; unfold linesA
  rw [h]
theorem linesA_bad {n e : Nat} {st : Sta} {s : Str} {ls : List Str} (h : stepA (n + 1) st s = .err e) : linesA n st (s :: ls) = .inr (n + 1, e) := by
  conv => lhs; unfold linesA
  rw [h]
theorem usesA_cons {labs : List (Str × Nat)} {code : List Nat} {u : Nat × Nat × Str} {us : List (Nat × Nat × Str)} {p : Nat} (h : Asm.placeOf labs u.2.2 = some p) : usesA labs code (u :: us) = usesA labs (addAt code u.2.1 p) us := by
  conv => lhs; unfold usesA
  rw [h]
theorem usesA_bad {labs : List (Str × Nat)} {code : List Nat} {u : Nat × Nat × Str} {us : List (Nat × Nat × Str)} (h : Asm.placeOf labs u.2.2 = none) : usesA labs code (u :: us) = .inr (u.1, 4) := by
  conv => lhs; unfold usesA
  rw [h]
theorem readA_bad {s : Str} (hs : ¬ 20000 < s.length) {n e : Nat} (h : linesA 0 st0 (splitC 10 s) = .inr (n, e)) : readA s = (([], 0), n, e) := by unfold readA; rw [if_neg hs, h]
theorem readA_use {s : Str} (hs : ¬ 20000 < s.length) {st : Sta} {n e : Nat} (h : linesA 0 st0 (splitC 10 s) = .inl st) (h2 : usesA st.labs st.code st.uses = .inr (n, e)) : readA s = (([], 0), n, e) := by unfold readA; rw [if_neg hs, h]; simp only; rw [h2]
theorem readA_good {s : Str} (hs : ¬ 20000 < s.length) {st : Sta} {code : List Nat} (h : linesA 0 st0 (splitC 10 s) = .inl st) (h2 : usesA st.labs st.code st.uses = .inl code) : readA s = ((code, st.data), 0, 0) := by unfold readA; rw [if_neg hs, h]; simp only; rw [h2]

set_option maxHeartbeats 8000000 in
theorem Read_G {o : Obj} (ho : SmallO o) (s : Str) : PureG Tryd.prog 3 o 14 [sv s] (· = readV (readA s)) := by
  refine pure_of_wpG2 0 3 o Tt_ok mixed Tryd.func14 rfl (by rfl) [.cell 2 32, .tmp 3, .tmp 4] rfl (by kernel_rfl) (by kernel_rfl) (by simp [Tryd.ntmps14]) fun b₀ β0 s0 w0 g => ?_
  by_cases hs : 20000 < s.length
  · have hsi : (20000 : Int) < (s.length : Int) := by omega
    rw [show readA s = (([], 0), 0, 2) by unfold readA; rw [if_pos hs]]
    simp (config := { maxSteps := 1000000 }) only [go_sem, ↓reduceIte, Nat.reduceEqDiff, Nat.reduceAdd, Nat.reduceMul, Nat.reduceSub, Nat.reduceLT, Nat.reduceLeDiff, Int.reduceLT, Int.reduceLE, Int.reduceEq, Int.reduceNe, Int.reduceAdd, Int.reduceNeg, Int.reduceToNat, hsi, buildA]
    exact ⟨_, frz_read (code := []) (d := 0) (n := 0) (e := 2) (.d _), rfl⟩
  have hsi : ¬ (20000 : Int) < (s.length : Int) := by omega
  have hr1 : ∀ {n e : Nat}, _ → _ := @readA_bad s hs
  have hr2 : ∀ {st : Sta} {n e : Nat}, _ → _ → _ := @readA_use s hs
  have hr3 : ∀ {st : Sta} {code : List Nat}, _ → _ → _ := @readA_good s hs
  have hls := splitC_len (c := 10) s
  have hlt := splitC_text (c := 10) s
  simp (config := { maxSteps := 1000000 }) only [go_sem, ↓reduceIte, Nat.reduceEqDiff, Nat.reduceAdd, Nat.reduceMul, Nat.reduceSub, Nat.reduceLT, Nat.reduceLeDiff, Int.reduceLT, Int.reduceLE, Int.reduceEq, Int.reduceNe, Int.reduceAdd, Int.reduceNeg, Int.reduceToNat, hsi, buildA]
  refine hook_callF kept_phiG rfl (by simp (config := { maxSteps := 1000000 }) only [go_sem, ↓reduceIte, Nat.reduceEqDiff, Nat.reduceAdd, Nat.reduceMul, Nat.reduceSub, Nat.reduceLT, Nat.reduceLeDiff, Int.reduceLT, Int.reduceLE, Int.reduceEq, Int.reduceNe, Int.reduceAdd, Int.reduceNeg, Int.reduceToNat]; exact Split_A s 10 (by omega)) (by simp (config := { maxSteps := 1000000 }) only [go_sem, ↓reduceIte, Nat.reduceEqDiff, Nat.reduceAdd, Nat.reduceMul, Nat.reduceSub, Nat.reduceLT, Nat.reduceLeDiff, Int.reduceLT, Int.reduceLE, Int.reduceEq, Int.reduceNe, Int.reduceAdd, Int.reduceNeg, Int.reduceToNat]; rfl) ?_
  rintro _ rfl
  generalize splitC 10 s = ls at hls hlt hr1 hr2 hr3 ⊢
  simp (config := { maxSteps := 1000000 }) only [go_sem, ↓reduceIte, Nat.reduceEqDiff, Nat.reduceAdd, Nat.reduceMul, Nat.reduceSub, Nat.reduceLT, Nat.reduceLeDiff, Int.reduceLT, Int.reduceLE, Int.reduceEq, Int.reduceNe, Int.reduceAdd, Int.reduceNeg, Int.reduceToNat, strs]
  generalize hgr : nxC 63 (g 5) = gr
  generalize hg2 : nxC 33 (g 2) = g2
  refine loop_introF (fun nn s => ∃ (k : Nat) (st : Sta), nn + k = ls.length ∧ linesA 0 st0 ls = linesA k st (ls.drop k) ∧ WF st ∧ st.code.length ≤ k ∧ st.uses.length ≤ k ∧ Rdr gr 8 st s.gen s.obj ∧ s.f 2 = .one (.ptr 2 g2 0) ∧ s.gen 2 = g2 ∧
    s.obj 2 = some [.d .nsl, .d (.int .i64 0)] ∧ s.f 5 = .one (.ptr 5 gr 0) ∧ s.f 20 = .one (.d (.sl (ls.map fun w => [D.str w]))) ∧ s.f 21 = iv .i64 (ls.length : Nat) ∧ s.f 22 = iv .i64 k) ls.length ?_ ?_
  · refine ⟨0, st0, by omega, rfl, WF.zero, Nat.le_refl _, Nat.le_refl _, ⟨rfl, ⟨_, _, rfl, .inl ⟨rfl, rfl, rfl⟩, .inl ⟨rfl, rfl, rfl⟩⟩, rfl⟩, ?_⟩
    simp (config := { maxSteps := 1000000 }) only [go_sem, ↓reduceIte, Nat.reduceEqDiff, Nat.reduceAdd, Nat.reduceMul, Nat.reduceSub, Nat.reduceLT, Nat.reduceLeDiff, Int.reduceLT, Int.reduceLE, Int.reduceEq, Int.reduceNe, Int.reduceAdd, Int.reduceNeg, Int.reduceToNat, hgr, hg2]
  clear hgr hg2
  rintro nn f g ob ⟨k, st, hk, hli, hwf, hcl, hul, hR, q2, q2g, q2o, q5, q20, q21, q22⟩
  simp only at hR q2 q2g q2o q5 q20 q21 q22
  by_cases hlt' : k < ls.length
  · obtain ⟨x, hx⟩ := getq hlt'
    have hgx : (ls.map fun w => [D.str w])[k]? = some [D.str x] := by rw [List.getElem?_map, hx]; rfl
    have hxl := hlt x (List.mem_of_getElem? hx)
    have hkw : IntKind.i64.wrap ((k : Int) + 1) = ((k + 1 : Nat) : Int) := wrap_succ (by omega)
    have hkl : (k : Int) < (ls.length : Int) := by omega
    have hk0 : (0 : Int) ≤ (k : Int) := by omega
    have hdr : ls.drop k = x :: ls.drop (k + 1) := by rw [List.drop_eq_getElem_cons hlt']; congr 1; exact (List.getElem?_eq_some_iff.1 hx).2
    rw [hdr] at hli
    simp (config := { maxSteps := 1000000 }) only [go_sem, ↓reduceIte, Nat.reduceEqDiff, Nat.reduceAdd, Nat.reduceMul, Nat.reduceSub, Nat.reduceLT, Nat.reduceLeDiff, Int.reduceLT, Int.reduceLE, Int.reduceEq, Int.reduceNe, Int.reduceAdd, Int.reduceNeg, Int.reduceToNat, q20, q21, q22, hgx, hkw, hkl, hk0, q5]
    refine hook_funG (R := Out gr 8 (stepA (k + 1) st x) g ob) kept_phiG (fun s β ds w h => h.1) rfl (by simp (config := { maxSteps := 1000000 }) only [go_sem, ↓reduceIte, Nat.reduceEqDiff, Nat.reduceAdd, Nat.reduceMul, Nat.reduceSub, Nat.reduceLT, Nat.reduceLeDiff, Int.reduceLT, Int.reduceLE, Int.reduceEq, Int.reduceNe, Int.reduceAdd, Int.reduceNeg, Int.reduceToNat, q5]; exact line_O ho hR (k + 1) x (by omega) (by omega) (by omega)) ?_
    rintro r g' ob' ⟨o1, o2, o3⟩
    have o2g : g' 2 = g2 := by rw [o1 2 (by decide)]; exact q2g
    have o2o : ob' 2 = some [.d .nsl, .d (.int .i64 0)] := by rw [o2 2 (by decide) (by decide) (by decide)]; exact q2o
    cases hst : stepA (k + 1) st x with
    | err e =>
      have hne : ¬ ((e : Nat) : Int) = 0 := by have := stepA_ne hst; omega
      rw [hst] at o3
      simp only at o3
      subst o3
      rw [hr1 (hli.trans (linesA_bad hst))]
      simp (config := { maxSteps := 1000000 }) only [go_sem, ↓reduceIte, Nat.reduceEqDiff, Nat.reduceAdd, Nat.reduceMul, Nat.reduceSub, Nat.reduceLT, Nat.reduceLeDiff, Int.reduceLT, Int.reduceLE, Int.reduceEq, Int.reduceNe, Int.reduceAdd, Int.reduceNeg, Int.reduceToNat, hne, q2, o2g, o2o, buildA, hkw, q22]
      exact ⟨_, frz_read (code := []) (d := 0) (n := k + 1) (e := e) (.d _), rfl⟩
    | ok st' =>
      rw [hst] at o3
      obtain ⟨rfl, hR'⟩ := o3
      have hgrow := stepA_grow hst
      simp (config := { maxSteps := 1000000 }) only [go_sem, ↓reduceIte, Nat.reduceEqDiff, Nat.reduceAdd, Nat.reduceMul, Nat.reduceSub, Nat.reduceLT, Nat.reduceLeDiff, Int.reduceLT, Int.reduceLE, Int.reduceEq, Int.reduceNe, Int.reduceAdd, Int.reduceNeg, Int.reduceToNat, q22, hkw]
      refine round_endF (nn - 1) (by omega) ⟨k + 1, st', by omega, ?_, hwf.stepA (fun _ _ => operand_reg) hst, by omega, by omega, ?_⟩
      · rw [hli, linesA_ok hst]
      simp (config := { maxSteps := 1000000 }) only [go_sem, ↓reduceIte, Nat.reduceEqDiff, Nat.reduceAdd, Nat.reduceMul, Nat.reduceSub, Nat.reduceLT, Nat.reduceLeDiff, Int.reduceLT, Int.reduceLE, Int.reduceEq, Int.reduceNe, Int.reduceAdd, Int.reduceNeg, Int.reduceToNat, q2, q5, q20, q21]
      exact ⟨hR', o2g, o2o⟩
  · have hkl : ¬ (k : Int) < (ls.length : Int) := by omega
    have hfin : linesA 0 st0 ls = .inl st := by rw [hli, List.drop_eq_nil_of_le (by omega)]; rfl
    have hr2 := fun n e => @hr2 st n e hfin
    have hr3 := fun code => @hr3 st code hfin
    clear hr1 hli hfin hlt
    have hR0 := hR
    obtain ⟨hg5, ⟨cc, uc, h5, hc, hu⟩, hm⟩ := hR
    rcases hu with ⟨u1, rfl, u3⟩ | ⟨u1, rfl, u3⟩
    all_goals
      simp (config := { maxSteps := 1000000 }) only [go_sem, ↓reduceIte, Nat.reduceEqDiff, Nat.reduceAdd, Nat.reduceMul, Nat.reduceSub, Nat.reduceLT, Nat.reduceLeDiff, Int.reduceLT, Int.reduceLE, Int.reduceEq, Int.reduceNe, Int.reduceAdd, Int.reduceNeg, Int.reduceToNat, q20, q21, q22, hkl, q5, hg5, h5, u3]
      refine loop_introF (fun nn s => ∃ (j : Nat) (code : List Nat), nn + j = st.uses.length ∧ usesA st.labs st.code st.uses = usesA st.labs code (st.uses.drop j) ∧ (∀ u ∈ st.uses.drop j, UseOk code u) ∧ code.length = st.code.length ∧
        Rdr gr 8 { st with code := code } s.gen s.obj ∧ s.f 2 = .one (.ptr 2 g2 0) ∧ s.gen 2 = g2 ∧ s.obj 2 = some [.d .nsl, .d (.int .i64 0)] ∧ s.f 5 = .one (.ptr 5 gr 0) ∧ (st.uses = [] ∨ s.f 39 = .one (.osl 2000 (s.gen 2000) 3 0 st.uses.length)) ∧ s.f 40 = iv .i64 (st.uses.length : Nat) ∧ s.f 41 = iv .i64 j) st.uses.length ?_ ?_
      · refine ⟨0, st.code, by omega, rfl, hwf.uses, rfl, hR0, ?_⟩
        simp (config := { maxSteps := 1000000 }) only [go_sem, ↓reduceIte, Nat.reduceEqDiff, Nat.reduceAdd, Nat.reduceMul, Nat.reduceSub, Nat.reduceLT, Nat.reduceLeDiff, Int.reduceLT, Int.reduceLE, Int.reduceEq, Int.reduceNe, Int.reduceAdd, Int.reduceNeg, Int.reduceToNat, q2, q2g, q2o, q5, u1, List.length_nil]
        try trivial
    all_goals
      clear q2 q2g q2o q20 q21 q22 q5 h5 hc hm hg5 hR0 u3 u1
      rintro mm f g ob ⟨j, code, hj, hua, hok, hcn, hR, q2, q2g, q2o, q5, q39, q40, q41⟩
      simp only at hR q2 q2g q2o q5 q39 q40 q41
      by_cases hlt : j < st.uses.length
      · obtain ⟨u, hu⟩ := getq hlt
        have hjl : (j : Int) < (st.uses.length : Int) := by omega
        have hj0 : (0 : Int) ≤ (j : Int) := by omega
        have hdr : st.uses.drop j = u :: st.uses.drop (j + 1) := by rw [List.drop_eq_getElem_cons hlt]; congr 1; exact (List.getElem?_eq_some_iff.1 hu).2
        have hune : ¬ st.uses = [] := fun e => by rw [e] at hlt; simp at hlt
        rcases q39 with q39 | q39
        · exact absurd q39 hune
        obtain ⟨hg5, ⟨cc, uc, h5, hc, hv⟩, hm⟩ := hR
        simp only at h5 hc hv hm
        rcases hv with ⟨v1, _, _⟩ | ⟨v1, rfl, v3⟩
        · exact absurd v1 hune
        have hua3 := use_at hu
        have hul3 := uses_flat st.uses
        have hkw : IntKind.i64.wrap ((j : Int) + 1) = ((j + 1 : Nat) : Int) := wrap_succ (by omega)
        rw [hdr] at hua hok
        obtain ⟨k1, k2, k3⟩ := hok u (by simp)
        have hcne : ¬ code = [] := fun e => by rw [e] at k1; simp at k1
        rcases hc with ⟨c1, _, _⟩ | ⟨c1, rfl, c3⟩
        · exact absurd c1 hcne
        obtain ⟨un, ua, ul⟩ := u
        simp only at k1 k2 k3
        have hul2 : (useD (un, ua, ul)).length = 3 := rfl
        cases hp : Asm.placeOf st.labs ul with
        | none =>
          rw [hr2 _ _ (hua.trans (usesA_bad (u := (un, ua, ul)) hp))]
          simp (config := { maxSteps := 1000000 }) only [go_sem, ↓reduceIte, Nat.reduceEqDiff, Nat.reduceAdd, Nat.reduceMul, Nat.reduceSub, Nat.reduceLT, Nat.reduceLeDiff, Int.reduceLT, Int.reduceLE, Int.reduceEq, Int.reduceNe, Int.reduceAdd, Int.reduceNeg, Int.reduceToNat, q39, q40, q41, hjl, hj0, v3, hua3, hul3, hul2, useD, setAt, q5, hg5, h5, hm, mget_labs, hp, Option.isSome_none]
          refine ⟨by omega, ?_⟩
          refine draw_detF (B := 0) Tt_ok mixed kept_phiG [2] [([], [], [], false), ([10], [0], [], false), ([56], [0], [], false), ([2, 55], [], [0], false), ([57], [], [], false), ([], [], [], false)] 1 rfl (by decide +kernel) rfl (by decide) ?_
          simp (config := { maxSteps := 1000000 }) only [go_sem, ↓reduceIte, Nat.reduceEqDiff, Nat.reduceAdd, Nat.reduceMul, Nat.reduceSub, Nat.reduceLT, Nat.reduceLeDiff, Int.reduceLT, Int.reduceLE, Int.reduceEq, Int.reduceNe, Int.reduceAdd, Int.reduceNeg, Int.reduceToNat]
          (apply det_pure; · (intro fa ga oa K' hK; simp (config := { maxSteps := 1000000 }) only [go_sem, ↓reduceIte, Nat.reduceEqDiff, Nat.reduceAdd, Nat.reduceMul, Nat.reduceSub, Nat.reduceLT, Nat.reduceLeDiff, Int.reduceLT, Int.reduceLE, Int.reduceEq, Int.reduceNe, Int.reduceAdd, Int.reduceNeg, Int.reduceToNat, buildA] at hK ⊢; exact hK))
          iterate 2 (apply det_pure; · (intro fa ga oa K' hK; simp (config := { maxSteps := 1000000 }) only [go_sem, ↓reduceIte, Nat.reduceEqDiff, Nat.reduceAdd, Nat.reduceMul, Nat.reduceSub, Nat.reduceLT, Nat.reduceLeDiff, Int.reduceLT, Int.reduceLE, Int.reduceEq, Int.reduceNe, Int.reduceAdd, Int.reduceNeg, Int.reduceToNat] at hK ⊢; exact hK))
          (apply det_store; (focus simp); (focus (intro fa ga oa K' hK; simp (config := { maxSteps := 1000000 }) only [go_sem, ↓reduceIte, Nat.reduceEqDiff, Nat.reduceAdd, Nat.reduceMul, Nat.reduceSub, Nat.reduceLT, Nat.reduceLeDiff, Int.reduceLT, Int.reduceLE, Int.reduceEq, Int.reduceNe, Int.reduceAdd, Int.reduceNeg, Int.reduceToNat, q2, q2g, q2o] at hK ⊢; exact hK)))
          iterate 2 (apply det_pure; · (intro fa ga oa K' hK; simp (config := { maxSteps := 1000000 }) only [go_sem, ↓reduceIte, Nat.reduceEqDiff, Nat.reduceAdd, Nat.reduceMul, Nat.reduceSub, Nat.reduceLT, Nat.reduceLeDiff, Int.reduceLT, Int.reduceLE, Int.reduceEq, Int.reduceNe, Int.reduceAdd, Int.reduceNeg, Int.reduceToNat] at hK ⊢; exact hK))
          apply det_nil
          simp (config := { maxSteps := 1000000 }) only [go_sem, ↓reduceIte, Nat.reduceEqDiff, Nat.reduceAdd, Nat.reduceMul, Nat.reduceSub, Nat.reduceLT, Nat.reduceLeDiff, Int.reduceLT, Int.reduceLE, Int.reduceEq, Int.reduceNe, Int.reduceAdd, Int.reduceNeg, Int.reduceToNat, q2, q2g]
          exact ⟨_, frz_read (code := []) (d := 0) (n := un) (e := 4) (.d _), rfl⟩
        | some p =>
          obtain ⟨pl, hpm⟩ := placeOf_mem hp
          have hpl := hwf.labs _ hpm
          have hlen := hwf.len
          simp only at hpl
          have hpi : ¬ (65535 : Int) < (p : Int) := by omega
          have hcget : (code.map fun n => C.d (.int .u32 (n : Nat)))[ua]? = some (.d (.int .u32 (code.getD ua 0 : Nat))) := by
            rw [List.getElem?_map, List.getD_eq_getElem?_getD, List.getElem?_eq_getElem k1]; rfl
          have hor := or_add k2 k3 (show p < 65536 by omega)
          have hua0 : (0 : Int) ≤ (ua : Int) := by omega
          have hual : (ua : Int) < (code.length : Int) := by omega
          simp (config := { maxSteps := 1000000 }) only [go_sem, ↓reduceIte, Nat.reduceEqDiff, Nat.reduceAdd, Nat.reduceMul, Nat.reduceSub, Nat.reduceLT, Nat.reduceLeDiff, Int.reduceLT, Int.reduceLE, Int.reduceEq, Int.reduceNe, Int.reduceAdd, Int.reduceNeg, Int.reduceToNat, q39, q40, q41, hjl, hj0, v3, hua3, hul3, hul2, useD, setAt, q5, hg5, h5, hm, mget_labs, hp, hpi, c3, hcget, hor, hua0, hual, Option.isSome_some, Option.getD_some]
          refine ⟨by omega, ?_⟩
          refine ⟨by omega, ?_⟩
          erw [hor]
          refine ⟨mm - 1, _, by omega, SemVs.refl _, j + 1, addAt code ua p, by omega, hua.trans (usesA_cons (u := (un, ua, ul)) hp), ?_, by rw [addAt_len]; exact hcn, ?_⟩
          · intro v hv
            refine (hok v (by simp [hv])).set ?_
            have hnd : ((st.uses.drop j).map (·.2.1)).Nodup := hwf.nd.sublist ((List.drop_sublist _ _).map _)
            rw [hdr, List.map_cons, List.nodup_cons] at hnd
            exact fun e => hnd.1 (List.mem_map.2 ⟨v, hv, e.symm⟩)
          simp (config := { maxSteps := 1000000 }) only [go_sem, ↓reduceIte, Nat.reduceEqDiff, Nat.reduceAdd, Nat.reduceMul, Nat.reduceSub, Nat.reduceLT, Nat.reduceLeDiff, Int.reduceLT, Int.reduceLE, Int.reduceEq, Int.reduceNe, Int.reduceAdd, Int.reduceNeg, Int.reduceToNat, q2, q2g, q2o, q5, q39, q40, q41, hkw]
          have hset : (code.map fun n => C.d (.int .u32 (n : Nat))).set ua (.d (.int .u32 ((code.getD ua 0 + p : Nat) : Int))) = (addAt code ua p).map fun n => C.d (.int .u32 (n : Nat)) := by
            unfold addAt; rw [List.map_set]
          have hne : addAt code ua p ≠ [] := fun e => by have := addAt_len code ua p; rw [e] at this; simp at this; omega
          refine ⟨⟨by simp [upd, hg5], ⟨_, _, by simp only [upd]; rw [if_neg (by decide), if_neg (by decide), if_neg (by decide)]; exact h5, .inr ⟨hne, by simp [upd, addAt_len], by simp only [upd, if_true]; rw [hset]⟩, .inr ⟨v1, by simp [upd], by simp [upd, v3]⟩⟩, by simp [upd, hm]⟩, .inr trivial⟩
      · have hjl : ¬ (j : Int) < (st.uses.length : Int) := by omega
        have hfin : usesA st.labs st.code st.uses = .inl code := by rw [hua, List.drop_eq_nil_of_le (by omega)]; rfl
        rw [hr3 _ hfin]
        obtain ⟨hg5, ⟨cc, uc, h5, hc, hv⟩, hm⟩ := hR
        simp only at h5 hc hv hm
        simp (config := { maxSteps := 1000000 }) only [go_sem, ↓reduceIte, Nat.reduceEqDiff, Nat.reduceAdd, Nat.reduceMul, Nat.reduceSub, Nat.reduceLT, Nat.reduceLeDiff, Int.reduceLT, Int.reduceLE, Int.reduceEq, Int.reduceNe, Int.reduceAdd, Int.reduceNeg, Int.reduceToNat, q2, q2g, q2o, q5, q40, q41, hjl, hg5, h5]
        rcases hc with ⟨c1, rfl, c3⟩ | ⟨c1, rfl, c3⟩
        · subst c1
          exact ⟨_, frz_read (code := []) (n := 0) (e := 0) (.d _), rfl⟩
        · exact ⟨_, frz_read (n := 0) (e := 0) (frz_code (by simp [upd]) (by simp [upd, c3]) rfl), rfl⟩

end Go.Proofs.YtifciocionlciaaDoor

namespace Go.Proofs.YtifciocionlciaaDoor
open Go Go.Am Go.Asm

theorem code_get {code : List Nat} {k : Nat} {n : Nat} (h : code[k]? = some n) : (code.map fun n => [D.int .u32 (n : Nat)])[k]? = some [.int .u32 (n : Nat)] := by rw [List.getElem?_map, h]; rfl

set_option maxHeartbeats 4000000 in
theorem Same_A (a b : List Nat × Nat) (hl : a.1.length ≤ 1000000) : PureR Tryd.prog 19 [imgV a, imgV b] (· = bv (decide (a = b))) := by
  refine pure_of_wp Tt_ok mixed Tryd.func19 rfl (by rfl) [4] rfl (by kernel_rfl) (by simp [Tryd.ntmps19]) fun g => ?_
  obtain ⟨c, d⟩ := a
  obtain ⟨c', d'⟩ := b
  simp only at hl
  unfold imgV codeD
  by_cases hd : d = d'
  case neg =>
    have hdi : ¬ ((d : Nat) : Int) = (d' : Nat) := by omega
    rw [show decide ((c, d) = (c', d')) = false by simp [hd]]
    simp (config := { maxSteps := 1000000 }) only [go_sem, ↓reduceIte, Nat.reduceEqDiff, Nat.reduceAdd, Nat.reduceMul, Nat.reduceSub, Nat.reduceLT, Nat.reduceLeDiff, Int.reduceLT, Int.reduceLE, Int.reduceEq, Int.reduceNe, Int.reduceAdd, Int.reduceNeg, Int.reduceToNat, hdi]
  subst hd
  by_cases hlc : c.length = c'.length
  case neg =>
    have hli : ¬ ((c.length : Nat) : Int) = (c'.length : Nat) := by omega
    rw [show decide ((c, d) = (c', d)) = false by simp; exact fun e => hlc (by rw [e])]
    simp (config := { maxSteps := 1000000 }) only [go_sem, ↓reduceIte, Nat.reduceEqDiff, Nat.reduceAdd, Nat.reduceMul, Nat.reduceSub, Nat.reduceLT, Nat.reduceLeDiff, Int.reduceLT, Int.reduceLE, Int.reduceEq, Int.reduceNe, Int.reduceAdd, Int.reduceNeg, Int.reduceToNat, hli, List.length_map]
  have hli : ((c.length : Nat) : Int) = (c'.length : Nat) := by omega
  have hli2 : ((c.length : Nat) : Int) = (c.length : Nat) := rfl
  simp (config := { maxSteps := 1000000 }) only [go_sem, ↓reduceIte, Nat.reduceEqDiff, Nat.reduceAdd, Nat.reduceMul, Nat.reduceSub, Nat.reduceLT, Nat.reduceLeDiff, Int.reduceLT, Int.reduceLE, Int.reduceEq, Int.reduceNe, Int.reduceAdd, Int.reduceNeg, Int.reduceToNat, hli, List.length_map]
  rw [← hlc]
  refine loop_intro (fun n st => ∃ k : Nat, n + k = c.length ∧ st.f 2 = .one (.ptr 2 (nxC 33 (g 2)) 0) ∧ st.f 3 = .one (.ptr 3 (nxC 33 (g 3)) 0) ∧ st.gen 2 = nxC 33 (g 2) ∧ st.gen 3 = nxC 33 (g 3) ∧ st.obj 2 = some [.d (.sl (c.map fun n => [.int .u32 (n : Nat)])), .d (.int .i64 (d : Nat))] ∧
    st.obj 3 = some [.d (.sl (c'.map fun n => [.int .u32 (n : Nat)])), .d (.int .i64 (d : Nat))] ∧ st.f 5 = iv .i64 k ∧ c.take k = c'.take k) c.length ?_ ?_
  · refine ⟨0, by omega, ?_⟩
    simp (config := { maxSteps := 1000000 }) only [go_sem, ↓reduceIte, Nat.reduceEqDiff, Nat.reduceAdd, Nat.reduceMul, Nat.reduceSub, Nat.reduceLT, Nat.reduceLeDiff, Int.reduceLT, Int.reduceLE, Int.reduceEq, Int.reduceNe, Int.reduceAdd, Int.reduceNeg, Int.reduceToNat]
  rintro n f g ob ⟨k, hk, q2, q3, q2g, q3g, q2o, q3o, q5, hsame⟩
  simp only at q2 q3 q2g q3g q2o q3o q5
  have hw := wrap_succ (k := k) (by omega)
  by_cases hlt : k < c.length
  · obtain ⟨x, hx⟩ := getq hlt
    obtain ⟨y, hy⟩ := getq (show k < c'.length by omega)
    have hgx := code_get hx
    have hgy := code_get hy
    have hk0 : (0 : Int) ≤ (k : Int) := by omega
    have hki : (k : Int) < (c.length : Int) := by omega
    simp (config := { maxSteps := 1000000 }) only [go_sem, ↓reduceIte, Nat.reduceEqDiff, Nat.reduceAdd, Nat.reduceMul, Nat.reduceSub, Nat.reduceLT, Nat.reduceLeDiff, Int.reduceLT, Int.reduceLE, Int.reduceEq, Int.reduceNe, Int.reduceAdd, Int.reduceNeg, Int.reduceToNat, q2, q3, q2g, q3g, q2o, q3o, q5, hki, List.length_map]
    refine draw_intro (by decide +kernel) ?_
    simp (config := { maxSteps := 1000000 }) only [go_sem, ↓reduceIte, Nat.reduceEqDiff, Nat.reduceAdd, Nat.reduceMul, Nat.reduceSub, Nat.reduceLT, Nat.reduceLeDiff, Int.reduceLT, Int.reduceLE, Int.reduceEq, Int.reduceNe, Int.reduceAdd, Int.reduceNeg, Int.reduceToNat, q2, q3, q2g, q3g, q2o, q3o, q5, hgx, hgy, hk0]
    by_cases hxy : x = y
    · have hxi : ((x : Nat) : Int) = (y : Nat) := by omega
      simp (config := { maxSteps := 1000000 }) only [go_sem, ↓reduceIte, Nat.reduceEqDiff, Nat.reduceAdd, Nat.reduceMul, Nat.reduceSub, Nat.reduceLT, Nat.reduceLeDiff, Int.reduceLT, Int.reduceLE, Int.reduceEq, Int.reduceNe, Int.reduceAdd, Int.reduceNeg, Int.reduceToNat, hxi, q5, hw]
      refine round_end (n - 1) (by omega) ⟨k + 1, by omega, ?_⟩
      simp (config := { maxSteps := 1000000 }) only [go_sem, ↓reduceIte, Nat.reduceEqDiff, Nat.reduceAdd, Nat.reduceMul, Nat.reduceSub, Nat.reduceLT, Nat.reduceLeDiff, Int.reduceLT, Int.reduceLE, Int.reduceEq, Int.reduceNe, Int.reduceAdd, Int.reduceNeg, Int.reduceToNat, q2, q3, q2g, q3g, q2o, q3o]
      rw [List.take_add_one, List.take_add_one, hsame, hx, hy, hxy]
    · have hxi : ¬ ((x : Nat) : Int) = (y : Nat) := by omega
      simp (config := { maxSteps := 1000000 }) only [go_sem, ↓reduceIte, Nat.reduceEqDiff, Nat.reduceAdd, Nat.reduceMul, Nat.reduceSub, Nat.reduceLT, Nat.reduceLeDiff, Int.reduceLT, Int.reduceLE, Int.reduceEq, Int.reduceNe, Int.reduceAdd, Int.reduceNeg, Int.reduceToNat, hxi]
      rw [show decide ((c, d) = (c', d)) = false by
        simp only [Prod.mk.injEq, and_true, decide_eq_false_iff_not]
        intro e
        subst e
        rw [hx] at hy
        exact hxy (Option.some.inj hy)]
  · have hki : ¬ (k : Int) < (c.length : Int) := by omega
    simp (config := { maxSteps := 1000000 }) only [go_sem, ↓reduceIte, Nat.reduceEqDiff, Nat.reduceAdd, Nat.reduceMul, Nat.reduceSub, Nat.reduceLT, Nat.reduceLeDiff, Int.reduceLT, Int.reduceLE, Int.reduceEq, Int.reduceNe, Int.reduceAdd, Int.reduceNeg, Int.reduceToNat, q2, q2g, q2o, q5, hki, List.length_map]
    rw [List.take_of_length_le (by omega), List.take_of_length_le (by omega)] at hsame
    rw [hsame]; simp

theorem r1 : readA [115, 116, 97, 114, 116, 58, 32, 103, 101, 116, 32, 114, 49, 32, 35, 32, 97, 32, 110, 111, 116, 101, 10, 32, 106, 109, 112, 32, 115, 116, 97, 114, 116] = (([386924544, 301989888], 0), 0, 0) := by decide +kernel
theorem r2 : readA [108, 105, 32, 114, 49, 44, 32, 48, 120, 49, 48] = (([17825808], 0), 0, 0) := by decide +kernel
theorem r3 : readA [108, 105, 32, 114, 49, 44, 49, 54] = (([17825808], 0), 0, 0) := by decide +kernel
theorem r4 : readA [104, 97, 108, 116, 10, 10, 106, 109, 112, 32, 110, 111, 119, 104, 101, 114, 101, 10] = (([], 0), 3, 4) := by decide +kernel
theorem r6 : readA [104, 97, 108, 116, 32, 114, 49] = (([], 0), 1, 1) := by decide +kernel
theorem r7 : readA [97, 100, 100, 32, 114, 49, 44, 32, 114, 50, 44, 32, 51] = (([], 0), 1, 1) := by decide +kernel
theorem r8 : readA [46, 100, 97, 116, 97, 32, 53, 10, 46, 119, 111, 114, 100, 32, 52, 50, 57, 52, 57, 54, 55, 50, 57, 53] = (([4294967295], 5), 0, 0) := by decide +kernel
theorem r5 : lineA [32, 32, 120, 49, 58, 32, 97, 100, 100, 32, 114, 49, 32, 44, 114, 50, 44, 32, 32, 114, 51, 35] = some ([120, 49], [97, 100, 100], [[114, 49], [114, 50], [114, 51]]) := by decide +kernel

theorem frzVs_two {s : St} {c1 c2 : C} {x1 x2 : D} (h1 : Frz s c1 x1) (h2 : Frz s c2 x2) : FrzVs s [.one c1, .one c2] [.one (.d x1), .one (.d x2)] := ⟨_, _, rfl, ⟨_, h1, rfl⟩, _, _, rfl, ⟨_, h2, rfl⟩, rfl⟩

set_option maxHeartbeats 16000000 in
theorem awake_G {o : Obj} (ho : SmallO o) : PureG Tryd.prog 3 o 10 [] (· = bv true) := by
  refine pure_of_wpG2 0 3 o Tt_ok mixed Tryd.func10 rfl (by rfl) [.tmp 0] rfl (by kernel_rfl) (by kernel_rfl) (by simp [Tryd.ntmps10]) fun b₀ β0 s0 w0 g => ?_
  simp (config := { maxSteps := 1000000 }) only [go_sem, ↓reduceIte, Nat.reduceEqDiff, Nat.reduceAdd, Nat.reduceMul, Nat.reduceSub, Nat.reduceLT, Nat.reduceLeDiff, Int.reduceLT, Int.reduceLE, Int.reduceEq, Int.reduceNe, Int.reduceAdd, Int.reduceNeg, Int.reduceToNat]
  refine hook_callG kept_phiG (fun s β ds w h => h.1.2) rfl (by simp (config := { maxSteps := 1000000 }) only [go_sem, ↓reduceIte, Nat.reduceEqDiff, Nat.reduceAdd, Nat.reduceMul, Nat.reduceSub, Nat.reduceLT, Nat.reduceLeDiff, Int.reduceLT, Int.reduceLE, Int.reduceEq, Int.reduceNe, Int.reduceAdd, Int.reduceNeg, Int.reduceToNat]; exact Read_G ho _) (by simp (config := { maxSteps := 1000000 }) only [go_sem, ↓reduceIte, Nat.reduceEqDiff, Nat.reduceAdd, Nat.reduceMul, Nat.reduceSub, Nat.reduceLT, Nat.reduceLeDiff, Int.reduceLT, Int.reduceLE, Int.reduceEq, Int.reduceNe, Int.reduceAdd, Int.reduceNeg, Int.reduceToNat]; rfl) ?_
  rintro _ rfl
  rw [r1]
  unfold readV imgV codeD
  simp (config := { maxSteps := 1000000 }) only [go_sem, ↓reduceIte, Nat.reduceEqDiff, Nat.reduceAdd, Nat.reduceMul, Nat.reduceSub, Nat.reduceLT, Nat.reduceLeDiff, Int.reduceLT, Int.reduceLE, Int.reduceEq, Int.reduceNe, Int.reduceAdd, Int.reduceNeg, Int.reduceToNat]
  refine hook_callG kept_phiG (fun s β ds w h => h.1.2) rfl (by simp (config := { maxSteps := 1000000 }) only [go_sem, ↓reduceIte, Nat.reduceEqDiff, Nat.reduceAdd, Nat.reduceMul, Nat.reduceSub, Nat.reduceLT, Nat.reduceLeDiff, Int.reduceLT, Int.reduceLE, Int.reduceEq, Int.reduceNe, Int.reduceAdd, Int.reduceNeg, Int.reduceToNat]; exact Read_G ho _) (by simp (config := { maxSteps := 1000000 }) only [go_sem, ↓reduceIte, Nat.reduceEqDiff, Nat.reduceAdd, Nat.reduceMul, Nat.reduceSub, Nat.reduceLT, Nat.reduceLeDiff, Int.reduceLT, Int.reduceLE, Int.reduceEq, Int.reduceNe, Int.reduceAdd, Int.reduceNeg, Int.reduceToNat]; rfl) ?_
  rintro _ rfl
  rw [r2]
  unfold readV imgV codeD
  simp (config := { maxSteps := 1000000 }) only [go_sem, ↓reduceIte, Nat.reduceEqDiff, Nat.reduceAdd, Nat.reduceMul, Nat.reduceSub, Nat.reduceLT, Nat.reduceLeDiff, Int.reduceLT, Int.reduceLE, Int.reduceEq, Int.reduceNe, Int.reduceAdd, Int.reduceNeg, Int.reduceToNat]
  refine hook_callG kept_phiG (fun s β ds w h => h.1.2) rfl (by simp (config := { maxSteps := 1000000 }) only [go_sem, ↓reduceIte, Nat.reduceEqDiff, Nat.reduceAdd, Nat.reduceMul, Nat.reduceSub, Nat.reduceLT, Nat.reduceLeDiff, Int.reduceLT, Int.reduceLE, Int.reduceEq, Int.reduceNe, Int.reduceAdd, Int.reduceNeg, Int.reduceToNat]; exact Read_G ho _) (by simp (config := { maxSteps := 1000000 }) only [go_sem, ↓reduceIte, Nat.reduceEqDiff, Nat.reduceAdd, Nat.reduceMul, Nat.reduceSub, Nat.reduceLT, Nat.reduceLeDiff, Int.reduceLT, Int.reduceLE, Int.reduceEq, Int.reduceNe, Int.reduceAdd, Int.reduceNeg, Int.reduceToNat]; rfl) ?_
  rintro _ rfl
  rw [r3]
  unfold readV imgV codeD
  simp (config := { maxSteps := 1000000 }) only [go_sem, ↓reduceIte, Nat.reduceEqDiff, Nat.reduceAdd, Nat.reduceMul, Nat.reduceSub, Nat.reduceLT, Nat.reduceLeDiff, Int.reduceLT, Int.reduceLE, Int.reduceEq, Int.reduceNe, Int.reduceAdd, Int.reduceNeg, Int.reduceToNat]
  refine hook_callG kept_phiG (fun s β ds w h => h.1.2) rfl (by simp (config := { maxSteps := 1000000 }) only [go_sem, ↓reduceIte, Nat.reduceEqDiff, Nat.reduceAdd, Nat.reduceMul, Nat.reduceSub, Nat.reduceLT, Nat.reduceLeDiff, Int.reduceLT, Int.reduceLE, Int.reduceEq, Int.reduceNe, Int.reduceAdd, Int.reduceNeg, Int.reduceToNat]; exact Read_G ho _) (by simp (config := { maxSteps := 1000000 }) only [go_sem, ↓reduceIte, Nat.reduceEqDiff, Nat.reduceAdd, Nat.reduceMul, Nat.reduceSub, Nat.reduceLT, Nat.reduceLeDiff, Int.reduceLT, Int.reduceLE, Int.reduceEq, Int.reduceNe, Int.reduceAdd, Int.reduceNeg, Int.reduceToNat]; rfl) ?_
  rintro _ rfl
  rw [r4]
  unfold readV imgV codeD
  simp (config := { maxSteps := 1000000 }) only [go_sem, ↓reduceIte, Nat.reduceEqDiff, Nat.reduceAdd, Nat.reduceMul, Nat.reduceSub, Nat.reduceLT, Nat.reduceLeDiff, Int.reduceLT, Int.reduceLE, Int.reduceEq, Int.reduceNe, Int.reduceAdd, Int.reduceNeg, Int.reduceToNat]
  refine hook_callF kept_phiG rfl (by simp (config := { maxSteps := 1000000 }) only [go_sem, ↓reduceIte, Nat.reduceEqDiff, Nat.reduceAdd, Nat.reduceMul, Nat.reduceSub, Nat.reduceLT, Nat.reduceLeDiff, Int.reduceLT, Int.reduceLE, Int.reduceEq, Int.reduceNe, Int.reduceAdd, Int.reduceNeg, Int.reduceToNat]; exact Line_A _ (by decide)) (by simp (config := { maxSteps := 1000000 }) only [go_sem, ↓reduceIte, Nat.reduceEqDiff, Nat.reduceAdd, Nat.reduceMul, Nat.reduceSub, Nat.reduceLT, Nat.reduceLeDiff, Int.reduceLT, Int.reduceLE, Int.reduceEq, Int.reduceNe, Int.reduceAdd, Int.reduceNeg, Int.reduceToNat]; rfl) ?_
  rintro _ rfl
  rw [r5]
  unfold lineV
  simp (config := { maxSteps := 1000000 }) only [go_sem, ↓reduceIte, Nat.reduceEqDiff, Nat.reduceAdd, Nat.reduceMul, Nat.reduceSub, Nat.reduceLT, Nat.reduceLeDiff, Int.reduceLT, Int.reduceLE, Int.reduceEq, Int.reduceNe, Int.reduceAdd, Int.reduceNeg, Int.reduceToNat]
  refine hook_callG kept_phiG (fun s β ds w h => h.1.2) rfl (by simp (config := { maxSteps := 1000000 }) only [go_sem, ↓reduceIte, Nat.reduceEqDiff, Nat.reduceAdd, Nat.reduceMul, Nat.reduceSub, Nat.reduceLT, Nat.reduceLeDiff, Int.reduceLT, Int.reduceLE, Int.reduceEq, Int.reduceNe, Int.reduceAdd, Int.reduceNeg, Int.reduceToNat]; exact Read_G ho _) (by simp (config := { maxSteps := 1000000 }) only [go_sem, ↓reduceIte, Nat.reduceEqDiff, Nat.reduceAdd, Nat.reduceMul, Nat.reduceSub, Nat.reduceLT, Nat.reduceLeDiff, Int.reduceLT, Int.reduceLE, Int.reduceEq, Int.reduceNe, Int.reduceAdd, Int.reduceNeg, Int.reduceToNat]; rfl) ?_
  rintro _ rfl
  rw [r6]
  unfold readV imgV codeD
  simp (config := { maxSteps := 1000000 }) only [go_sem, ↓reduceIte, Nat.reduceEqDiff, Nat.reduceAdd, Nat.reduceMul, Nat.reduceSub, Nat.reduceLT, Nat.reduceLeDiff, Int.reduceLT, Int.reduceLE, Int.reduceEq, Int.reduceNe, Int.reduceAdd, Int.reduceNeg, Int.reduceToNat]
  refine hook_callG kept_phiG (fun s β ds w h => h.1.2) rfl (by simp (config := { maxSteps := 1000000 }) only [go_sem, ↓reduceIte, Nat.reduceEqDiff, Nat.reduceAdd, Nat.reduceMul, Nat.reduceSub, Nat.reduceLT, Nat.reduceLeDiff, Int.reduceLT, Int.reduceLE, Int.reduceEq, Int.reduceNe, Int.reduceAdd, Int.reduceNeg, Int.reduceToNat]; exact Read_G ho _) (by simp (config := { maxSteps := 1000000 }) only [go_sem, ↓reduceIte, Nat.reduceEqDiff, Nat.reduceAdd, Nat.reduceMul, Nat.reduceSub, Nat.reduceLT, Nat.reduceLeDiff, Int.reduceLT, Int.reduceLE, Int.reduceEq, Int.reduceNe, Int.reduceAdd, Int.reduceNeg, Int.reduceToNat]; rfl) ?_
  rintro _ rfl
  rw [r7]
  unfold readV imgV codeD
  simp (config := { maxSteps := 1000000 }) only [go_sem, ↓reduceIte, Nat.reduceEqDiff, Nat.reduceAdd, Nat.reduceMul, Nat.reduceSub, Nat.reduceLT, Nat.reduceLeDiff, Int.reduceLT, Int.reduceLE, Int.reduceEq, Int.reduceNe, Int.reduceAdd, Int.reduceNeg, Int.reduceToNat]
  refine hook_callG kept_phiG (fun s β ds w h => h.1.2) rfl (by simp (config := { maxSteps := 1000000 }) only [go_sem, ↓reduceIte, Nat.reduceEqDiff, Nat.reduceAdd, Nat.reduceMul, Nat.reduceSub, Nat.reduceLT, Nat.reduceLeDiff, Int.reduceLT, Int.reduceLE, Int.reduceEq, Int.reduceNe, Int.reduceAdd, Int.reduceNeg, Int.reduceToNat]; exact Read_G ho _) (by simp (config := { maxSteps := 1000000 }) only [go_sem, ↓reduceIte, Nat.reduceEqDiff, Nat.reduceAdd, Nat.reduceMul, Nat.reduceSub, Nat.reduceLT, Nat.reduceLeDiff, Int.reduceLT, Int.reduceLE, Int.reduceEq, Int.reduceNe, Int.reduceAdd, Int.reduceNeg, Int.reduceToNat]; rfl) ?_
  rintro _ rfl
  rw [r8]
  unfold readV imgV codeD
  simp (config := { maxSteps := 1000000 }) only [go_sem, ↓reduceIte, Nat.reduceEqDiff, Nat.reduceAdd, Nat.reduceMul, Nat.reduceSub, Nat.reduceLT, Nat.reduceLeDiff, Int.reduceLT, Int.reduceLE, Int.reduceEq, Int.reduceNe, Int.reduceAdd, Int.reduceNeg, Int.reduceToNat]
  simp (config := { maxSteps := 1000000 }) only [go_sem, ↓reduceIte, Nat.reduceEqDiff, Nat.reduceAdd, Nat.reduceMul, Nat.reduceSub, Nat.reduceLT, Nat.reduceLeDiff, Int.reduceLT, Int.reduceLE, Int.reduceEq, Int.reduceNe, Int.reduceAdd, Int.reduceNeg, Int.reduceToNat, List.append_eq]
  refine hook_callF kept_phiG rfl (by simp (config := { maxSteps := 1000000 }) only [go_sem, ↓reduceIte, Nat.reduceEqDiff, Nat.reduceAdd, Nat.reduceMul, Nat.reduceSub, Nat.reduceLT, Nat.reduceLeDiff, Int.reduceLT, Int.reduceLE, Int.reduceEq, Int.reduceNe, Int.reduceAdd, Int.reduceNeg, Int.reduceToNat]; exact Same_A ([17825808], 0) ([17825808], 0) (by decide)) (by simp (config := { maxSteps := 1000000 }) only [go_sem, ↓reduceIte, Nat.reduceEqDiff, Nat.reduceAdd, Nat.reduceMul, Nat.reduceSub, Nat.reduceLT, Nat.reduceLeDiff, Int.reduceLT, Int.reduceLE, Int.reduceEq, Int.reduceNe, Int.reduceAdd, Int.reduceNeg, Int.reduceToNat]; rfl) ?_
  rintro _ rfl
  rw [show decide ((([17825808], 0) : List Nat × Nat) = ([17825808], 0)) = true from by simp]
  simp (config := { maxSteps := 1000000 }) only [go_sem, ↓reduceIte, Nat.reduceEqDiff, Nat.reduceAdd, Nat.reduceMul, Nat.reduceSub, Nat.reduceLT, Nat.reduceLeDiff, Int.reduceLT, Int.reduceLE, Int.reduceEq, Int.reduceNe, Int.reduceAdd, Int.reduceNeg, Int.reduceToNat]
  refine hook_viewF kept_phiG rfl (xs := [.one (.d (strs [[114, 49], [114, 50], [114, 51]])), .one (.d (strs [[114, 49], [114, 50], [114, 51]]))]) ?_ (Texts_A _ _ (by simp)) (by rintro _ rfl; rfl) ?_
  · simp (config := { maxSteps := 1000000 }) only [go_sem, ↓reduceIte, Nat.reduceEqDiff, Nat.reduceAdd, Nat.reduceMul, Nat.reduceSub, Nat.reduceLT, Nat.reduceLeDiff, Int.reduceLT, Int.reduceLE, Int.reduceEq, Int.reduceNe, Int.reduceAdd, Int.reduceNeg, Int.reduceToNat]
    exact frzVs_two (.d _) (frz_strs rfl rfl rfl)
  rintro _ rfl
  rw [show decide (([[114, 49], [114, 50], [114, 51]] : List Str) = [[114, 49], [114, 50], [114, 51]]) = true from by simp]
  simp (config := { maxSteps := 1000000 }) only [go_sem, ↓reduceIte, Nat.reduceEqDiff, Nat.reduceAdd, Nat.reduceMul, Nat.reduceSub, Nat.reduceLT, Nat.reduceLeDiff, Int.reduceLT, Int.reduceLE, Int.reduceEq, Int.reduceNe, Int.reduceAdd, Int.reduceNeg, Int.reduceToNat]

end Go.Proofs.YtifciocionlciaaDoor

namespace Go.Proofs.YtifciocionlciaaDoor
open Go Go.Am Go.Asm

set_option maxHeartbeats 8000000 in
theorem AsmLines_G {o : Obj} (ho : SmallO o) (s : Str) : PureG Tryd.prog 3 o 3 [sv s] (· = bv true) := by
  refine pure_of_wpG2 0 3 o Tt_ok mixed Tryd.func3 rfl (by rfl) [.tmp 2] rfl (by kernel_rfl) (by kernel_rfl) (by simp [Tryd.ntmps3]) fun b₀ β0 s0 w0 g => ?_
  by_cases hs : 200 < s.length
  · have hsi : (200 : Int) < (s.length : Int) := by omega
    simp (config := { maxSteps := 1000000 }) only [go_sem, ↓reduceIte, Nat.reduceEqDiff, Nat.reduceAdd, Nat.reduceMul, Nat.reduceSub, Nat.reduceLT, Nat.reduceLeDiff, Int.reduceLT, Int.reduceLE, Int.reduceEq, Int.reduceNe, Int.reduceAdd, Int.reduceNeg, Int.reduceToNat, hsi]
    refine hook_callG kept_phiG (fun s β ds w h => h.1.2) rfl (by simp (config := { maxSteps := 1000000 }) only [go_sem, ↓reduceIte, Nat.reduceEqDiff, Nat.reduceAdd, Nat.reduceMul, Nat.reduceSub, Nat.reduceLT, Nat.reduceLeDiff, Int.reduceLT, Int.reduceLE, Int.reduceEq, Int.reduceNe, Int.reduceAdd, Int.reduceNeg, Int.reduceToNat]; exact awake_G ho) (by simp (config := { maxSteps := 1000000 }) only [go_sem, ↓reduceIte, Nat.reduceEqDiff, Nat.reduceAdd, Nat.reduceMul, Nat.reduceSub, Nat.reduceLT, Nat.reduceLeDiff, Int.reduceLT, Int.reduceLE, Int.reduceEq, Int.reduceNe, Int.reduceAdd, Int.reduceNeg, Int.reduceToNat]; rfl) ?_
    rintro _ rfl
    simp (config := { maxSteps := 1000000 }) only [go_sem, ↓reduceIte, Nat.reduceEqDiff, Nat.reduceAdd, Nat.reduceMul, Nat.reduceSub, Nat.reduceLT, Nat.reduceLeDiff, Int.reduceLT, Int.reduceLE, Int.reduceEq, Int.reduceNe, Int.reduceAdd, Int.reduceNeg, Int.reduceToNat]
  have hsi : ¬ (200 : Int) < (s.length : Int) := by omega
  simp (config := { maxSteps := 1000000 }) only [go_sem, ↓reduceIte, Nat.reduceEqDiff, Nat.reduceAdd, Nat.reduceMul, Nat.reduceSub, Nat.reduceLT, Nat.reduceLeDiff, Int.reduceLT, Int.reduceLE, Int.reduceEq, Int.reduceNe, Int.reduceAdd, Int.reduceNeg, Int.reduceToNat, hsi]
  refine loop_introF (fun nn st => ∃ k : Nat, nn + k = s.length ∧ st.f 0 = sv s ∧ st.f 3 = iv .i64 k) s.length ?_ ?_
  · refine ⟨0, by omega, ?_⟩
    simp (config := { maxSteps := 1000000 }) only [go_sem, ↓reduceIte, Nat.reduceEqDiff, Nat.reduceAdd, Nat.reduceMul, Nat.reduceSub, Nat.reduceLT, Nat.reduceLeDiff, Int.reduceLT, Int.reduceLE, Int.reduceEq, Int.reduceNe, Int.reduceAdd, Int.reduceNeg, Int.reduceToNat]
  rintro nn f g ob ⟨k, hk, q0, q3⟩
  simp only at q0 q3
  have hw := wrap_succ (k := k) (by omega)
  by_cases hlt : k < s.length
  · obtain ⟨c, hc⟩ := getq hlt
    have hki : (k : Int) < (s.length : Int) := by omega
    have hk0 : (0 : Int) ≤ (k : Int) := by omega
    by_cases hc10 : c = 10
    · have hci : (c.toNat : Int) = 10 := by rw [hc10]; rfl
      simp (config := { maxSteps := 1000000 }) only [go_sem, ↓reduceIte, Nat.reduceEqDiff, Nat.reduceAdd, Nat.reduceMul, Nat.reduceSub, Nat.reduceLT, Nat.reduceLeDiff, Int.reduceLT, Int.reduceLE, Int.reduceEq, Int.reduceNe, Int.reduceAdd, Int.reduceNeg, Int.reduceToNat, q0, q3, hki, hk0, hc, hci]
      refine hook_callG kept_phiG (fun s β ds w h => h.1.2) rfl (by simp (config := { maxSteps := 1000000 }) only [go_sem, ↓reduceIte, Nat.reduceEqDiff, Nat.reduceAdd, Nat.reduceMul, Nat.reduceSub, Nat.reduceLT, Nat.reduceLeDiff, Int.reduceLT, Int.reduceLE, Int.reduceEq, Int.reduceNe, Int.reduceAdd, Int.reduceNeg, Int.reduceToNat]; exact awake_G ho) (by simp (config := { maxSteps := 1000000 }) only [go_sem, ↓reduceIte, Nat.reduceEqDiff, Nat.reduceAdd, Nat.reduceMul, Nat.reduceSub, Nat.reduceLT, Nat.reduceLeDiff, Int.reduceLT, Int.reduceLE, Int.reduceEq, Int.reduceNe, Int.reduceAdd, Int.reduceNeg, Int.reduceToNat]; rfl) ?_
      rintro _ rfl
      simp (config := { maxSteps := 1000000 }) only [go_sem, ↓reduceIte, Nat.reduceEqDiff, Nat.reduceAdd, Nat.reduceMul, Nat.reduceSub, Nat.reduceLT, Nat.reduceLeDiff, Int.reduceLT, Int.reduceLE, Int.reduceEq, Int.reduceNe, Int.reduceAdd, Int.reduceNeg, Int.reduceToNat]
    · have hci : ¬ (c.toNat : Int) = 10 := u8_ne (d := 10) hc10
      simp (config := { maxSteps := 1000000 }) only [go_sem, ↓reduceIte, Nat.reduceEqDiff, Nat.reduceAdd, Nat.reduceMul, Nat.reduceSub, Nat.reduceLT, Nat.reduceLeDiff, Int.reduceLT, Int.reduceLE, Int.reduceEq, Int.reduceNe, Int.reduceAdd, Int.reduceNeg, Int.reduceToNat, q0, q3, hki, hk0, hc, hci, hw]
      refine round_endF (nn - 1) (by omega) ⟨k + 1, by omega, ?_⟩
      simp (config := { maxSteps := 1000000 }) only [go_sem, ↓reduceIte, Nat.reduceEqDiff, Nat.reduceAdd, Nat.reduceMul, Nat.reduceSub, Nat.reduceLT, Nat.reduceLeDiff, Int.reduceLT, Int.reduceLE, Int.reduceEq, Int.reduceNe, Int.reduceAdd, Int.reduceNeg, Int.reduceToNat, q0]
  · have hki : ¬ (k : Int) < (s.length : Int) := by omega
    simp (config := { maxSteps := 1000000 }) only [go_sem, ↓reduceIte, Nat.reduceEqDiff, Nat.reduceAdd, Nat.reduceMul, Nat.reduceSub, Nat.reduceLT, Nat.reduceLeDiff, Int.reduceLT, Int.reduceLE, Int.reduceEq, Int.reduceNe, Int.reduceAdd, Int.reduceNeg, Int.reduceToNat, q0, q3, hki]
    refine hook_callF kept_phiG rfl (by simp (config := { maxSteps := 1000000 }) only [go_sem, ↓reduceIte, Nat.reduceEqDiff, Nat.reduceAdd, Nat.reduceMul, Nat.reduceSub, Nat.reduceLT, Nat.reduceLeDiff, Int.reduceLT, Int.reduceLE, Int.reduceEq, Int.reduceNe, Int.reduceAdd, Int.reduceNeg, Int.reduceToNat]; exact Line_A s (by omega)) (by simp (config := { maxSteps := 1000000 }) only [go_sem, ↓reduceIte, Nat.reduceEqDiff, Nat.reduceAdd, Nat.reduceMul, Nat.reduceSub, Nat.reduceLT, Nat.reduceLeDiff, Int.reduceLT, Int.reduceLE, Int.reduceEq, Int.reduceNe, Int.reduceAdd, Int.reduceNeg, Int.reduceToNat]; rfl) ?_
    rintro _ rfl
    obtain ⟨l, op, args, e, he, hal⟩ : ∃ l op args e, lineV (lineA s) = .tup [sv l, sv op, .one (.d (strs args)), iv .i64 e] ∧ args.length ≤ 4000000 := by
      cases hl : lineA s with
      | none => exact ⟨_, _, [], _, rfl, by simp⟩
      | some x => obtain ⟨l, op, args⟩ := x; exact ⟨_, _, args, _, rfl, by have := (lineA_len hl).1; omega⟩
    simp (config := { maxSteps := 1000000 }) only [go_sem, ↓reduceIte, Nat.reduceEqDiff, Nat.reduceAdd, Nat.reduceMul, Nat.reduceSub, Nat.reduceLT, Nat.reduceLeDiff, Int.reduceLT, Int.reduceLE, Int.reduceEq, Int.reduceNe, Int.reduceAdd, Int.reduceNeg, Int.reduceToNat]
    rw [he]
    simp (config := { maxSteps := 1000000 }) only [go_sem, ↓reduceIte, Nat.reduceEqDiff, Nat.reduceAdd, Nat.reduceMul, Nat.reduceSub, Nat.reduceLT, Nat.reduceLeDiff, Int.reduceLT, Int.reduceLE, Int.reduceEq, Int.reduceNe, Int.reduceAdd, Int.reduceNeg, Int.reduceToNat]
    refine hook_callF kept_phiG rfl (by simp (config := { maxSteps := 1000000 }) only [go_sem, ↓reduceIte, Nat.reduceEqDiff, Nat.reduceAdd, Nat.reduceMul, Nat.reduceSub, Nat.reduceLT, Nat.reduceLeDiff, Int.reduceLT, Int.reduceLE, Int.reduceEq, Int.reduceNe, Int.reduceAdd, Int.reduceNeg, Int.reduceToNat, q0]; exact LineR_A s (by omega)) (by simp (config := { maxSteps := 1000000 }) only [go_sem, ↓reduceIte, Nat.reduceEqDiff, Nat.reduceAdd, Nat.reduceMul, Nat.reduceSub, Nat.reduceLT, Nat.reduceLeDiff, Int.reduceLT, Int.reduceLE, Int.reduceEq, Int.reduceNe, Int.reduceAdd, Int.reduceNeg, Int.reduceToNat, q0]; rfl) ?_
    rintro _ rfl
    rw [he]
    simp (config := { maxSteps := 1000000 }) only [go_sem, ↓reduceIte, Nat.reduceEqDiff, Nat.reduceAdd, Nat.reduceMul, Nat.reduceSub, Nat.reduceLT, Nat.reduceLeDiff, Int.reduceLT, Int.reduceLE, Int.reduceEq, Int.reduceNe, Int.reduceAdd, Int.reduceNeg, Int.reduceToNat]
    refine hook_callG kept_phiG (fun s β ds w h => h.1.2) rfl (by simp (config := { maxSteps := 1000000 }) only [go_sem, ↓reduceIte, Nat.reduceEqDiff, Nat.reduceAdd, Nat.reduceMul, Nat.reduceSub, Nat.reduceLT, Nat.reduceLeDiff, Int.reduceLT, Int.reduceLE, Int.reduceEq, Int.reduceNe, Int.reduceAdd, Int.reduceNeg, Int.reduceToNat]; exact awake_G ho) (by simp (config := { maxSteps := 1000000 }) only [go_sem, ↓reduceIte, Nat.reduceEqDiff, Nat.reduceAdd, Nat.reduceMul, Nat.reduceSub, Nat.reduceLT, Nat.reduceLeDiff, Int.reduceLT, Int.reduceLE, Int.reduceEq, Int.reduceNe, Int.reduceAdd, Int.reduceNeg, Int.reduceToNat]; rfl) ?_
    rintro _ rfl
    simp (config := { maxSteps := 1000000 }) only [go_sem, ↓reduceIte, Nat.reduceEqDiff, Nat.reduceAdd, Nat.reduceMul, Nat.reduceSub, Nat.reduceLT, Nat.reduceLeDiff, Int.reduceLT, Int.reduceLE, Int.reduceEq, Int.reduceNe, Int.reduceAdd, Int.reduceNeg, Int.reduceToNat]
    refine hook_callF kept_phiG rfl (by simp (config := { maxSteps := 1000000 }) only [go_sem, ↓reduceIte, Nat.reduceEqDiff, Nat.reduceAdd, Nat.reduceMul, Nat.reduceSub, Nat.reduceLT, Nat.reduceLeDiff, Int.reduceLT, Int.reduceLE, Int.reduceEq, Int.reduceNe, Int.reduceAdd, Int.reduceNeg, Int.reduceToNat]; exact Texts_A args args (by omega)) (by simp (config := { maxSteps := 1000000 }) only [go_sem, ↓reduceIte, Nat.reduceEqDiff, Nat.reduceAdd, Nat.reduceMul, Nat.reduceSub, Nat.reduceLT, Nat.reduceLeDiff, Int.reduceLT, Int.reduceLE, Int.reduceEq, Int.reduceNe, Int.reduceAdd, Int.reduceNeg, Int.reduceToNat]; rfl) ?_
    rintro _ rfl
    simp (config := { maxSteps := 1000000 }) only [go_sem, ↓reduceIte, Nat.reduceEqDiff, Nat.reduceAdd, Nat.reduceMul, Nat.reduceSub, Nat.reduceLT, Nat.reduceLeDiff, Int.reduceLT, Int.reduceLE, Int.reduceEq, Int.reduceNe, Int.reduceAdd, Int.reduceNeg, Int.reduceToNat]

end Go.Proofs.YtifciocionlciaaDoor

namespace Go.Proofs.YtifciocionlciaaDoor
open Go Go.Am Go.Asm

set_option maxHeartbeats 8000000 in
theorem AsmGreat_G {o : Obj} (ho : SmallO o) (t : Str) (n : Nat) (hn : n < 65536) : PureG Tryd.prog 3 o 4 [sv t, iv .u16 n] (· = bv true) := by
  refine pure_of_wpG2 0 3 o Tt_ok mixed Tryd.func4 rfl (by rfl) [.tmp 4] rfl (by kernel_rfl) (by kernel_rfl) (by simp [Tryd.ntmps4]) fun b₀ β0 s0 w0 g => ?_
  by_cases h1 : t.length < 1
  · have h1i : (t.length : Int) < 1 := by omega
    simp (config := { maxSteps := 1000000 }) only [go_sem, ↓reduceIte, Nat.reduceEqDiff, Nat.reduceAdd, Nat.reduceMul, Nat.reduceSub, Nat.reduceLT, Nat.reduceLeDiff, Int.reduceLT, Int.reduceLE, Int.reduceEq, Int.reduceNe, Int.reduceAdd, Int.reduceNeg, Int.reduceToNat, h1i]
    refine hook_callG kept_phiG (fun s β ds w h => h.1.2) rfl (by simp (config := { maxSteps := 1000000 }) only [go_sem, ↓reduceIte, Nat.reduceEqDiff, Nat.reduceAdd, Nat.reduceMul, Nat.reduceSub, Nat.reduceLT, Nat.reduceLeDiff, Int.reduceLT, Int.reduceLE, Int.reduceEq, Int.reduceNe, Int.reduceAdd, Int.reduceNeg, Int.reduceToNat]; exact awake_G ho) (by simp (config := { maxSteps := 1000000 }) only [go_sem, ↓reduceIte, Nat.reduceEqDiff, Nat.reduceAdd, Nat.reduceMul, Nat.reduceSub, Nat.reduceLT, Nat.reduceLeDiff, Int.reduceLT, Int.reduceLE, Int.reduceEq, Int.reduceNe, Int.reduceAdd, Int.reduceNeg, Int.reduceToNat]; rfl) ?_
    rintro _ rfl
    simp (config := { maxSteps := 1000000 }) only [go_sem, ↓reduceIte, Nat.reduceEqDiff, Nat.reduceAdd, Nat.reduceMul, Nat.reduceSub, Nat.reduceLT, Nat.reduceLeDiff, Int.reduceLT, Int.reduceLE, Int.reduceEq, Int.reduceNe, Int.reduceAdd, Int.reduceNeg, Int.reduceToNat]
  have h1i : ¬ (t.length : Int) < 1 := by omega
  by_cases h2 : 100 < t.length
  · have h2i : (100 : Int) < (t.length : Int) := by omega
    simp (config := { maxSteps := 1000000 }) only [go_sem, ↓reduceIte, Nat.reduceEqDiff, Nat.reduceAdd, Nat.reduceMul, Nat.reduceSub, Nat.reduceLT, Nat.reduceLeDiff, Int.reduceLT, Int.reduceLE, Int.reduceEq, Int.reduceNe, Int.reduceAdd, Int.reduceNeg, Int.reduceToNat, h1i, h2i]
    refine hook_callG kept_phiG (fun s β ds w h => h.1.2) rfl (by simp (config := { maxSteps := 1000000 }) only [go_sem, ↓reduceIte, Nat.reduceEqDiff, Nat.reduceAdd, Nat.reduceMul, Nat.reduceSub, Nat.reduceLT, Nat.reduceLeDiff, Int.reduceLT, Int.reduceLE, Int.reduceEq, Int.reduceNe, Int.reduceAdd, Int.reduceNeg, Int.reduceToNat]; exact awake_G ho) (by simp (config := { maxSteps := 1000000 }) only [go_sem, ↓reduceIte, Nat.reduceEqDiff, Nat.reduceAdd, Nat.reduceMul, Nat.reduceSub, Nat.reduceLT, Nat.reduceLeDiff, Int.reduceLT, Int.reduceLE, Int.reduceEq, Int.reduceNe, Int.reduceAdd, Int.reduceNeg, Int.reduceToNat]; rfl) ?_
    rintro _ rfl
    simp (config := { maxSteps := 1000000 }) only [go_sem, ↓reduceIte, Nat.reduceEqDiff, Nat.reduceAdd, Nat.reduceMul, Nat.reduceSub, Nat.reduceLT, Nat.reduceLeDiff, Int.reduceLT, Int.reduceLE, Int.reduceEq, Int.reduceNe, Int.reduceAdd, Int.reduceNeg, Int.reduceToNat]
  have h2i : ¬ (100 : Int) < (t.length : Int) := by omega
  simp (config := { maxSteps := 1000000 }) only [go_sem, ↓reduceIte, Nat.reduceEqDiff, Nat.reduceAdd, Nat.reduceMul, Nat.reduceSub, Nat.reduceLT, Nat.reduceLeDiff, Int.reduceLT, Int.reduceLE, Int.reduceEq, Int.reduceNe, Int.reduceAdd, Int.reduceNeg, Int.reduceToNat, h1i, h2i]
  refine loop_introF (fun nn st => ∃ t : Str, 1 ≤ t.length ∧ t.length ≤ 40000 ∧ nn + t.length = 40001 ∧ st.f 0 = sv t ∧ st.f 1 = iv .u16 n) (40001 - t.length) ?_ ?_
  · refine ⟨t, by omega, by omega, by omega, ?_⟩
    simp (config := { maxSteps := 1000000 }) only [go_sem, ↓reduceIte, Nat.reduceEqDiff, Nat.reduceAdd, Nat.reduceMul, Nat.reduceSub, Nat.reduceLT, Nat.reduceLeDiff, Int.reduceLT, Int.reduceLE, Int.reduceEq, Int.reduceNe, Int.reduceAdd, Int.reduceNeg, Int.reduceToNat]
  clear h1 h1i h2 h2i
  rintro nn f g ob ⟨t, h1, h2, h3, q0, q1⟩
  simp only at q0 q1
  by_cases hl : t.length ≤ 20000
  · have hli : (t.length : Int) ≤ 20000 := by omega
    simp (config := { maxSteps := 1000000 }) only [go_sem, ↓reduceIte, Nat.reduceEqDiff, Nat.reduceAdd, Nat.reduceMul, Nat.reduceSub, Nat.reduceLT, Nat.reduceLeDiff, Int.reduceLT, Int.reduceLE, Int.reduceEq, Int.reduceNe, Int.reduceAdd, Int.reduceNeg, Int.reduceToNat, q0, hli]
    refine ⟨by omega, ?_⟩
    refine round_endF (40001 - (t ++ t).length) (by rw [List.length_append]; omega) ⟨t ++ t, by rw [List.length_append]; omega, by rw [List.length_append]; omega, by rw [List.length_append]; omega, ?_⟩
    simp (config := { maxSteps := 1000000 }) only [go_sem, ↓reduceIte, Nat.reduceEqDiff, Nat.reduceAdd, Nat.reduceMul, Nat.reduceSub, Nat.reduceLT, Nat.reduceLeDiff, Int.reduceLT, Int.reduceLE, Int.reduceEq, Int.reduceNe, Int.reduceAdd, Int.reduceNeg, Int.reduceToNat, q1]
  · have hli : ¬ (t.length : Int) ≤ 20000 := by omega
    have hw1 : IntKind.i64.wrap (n : Int) = (n : Int) := by rw [IntKind.wrap_i64] <;> omega
    have hw2 : IntKind.i64.wrap ((t.length : Int) - 20000) = ((t.length - 20000 : Nat) : Int) := by rw [IntKind.wrap_i64] <;> omega
    have hmod : ((n : Int)).tmod ((t.length - 20000 : Nat) : Int) = ((n % (t.length - 20000) : Nat) : Int) := (Int.ofNat_tmod _ _).symm
    have hlt := Nat.mod_lt n (show 0 < t.length - 20000 by omega)
    have hw3 : IntKind.i64.wrap (20001 + ((n % (t.length - 20000) : Nat) : Int)) = ((20001 + n % (t.length - 20000) : Nat) : Int) := by rw [IntKind.wrap_i64] <;> omega
    have hge : (0 : Int) ≤ ((20001 + n % (t.length - 20000) : Nat) : Int) := by omega
    simp (config := { maxSteps := 1000000 }) only [go_sem, ↓reduceIte, Nat.reduceEqDiff, Nat.reduceAdd, Nat.reduceMul, Nat.reduceSub, Nat.reduceLT, Nat.reduceLeDiff, Int.reduceLT, Int.reduceLE, Int.reduceEq, Int.reduceNe, Int.reduceAdd, Int.reduceNeg, Int.reduceToNat, q0, q1, hli, hw1, hw2, hmod, hw3, hge]
    refine ⟨by omega, Nat.zero_le _, by omega, ?_⟩
    refine hook_callG kept_phiG (fun s β ds w h => h.1.2) rfl (by simp (config := { maxSteps := 1000000 }) only [go_sem, ↓reduceIte, Nat.reduceEqDiff, Nat.reduceAdd, Nat.reduceMul, Nat.reduceSub, Nat.reduceLT, Nat.reduceLeDiff, Int.reduceLT, Int.reduceLE, Int.reduceEq, Int.reduceNe, Int.reduceAdd, Int.reduceNeg, Int.reduceToNat]; exact Read_G ho _) (by simp (config := { maxSteps := 1000000 }) only [go_sem, ↓reduceIte, Nat.reduceEqDiff, Nat.reduceAdd, Nat.reduceMul, Nat.reduceSub, Nat.reduceLT, Nat.reduceLeDiff, Int.reduceLT, Int.reduceLE, Int.reduceEq, Int.reduceNe, Int.reduceAdd, Int.reduceNeg, Int.reduceToNat]; rfl) ?_
    rintro _ rfl
    rw [show readA (t.take (20001 + n % (t.length - 20000))) = (([], 0), 0, 2) by
      unfold readA; rw [if_pos (by rw [List.length_take]; omega)]]
    unfold readV imgV codeD
    simp (config := { maxSteps := 1000000 }) only [go_sem, ↓reduceIte, Nat.reduceEqDiff, Nat.reduceAdd, Nat.reduceMul, Nat.reduceSub, Nat.reduceLT, Nat.reduceLeDiff, Int.reduceLT, Int.reduceLE, Int.reduceEq, Int.reduceNe, Int.reduceAdd, Int.reduceNeg, Int.reduceToNat]
    refine hook_callG kept_phiG (fun s β ds w h => h.1.2) rfl (by simp (config := { maxSteps := 1000000 }) only [go_sem, ↓reduceIte, Nat.reduceEqDiff, Nat.reduceAdd, Nat.reduceMul, Nat.reduceSub, Nat.reduceLT, Nat.reduceLeDiff, Int.reduceLT, Int.reduceLE, Int.reduceEq, Int.reduceNe, Int.reduceAdd, Int.reduceNeg, Int.reduceToNat]; exact awake_G ho) (by simp (config := { maxSteps := 1000000 }) only [go_sem, ↓reduceIte, Nat.reduceEqDiff, Nat.reduceAdd, Nat.reduceMul, Nat.reduceSub, Nat.reduceLT, Nat.reduceLeDiff, Int.reduceLT, Int.reduceLE, Int.reduceEq, Int.reduceNe, Int.reduceAdd, Int.reduceNeg, Int.reduceToNat]; rfl) ?_
    rintro _ rfl
    simp (config := { maxSteps := 1000000 }) only [go_sem, ↓reduceIte, Nat.reduceEqDiff, Nat.reduceAdd, Nat.reduceMul, Nat.reduceSub, Nat.reduceLT, Nat.reduceLeDiff, Int.reduceLT, Int.reduceLE, Int.reduceEq, Int.reduceNe, Int.reduceAdd, Int.reduceNeg, Int.reduceToNat]

end Go.Proofs.YtifciocionlciaaDoor

namespace Go.Proofs.YtifciocionlciaaDoor
open Go Go.Am Go.Asm

set_option maxHeartbeats 2000000 in
theorem LinesR_A (s : Str) (hl : s.length ≤ 1000000000) : PureR Tryd.prog 18 [sv s] (· = .one (.d (strs (splitC 10 s)))) := by
  refine pure_of_wp Tt_ok mixed Tryd.func18 rfl (by rfl) [2] rfl (by kernel_rfl) (by simp [Tryd.ntmps18]) fun g => ?_
  simp (config := { maxSteps := 1000000 }) only [go_sem, ↓reduceIte, Nat.reduceEqDiff, Nat.reduceAdd, Nat.reduceMul, Nat.reduceSub, Nat.reduceLT, Nat.reduceLeDiff, Int.reduceLT, Int.reduceLE, Int.reduceEq, Int.reduceNe, Int.reduceAdd, Int.reduceNeg, Int.reduceToNat]
  refine loop_intro (fun n st => ∃ (t : Str) (done : List Str), t.length = n ∧ st.f 0 = sv t ∧ AllW 3 [20] done st ∧ t.length ≤ s.length ∧ done.length + t.length ≤ s.length ∧ splitC 10 s = done ++ splitC 10 t) s.length ?_ ?_
  · refine ⟨s, [], rfl, ?_⟩
    simp (config := { maxSteps := 1000000 }) only [go_sem, ↓reduceIte, Nat.reduceEqDiff, Nat.reduceAdd, Nat.reduceMul, Nat.reduceSub, Nat.reduceLT, Nat.reduceLeDiff, Int.reduceLT, Int.reduceLE, Int.reduceEq, Int.reduceNe, Int.reduceAdd, Int.reduceNeg, Int.reduceToNat]
    first | exact ⟨.inl ⟨by simp [upd], rfl⟩, Nat.le_refl _, Nat.le_of_eq (by simp)⟩ | (simp [AllW, upd]; done)
  rintro n f g ob ⟨t, done, rfl, q0, hW, htl, hdl, hsp⟩
  simp only at q0
  have hul := upto_len 10 t
  simp (config := { maxSteps := 1000000 }) only [go_sem, ↓reduceIte, Nat.reduceEqDiff, Nat.reduceAdd, Nat.reduceMul, Nat.reduceSub, Nat.reduceLT, Nat.reduceLeDiff, Int.reduceLT, Int.reduceLE, Int.reduceEq, Int.reduceNe, Int.reduceAdd, Int.reduceNeg, Int.reduceToNat, q0]
  refine hook_call rfl (by simp (config := { maxSteps := 1000000 }) only [go_sem, ↓reduceIte, Nat.reduceEqDiff, Nat.reduceAdd, Nat.reduceMul, Nat.reduceSub, Nat.reduceLT, Nat.reduceLeDiff, Int.reduceLT, Int.reduceLE, Int.reduceEq, Int.reduceNe, Int.reduceAdd, Int.reduceNeg, Int.reduceToNat]; exact find_A t 10 (by omega)) (by simp (config := { maxSteps := 1000000 }) only [go_sem, ↓reduceIte, Nat.reduceEqDiff, Nat.reduceAdd, Nat.reduceMul, Nat.reduceSub, Nat.reduceLT, Nat.reduceLeDiff, Int.reduceLT, Int.reduceLE, Int.reduceEq, Int.reduceNe, Int.reduceAdd, Int.reduceNeg, Int.reduceToNat]; rfl) ?_
  rintro _ rfl
  simp (config := { maxSteps := 1000000 }) only [go_sem, ↓reduceIte, Nat.reduceEqDiff, Nat.reduceAdd, Nat.reduceMul, Nat.reduceSub, Nat.reduceLT, Nat.reduceLeDiff, Int.reduceLT, Int.reduceLE, Int.reduceEq, Int.reduceNe, Int.reduceAdd, Int.reduceNeg, Int.reduceToNat, q0]
  refine ⟨fun he => ?_, fun he => ?_⟩
  · have hm : (10 : UInt8) ∉ t := fun h => by have := (upto_lt 10 t).2 h; omega
    rw [hsp, splitC_none hm]
    rcases hW with ⟨q3, qL⟩ | ⟨id, hid, q3, qo⟩
    · simp only at q3
      simp (config := { maxSteps := 1000000 }) only [go_sem, ↓reduceIte, Nat.reduceEqDiff, Nat.reduceAdd, Nat.reduceMul, Nat.reduceSub, Nat.reduceLT, Nat.reduceLeDiff, Int.reduceLT, Int.reduceLE, Int.reduceEq, Int.reduceNe, Int.reduceAdd, Int.reduceNeg, Int.reduceToNat, q3, elemTy]
      refine ⟨⟨by decide, by decide⟩, _, ⟨_, frz_strs (L := done ++ [t]) rfl (by simp [upd, qL]) (by simp [qL]), rfl⟩, rfl⟩
    · simp only [List.mem_singleton] at hid
      subst hid
      simp only at q3 qo
      simp (config := { maxSteps := 1000000 }) only [go_sem, ↓reduceIte, Nat.reduceEqDiff, Nat.reduceAdd, Nat.reduceMul, Nat.reduceSub, Nat.reduceLT, Nat.reduceLeDiff, Int.reduceLT, Int.reduceLE, Int.reduceEq, Int.reduceNe, Int.reduceAdd, Int.reduceNeg, Int.reduceToNat, q3, qo, elemTy]
      refine ⟨Nat.le_refl _, ⟨by decide, by omega⟩, _, ⟨_, frz_strs (L := done ++ [t]) rfl (by simp [upd, List.take_of_length_le]) (by simp), rfl⟩, rfl⟩
  · have hm : (10 : UInt8) ∈ t := (upto_lt 10 t).1 (by omega)
    have hlt := (upto_lt 10 t).2 hm
    have hwp := wrap_succ (k := (upto 10 t).length) (by omega)
    have hnext : splitC 10 s = (done ++ [upto 10 t]) ++ splitC 10 (t.drop ((upto 10 t).length + 1)) := by rw [hsp, splitC_upto hm]; simp
    refine ⟨by omega, by omega, ?_⟩
    rw [upto_take]
    rcases hW with ⟨q3, qL⟩ | ⟨id, hid, q3, qo⟩
    · simp only at q3
      simp (config := { maxSteps := 1000000 }) only [go_sem, ↓reduceIte, Nat.reduceEqDiff, Nat.reduceAdd, Nat.reduceMul, Nat.reduceSub, Nat.reduceLT, Nat.reduceLeDiff, Int.reduceLT, Int.reduceLE, Int.reduceEq, Int.reduceNe, Int.reduceAdd, Int.reduceNeg, Int.reduceToNat, q3, elemTy, hwp]
      refine ⟨⟨by decide, by decide⟩, ?_⟩
      simp (config := { maxSteps := 1000000 }) only [go_sem, ↓reduceIte, Nat.reduceEqDiff, Nat.reduceAdd, Nat.reduceMul, Nat.reduceSub, Nat.reduceLT, Nat.reduceLeDiff, Int.reduceLT, Int.reduceLE, Int.reduceEq, Int.reduceNe, Int.reduceAdd, Int.reduceNeg, Int.reduceToNat, q0, hwp]
      refine ⟨by omega, Nat.le_refl _, ?_⟩
      refine round_end (t.drop ((upto 10 t).length + 1)).length (by rw [List.length_drop]; omega) ⟨t.drop ((upto 10 t).length + 1), done ++ [upto 10 t], rfl, ?_⟩
      simp (config := { maxSteps := 1000000 }) only [go_sem, ↓reduceIte, Nat.reduceEqDiff, Nat.reduceAdd, Nat.reduceMul, Nat.reduceSub, Nat.reduceLT, Nat.reduceLeDiff, Int.reduceLT, Int.reduceLE, Int.reduceEq, Int.reduceNe, Int.reduceAdd, Int.reduceNeg, Int.reduceToNat]
      exact ⟨.inr ⟨20, by simp, by simp [upd, qL], by simp [upd, qL]⟩, by rw [List.length_drop]; omega, by simp only [List.length_append, List.length_cons, List.length_nil, List.length_drop]; omega, hnext⟩
    · simp only [List.mem_singleton] at hid
      subst hid
      simp only at q3 qo
      simp (config := { maxSteps := 1000000 }) only [go_sem, ↓reduceIte, Nat.reduceEqDiff, Nat.reduceAdd, Nat.reduceMul, Nat.reduceSub, Nat.reduceLT, Nat.reduceLeDiff, Int.reduceLT, Int.reduceLE, Int.reduceEq, Int.reduceNe, Int.reduceAdd, Int.reduceNeg, Int.reduceToNat, q3, qo, elemTy, hwp]
      refine ⟨Nat.le_refl _, ⟨by decide, by omega⟩, ?_⟩
      simp (config := { maxSteps := 1000000 }) only [go_sem, ↓reduceIte, Nat.reduceEqDiff, Nat.reduceAdd, Nat.reduceMul, Nat.reduceSub, Nat.reduceLT, Nat.reduceLeDiff, Int.reduceLT, Int.reduceLE, Int.reduceEq, Int.reduceNe, Int.reduceAdd, Int.reduceNeg, Int.reduceToNat, q0, hwp]
      refine ⟨by omega, Nat.le_refl _, ?_⟩
      refine round_end (t.drop ((upto 10 t).length + 1)).length (by rw [List.length_drop]; omega) ⟨t.drop ((upto 10 t).length + 1), done ++ [upto 10 t], rfl, ?_⟩
      simp (config := { maxSteps := 1000000 }) only [go_sem, ↓reduceIte, Nat.reduceEqDiff, Nat.reduceAdd, Nat.reduceMul, Nat.reduceSub, Nat.reduceLT, Nat.reduceLeDiff, Int.reduceLT, Int.reduceLE, Int.reduceEq, Int.reduceNe, Int.reduceAdd, Int.reduceNeg, Int.reduceToNat]
      exact ⟨.inr ⟨20, by simp, by simp [upd], by simp [upd, List.take_of_length_le]⟩, by rw [List.length_drop]; omega, by simp only [List.length_append, List.length_cons, List.length_nil, List.length_drop]; omega, hnext⟩

end Go.Proofs.YtifciocionlciaaDoor

namespace Go.Proofs.YtifciocionlciaaDoor
open Go Go.Am Go.Asm

theorem linesA_wf : ∀ {n : Nat} {st st' : Sta} {ls : List Str}, WF st → linesA n st ls = .inl st' → WF st'
  | _, _, _, [], h, e => by cases e; exact h
  | n, st, st', s :: ls, h, e => by
    cases hs : stepA (n + 1) st s with
    | err e' => rw [linesA_bad hs] at e; cases e
    | ok st1 => rw [linesA_ok hs] at e; exact linesA_wf (h.stepA (fun _ _ => operand_reg) hs) e
theorem usesA_length {labs : List (Str × Nat)} : ∀ {code code' : List Nat} {us : List (Nat × Nat × Str)}, usesA labs code us = .inl code' → code'.length = code.length
  | _, _, [], e => by cases e; rfl
  | code, code', u :: us, e => by
    cases hp : Asm.placeOf labs u.2.2 with
    | none => rw [usesA_bad hp] at e; cases e
    | some p => rw [usesA_cons hp] at e; rw [usesA_length e, addAt_len]
theorem readA_len (t : Str) : (readA t).1.1.length ≤ 16384 := by
  by_cases ht : 20000 < t.length
  · unfold readA; rw [if_pos ht]; simp
  cases hl : linesA 0 st0 (splitC 10 t) with
  | inr x => obtain ⟨n, e⟩ := x; rw [readA_bad ht hl]; simp
  | inl st =>
    cases hu : usesA st.labs st.code st.uses with
    | inr x => obtain ⟨n, e⟩ := x; rw [readA_use ht hl hu]; simp
    | inl code =>
      rw [readA_good ht hl hu]
      have := (linesA_wf WF.zero hl).len
      have := usesA_length hu
      simp only; omega

theorem blankLs_snoc : ∀ (n : Nat) (l : List Str) (x : Str), blankLs n (l ++ [x]) = blankLs n l ++ [blankL (n + l.length) x]
  | n, [], x => rfl
  | n, y :: l, x => by
    rw [List.cons_append, blankLs, blankLs, blankLs_snoc (n + 1) l x, List.length_cons, show n + 1 + l.length = n + (l.length + 1) by omega]; rfl
theorem joinC_le {c : UInt8} (l : List Str) (k : Nat) : (joinC c (l.take k)).length ≤ (l.map fun x => x.length + 1).sum := by
  have h2 : ((l.take k).map fun x => x.length + 1).sum ≤ (l.map fun x => x.length + 1).sum := by
    rw [List.map_take]
    generalize l.map (fun x => x.length + 1) = m
    induction m generalizing k with
    | nil => simp
    | cons a m ih => cases k with
      | zero => simp
      | succ k => have := ih k; simp only [List.take_succ_cons, List.sum_cons]; omega
  rcases joinC_len (c := c) (l.take k) with h1 | h1
  · omega
  · rw [h1]; simp [joinC]
theorem blankLs_take (n k : Nat) : ∀ l : List Str, blankLs n (l.take k) = (blankLs n l).take k := by
  induction k generalizing n with
  | zero => intro l; simp [blankLs]
  | succ k ih => intro l; cases l with
    | nil => simp [blankLs]
    | cons x l => simp [blankLs, ih]
theorem blank_sum (n : Nat) (t : Str) : ((blankLs n (splitC 10 t)).map fun x => x.length + 1).sum ≤ 21 * t.length + 21 := by
  have h2 := joinC_len (c := 10) (splitC 10 t)
  have h3 := blankLs_sum n (splitC 10 t)
  have h4 := splitC_len (c := 10) t
  have h5 := splitC_ne 10 t
  rw [joinC_splitC] at h2
  rcases h2 with h2 | h2
  · omega
  · exact absurd h2 h5
/-- One line more. -/
theorem blank_next {n k : Nat} {ls : List Str} {x : Str} (hx : ls[k]? = some x) : joinC 10 (blankLs n (ls.take (k + 1))) = (if 0 < k then joinC 10 (blankLs n (ls.take k)) ++ [10] else []) ++ blankL (n + k) x := by
  have hk : (ls.take k).length = k := by rw [List.length_take]; have := (List.getElem?_eq_some_iff.1 hx).1; omega
  rw [List.take_add_one, hx, show (some x).toList = [x] from rfl, blankLs_snoc, hk]
  by_cases h0 : 0 < k
  · rw [if_pos h0, joinC_snoc _ (by
      intro e
      have := blankLs_len n (ls.take k)
      rw [e, hk] at this
      simp at this; omega)]
    simp
  · obtain rfl : k = 0 := by omega
    simp [blankLs, joinC]

set_option maxHeartbeats 8000000 in
theorem AsmBlanks_G {o : Obj} (ho : SmallO o) (t : Str) (n : Nat) (hn : n < 256) : PureG Tryd.prog 3 o 6 [sv t, iv .u8 n] (· = bv true) := by
  refine pure_of_wpG2 0 3 o Tt_ok mixed Tryd.func6 rfl (by rfl) [.tmp 4] rfl (by kernel_rfl) (by kernel_rfl) (by simp [Tryd.ntmps6]) fun b₀ β0 s0 w0 g => ?_
  by_cases h1 : 500 < t.length
  · have h1i : (500 : Int) < (t.length : Int) := by omega
    simp (config := { maxSteps := 1000000 }) only [go_sem, ↓reduceIte, Nat.reduceEqDiff, Nat.reduceAdd, Nat.reduceMul, Nat.reduceSub, Nat.reduceLT, Nat.reduceLeDiff, Int.reduceLT, Int.reduceLE, Int.reduceEq, Int.reduceNe, Int.reduceAdd, Int.reduceNeg, Int.reduceToNat, h1i]
    refine hook_callG kept_phiG (fun s β ds w h => h.1.2) rfl (by simp (config := { maxSteps := 1000000 }) only [go_sem, ↓reduceIte, Nat.reduceEqDiff, Nat.reduceAdd, Nat.reduceMul, Nat.reduceSub, Nat.reduceLT, Nat.reduceLeDiff, Int.reduceLT, Int.reduceLE, Int.reduceEq, Int.reduceNe, Int.reduceAdd, Int.reduceNeg, Int.reduceToNat]; exact awake_G ho) (by simp (config := { maxSteps := 1000000 }) only [go_sem, ↓reduceIte, Nat.reduceEqDiff, Nat.reduceAdd, Nat.reduceMul, Nat.reduceSub, Nat.reduceLT, Nat.reduceLeDiff, Int.reduceLT, Int.reduceLE, Int.reduceEq, Int.reduceNe, Int.reduceAdd, Int.reduceNeg, Int.reduceToNat]; rfl) ?_
    rintro _ rfl
    simp (config := { maxSteps := 1000000 }) only [go_sem, ↓reduceIte, Nat.reduceEqDiff, Nat.reduceAdd, Nat.reduceMul, Nat.reduceSub, Nat.reduceLT, Nat.reduceLeDiff, Int.reduceLT, Int.reduceLE, Int.reduceEq, Int.reduceNe, Int.reduceAdd, Int.reduceNeg, Int.reduceToNat]
  have h1i : ¬ (500 : Int) < (t.length : Int) := by omega
  have hls := splitC_len (c := 10) t
  have hlt := splitC_text (c := 10) t
  have hsum := blank_sum n t
  have hread := readA_blank n (t := t) (by omega)
  unfold blankT at hread
  simp (config := { maxSteps := 1000000 }) only [go_sem, ↓reduceIte, Nat.reduceEqDiff, Nat.reduceAdd, Nat.reduceMul, Nat.reduceSub, Nat.reduceLT, Nat.reduceLeDiff, Int.reduceLT, Int.reduceLE, Int.reduceEq, Int.reduceNe, Int.reduceAdd, Int.reduceNeg, Int.reduceToNat, h1i]
  refine hook_callF kept_phiG rfl (by simp (config := { maxSteps := 1000000 }) only [go_sem, ↓reduceIte, Nat.reduceEqDiff, Nat.reduceAdd, Nat.reduceMul, Nat.reduceSub, Nat.reduceLT, Nat.reduceLeDiff, Int.reduceLT, Int.reduceLE, Int.reduceEq, Int.reduceNe, Int.reduceAdd, Int.reduceNeg, Int.reduceToNat]; exact LinesR_A t (by omega)) (by simp (config := { maxSteps := 1000000 }) only [go_sem, ↓reduceIte, Nat.reduceEqDiff, Nat.reduceAdd, Nat.reduceMul, Nat.reduceSub, Nat.reduceLT, Nat.reduceLeDiff, Int.reduceLT, Int.reduceLE, Int.reduceEq, Int.reduceNe, Int.reduceAdd, Int.reduceNeg, Int.reduceToNat]; rfl) ?_
  rintro _ rfl
  generalize splitC 10 t = ls at hls hlt hsum hread
  simp (config := { maxSteps := 1000000 }) only [go_sem, ↓reduceIte, Nat.reduceEqDiff, Nat.reduceAdd, Nat.reduceMul, Nat.reduceSub, Nat.reduceLT, Nat.reduceLeDiff, Int.reduceLT, Int.reduceLE, Int.reduceEq, Int.reduceNe, Int.reduceAdd, Int.reduceNeg, Int.reduceToNat, strs]
  refine loop_introF (fun nn st => ∃ k : Nat, nn + k = ls.length ∧ st.f 0 = sv t ∧ st.f 1 = iv .u8 n ∧ st.f 5 = .one (.d (.sl (ls.map fun w => [D.str w]))) ∧ st.f 6 = sv (joinC 10 (blankLs n (ls.take k))) ∧ st.f 7 = iv .i64 k) ls.length ?_ ?_
  · refine ⟨0, by omega, ?_⟩
    simp (config := { maxSteps := 1000000 }) only [go_sem, ↓reduceIte, Nat.reduceEqDiff, Nat.reduceAdd, Nat.reduceMul, Nat.reduceSub, Nat.reduceLT, Nat.reduceLeDiff, Int.reduceLT, Int.reduceLE, Int.reduceEq, Int.reduceNe, Int.reduceAdd, Int.reduceNeg, Int.reduceToNat]
    trivial
  rintro nn f g ob ⟨k, hk, q0, q1, q5, q6, q7⟩
  simp only at q0 q1 q5 q6 q7
  have hw := wrap_succ (k := k) (by omega)
  by_cases hkl : k < ls.length
  · obtain ⟨x, hx⟩ := getq hkl
    have hxl := hlt x (List.mem_of_getElem? hx)
    have hgx : (ls.map fun w => [D.str w])[k]? = some [D.str x] := by rw [List.getElem?_map, hx]; rfl
    have hki : (k : Int) < (ls.length : Int) := by omega
    have hk0 : (0 : Int) ≤ (k : Int) := by omega
    have hnext := blank_next (n := n) hx
    have hjl := joinC_le (c := 10) (blankLs n ls) k
    rw [← blankLs_take] at hjl
    have hs0 : ¬ 0 < k → joinC 10 (blankLs n (ls.take k)) = [] := fun h => by rw [show k = 0 by omega]; rfl
    generalize joinC 10 (blankLs n (ls.take k)) = s at q6 hnext hjl hs0
    have hwn : IntKind.i64.wrap (n : Int) = (n : Int) := by rw [IntKind.wrap_i64] <;> omega
    have hwk : IntKind.i64.wrap ((n : Int) + (k : Int)) = ((n + k : Nat) : Int) := by rw [IntKind.wrap_i64] <;> omega
    have hmod : (((n + k : Nat) : Int)).tmod 4 = (((n + k) % 4 : Nat) : Int) := (Int.ofNat_tmod _ _).symm
    have hb : (((n + k) % 4 : Nat) : Int) = 0 ∧ blankL (n + k) x = [32, 32] ++ x ∨ (((n + k) % 4 : Nat) : Int) = 1 ∧ blankL (n + k) x = x ++ noteB ∨ (((n + k) % 4 : Nat) : Int) = 2 ∧ blankL (n + k) x = [9] ++ x ++ [9, 32] ∨ (((n + k) % 4 : Nat) : Int) = 3 ∧ blankL (n + k) x = x := by
      rcases (show (n + k) % 4 = 0 ∨ (n + k) % 4 = 1 ∨ (n + k) % 4 = 2 ∨ (n + k) % 4 = 3 by omega) with h | h | h | h
      · exact .inl ⟨by omega, by unfold blankL; rw [h]; rfl⟩
      · exact .inr (.inl ⟨by omega, by unfold blankL; rw [h]; rfl⟩)
      · exact .inr (.inr (.inl ⟨by omega, by unfold blankL; rw [h]; rfl⟩))
      · exact .inr (.inr (.inr ⟨by omega, by unfold blankL; rw [h]; rfl⟩))
    have hnb : noteB.length = 20 := rfl
    by_cases hkz : 0 < k
    case' pos =>
      have hkp : (0 : Int) < (k : Int) := by omega
      rw [if_pos hkz] at hnext
    case' neg =>
      have hkp : ¬ (0 : Int) < (k : Int) := by omega
      have hs1 := hs0 hkz
      rw [if_neg hkz, ← hs1] at hnext
    all_goals
      rcases hb with ⟨hm, hb⟩ | ⟨hm, hb⟩ | ⟨hm, hb⟩ | ⟨hm, hb⟩
      all_goals
        rw [hb] at hnext
        simp (config := { maxSteps := 1000000 }) only [go_sem, ↓reduceIte, Nat.reduceEqDiff, Nat.reduceAdd, Nat.reduceMul, Nat.reduceSub, Nat.reduceLT, Nat.reduceLeDiff, Int.reduceLT, Int.reduceLE, Int.reduceEq, Int.reduceNe, Int.reduceAdd, Int.reduceNeg, Int.reduceToNat, q0, q1, q5, q6, q7, hki, hk0, hkp, hgx, hwn, hwk, hmod, hm, hw, List.length_append]
        repeat (refine And.intro (by omega) ?_)
        refine ⟨nn - 1, _, by omega, SemVs.refl _, k + 1, by omega, ?_⟩
        simp (config := { maxSteps := 1000000 }) only [go_sem, ↓reduceIte, Nat.reduceEqDiff, Nat.reduceAdd, Nat.reduceMul, Nat.reduceSub, Nat.reduceLT, Nat.reduceLeDiff, Int.reduceLT, Int.reduceLE, Int.reduceEq, Int.reduceNe, Int.reduceAdd, Int.reduceNeg, Int.reduceToNat, q0, q1, q5, hnext, noteB]
        try simp
  · have hki : ¬ (k : Int) < (ls.length : Int) := by omega
    rw [List.take_of_length_le (by omega)] at q6
    have hrl := readA_len t
    simp (config := { maxSteps := 1000000 }) only [go_sem, ↓reduceIte, Nat.reduceEqDiff, Nat.reduceAdd, Nat.reduceMul, Nat.reduceSub, Nat.reduceLT, Nat.reduceLeDiff, Int.reduceLT, Int.reduceLE, Int.reduceEq, Int.reduceNe, Int.reduceAdd, Int.reduceNeg, Int.reduceToNat, q0, q5, q6, q7, hki]
    refine hook_callG kept_phiG (fun s β ds w h => h.1.2) rfl (by simp (config := { maxSteps := 1000000 }) only [go_sem, ↓reduceIte, Nat.reduceEqDiff, Nat.reduceAdd, Nat.reduceMul, Nat.reduceSub, Nat.reduceLT, Nat.reduceLeDiff, Int.reduceLT, Int.reduceLE, Int.reduceEq, Int.reduceNe, Int.reduceAdd, Int.reduceNeg, Int.reduceToNat, q0]; exact Read_G ho _) (by simp (config := { maxSteps := 1000000 }) only [go_sem, ↓reduceIte, Nat.reduceEqDiff, Nat.reduceAdd, Nat.reduceMul, Nat.reduceSub, Nat.reduceLT, Nat.reduceLeDiff, Int.reduceLT, Int.reduceLE, Int.reduceEq, Int.reduceNe, Int.reduceAdd, Int.reduceNeg, Int.reduceToNat, q0]; rfl) ?_
    rintro _ rfl
    unfold readV imgV
    simp (config := { maxSteps := 1000000 }) only [go_sem, ↓reduceIte, Nat.reduceEqDiff, Nat.reduceAdd, Nat.reduceMul, Nat.reduceSub, Nat.reduceLT, Nat.reduceLeDiff, Int.reduceLT, Int.reduceLE, Int.reduceEq, Int.reduceNe, Int.reduceAdd, Int.reduceNeg, Int.reduceToNat, q6]
    refine hook_callG kept_phiG (fun s β ds w h => h.1.2) rfl (by simp (config := { maxSteps := 1000000 }) only [go_sem, ↓reduceIte, Nat.reduceEqDiff, Nat.reduceAdd, Nat.reduceMul, Nat.reduceSub, Nat.reduceLT, Nat.reduceLeDiff, Int.reduceLT, Int.reduceLE, Int.reduceEq, Int.reduceNe, Int.reduceAdd, Int.reduceNeg, Int.reduceToNat, q6]; exact Read_G ho _) (by simp (config := { maxSteps := 1000000 }) only [go_sem, ↓reduceIte, Nat.reduceEqDiff, Nat.reduceAdd, Nat.reduceMul, Nat.reduceSub, Nat.reduceLT, Nat.reduceLeDiff, Int.reduceLT, Int.reduceLE, Int.reduceEq, Int.reduceNe, Int.reduceAdd, Int.reduceNeg, Int.reduceToNat, q6]; rfl) ?_
    rintro _ rfl
    rw [hread]
    unfold readV imgV
    simp (config := { maxSteps := 1000000 }) only [go_sem, ↓reduceIte, Nat.reduceEqDiff, Nat.reduceAdd, Nat.reduceMul, Nat.reduceSub, Nat.reduceLT, Nat.reduceLeDiff, Int.reduceLT, Int.reduceLE, Int.reduceEq, Int.reduceNe, Int.reduceAdd, Int.reduceNeg, Int.reduceToNat]
    refine hook_callG kept_phiG (fun s β ds w h => h.1.2) rfl (by simp (config := { maxSteps := 1000000 }) only [go_sem, ↓reduceIte, Nat.reduceEqDiff, Nat.reduceAdd, Nat.reduceMul, Nat.reduceSub, Nat.reduceLT, Nat.reduceLeDiff, Int.reduceLT, Int.reduceLE, Int.reduceEq, Int.reduceNe, Int.reduceAdd, Int.reduceNeg, Int.reduceToNat]; exact awake_G ho) (by simp (config := { maxSteps := 1000000 }) only [go_sem, ↓reduceIte, Nat.reduceEqDiff, Nat.reduceAdd, Nat.reduceMul, Nat.reduceSub, Nat.reduceLT, Nat.reduceLeDiff, Int.reduceLT, Int.reduceLE, Int.reduceEq, Int.reduceNe, Int.reduceAdd, Int.reduceNeg, Int.reduceToNat]; rfl) ?_
    rintro _ rfl
    simp (config := { maxSteps := 1000000 }) only [go_sem, ↓reduceIte, Nat.reduceEqDiff, Nat.reduceAdd, Nat.reduceMul, Nat.reduceSub, Nat.reduceLT, Nat.reduceLeDiff, Int.reduceLT, Int.reduceLE, Int.reduceEq, Int.reduceNe, Int.reduceAdd, Int.reduceNeg, Int.reduceToNat]
    refine hook_callF kept_phiG rfl (by simp (config := { maxSteps := 1000000 }) only [go_sem, ↓reduceIte, Nat.reduceEqDiff, Nat.reduceAdd, Nat.reduceMul, Nat.reduceSub, Nat.reduceLT, Nat.reduceLeDiff, Int.reduceLT, Int.reduceLE, Int.reduceEq, Int.reduceNe, Int.reduceAdd, Int.reduceNeg, Int.reduceToNat]; exact Same_A (readA t).1 (readA t).1 (by omega)) (by simp (config := { maxSteps := 1000000 }) only [go_sem, ↓reduceIte, Nat.reduceEqDiff, Nat.reduceAdd, Nat.reduceMul, Nat.reduceSub, Nat.reduceLT, Nat.reduceLeDiff, Int.reduceLT, Int.reduceLE, Int.reduceEq, Int.reduceNe, Int.reduceAdd, Int.reduceNeg, Int.reduceToNat]; rfl) ?_
    rintro _ rfl
    simp (config := { maxSteps := 1000000 }) only [go_sem, ↓reduceIte, Nat.reduceEqDiff, Nat.reduceAdd, Nat.reduceMul, Nat.reduceSub, Nat.reduceLT, Nat.reduceLeDiff, Int.reduceLT, Int.reduceLE, Int.reduceEq, Int.reduceNe, Int.reduceAdd, Int.reduceNeg, Int.reduceToNat]

end Go.Proofs.YtifciocionlciaaDoor

namespace Go.Asm

/-! ### Texts of numbers -/
def decGo : Nat → Nat → Str
  | 0, _ => []
  | k + 1, n => if n < 10 then [UInt8.ofNat (48 + n)] else decGo k (n / 10) ++ [UInt8.ofNat (48 + n % 10)]
/-- A number's decimal text. -/
def decT (n : Nat) : Str := decGo (n + 1) n
theorem decGo_more : ∀ {k j n : Nat}, n < k → n < j → decGo k n = decGo j n
  | 0, _, _, h, _ => by omega
  | _ + 1, 0, _, _, h => by omega
  | k + 1, j + 1, n, h, h' => by
    unfold decGo
    by_cases h10 : n < 10
    · rw [if_pos h10, if_pos h10]
    · rw [if_neg h10, if_neg h10, decGo_more (k := k) (j := j) (n := n / 10) (by omega) (by omega)]
theorem decT_small {n : Nat} (h : n < 10) : decT n = [UInt8.ofNat (48 + n)] := by unfold decT decGo; rw [if_pos h]
theorem decT_big {n : Nat} (h : ¬ n < 10) : decT n = decT (n / 10) ++ [UInt8.ofNat (48 + n % 10)] := by
  conv => lhs; unfold decT decGo
  rw [if_neg h]
  unfold decT
  rw [decGo_more (j := n / 10 + 1) (by omega) (by omega)]

theorem digit_of {d : Nat} (h : d < 10) : digit (UInt8.ofNat (48 + d)) = true ∧ (UInt8.ofNat (48 + d)).toNat = 48 + d := by
  have : (UInt8.ofNat (48 + d)).toNat = 48 + d := by rw [UInt8.toNat_ofNat']; omega
  refine ⟨?_, this⟩
  unfold digit; rw [this]; simp; omega
theorem decT_all (n : Nat) : (decT n).all digit = true := by
  induction n using Nat.strongRecOn with
  | ind n ih =>
    by_cases h : n < 10
    · rw [decT_small h]; simp only [List.all_cons, List.all_nil, (digit_of h).1, Bool.and_true]
    · rw [decT_big h, List.all_append, ih (n / 10) (by omega)]; simp only [List.all_cons, List.all_nil, (digit_of (Nat.mod_lt n (by decide : 0 < 10))).1, Bool.and_true]
theorem decT_ne (n : Nat) : decT n ≠ [] := by
  by_cases h : n < 10
  · rw [decT_small h]; simp
  · rw [decT_big h]; simp
theorem decN_snoc (s : Str) (c : UInt8) : decN (s ++ [c]) = 10 * decN s + (c.toNat - 48) := by simp [decN, decF]
theorem decN_decT (n : Nat) : decN (decT n) = n := by
  induction n using Nat.strongRecOn with
  | ind n ih =>
    by_cases h : n < 10
    · rw [decT_small h]; simp only [decN, List.foldl_cons, List.foldl_nil, decF, (digit_of h).2]; omega
    · rw [decT_big h, decN_snoc, ih (n / 10) (by omega), (digit_of (Nat.mod_lt n (by decide : 0 < 10))).2]; omega
/-- The first digit: 0 only of the number 0. -/
theorem decT_head (n : Nat) : ∃ d r, decT n = UInt8.ofNat (48 + d) :: r ∧ d < 10 ∧ (10 ≤ n → d ≠ 0) ∧ (n < 10 → r = []) := by
  induction n using Nat.strongRecOn with
  | ind n ih =>
    by_cases h : n < 10
    · exact ⟨n, [], decT_small h, h, by omega, fun _ => rfl⟩
    · obtain ⟨d, r, h1, h2, h3, h4⟩ := ih (n / 10) (by omega)
      refine ⟨d, r ++ [UInt8.ofNat (48 + n % 10)], by rw [decT_big h, h1]; rfl, h2, fun _ => ?_, fun h' => absurd h' h⟩
      by_cases h5 : 10 ≤ n / 10
      · exact h3 h5
      · have e := decT_small (n := n / 10) (by omega)
        rw [h1] at e
        have e2 := (List.cons.injEq _ _ _ _).mp e
        have e3 := congrArg UInt8.toNat e2.1
        rw [(digit_of h2).2, (digit_of (show n / 10 < 10 by omega)).2] at e3
        omega
theorem parseN_decT {n : Nat} (h : n ≤ 4294967295) : parseN (decT n) = .ok n := by
  unfold parseN
  rw [if_neg, if_pos (decT_all n), decN_decT, if_neg (by omega)]
  rintro (he | ⟨h1, h2⟩)
  · exact decT_ne n he
  · obtain ⟨d, r, e, hd, h3, h4⟩ := decT_head n
    rw [e] at h1 h2
    simp only [List.head?_cons, Option.some.injEq] at h2
    have e3 := congrArg UInt8.toNat h2
    rw [(digit_of hd).2] at e3
    have : d = 0 := by have : (48 : UInt8).toNat = 48 := rfl; omega
    by_cases h10 : n < 10
    · rw [h4 h10] at h1; simp at h1
    · exact h3 (by omega) this
theorem digit_plain {c : UInt8} (h : digit c = true) : wht c = false ∧ c ≠ 35 ∧ c ≠ 58 ∧ c ≠ 44 ∧ c ≠ 10 ∧ c ≠ 114 ∧ c ≠ 39 ∧ c ≠ 120 := by
  unfold digit at h
  simp only [Bool.and_eq_true, decide_eq_true_eq] at h
  have key : ∀ x : UInt8, x.toNat < 48 ∨ 57 < x.toNat → c ≠ x := fun x hx e => by subst e; omega
  refine ⟨?_, key _ (by decide), key _ (by decide), key _ (by decide), key _ (by decide), key _ (by decide), key _ (by decide), key _ (by decide)⟩
  unfold wht
  simp [key 32 (by decide), key 9 (by decide)]
theorem decT_mem {n : Nat} {c : UInt8} (h : c ∈ decT n) : digit c = true := List.all_eq_true.1 (decT_all n) c h
theorem decT_len (n : Nat) : (decT n).length ≤ n + 1 := by
  induction n using Nat.strongRecOn with
  | ind n ih =>
    by_cases h : n < 10
    · rw [decT_small h]; simp
    · rw [decT_big h]
      have := ih (n / 10) (by omega)
      simp only [List.length_append, List.length_cons, List.length_nil]; omega
theorem decT_short {n : Nat} (h : n < 10000000000) : (decT n).length ≤ 10 := by
  have key : ∀ (k : Nat) (n : Nat), n < 10 ^ (k + 1) → (decT n).length ≤ k + 1 := by
    intro k
    induction k with
    | zero => intro n hn; rw [decT_small (by omega)]; simp
    | succ k ih =>
      intro n hn
      by_cases h10 : n < 10
      · rw [decT_small h10]; simp
      · rw [decT_big h10]
        have := ih (n / 10) (by rw [Nat.pow_succ] at hn; omega)
        simp only [List.length_append, List.length_cons, List.length_nil]; omega
  exact key 9 n (by omega)

theorem operand_dec {n : Nat} (h : n ≤ 4294967295) : operandA (decT n) = .num n := by
  obtain ⟨d, r, e, hd, _, _⟩ := decT_head n
  have hne : UInt8.ofNat (48 + d) ≠ 114 := (digit_plain (digit_of hd).1).2.2.2.2.2.1
  have hr : regOf (decT n) = none := by
    rw [e]
    unfold regOf
    split
    · rename_i x hx; exact absurd ((List.cons.injEq _ _ _ _).mp hx).1 hne
    · rfl
  unfold operandA
  rw [hr, parseN_decT h]
theorem operand_regT {n : Nat} (h : n ≤ 15) : operandA (114 :: decT n) = .reg n := by
  have hr : regOf (114 :: decT n) = some n := by
    unfold regOf
    simp only [parseN_decT (show n ≤ 4294967295 by omega), h, if_true]
  unfold operandA
  rw [hr]

/-! ### Tight texts -/
def Tight (s : Str) : Prop := (∀ c, s.head? = some c → wht c = false) ∧ (∀ c, s.getLast? = some c → wht c = false)
theorem Tight.trim {s : Str} (h : Tight s) : trimW s = s := by
  have hl : trimL s = s := by
    cases s with
    | nil => rfl
    | cons c r => exact trimL_cons (h.1 c rfl)
  have hr : trimR s = s := by
    rcases List.eq_nil_or_concat s with e | ⟨r, c, e⟩
    · rw [e]; rfl
    · rw [List.concat_eq_append] at e
      subst e
      exact trimR_snoc (h.2 c (by simp))
  unfold trimW
  rw [hr, hl]
theorem Tight.of_all {s : Str} (h : ∀ c ∈ s, wht c = false) : Tight s := ⟨fun c hc => h c (List.mem_of_mem_head? hc), fun c hc => h c (List.mem_of_getLast? hc)⟩
theorem Tight.join {s t : Str} (hs : Tight s) (ht : Tight t) (h1 : s ≠ []) (h2 : t ≠ []) (m : Str) : Tight (s ++ m ++ t) := by
  refine ⟨fun c hc => ?_, fun c hc => ?_⟩
  · cases s with
    | nil => exact absurd rfl h1
    | cons a r => exact hs.1 c (by simpa using hc)
  · rcases List.eq_nil_or_concat t with e | ⟨r, d, e⟩
    · exact absurd e h2
    · rw [List.concat_eq_append] at e
      subst e
      exact ht.2 c (by simpa [← List.append_assoc] using hc)

/-! ### A line of a word and operands -/
theorem opOf_app {op rest : Str} (h : ∀ c ∈ op, wht c = false) : opOf (op ++ 32 :: rest) = op := by
  unfold opOf
  rw [List.takeWhile_append_of_pos (fun c hc => by rw [h c hc]; rfl)]
  simp [wht]
theorem lineA_plain {op rest : Str} (h35 : 35 ∉ op ++ 32 :: rest) (h58 : 58 ∉ op ++ 32 :: rest) (hw : isWord op = true) (hob : ∀ c ∈ op, wht c = false) (ht : Tight (op ++ 32 :: rest)) :
    lineA (op ++ 32 :: rest) = (argsOf (trimW rest)).map fun a => ([], op, a) := by
  unfold lineA
  rw [upto_none h35, ht.trim]
  unfold labelOf
  rw [if_neg h58]
  simp only [Option.bind_some]
  rw [if_neg (by simp), opOf_app hob, if_pos hw, List.drop_left, show (32 :: rest : Str) = [32] ++ rest from rfl, trimW_white_app (by decide)]
/-- Operands, with ', ' between. -/
def joinA : List Str → Str
  | [] => []
  | [a] => a
  | a :: b :: l => a ++ 44 :: 32 :: joinA (b :: l)
theorem argsP_joinA : ∀ {l : List Str}, l ≠ [] → (∀ a ∈ l, 44 ∉ a ∧ Tight a ∧ a ≠ []) → argsP (joinA l) = some l
  | [], h, _ => absurd rfl h
  | [a], _, h => by
    obtain ⟨h1, h2, h3⟩ := h a (by simp)
    unfold joinA
    rw [argsP_one h1, h2.trim, if_neg h3]
  | a :: b :: l, _, h => by
    obtain ⟨h1, h2, h3⟩ := h a (by simp)
    unfold joinA
    rw [argsP_cons h1, h2.trim, if_neg h3, ← argsP_trim, show (32 :: joinA (b :: l) : Str) = [32] ++ joinA (b :: l) from rfl, trimW_white_app (by decide), argsP_trim,
      argsP_joinA (l := b :: l) (by simp) (fun x hx => h x (by simp [hx]))]
    rfl
theorem joinA_ne : ∀ {l : List Str}, l ≠ [] → (∀ a ∈ l, a ≠ []) → joinA l ≠ []
  | [], h, _ => absurd rfl h
  | [a], _, h => h a (by simp)
  | a :: b :: l, _, h => by simp [joinA]
theorem joinA_tight : ∀ {l : List Str}, l ≠ [] → (∀ a ∈ l, Tight a ∧ a ≠ []) → Tight (joinA l)
  | [], h, _ => absurd rfl h
  | [a], _, h => (h a (by simp)).1
  | a :: b :: l, _, h => by
    have h2 := joinA_tight (l := b :: l) (by simp) (fun x hx => h x (by simp [hx]))
    have h3 := joinA_ne (l := b :: l) (by simp) (fun x hx => (h x (by simp [hx])).2)
    have := (h a (by simp)).1.join h2 (h a (by simp)).2 h3 [44, 32]
    simpa [joinA] using this
theorem joinA_mem {c : UInt8} : ∀ {l : List Str}, c ∈ joinA l → (∃ a ∈ l, c ∈ a) ∨ c = 44 ∨ c = 32
  | [], h => by simp [joinA] at h
  | [a], h => .inl ⟨a, by simp, h⟩
  | a :: b :: l, h => by
    simp only [joinA, List.mem_append, List.mem_cons] at h
    rcases h with h | h | h | h
    · exact .inl ⟨a, by simp, h⟩
    · exact .inr (.inl h)
    · exact .inr (.inr h)
    · rcases joinA_mem h with ⟨x, hx, hc⟩ | h
      · exact .inl ⟨x, by simp [hx], hc⟩
      · exact .inr h
theorem lineA_joinA {op : Str} {l : List Str} (hw : isWord op = true) (hop : ∀ c ∈ op, wht c = false ∧ c ≠ 35 ∧ c ≠ 58) (hne : op ≠ []) (hl : l ≠ []) (ha : ∀ a ∈ l, (44 ∉ a ∧ 35 ∉ a ∧ 58 ∉ a) ∧ Tight a ∧ a ≠ []) :
    lineA (op ++ 32 :: joinA l) = some ([], op, l) := by
  have h2 := joinA_tight hl (fun a h => (ha a h).2)
  have h3 := joinA_ne hl (fun a h => (ha a h).2.2)
  have hto : Tight op := Tight.of_all fun c hc => (hop c hc).1
  have ht : Tight (op ++ 32 :: joinA l) := by simpa using hto.join h2 hne h3 [32]
  rw [lineA_plain ?_ ?_ hw (fun c hc => (hop c hc).1) ht, h2.trim, argsOf_P h3, argsP_joinA hl (fun a h => ⟨(ha a h).1.1, (ha a h).2⟩)]
  · rfl
  · intro hm
    simp only [List.mem_append, List.mem_cons] at hm
    rcases hm with hm | hm | hm
    · exact (hop _ hm).2.1 rfl
    · exact absurd hm (by decide)
    · rcases joinA_mem hm with ⟨a, h1, h2⟩ | h | h
      · exact (ha a h1).1.2.1 h2
      · exact absurd h (by decide)
      · exact absurd h (by decide)
  · intro hm
    simp only [List.mem_append, List.mem_cons] at hm
    rcases hm with hm | hm | hm
    · exact (hop _ hm).2.2 rfl
    · exact absurd hm (by decide)
    · rcases joinA_mem hm with ⟨a, h1, h2⟩ | h | h
      · exact (ha a h1).1.2.2 h2
      · exact absurd h (by decide)
      · exact absurd h (by decide)

/-- A text of one line. -/
theorem readA_one {s op : Str} {args : List Str} {st : Sta} (h10 : 10 ∉ s) (hs : s.length ≤ 20000) (hl : lineA s = some ([], op, args)) (ho : opA 1 st0 op args = .ok st) (hu : st.uses = []) : readA s = ((st.code, st.data), 0, 0) := by
  unfold readA
  rw [if_neg (by omega), splitC_none h10]
  have hst : stepA 1 st0 s = .ok st := by unfold stepA; rw [hl]; exact ho
  unfold linesA
  rw [hst]
  unfold linesA
  simp only [hu]
  rfl

end Go.Asm

namespace Go.Proofs.YtifciocionlciaaDoor
open Go Go.Am Go.Asm

theorem wrapB (n : Nat) (h : n < 256) : IntKind.u8.wrap (n : Int) = n := by rw [IntKind.wrap_u8]; omega

set_option maxHeartbeats 4000000 in
theorem Text_A (n : Nat) (hn : n < 4294967296) : PureR Tryd.prog 22 [iv .u32 n] (· = sv (decT n)) := by
  refine pure_of_wp Tt_ok mixed Tryd.func22 rfl (by rfl) [2] rfl (by kernel_rfl) (by simp [Tryd.ntmps22]) fun g => ?_
  have hlen := decT_short (n := n) (by omega)
  simp (config := { maxSteps := 1000000 }) only [go_sem, ↓reduceIte, Nat.reduceEqDiff, Nat.reduceAdd, Nat.reduceMul, Nat.reduceSub, Nat.reduceLT, Nat.reduceLeDiff, Int.reduceLT, Int.reduceLE, Int.reduceEq, Int.reduceNe, Int.reduceAdd, Int.reduceNeg, Int.reduceToNat]
  refine loop_intro (fun m st => ∃ suf : Str, m < 4294967296 ∧ st.f 0 = iv .u32 m ∧ st.f 3 = sv suf ∧ decT n = decT m ++ suf) n ?_ ?_
  · refine ⟨[], hn, ?_⟩
    simp (config := { maxSteps := 1000000 }) only [go_sem, ↓reduceIte, Nat.reduceEqDiff, Nat.reduceAdd, Nat.reduceMul, Nat.reduceSub, Nat.reduceLT, Nat.reduceLeDiff, Int.reduceLT, Int.reduceLE, Int.reduceEq, Int.reduceNe, Int.reduceAdd, Int.reduceNeg, Int.reduceToNat]
  rintro m f g ob ⟨suf, hm, q0, q3, hd⟩
  simp only at q0 q3
  have hsl : suf.length ≤ 10 := by rw [hd, List.length_append] at hlen; omega
  by_cases h9 : m < 10
  · have h9i : ¬ (9 : Int) < (m : Int) := by omega
    have hw : IntKind.u32.wrap (48 + (m : Int)) = ((48 + m : Nat) : Int) := by rw [IntKind.wrap_u32]; omega
    simp (config := { maxSteps := 1000000 }) only [go_sem, ↓reduceIte, Nat.reduceEqDiff, Nat.reduceAdd, Nat.reduceMul, Nat.reduceSub, Nat.reduceLT, Nat.reduceLeDiff, Int.reduceLT, Int.reduceLE, Int.reduceEq, Int.reduceNe, Int.reduceAdd, Int.reduceNeg, Int.reduceToNat, q0, q3, h9i, hw, wrapB (48 + m) (by omega)]
    exact ⟨by omega, by rw [hd, decT_small h9]; rfl⟩
  · have h9i : (9 : Int) < (m : Int) := by omega
    have hr : ((m : Int)).tmod 10 = ((m % 10 : Nat) : Int) := (Int.ofNat_tmod _ _).symm
    have hq : ((m : Int)).tdiv 10 = ((m / 10 : Nat) : Int) := rfl
    have hw : IntKind.u32.wrap (48 + ((m % 10 : Nat) : Int)) = ((48 + m % 10 : Nat) : Int) := by rw [IntKind.wrap_u32]; omega
    have hw2 : IntKind.u32.wrap ((m / 10 : Nat) : Int) = ((m / 10 : Nat) : Int) := by rw [IntKind.wrap_u32]; omega
    simp (config := { maxSteps := 1000000 }) only [go_sem, ↓reduceIte, Nat.reduceEqDiff, Nat.reduceAdd, Nat.reduceMul, Nat.reduceSub, Nat.reduceLT, Nat.reduceLeDiff, Int.reduceLT, Int.reduceLE, Int.reduceEq, Int.reduceNe, Int.reduceAdd, Int.reduceNeg, Int.reduceToNat, q0, q3, h9i, hr, hq, hw, hw2, wrapB (48 + m % 10) (by omega)]
    refine ⟨by omega, m / 10, _, by omega, SemVs.refl _, _, by omega, rfl, rfl, ?_⟩
    rw [hd, decT_big h9]
    simp

/-- A number's eight digits in sixteens. -/
def hexC (d : Nat) : UInt8 := if d < 10 then UInt8.ofNat (48 + d) else UInt8.ofNat (87 + d)
def hexTo (n : Nat) : Nat → Str
  | 0 => []
  | k + 1 => hexTo n k ++ [hexC (n / 16 ^ (7 - k) % 16)]
def hexT (n : Nat) : Str := hexTo n 8
theorem hexTo_len (n : Nat) : ∀ k, (hexTo n k).length = k
  | 0 => rfl
  | k + 1 => by simp [hexTo, hexTo_len n k]

theorem fdiv_pow (n j : Nat) : ((n : Nat) : Int).fdiv ((2 : Int) ^ j) = ((n / 2 ^ j : Nat) : Int) := by
  rw [show ((2 : Int) ^ j) = ((2 ^ j : Nat) : Int) by rw [Int.natCast_pow]; rfl, Int.fdiv_eq_ediv_of_nonneg _ (Int.natCast_nonneg _), Int.natCast_ediv]
theorem and15 (x : Nat) (hx : x < 4294967296) : (BitVec.ofInt 32 (x : Int) &&& BitVec.ofInt 32 15).toNat = x % 16 := by
  rw [BitVec.toNat_and]
  have h : ∀ n : Nat, n < 4294967296 → (BitVec.ofInt 32 (n : Int)).toNat = n := fun n hn => by
    rw [BitVec.toNat_ofInt]
    omega
  rw [h x hx, show (BitVec.ofInt 32 15).toNat = 2 ^ 4 - 1 from rfl, Nat.and_two_pow_sub_one_eq_mod]
theorem hexSlice : ∀ d : Nat, d < 16 → (48 :: ([49, 50, 51, 52, 53, 54, 55, 56, 57, 97, 98, 99, 100, 101, 102] : List UInt8).take d).drop d = [hexC d] := by decide

set_option maxHeartbeats 4000000 in
theorem hexdigits_A (n : Nat) (hn : n < 4294967296) : PureR Tryd.prog 23 [iv .u32 n] (· = sv (hexT n)) := by
  refine pure_of_wp Tt_ok mixed Tryd.func23 rfl (by rfl) [2] rfl (by kernel_rfl) (by simp [Tryd.ntmps23]) fun g => ?_
  simp (config := { maxSteps := 1000000 }) only [go_sem, ↓reduceIte, Nat.reduceEqDiff, Nat.reduceAdd, Nat.reduceMul, Nat.reduceSub, Nat.reduceLT, Nat.reduceLeDiff, Int.reduceLT, Int.reduceLE, Int.reduceEq, Int.reduceNe, Int.reduceAdd, Int.reduceNeg, Int.reduceToNat]
  refine loop_intro (fun m st => ∃ k : Nat, m + k = 8 ∧ st.f 0 = iv .u32 n ∧ st.f 3 = sv (hexTo n k) ∧ st.f 4 = iv .i64 (28 - 4 * (k : Int))) 8 ?_ ?_
  · refine ⟨0, rfl, ?_⟩
    simp (config := { maxSteps := 1000000 }) only [go_sem, ↓reduceIte, Nat.reduceEqDiff, Nat.reduceAdd, Nat.reduceMul, Nat.reduceSub, Nat.reduceLT, Nat.reduceLeDiff, Int.reduceLT, Int.reduceLE, Int.reduceEq, Int.reduceNe, Int.reduceAdd, Int.reduceNeg, Int.reduceToNat]
    exact ⟨rfl, rfl⟩
  rintro m f g ob ⟨k, hk, q0, q3, q4⟩
  simp only at q0 q3 q4
  by_cases hlt : k < 8
  · have hge : (0 : Int) ≤ 28 - 4 * (k : Int) := by omega
    simp (config := { maxSteps := 1000000 }) only [go_sem, ↓reduceIte, Nat.reduceEqDiff, Nat.reduceAdd, Nat.reduceMul, Nat.reduceSub, Nat.reduceLT, Nat.reduceLeDiff, Int.reduceLT, Int.reduceLE, Int.reduceEq, Int.reduceNe, Int.reduceAdd, Int.reduceNeg, Int.reduceToNat, q0, q3, q4, hge]
    refine draw_intro (by decide +kernel) ?_
    have hsh : min (28 - 4 * (k : Int)).toNat 32 = 28 - 4 * k := by omega
    have hpow : (2 : Nat) ^ (28 - 4 * k) = 16 ^ (7 - k) := by rw [show 28 - 4 * k = 4 * (7 - k) by omega, Nat.pow_mul]
    have hx : n / 16 ^ (7 - k) < 4294967296 := Nat.lt_of_le_of_lt (Nat.div_le_self _ _) hn
    have hd : IntKind.u32.wrap (((n / 16 ^ (7 - k)) % 16 : Nat) : Int) = ((n / 16 ^ (7 - k) % 16 : Nat) : Int) := by rw [IntKind.wrap_u32]; omega
    have hd2 : IntKind.u32.wrap (((n / 16 ^ (7 - k)) % 16 : Nat) + 1 : Int) = ((n / 16 ^ (7 - k) % 16 + 1 : Nat) : Int) := by rw [IntKind.wrap_u32]; omega
    have hlt16 : n / 16 ^ (7 - k) % 16 < 16 := Nat.mod_lt _ (by decide)
    have hand := and15 (n / 16 ^ (7 - k)) hx
    have hsl := hexSlice _ hlt16
    have hl := hexTo_len n k
    have hw4 : IntKind.i64.wrap (28 - 4 * (k : Int) - 4) = 28 - 4 * ((k + 1 : Nat) : Int) := by rw [IntKind.wrap_i64] <;> omega
    have hg0 : (0 : Int) ≤ ((n / 16 ^ (7 - k) % 16 + 1 : Nat) : Int) := by omega
    have hg1 : (0 : Int) ≤ ((n / 16 ^ (7 - k) % 16 : Nat) : Int) := by omega
    simp (config := { maxSteps := 1000000 }) only [go_sem, ↓reduceIte, Nat.reduceEqDiff, Nat.reduceAdd, Nat.reduceMul, Nat.reduceSub, Nat.reduceLT, Nat.reduceLeDiff, Int.reduceLT, Int.reduceLE, Int.reduceEq, Int.reduceNe, Int.reduceAdd, Int.reduceNeg, Int.reduceToNat, q0, q3, q4, hge, hsh, fdiv_pow, hpow]
    erw [hand]
    rw [hd]
    simp (config := { maxSteps := 1000000 }) only [go_sem, ↓reduceIte, Nat.reduceEqDiff, Nat.reduceAdd, Nat.reduceMul, Nat.reduceSub, Nat.reduceLT, Nat.reduceLeDiff, Int.reduceLT, Int.reduceLE, Int.reduceEq, Int.reduceNe, Int.reduceAdd, Int.reduceNeg, Int.reduceToNat, hd2, hg0, hg1, hsl, hl, hw4]
    refine ⟨Nat.le_succ _, by omega, by omega, m - 1, _, by omega, SemVs.refl _, k + 1, by omega, ?_⟩
    simp (config := { maxSteps := 1000000 }) only [go_sem, ↓reduceIte, Nat.reduceEqDiff, Nat.reduceAdd, Nat.reduceMul, Nat.reduceSub, Nat.reduceLT, Nat.reduceLeDiff, Int.reduceLT, Int.reduceLE, Int.reduceEq, Int.reduceNe, Int.reduceAdd, Int.reduceNeg, Int.reduceToNat, q0]
    rfl
  · have hge : ¬ (0 : Int) ≤ 28 - 4 * (k : Int) := by omega
    simp (config := { maxSteps := 1000000 }) only [go_sem, ↓reduceIte, Nat.reduceEqDiff, Nat.reduceAdd, Nat.reduceMul, Nat.reduceSub, Nat.reduceLT, Nat.reduceLeDiff, Int.reduceLT, Int.reduceLE, Int.reduceEq, Int.reduceNe, Int.reduceAdd, Int.reduceNeg, Int.reduceToNat, q0, q3, q4, hge]
    rw [show k = 8 by omega]; rfl

end Go.Proofs.YtifciocionlciaaDoor

namespace Go.Proofs.YtifciocionlciaaDoor
open Go Go.Am Go.Asm

/-! ### Plainly -/
theorem hexC_val : ∀ d : Nat, d < 16 → hexV (hexC d) = some d := by decide
theorem hexC_plain : ∀ d : Nat, d < 16 → wht (hexC d) = false ∧ hexC d ≠ 35 ∧ hexC d ≠ 58 ∧ hexC d ≠ 44 ∧ hexC d ≠ 10 := by decide
theorem hexGo_snoc (a : Nat) (s : Str) (c : UInt8) : hexGo a (s ++ [c]) = (hexGo a s).bind fun m => (hexV c).map fun v => 16 * m + v := by
  induction s generalizing a with
  | nil => cases h : hexV c <;> simp [hexGo, h]
  | cons b s ih =>
    simp only [List.cons_append, hexGo]
    cases h : hexV b with
    | none => rfl
    | some v => exact ih _
theorem hexGo_to (n : Nat) (hn : n < 4294967296) : ∀ k, k ≤ 8 → hexGo 0 (hexTo n k) = some (n / 16 ^ (8 - k))
  | 0, _ => by
    have : n / 16 ^ 8 = 0 := Nat.div_eq_of_lt (by omega)
    simp [hexTo, hexGo, this]
  | k + 1, hk => by
    have ih := hexGo_to n hn k (by omega)
    rw [hexTo, hexGo_snoc, ih]
    have hd : n / 16 ^ (7 - k) % 16 < 16 := Nat.mod_lt _ (by decide)
    rw [hexC_val _ hd]
    simp only [Option.bind_some, Option.map_some, Option.some.injEq]
    rw [show 8 - k = (7 - k) + 1 by omega, Nat.pow_succ, ← Nat.div_div_eq_div_mul, show 8 - (k + 1) = 7 - k by omega]
    omega
theorem hexN_T {n : Nat} (hn : n < 4294967296) : hexN (hexT n) = some n := by
  unfold hexN hexT
  rw [hexTo_len, if_pos (by decide), hexGo_to n hn 8 (by decide)]
  simp
theorem hexT_mem {n : Nat} {c : UInt8} (h : c ∈ hexT n) : wht c = false ∧ c ≠ 35 ∧ c ≠ 58 ∧ c ≠ 44 ∧ c ≠ 10 := by
  have key : ∀ k, c ∈ hexTo n k → wht c = false ∧ c ≠ 35 ∧ c ≠ 58 ∧ c ≠ 44 ∧ c ≠ 10 := by
    intro k
    induction k with
    | zero => intro h; simp [hexTo] at h
    | succ k ih =>
      intro h
      rw [hexTo, List.mem_append, List.mem_singleton] at h
      rcases h with h | h
      · exact ih h
      · rw [h]; exact hexC_plain _ (Nat.mod_lt _ (by decide))
  exact key 8 h
theorem operand_hex {n : Nat} (hn : n < 4294967296) : operandA (48 :: 120 :: hexT n) = .num n := by
  have hr : regOf (48 :: 120 :: hexT n) = none := rfl
  have hp : parseN (48 :: 120 :: hexT n) = .syn := by
    unfold parseN
    rw [if_pos (.inr ⟨by simp, rfl⟩)]
  unfold operandA
  rw [hr, hp]
  show (match hexN (hexT n) with | some n => Opd.num n | none => .other) = _
  rw [hexN_T hn]
theorem operand_char {c : UInt8} (h : charOk c = true) : operandA [39, c, 39] = .num c.toNat := by
  have hr : regOf [39, c, 39] = none := rfl
  have hp : parseN [39, c, 39] = .syn := by
    unfold parseN
    rw [if_neg (by simp), if_neg (by simp [digit])]
  unfold operandA
  rw [hr, hp]
  have hc : charOf [39, c, 39] = some c.toNat := if_pos ⟨rfl, rfl, h⟩
  have : restOpd [39, c, 39] = (match charOf [39, c, 39] with | some n => .num n | none => if isLabel [39, c, 39] = true then .lab else .other) := rfl
  simp only [this, hc]

/-- An operand that may stand in a line. -/
def OpdOk (a : Str) : Prop := (∀ c ∈ a, wht c = false ∧ c ≠ 35 ∧ c ≠ 58 ∧ c ≠ 44 ∧ c ≠ 10) ∧ a ≠ []
theorem OpdOk.arg {a : Str} (h : OpdOk a) : (44 ∉ a ∧ 35 ∉ a ∧ 58 ∉ a) ∧ Tight a ∧ a ≠ [] :=
  ⟨⟨fun hm => (h.1 _ hm).2.2.2.1 rfl, fun hm => (h.1 _ hm).2.1 rfl, fun hm => (h.1 _ hm).2.2.1 rfl⟩, Tight.of_all fun c hc => (h.1 c hc).1, h.2⟩
theorem OpdOk.dec (n : Nat) : OpdOk (decT n) := ⟨fun c hc => by have := digit_plain (decT_mem hc); exact ⟨this.1, this.2.1, this.2.2.1, this.2.2.2.1, this.2.2.2.2.1⟩, decT_ne n⟩
theorem OpdOk.cons {a : Str} {c : UInt8} (hc : wht c = false ∧ c ≠ 35 ∧ c ≠ 58 ∧ c ≠ 44 ∧ c ≠ 10) (h : ∀ c ∈ a, wht c = false ∧ c ≠ 35 ∧ c ≠ 58 ∧ c ≠ 44 ∧ c ≠ 10) : OpdOk (c :: a) :=
  ⟨fun x hx => by rcases List.mem_cons.1 hx with rfl | hx; exact hc; exact h x hx, by simp⟩

theorem free10 {op : Str} {l : List Str} (hop : 10 ∉ op) (ha : ∀ a ∈ l, OpdOk a) : 10 ∉ op ++ 32 :: joinA l := by
  intro hm
  simp only [List.mem_append, List.mem_cons] at hm
  rcases hm with hm | hm | hm
  · exact hop hm
  · exact absurd hm (by decide)
  · rcases joinA_mem hm with ⟨a, h1, h2⟩ | h | h
    · exact ((ha a h1).1 _ h2).2.2.2.2 rfl
    · exact absurd h (by decide)
    · exact absurd h (by decide)

theorem read_word {a : Str} {n : Nat} (ha : OpdOk a) (hl : a.length ≤ 100) (ho : operandA a = .num n) : readA ([46, 119, 111, 114, 100, 32] ++ a) = (([n], 0), 0, 0) := by
  have hline : lineA ([46, 119, 111, 114, 100] ++ 32 :: joinA [a]) = some ([], [46, 119, 111, 114, 100], [a]) :=
    lineA_joinA (by decide) (by decide) (by decide) (by simp) (fun x hx => by rw [List.mem_singleton] at hx; rw [hx]; exact ha.arg)
  have hop : Asm.opA 1 st0 [46, 119, 111, 114, 100] [a] = .ok { st0 with code := [n] } := by
    show dirA st0 false [a] = _
    unfold dirA
    simp [ho, addW, st0]
  have h10 := free10 (op := [46, 119, 111, 114, 100]) (l := [a]) (by decide) (fun x hx => by rw [List.mem_singleton] at hx; rw [hx]; exact ha)
  exact readA_one h10 (by simp [joinA]; omega) hline hop rfl
theorem read_li {a : Str} {n : Nat} (ha : OpdOk a) (hl : a.length ≤ 100) (ho : operandA a = .num n) (hn : n ≤ 65535) : readA ([108, 105, 32, 114, 51, 44, 32] ++ a) = (([word 1 3 0 n], 0), 0, 0) := by
  have h3 : OpdOk [114, 51] := ⟨by decide, by decide⟩
  have hmem : ∀ x ∈ [[114, 51], a], OpdOk x := fun x hx => by
    simp only [List.mem_cons, List.not_mem_nil, or_false] at hx
    rcases hx with rfl | rfl
    · exact h3
    · exact ha
  have hline : lineA ([108, 105] ++ 32 :: joinA [[114, 51], a]) = some ([], [108, 105], [[114, 51], a]) :=
    lineA_joinA (by decide) (by decide) (by decide) (by simp) (fun x hx => (hmem x hx).arg)
  have hr3 : operandA [114, 51] = .reg 3 := by decide
  have hop : Asm.opA 1 st0 [108, 105] [[114, 51], a] = .ok { st0 with code := [word 1 3 0 n] } := by
    show insA 1 st0 1 [[114, 51], a] = _
    have h1 : nArgs 1 = 2 := by decide
    have h2 : nRegs 1 = 1 := by decide
    have hs : Asm.shape 1 = (true, false, 1) := by decide
    unfold insA
    rw [if_neg (by rw [h1]; simp), h2]
    have hreg : regsOf (([[114, 51], a] : List Str).take 1) = some [3] := by simp [regsOf, regOf?, hr3]
    rw [hreg]
    simp only [hs, if_true, List.getD_cons_succ, List.getD_cons_zero, ho]
    rw [if_neg (by omega)]
    simp [addW, st0, wordR, hs]
  have h10 := free10 (op := [108, 105]) (l := [[114, 51], a]) (by decide) hmem
  exact readA_one h10 (by simp [joinA]; omega) hline hop rfl

/-! ### Walked -/
/-- The character of a number. -/
def chF (c : Nat) : Nat := if 33 + c % 94 = 35 ∨ 33 + c % 94 = 39 ∨ 33 + c % 94 = 44 ∨ 33 + c % 94 = 58 then 65 else 33 + c % 94
theorem chF_ok (c : Nat) : charOk (UInt8.ofNat (chF c)) = true ∧ (UInt8.ofNat (chF c)).toNat = chF c ∧ chF c ≤ 126 := by
  have key : ∀ k, k < 94 → charOk (UInt8.ofNat (if 33 + k = 35 ∨ 33 + k = 39 ∨ 33 + k = 44 ∨ 33 + k = 58 then 65 else 33 + k)) = true ∧ (UInt8.ofNat (if 33 + k = 35 ∨ 33 + k = 39 ∨ 33 + k = 44 ∨ 33 + k = 58 then 65 else 33 + k)).toNat = (if 33 + k = 35 ∨ 33 + k = 39 ∨ 33 + k = 44 ∨ 33 + k = 58 then 65 else 33 + k) ∧ (if 33 + k = 35 ∨ 33 + k = 39 ∨ 33 + k = 44 ∨ 33 + k = 58 then 65 else 33 + k) ≤ 126 := by decide
  exact key (c % 94) (Nat.mod_lt _ (by decide))
theorem chF_plain (c : Nat) : OpdOk [39, UInt8.ofNat (chF c), 39] := by
  refine ⟨?_, by simp⟩
  have h := (chF_ok c).1
  have key : ∀ x : UInt8, charOk x = true → wht x = false ∧ x ≠ 35 ∧ x ≠ 58 ∧ x ≠ 44 ∧ x ≠ 10 := by
    intro x hx
    simp only [charOk, Bool.and_eq_true, decide_eq_true_eq] at hx
    obtain ⟨⟨⟨⟨⟨h1, h2⟩, h3⟩, h4⟩, h5⟩, h6⟩ := hx
    have hne : ∀ y : UInt8, y.toNat < 33 → x ≠ y := fun y hy e => by subst e; omega
    exact ⟨by simp [wht, hne 32 (by decide), hne 9 (by decide)], h4, h6, h5, hne 10 (by decide)⟩
  intro x hx
  simp only [List.mem_cons, List.not_mem_nil, or_false] at hx
  rcases hx with rfl | rfl | rfl
  · decide
  · exact key _ h
  · decide

set_option maxHeartbeats 16000000 in
theorem AsmForms_G {o : Obj} (ho : SmallO o) (n c : Nat) (hn : n < 4294967296) (hc : c < 256) : PureG Tryd.prog 3 o 9 [iv .u32 n, iv .u8 c] (· = bv true) := by
  refine pure_of_wpG2 0 3 o Tt_ok mixed Tryd.func9 rfl (by rfl) [.tmp 4] rfl (by kernel_rfl) (by kernel_rfl) (by simp [Tryd.ntmps9]) fun b₀ β0 s0 w0 g => ?_
  have hdl := decT_short (n := n) (by omega)
  have hhl : (hexT n).length = 8 := hexTo_len n 8
  simp (config := { maxSteps := 1000000 }) only [go_sem, ↓reduceIte, Nat.reduceEqDiff, Nat.reduceAdd, Nat.reduceMul, Nat.reduceSub, Nat.reduceLT, Nat.reduceLeDiff, Int.reduceLT, Int.reduceLE, Int.reduceEq, Int.reduceNe, Int.reduceAdd, Int.reduceNeg, Int.reduceToNat]
  refine hook_callF kept_phiG rfl (by simp (config := { maxSteps := 1000000 }) only [go_sem, ↓reduceIte, Nat.reduceEqDiff, Nat.reduceAdd, Nat.reduceMul, Nat.reduceSub, Nat.reduceLT, Nat.reduceLeDiff, Int.reduceLT, Int.reduceLE, Int.reduceEq, Int.reduceNe, Int.reduceAdd, Int.reduceNeg, Int.reduceToNat]; exact Text_A n hn) (by simp (config := { maxSteps := 1000000 }) only [go_sem, ↓reduceIte, Nat.reduceEqDiff, Nat.reduceAdd, Nat.reduceMul, Nat.reduceSub, Nat.reduceLT, Nat.reduceLeDiff, Int.reduceLT, Int.reduceLE, Int.reduceEq, Int.reduceNe, Int.reduceAdd, Int.reduceNeg, Int.reduceToNat]; rfl) ?_
  rintro _ rfl
  simp (config := { maxSteps := 1000000 }) only [go_sem, ↓reduceIte, Nat.reduceEqDiff, Nat.reduceAdd, Nat.reduceMul, Nat.reduceSub, Nat.reduceLT, Nat.reduceLeDiff, Int.reduceLT, Int.reduceLE, Int.reduceEq, Int.reduceNe, Int.reduceAdd, Int.reduceNeg, Int.reduceToNat]
  refine And.intro (by omega) ?_
  refine hook_callG kept_phiG (fun s β ds w h => h.1.2) rfl (by simp (config := { maxSteps := 1000000 }) only [go_sem, ↓reduceIte, Nat.reduceEqDiff, Nat.reduceAdd, Nat.reduceMul, Nat.reduceSub, Nat.reduceLT, Nat.reduceLeDiff, Int.reduceLT, Int.reduceLE, Int.reduceEq, Int.reduceNe, Int.reduceAdd, Int.reduceNeg, Int.reduceToNat]; exact Read_G ho _) (by simp (config := { maxSteps := 1000000 }) only [go_sem, ↓reduceIte, Nat.reduceEqDiff, Nat.reduceAdd, Nat.reduceMul, Nat.reduceSub, Nat.reduceLT, Nat.reduceLeDiff, Int.reduceLT, Int.reduceLE, Int.reduceEq, Int.reduceNe, Int.reduceAdd, Int.reduceNeg, Int.reduceToNat]; rfl) ?_
  rintro _ rfl
  have e1 := read_word (OpdOk.dec n) (by omega) (operand_dec (n := n) (by omega))
  simp only [List.cons_append, List.nil_append] at e1
  rw [e1]
  unfold readV imgV codeD
  simp (config := { maxSteps := 1000000 }) only [go_sem, ↓reduceIte, Nat.reduceEqDiff, Nat.reduceAdd, Nat.reduceMul, Nat.reduceSub, Nat.reduceLT, Nat.reduceLeDiff, Int.reduceLT, Int.reduceLE, Int.reduceEq, Int.reduceNe, Int.reduceAdd, Int.reduceNeg, Int.reduceToNat]
  refine hook_callF kept_phiG rfl (by simp (config := { maxSteps := 1000000 }) only [go_sem, ↓reduceIte, Nat.reduceEqDiff, Nat.reduceAdd, Nat.reduceMul, Nat.reduceSub, Nat.reduceLT, Nat.reduceLeDiff, Int.reduceLT, Int.reduceLE, Int.reduceEq, Int.reduceNe, Int.reduceAdd, Int.reduceNeg, Int.reduceToNat]; exact hexdigits_A n hn) (by simp (config := { maxSteps := 1000000 }) only [go_sem, ↓reduceIte, Nat.reduceEqDiff, Nat.reduceAdd, Nat.reduceMul, Nat.reduceSub, Nat.reduceLT, Nat.reduceLeDiff, Int.reduceLT, Int.reduceLE, Int.reduceEq, Int.reduceNe, Int.reduceAdd, Int.reduceNeg, Int.reduceToNat]; rfl) ?_
  rintro _ rfl
  simp (config := { maxSteps := 1000000 }) only [go_sem, ↓reduceIte, Nat.reduceEqDiff, Nat.reduceAdd, Nat.reduceMul, Nat.reduceSub, Nat.reduceLT, Nat.reduceLeDiff, Int.reduceLT, Int.reduceLE, Int.reduceEq, Int.reduceNe, Int.reduceAdd, Int.reduceNeg, Int.reduceToNat, hhl]
  refine hook_callG kept_phiG (fun s β ds w h => h.1.2) rfl (by simp (config := { maxSteps := 1000000 }) only [go_sem, ↓reduceIte, Nat.reduceEqDiff, Nat.reduceAdd, Nat.reduceMul, Nat.reduceSub, Nat.reduceLT, Nat.reduceLeDiff, Int.reduceLT, Int.reduceLE, Int.reduceEq, Int.reduceNe, Int.reduceAdd, Int.reduceNeg, Int.reduceToNat]; exact Read_G ho _) (by simp (config := { maxSteps := 1000000 }) only [go_sem, ↓reduceIte, Nat.reduceEqDiff, Nat.reduceAdd, Nat.reduceMul, Nat.reduceSub, Nat.reduceLT, Nat.reduceLeDiff, Int.reduceLT, Int.reduceLE, Int.reduceEq, Int.reduceNe, Int.reduceAdd, Int.reduceNeg, Int.reduceToNat]; rfl) ?_
  rintro _ rfl
  have hx : OpdOk (48 :: 120 :: hexT n) := OpdOk.cons (by decide) (OpdOk.cons (by decide) (fun _ => hexT_mem)).1
  have e2 := read_word hx (by simp [hhl]) (operand_hex hn)
  simp only [List.cons_append, List.nil_append] at e2
  rw [e2]
  unfold readV imgV codeD
  have hw1 : IntKind.i64.wrap (c : Int) = (c : Int) := by rw [IntKind.wrap_i64] <;> omega
  have hm : ((c : Int)).tmod 94 = ((c % 94 : Nat) : Int) := (Int.ofNat_tmod _ _).symm
  have hw2 : IntKind.i64.wrap (33 + ((c % 94 : Nat) : Int)) = ((33 + c % 94 : Nat) : Int) := by rw [IntKind.wrap_i64] <;> omega
  obtain ⟨k1, k2, k3⟩ := chF_ok c
  have kp := chF_plain c
  by_cases hk : 33 + c % 94 = 35 ∨ 33 + c % 94 = 39 ∨ 33 + c % 94 = 44 ∨ 33 + c % 94 = 58
  case' pos =>
    rw [show chF c = 65 from if_pos hk] at k1 k2 k3 kp
    have hu8 : IntKind.u8.wrap 65 = ((65 : Nat) : Int) := wrapB 65 (by decide)
    have hu32 : IntKind.u32.wrap 65 = ((65 : Nat) : Int) := by rw [IntKind.wrap_u32]; rfl
    rcases hk with h | h | h | h
    case' inl => have hm2 : ((33 + c % 94 : Nat) : Int) = 35 := by omega
    case' inr.inl => have hm2 : ((33 + c % 94 : Nat) : Int) = 39 := by omega
    case' inr.inr.inl => have hm2 : ((33 + c % 94 : Nat) : Int) = 44 := by omega
    case' inr.inr.inr => have hm2 : ((33 + c % 94 : Nat) : Int) = 58 := by omega
  case' neg =>
    rw [show chF c = 33 + c % 94 from if_neg hk] at k1 k2 k3 kp
    have n1 : ¬ ((33 + c % 94 : Nat) : Int) = 35 := by omega
    have n2 : ¬ ((33 + c % 94 : Nat) : Int) = 39 := by omega
    have n3 : ¬ ((33 + c % 94 : Nat) : Int) = 44 := by omega
    have n4 : ¬ ((33 + c % 94 : Nat) : Int) = 58 := by omega
    have hu8 := wrapB (33 + c % 94) (by omega)
    have hu32 : IntKind.u32.wrap ((33 + c % 94 : Nat) : Int) = ((33 + c % 94 : Nat) : Int) := by rw [IntKind.wrap_u32]; omega
    simp (config := { maxSteps := 1000000 }) only [go_sem, ↓reduceIte, Nat.reduceEqDiff, Nat.reduceAdd, Nat.reduceMul, Nat.reduceSub, Nat.reduceLT, Nat.reduceLeDiff, Int.reduceLT, Int.reduceLE, Int.reduceEq, Int.reduceNe, Int.reduceAdd, Int.reduceNeg, Int.reduceToNat, hw1, hm, hw2, n1, n2, n3, n4]
    generalize 33 + c % 94 = x at k1 k2 k3 kp hu8 hu32 ⊢
    clear hm hw2 n1 n2 n3 n4 hk
  case' pos.inl => simp (config := { maxSteps := 1000000 }) only [go_sem, ↓reduceIte, Nat.reduceEqDiff, Nat.reduceAdd, Nat.reduceMul, Nat.reduceSub, Nat.reduceLT, Nat.reduceLeDiff, Int.reduceLT, Int.reduceLE, Int.reduceEq, Int.reduceNe, Int.reduceAdd, Int.reduceNeg, Int.reduceToNat, hw1, hm, hw2, hm2]
  case' pos.inr.inl => simp (config := { maxSteps := 1000000 }) only [go_sem, ↓reduceIte, Nat.reduceEqDiff, Nat.reduceAdd, Nat.reduceMul, Nat.reduceSub, Nat.reduceLT, Nat.reduceLeDiff, Int.reduceLT, Int.reduceLE, Int.reduceEq, Int.reduceNe, Int.reduceAdd, Int.reduceNeg, Int.reduceToNat, hw1, hm, hw2, hm2]
  case' pos.inr.inr.inl => simp (config := { maxSteps := 1000000 }) only [go_sem, ↓reduceIte, Nat.reduceEqDiff, Nat.reduceAdd, Nat.reduceMul, Nat.reduceSub, Nat.reduceLT, Nat.reduceLeDiff, Int.reduceLT, Int.reduceLE, Int.reduceEq, Int.reduceNe, Int.reduceAdd, Int.reduceNeg, Int.reduceToNat, hw1, hm, hw2, hm2]
  case' pos.inr.inr.inr => simp (config := { maxSteps := 1000000 }) only [go_sem, ↓reduceIte, Nat.reduceEqDiff, Nat.reduceAdd, Nat.reduceMul, Nat.reduceSub, Nat.reduceLT, Nat.reduceLeDiff, Int.reduceLT, Int.reduceLE, Int.reduceEq, Int.reduceNe, Int.reduceAdd, Int.reduceNeg, Int.reduceToNat, hw1, hm, hw2, hm2]
  all_goals
    simp (config := { maxSteps := 1000000 }) only [go_sem, ↓reduceIte, Nat.reduceEqDiff, Nat.reduceAdd, Nat.reduceMul, Nat.reduceSub, Nat.reduceLT, Nat.reduceLeDiff, Int.reduceLT, Int.reduceLE, Int.reduceEq, Int.reduceNe, Int.reduceAdd, Int.reduceNeg, Int.reduceToNat, hu8]
    refine hook_callG kept_phiG (fun s β ds w h => h.1.2) rfl (by simp (config := { maxSteps := 1000000 }) only [go_sem, ↓reduceIte, Nat.reduceEqDiff, Nat.reduceAdd, Nat.reduceMul, Nat.reduceSub, Nat.reduceLT, Nat.reduceLeDiff, Int.reduceLT, Int.reduceLE, Int.reduceEq, Int.reduceNe, Int.reduceAdd, Int.reduceNeg, Int.reduceToNat]; exact Read_G ho _) (by simp (config := { maxSteps := 1000000 }) only [go_sem, ↓reduceIte, Nat.reduceEqDiff, Nat.reduceAdd, Nat.reduceMul, Nat.reduceSub, Nat.reduceLT, Nat.reduceLeDiff, Int.reduceLT, Int.reduceLE, Int.reduceEq, Int.reduceNe, Int.reduceAdd, Int.reduceNeg, Int.reduceToNat]; rfl) ?_
    rintro _ rfl
    have e3 := read_li kp (by simp) (operand_char k1) (by omega)
    rw [k2] at e3
    simp only [List.cons_append, List.nil_append] at e3
    erw [e3]
    unfold readV imgV codeD
    simp (config := { maxSteps := 1000000 }) only [go_sem, ↓reduceIte, Nat.reduceEqDiff, Nat.reduceAdd, Nat.reduceMul, Nat.reduceSub, Nat.reduceLT, Nat.reduceLeDiff, Int.reduceLT, Int.reduceLE, Int.reduceEq, Int.reduceNe, Int.reduceAdd, Int.reduceNeg, Int.reduceToNat, hu32]
    refine hook_callF kept_phiG rfl (by simp (config := { maxSteps := 1000000 }) only [go_sem, ↓reduceIte, Nat.reduceEqDiff, Nat.reduceAdd, Nat.reduceMul, Nat.reduceSub, Nat.reduceLT, Nat.reduceLeDiff, Int.reduceLT, Int.reduceLE, Int.reduceEq, Int.reduceNe, Int.reduceAdd, Int.reduceNeg, Int.reduceToNat]; first | exact Text_A 65 (by decide) | exact Text_A _ (by omega)) (by simp (config := { maxSteps := 1000000 }) only [go_sem, ↓reduceIte, Nat.reduceEqDiff, Nat.reduceAdd, Nat.reduceMul, Nat.reduceSub, Nat.reduceLT, Nat.reduceLeDiff, Int.reduceLT, Int.reduceLE, Int.reduceEq, Int.reduceNe, Int.reduceAdd, Int.reduceNeg, Int.reduceToNat]; rfl) ?_
    rintro _ rfl
  case' neg =>
    have e4 := read_li (OpdOk.dec x) (by have := decT_short (n := x) (by omega); omega) (operand_dec (n := x) (by omega)) (by omega)
    have hdx := decT_short (n := x) (by omega)
  case' pos.inl =>
    have e4 := read_li (OpdOk.dec 65) (by have := decT_short (n := 65) (by omega); omega) (operand_dec (n := 65) (by omega)) (by omega)
    have hdx := decT_short (n := 65) (by omega)
  case' pos.inr.inl =>
    have e4 := read_li (OpdOk.dec 65) (by have := decT_short (n := 65) (by omega); omega) (operand_dec (n := 65) (by omega)) (by omega)
    have hdx := decT_short (n := 65) (by omega)
  case' pos.inr.inr.inl =>
    have e4 := read_li (OpdOk.dec 65) (by have := decT_short (n := 65) (by omega); omega) (operand_dec (n := 65) (by omega)) (by omega)
    have hdx := decT_short (n := 65) (by omega)
  case' pos.inr.inr.inr =>
    have e4 := read_li (OpdOk.dec 65) (by have := decT_short (n := 65) (by omega); omega) (operand_dec (n := 65) (by omega)) (by omega)
    have hdx := decT_short (n := 65) (by omega)
  all_goals
    simp (config := { maxSteps := 1000000 }) only [go_sem, ↓reduceIte, Nat.reduceEqDiff, Nat.reduceAdd, Nat.reduceMul, Nat.reduceSub, Nat.reduceLT, Nat.reduceLeDiff, Int.reduceLT, Int.reduceLE, Int.reduceEq, Int.reduceNe, Int.reduceAdd, Int.reduceNeg, Int.reduceToNat]
    refine And.intro (by omega) ?_
    refine hook_callG kept_phiG (fun s β ds w h => h.1.2) rfl (by simp (config := { maxSteps := 1000000 }) only [go_sem, ↓reduceIte, Nat.reduceEqDiff, Nat.reduceAdd, Nat.reduceMul, Nat.reduceSub, Nat.reduceLT, Nat.reduceLeDiff, Int.reduceLT, Int.reduceLE, Int.reduceEq, Int.reduceNe, Int.reduceAdd, Int.reduceNeg, Int.reduceToNat]; exact Read_G ho _) (by simp (config := { maxSteps := 1000000 }) only [go_sem, ↓reduceIte, Nat.reduceEqDiff, Nat.reduceAdd, Nat.reduceMul, Nat.reduceSub, Nat.reduceLT, Nat.reduceLeDiff, Int.reduceLT, Int.reduceLE, Int.reduceEq, Int.reduceNe, Int.reduceAdd, Int.reduceNeg, Int.reduceToNat]; rfl) ?_
    rintro _ rfl
    simp only [List.cons_append, List.nil_append] at e4
    erw [e4]
    unfold readV imgV codeD
    simp (config := { maxSteps := 1000000 }) only [go_sem, ↓reduceIte, Nat.reduceEqDiff, Nat.reduceAdd, Nat.reduceMul, Nat.reduceSub, Nat.reduceLT, Nat.reduceLeDiff, Int.reduceLT, Int.reduceLE, Int.reduceEq, Int.reduceNe, Int.reduceAdd, Int.reduceNeg, Int.reduceToNat]
    refine hook_callG kept_phiG (fun s β ds w h => h.1.2) rfl (by simp (config := { maxSteps := 1000000 }) only [go_sem, ↓reduceIte, Nat.reduceEqDiff, Nat.reduceAdd, Nat.reduceMul, Nat.reduceSub, Nat.reduceLT, Nat.reduceLeDiff, Int.reduceLT, Int.reduceLE, Int.reduceEq, Int.reduceNe, Int.reduceAdd, Int.reduceNeg, Int.reduceToNat]; exact awake_G ho) (by simp (config := { maxSteps := 1000000 }) only [go_sem, ↓reduceIte, Nat.reduceEqDiff, Nat.reduceAdd, Nat.reduceMul, Nat.reduceSub, Nat.reduceLT, Nat.reduceLeDiff, Int.reduceLT, Int.reduceLE, Int.reduceEq, Int.reduceNe, Int.reduceAdd, Int.reduceNeg, Int.reduceToNat]; rfl) ?_
    rintro _ rfl
    simp (config := { maxSteps := 1000000 }) only [go_sem, ↓reduceIte, Nat.reduceEqDiff, Nat.reduceAdd, Nat.reduceMul, Nat.reduceSub, Nat.reduceLT, Nat.reduceLeDiff, Int.reduceLT, Int.reduceLE, Int.reduceEq, Int.reduceNe, Int.reduceAdd, Int.reduceNeg, Int.reduceToNat, List.append_eq]
    refine hook_callF kept_phiG rfl (by simp (config := { maxSteps := 1000000 }) only [go_sem, ↓reduceIte, Nat.reduceEqDiff, Nat.reduceAdd, Nat.reduceMul, Nat.reduceSub, Nat.reduceLT, Nat.reduceLeDiff, Int.reduceLT, Int.reduceLE, Int.reduceEq, Int.reduceNe, Int.reduceAdd, Int.reduceNeg, Int.reduceToNat]; exact Same_A ([n], 0) ([n], 0) (by simp)) (by simp (config := { maxSteps := 1000000 }) only [go_sem, ↓reduceIte, Nat.reduceEqDiff, Nat.reduceAdd, Nat.reduceMul, Nat.reduceSub, Nat.reduceLT, Nat.reduceLeDiff, Int.reduceLT, Int.reduceLE, Int.reduceEq, Int.reduceNe, Int.reduceAdd, Int.reduceNeg, Int.reduceToNat]; rfl) ?_
    rintro _ rfl
    rw [show decide ((([n], 0) : List Nat × Nat) = ([n], 0)) = true from by simp]
    simp (config := { maxSteps := 1000000 }) only [go_sem, ↓reduceIte, Nat.reduceEqDiff, Nat.reduceAdd, Nat.reduceMul, Nat.reduceSub, Nat.reduceLT, Nat.reduceLeDiff, Int.reduceLT, Int.reduceLE, Int.reduceEq, Int.reduceNe, Int.reduceAdd, Int.reduceNeg, Int.reduceToNat]
    first
      | refine hook_callF kept_phiG rfl (by simp (config := { maxSteps := 1000000 }) only [go_sem, ↓reduceIte, Nat.reduceEqDiff, Nat.reduceAdd, Nat.reduceMul, Nat.reduceSub, Nat.reduceLT, Nat.reduceLeDiff, Int.reduceLT, Int.reduceLE, Int.reduceEq, Int.reduceNe, Int.reduceAdd, Int.reduceNeg, Int.reduceToNat]; exact Same_A ([word 1 3 0 65], 0) ([word 1 3 0 65], 0) (by simp)) (by simp (config := { maxSteps := 1000000 }) only [go_sem, ↓reduceIte, Nat.reduceEqDiff, Nat.reduceAdd, Nat.reduceMul, Nat.reduceSub, Nat.reduceLT, Nat.reduceLeDiff, Int.reduceLT, Int.reduceLE, Int.reduceEq, Int.reduceNe, Int.reduceAdd, Int.reduceNeg, Int.reduceToNat]; rfl) ?_
      | refine hook_callF kept_phiG rfl (by simp (config := { maxSteps := 1000000 }) only [go_sem, ↓reduceIte, Nat.reduceEqDiff, Nat.reduceAdd, Nat.reduceMul, Nat.reduceSub, Nat.reduceLT, Nat.reduceLeDiff, Int.reduceLT, Int.reduceLE, Int.reduceEq, Int.reduceNe, Int.reduceAdd, Int.reduceNeg, Int.reduceToNat]; exact Same_A ([word 1 3 0 x], 0) ([word 1 3 0 x], 0) (by simp)) (by simp (config := { maxSteps := 1000000 }) only [go_sem, ↓reduceIte, Nat.reduceEqDiff, Nat.reduceAdd, Nat.reduceMul, Nat.reduceSub, Nat.reduceLT, Nat.reduceLeDiff, Int.reduceLT, Int.reduceLE, Int.reduceEq, Int.reduceNe, Int.reduceAdd, Int.reduceNeg, Int.reduceToNat]; rfl) ?_
    rintro _ rfl
    simp only [decide_true]
    simp (config := { maxSteps := 1000000 }) only [go_sem, ↓reduceIte, Nat.reduceEqDiff, Nat.reduceAdd, Nat.reduceMul, Nat.reduceSub, Nat.reduceLT, Nat.reduceLeDiff, Int.reduceLT, Int.reduceLE, Int.reduceEq, Int.reduceNe, Int.reduceAdd, Int.reduceNeg, Int.reduceToNat]

end Go.Proofs.YtifciocionlciaaDoor

namespace Go.Proofs.YtifciocionlciaaDoor
open Go Go.Am Go.Asm

def partsI (op : Nat) : Str := (if (Asm.shape op).1 = true then [97] else []) ++ (if (Asm.shape op).2.1 = true then [98] else []) ++ (if (Asm.shape op).2.2 = 2 then [114] else if (Asm.shape op).2.2 = 1 then [99] else [])
def partsT (op : Int) : Str := if knownN op.toNat = true then partsI op.toNat else [63]
theorem partsT_other {op : Int} (h : op.toNat = 0 ∨ 28 ≤ op.toNat) : partsT op = [63] := by
  unfold partsT
  rw [if_neg]
  unfold knownN
  simp; omega

theorem partsT_mid {op : Int} (h1 : 4 ≤ op) (h2 : op ≤ 15) : partsT op = [97, 98, 114] := by
  obtain ⟨k, rfl⟩ : ∃ k : Nat, op = k := ⟨op.toNat, by omega⟩
  have key : ∀ k : Nat, k < 16 → 4 ≤ k → partsT (k : Int) = [97, 98, 114] := by decide
  exact key k (by omega) (by omega)

set_option maxHeartbeats 4000000 in
set_option maxRecDepth 100000 in
theorem PartsR_A (op : Int) : PureR Tryd.prog 35 [iv .i64 op] (· = sv (partsT op)) := by
  refine pure_of_wp Tt_ok mixed Tryd.func35 rfl (by rfl) [2] rfl (by kernel_rfl) (by simp [Tryd.ntmps35]) fun g => ?_
  by_cases hr : 1 ≤ op ∧ op ≤ 27
  case neg =>
    rw [partsT_other (by omega)]
    simp (config := { maxSteps := 1000000 }) only [go_sem, ↓reduceIte, Nat.reduceEqDiff, Nat.reduceAdd, Nat.reduceMul, Nat.reduceSub, Nat.reduceLT, Nat.reduceLeDiff, Int.reduceLT, Int.reduceLE, Int.reduceEq, Int.reduceNe, Int.reduceAdd, Int.reduceNeg, Int.reduceToNat, show ¬ op = 1 by omega, show ¬ op = 2 by omega, show ¬ op = 3 by omega, show ¬ op = 16 by omega, show ¬ op = 17 by omega, show ¬ op = 18 by omega, show ¬ op = 19 by omega, show ¬ op = 20 by omega, show ¬ op = 21 by omega, show ¬ op = 22 by omega, show ¬ op = 23 by omega, show ¬ op = 24 by omega, show ¬ op = 25 by omega, show ¬ op = 26 by omega, show ¬ op = 27 by omega]
    exact fun h h' => by omega
  by_cases hm : 4 ≤ op ∧ op ≤ 15
  · rw [partsT_mid hm.1 hm.2]
    simp (config := { maxSteps := 1000000 }) only [go_sem, ↓reduceIte, Nat.reduceEqDiff, Nat.reduceAdd, Nat.reduceMul, Nat.reduceSub, Nat.reduceLT, Nat.reduceLeDiff, Int.reduceLT, Int.reduceLE, Int.reduceEq, Int.reduceNe, Int.reduceAdd, Int.reduceNeg, Int.reduceToNat, show ¬ op = 1 by omega, show ¬ op = 2 by omega, show ¬ op = 3 by omega, show ¬ op = 16 by omega, show ¬ op = 17 by omega, show ¬ op = 18 by omega, show ¬ op = 19 by omega, show ¬ op = 20 by omega, show ¬ op = 21 by omega, show ¬ op = 22 by omega, show ¬ op = 23 by omega, show ¬ op = 24 by omega, show ¬ op = 25 by omega, show ¬ op = 26 by omega, show ¬ op = 27 by omega, hm.1, hm.2]
  rcases (show op = 1 ∨ op = 2 ∨ op = 3 ∨ op = 16 ∨ op = 17 ∨ op = 18 ∨ op = 19 ∨ op = 20 ∨ op = 21 ∨ op = 22 ∨ op = 23 ∨ op = 24 ∨ op = 25 ∨ op = 26 ∨ op = 27 by omega) with rfl | rfl | rfl | rfl | rfl | rfl | rfl | rfl | rfl | rfl | rfl | rfl | rfl | rfl | rfl
  all_goals
    simp (config := { maxSteps := 1000000 }) only [go_sem, ↓reduceIte, Nat.reduceEqDiff, Nat.reduceAdd, Nat.reduceMul, Nat.reduceSub, Nat.reduceLT, Nat.reduceLeDiff, Int.reduceLT, Int.reduceLE, Int.reduceEq, Int.reduceNe, Int.reduceAdd, Int.reduceNeg, Int.reduceToNat]
    rfl

def hasC (s : Str) (c : UInt8) : Bool := s.contains c
theorem has_A (s : Str) (c : UInt8) (hl : s.length ≤ 1000000) : PureR Tryd.prog 36 [sv s, iv .u8 c.toNat] (· = bv (hasC s c)) := by
  refine pure_of_wp Tt_ok mixed Tryd.func36 rfl (by rfl) [4] rfl (by kernel_rfl) (by simp [Tryd.ntmps36]) fun g => ?_
  simp (config := { maxSteps := 1000000 }) only [go_sem, ↓reduceIte, Nat.reduceEqDiff, Nat.reduceAdd, Nat.reduceMul, Nat.reduceSub, Nat.reduceLT, Nat.reduceLeDiff, Int.reduceLT, Int.reduceLE, Int.reduceEq, Int.reduceNe, Int.reduceAdd, Int.reduceNeg, Int.reduceToNat]
  refine loop_intro (fun n st => ∃ k : Nat, n + k = s.length ∧ st.f 0 = sv s ∧ st.f 1 = iv .u8 c.toNat ∧ st.f 5 = iv .i64 k ∧ ∀ x ∈ s.take k, x ≠ c) s.length ?_ ?_
  · refine ⟨0, by omega, ?_⟩
    simp (config := { maxSteps := 1000000 }) only [go_sem, ↓reduceIte, Nat.reduceEqDiff, Nat.reduceAdd, Nat.reduceMul, Nat.reduceSub, Nat.reduceLT, Nat.reduceLeDiff, Int.reduceLT, Int.reduceLE, Int.reduceEq, Int.reduceNe, Int.reduceAdd, Int.reduceNeg, Int.reduceToNat]
    exact fun x hx => by simp at hx
  rintro n f g ob ⟨k, hk, q0, q1, q5, hno⟩
  simp only at q0 q1 q5
  have hw := wrap_succ (k := k) (by omega)
  by_cases hlt : k < s.length
  · obtain ⟨x, hx⟩ := getq hlt
    have hki : (k : Int) < (s.length : Int) := by omega
    have hk0 : (0 : Int) ≤ (k : Int) := by omega
    by_cases hxc : x = c
    · subst hxc
      simp (config := { maxSteps := 1000000 }) only [go_sem, ↓reduceIte, Nat.reduceEqDiff, Nat.reduceAdd, Nat.reduceMul, Nat.reduceSub, Nat.reduceLT, Nat.reduceLeDiff, Int.reduceLT, Int.reduceLE, Int.reduceEq, Int.reduceNe, Int.reduceAdd, Int.reduceNeg, Int.reduceToNat, q0, q1, q5, hki, hk0, hx]
      have : hasC s x = true := by unfold hasC; rw [List.contains_iff_mem]; exact List.mem_of_getElem? hx
      rw [this]
    · have hxi : ¬ (x.toNat : Int) = (c.toNat : Int) := fun e => hxc (UInt8.toNat_inj.1 (by omega))
      simp (config := { maxSteps := 1000000 }) only [go_sem, ↓reduceIte, Nat.reduceEqDiff, Nat.reduceAdd, Nat.reduceMul, Nat.reduceSub, Nat.reduceLT, Nat.reduceLeDiff, Int.reduceLT, Int.reduceLE, Int.reduceEq, Int.reduceNe, Int.reduceAdd, Int.reduceNeg, Int.reduceToNat, q0, q1, q5, hki, hk0, hx, hxi, hw]
      refine round_end (n - 1) (by omega) ⟨k + 1, by omega, ?_⟩
      simp (config := { maxSteps := 1000000 }) only [go_sem, ↓reduceIte, Nat.reduceEqDiff, Nat.reduceAdd, Nat.reduceMul, Nat.reduceSub, Nat.reduceLT, Nat.reduceLeDiff, Int.reduceLT, Int.reduceLE, Int.reduceEq, Int.reduceNe, Int.reduceAdd, Int.reduceNeg, Int.reduceToNat, q0, q1]
      intro y hy
      rw [List.take_add_one, hx, List.mem_append] at hy
      rcases hy with hy | hy
      · exact hno y hy
      · simp at hy; rw [hy]; exact hxc
  · have hki : ¬ (k : Int) < (s.length : Int) := by omega
    simp (config := { maxSteps := 1000000 }) only [go_sem, ↓reduceIte, Nat.reduceEqDiff, Nat.reduceAdd, Nat.reduceMul, Nat.reduceSub, Nat.reduceLT, Nat.reduceLeDiff, Int.reduceLT, Int.reduceLE, Int.reduceEq, Int.reduceNe, Int.reduceAdd, Int.reduceNeg, Int.reduceToNat, q0, q1, q5, hki]
    rw [List.take_of_length_le (by omega)] at hno
    have : hasC s c = false := by
      unfold hasC
      cases h : s.contains c with
      | false => rfl
      | true => exact absurd rfl (hno c (List.contains_iff_mem.1 h))
    rw [this]
theorem withinR_A (b : Bool) (v most : Int) : PureR Tryd.prog 37 [bv b, iv .i64 v, iv .i64 most] (· = bv (inW v most b)) := by
  refine pure_of_wp Tt_ok mixed Tryd.func37 rfl (by rfl) [6] rfl (by kernel_rfl) (by simp [Tryd.ntmps37]) fun g => ?_
  unfold inW
  cases b
  · simp (config := { maxSteps := 1000000 }) only [go_sem, ↓reduceIte, Nat.reduceEqDiff, Nat.reduceAdd, Nat.reduceMul, Nat.reduceSub, Nat.reduceLT, Nat.reduceLeDiff, Int.reduceLT, Int.reduceLE, Int.reduceEq, Int.reduceNe, Int.reduceAdd, Int.reduceNeg, Int.reduceToNat]
  · simp (config := { maxSteps := 1000000 }) only [go_sem, ↓reduceIte, Nat.reduceEqDiff, Nat.reduceAdd, Nat.reduceMul, Nat.reduceSub, Nat.reduceLT, Nat.reduceLeDiff, Int.reduceLT, Int.reduceLE, Int.reduceEq, Int.reduceNe, Int.reduceAdd, Int.reduceNeg, Int.reduceToNat]
    exact ⟨fun h => by simp [h], fun h => by simp [h]⟩

/-- The shapes, and what the reference calls them. -/
theorem parts_cases (op : Int) : (knownN op.toNat = false ∧ partsT op = [63]) ∨ (knownN op.toNat = true ∧ (
    (Asm.shape op.toNat = (true, false, 1) ∧ partsT op = [97, 99]) ∨ (Asm.shape op.toNat = (true, true, 0) ∧ partsT op = [97, 98]) ∨ (Asm.shape op.toNat = (true, true, 2) ∧ partsT op = [97, 98, 114]) ∨ (Asm.shape op.toNat = (true, true, 1) ∧ partsT op = [97, 98, 99]) ∨
    (Asm.shape op.toNat = (false, false, 1) ∧ partsT op = [99]) ∨ (Asm.shape op.toNat = (true, false, 0) ∧ partsT op = [97]) ∨ (Asm.shape op.toNat = (false, false, 0) ∧ partsT op = []))) := by
  unfold partsT
  cases hk : knownN op.toNat
  · exact .inl ⟨rfl, by simp⟩
  · refine .inr ⟨rfl, ?_⟩
    unfold partsI
    rcases shape_cases op.toNat with h | h | h | h | h | h | h <;> simp [h]

set_option maxHeartbeats 16000000 in
set_option maxRecDepth 100000 in
theorem RightR_A (op a b c : Int) : PureR Tryd.prog 15 [instV op a b c] (· = bv (rightI op a b c)) := by
  refine pure_of_wp Tt_ok mixed Tryd.func15 rfl (by rfl) [2] rfl (by kernel_rfl) (by simp [Tryd.ntmps15]) fun g => ?_
  unfold instV
  simp (config := { maxSteps := 1000000 }) only [go_sem, ↓reduceIte, Nat.reduceEqDiff, Nat.reduceAdd, Nat.reduceMul, Nat.reduceSub, Nat.reduceLT, Nat.reduceLeDiff, Int.reduceLT, Int.reduceLE, Int.reduceEq, Int.reduceNe, Int.reduceAdd, Int.reduceNeg, Int.reduceToNat]
  refine hook_call rfl (by simp (config := { maxSteps := 1000000 }) only [go_sem, ↓reduceIte, Nat.reduceEqDiff, Nat.reduceAdd, Nat.reduceMul, Nat.reduceSub, Nat.reduceLT, Nat.reduceLeDiff, Int.reduceLT, Int.reduceLE, Int.reduceEq, Int.reduceNe, Int.reduceAdd, Int.reduceNeg, Int.reduceToNat]; exact PartsR_A op) (by simp (config := { maxSteps := 1000000 }) only [go_sem, ↓reduceIte, Nat.reduceEqDiff, Nat.reduceAdd, Nat.reduceMul, Nat.reduceSub, Nat.reduceLT, Nat.reduceLeDiff, Int.reduceLT, Int.reduceLE, Int.reduceEq, Int.reduceNe, Int.reduceAdd, Int.reduceNeg, Int.reduceToNat]; rfl) ?_
  rintro _ rfl
  have hh : ∀ s : Str, s.length ≤ 3 → ∀ k : Nat, k < 256 → PureR Tryd.prog 36 [sv s, iv .u8 k] (· = bv (hasC s (UInt8.ofNat k))) := fun s hs k hk => by
    have := has_A s (UInt8.ofNat k) (by omega)
    rwa [show (UInt8.ofNat k).toNat = k by rw [UInt8.toNat_ofNat']; omega] at this
  rcases parts_cases op with ⟨hk, hp⟩ | ⟨hk, ⟨hs, hp⟩ | ⟨hs, hp⟩ | ⟨hs, hp⟩ | ⟨hs, hp⟩ | ⟨hs, hp⟩ | ⟨hs, hp⟩ | ⟨hs, hp⟩⟩
  · rw [hp, show rightI op a b c = false by unfold rightI; rw [hk]; rfl]
    simp (config := { maxSteps := 1000000 }) only [go_sem, ↓reduceIte, Nat.reduceEqDiff, Nat.reduceAdd, Nat.reduceMul, Nat.reduceSub, Nat.reduceLT, Nat.reduceLeDiff, Int.reduceLT, Int.reduceLE, Int.reduceEq, Int.reduceNe, Int.reduceAdd, Int.reduceNeg, Int.reduceToNat]
    refine hook_call rfl (by simp (config := { maxSteps := 1000000 }) only [go_sem, ↓reduceIte, Nat.reduceEqDiff, Nat.reduceAdd, Nat.reduceMul, Nat.reduceSub, Nat.reduceLT, Nat.reduceLeDiff, Int.reduceLT, Int.reduceLE, Int.reduceEq, Int.reduceNe, Int.reduceAdd, Int.reduceNeg, Int.reduceToNat]; exact hh [63] (by decide) 114 (by decide)) (by simp (config := { maxSteps := 1000000 }) only [go_sem, ↓reduceIte, Nat.reduceEqDiff, Nat.reduceAdd, Nat.reduceMul, Nat.reduceSub, Nat.reduceLT, Nat.reduceLeDiff, Int.reduceLT, Int.reduceLE, Int.reduceEq, Int.reduceNe, Int.reduceAdd, Int.reduceNeg, Int.reduceToNat]; rfl) ?_
    rintro _ rfl
    rw [show hasC [63] (UInt8.ofNat 114) = false by decide]
    simp (config := { maxSteps := 1000000 }) only [go_sem, ↓reduceIte, Nat.reduceEqDiff, Nat.reduceAdd, Nat.reduceMul, Nat.reduceSub, Nat.reduceLT, Nat.reduceLeDiff, Int.reduceLT, Int.reduceLE, Int.reduceEq, Int.reduceNe, Int.reduceAdd, Int.reduceNeg, Int.reduceToNat]
    refine draw_calls Tt_ok mixed (by decide +kernel) ?_
    simp (config := { maxSteps := 1000000 }) only [go_sem, ↓reduceIte, Nat.reduceEqDiff, Nat.reduceAdd, Nat.reduceMul, Nat.reduceSub, Nat.reduceLT, Nat.reduceLeDiff, Int.reduceLT, Int.reduceLE, Int.reduceEq, Int.reduceNe, Int.reduceAdd, Int.reduceNeg, Int.reduceToNat, reduceCtorEq]
  all_goals
    have hl3 : (partsT op).length ≤ 3 := by rw [hp]; decide
    have hne : (partsT op = [63]) = False := by rw [hp]; simp
    have e97 : hasC (partsT op) (UInt8.ofNat 97) = (Asm.shape op.toNat).1 := by rw [hp, hs]; decide
    have e98 : hasC (partsT op) (UInt8.ofNat 98) = (Asm.shape op.toNat).2.1 := by rw [hp, hs]; decide
    have e99 : hasC (partsT op) (UInt8.ofNat 99) = decide ((Asm.shape op.toNat).2.2 = 1) := by rw [hp, hs]; decide
    have e114 : hasC (partsT op) (UInt8.ofNat 114) = decide ((Asm.shape op.toNat).2.2 = 2) := by rw [hp, hs]; decide
    have hri : rightI op a b c = (inW a 15 (Asm.shape op.toNat).1 && (inW b 15 (Asm.shape op.toNat).2.1 && inW c (mostC op.toNat) (decide ((Asm.shape op.toNat).2.2 ≠ 0)))) := by unfold rightI; rw [hk, Bool.true_and]
    unfold mostC at hri
    rw [hs] at e97 e98 e99 e114 hri
    simp only [decide_true, decide_false, Nat.reduceEqDiff, ne_eq, not_true_eq_false, not_false_eq_true, if_true, if_false, reduceCtorEq] at e97 e98 e99 e114 hri
    rw [hri]
    clear hp hs hri hk
    simp (config := { maxSteps := 1000000 }) only [go_sem, ↓reduceIte, Nat.reduceEqDiff, Nat.reduceAdd, Nat.reduceMul, Nat.reduceSub, Nat.reduceLT, Nat.reduceLeDiff, Int.reduceLT, Int.reduceLE, Int.reduceEq, Int.reduceNe, Int.reduceAdd, Int.reduceNeg, Int.reduceToNat]
    refine hook_call rfl (by simp (config := { maxSteps := 1000000 }) only [go_sem, ↓reduceIte, Nat.reduceEqDiff, Nat.reduceAdd, Nat.reduceMul, Nat.reduceSub, Nat.reduceLT, Nat.reduceLeDiff, Int.reduceLT, Int.reduceLE, Int.reduceEq, Int.reduceNe, Int.reduceAdd, Int.reduceNeg, Int.reduceToNat]; exact hh (partsT op) hl3 114 (by decide)) (by simp (config := { maxSteps := 1000000 }) only [go_sem, ↓reduceIte, Nat.reduceEqDiff, Nat.reduceAdd, Nat.reduceMul, Nat.reduceSub, Nat.reduceLT, Nat.reduceLeDiff, Int.reduceLT, Int.reduceLE, Int.reduceEq, Int.reduceNe, Int.reduceAdd, Int.reduceNeg, Int.reduceToNat]; rfl) ?_
    rintro _ rfl
    rw [e114]
    simp (config := { maxSteps := 1000000 }) only [go_sem, ↓reduceIte, Nat.reduceEqDiff, Nat.reduceAdd, Nat.reduceMul, Nat.reduceSub, Nat.reduceLT, Nat.reduceLeDiff, Int.reduceLT, Int.reduceLE, Int.reduceEq, Int.reduceNe, Int.reduceAdd, Int.reduceNeg, Int.reduceToNat]
    refine draw_calls Tt_ok mixed (by decide +kernel) ?_
    simp (config := { maxSteps := 1000000 }) only [go_sem, ↓reduceIte, Nat.reduceEqDiff, Nat.reduceAdd, Nat.reduceMul, Nat.reduceSub, Nat.reduceLT, Nat.reduceLeDiff, Int.reduceLT, Int.reduceLE, Int.reduceEq, Int.reduceNe, Int.reduceAdd, Int.reduceNeg, Int.reduceToNat, hne]
    refine quiet_call rfl (hh (partsT op) hl3 97 (by decide)) (frzVs_data rfl) rfl ?_
    rw [e97]
    simp (config := { maxSteps := 1000000 }) only [go_sem, ↓reduceIte, Nat.reduceEqDiff, Nat.reduceAdd, Nat.reduceMul, Nat.reduceSub, Nat.reduceLT, Nat.reduceLeDiff, Int.reduceLT, Int.reduceLE, Int.reduceEq, Int.reduceNe, Int.reduceAdd, Int.reduceNeg, Int.reduceToNat]
    refine quiet_call rfl (withinR_A _ _ _) (frzVs_data rfl) rfl ?_
    generalize inW a 15 _ = w1
    cases w1
    · simp (config := { maxSteps := 1000000 }) only [go_sem, ↓reduceIte, Nat.reduceEqDiff, Nat.reduceAdd, Nat.reduceMul, Nat.reduceSub, Nat.reduceLT, Nat.reduceLeDiff, Int.reduceLT, Int.reduceLE, Int.reduceEq, Int.reduceNe, Int.reduceAdd, Int.reduceNeg, Int.reduceToNat]
      try simp
    simp (config := { maxSteps := 1000000 }) only [go_sem, ↓reduceIte, Nat.reduceEqDiff, Nat.reduceAdd, Nat.reduceMul, Nat.reduceSub, Nat.reduceLT, Nat.reduceLeDiff, Int.reduceLT, Int.reduceLE, Int.reduceEq, Int.reduceNe, Int.reduceAdd, Int.reduceNeg, Int.reduceToNat]
    refine quiet_call rfl (hh (partsT op) hl3 98 (by decide)) (frzVs_data rfl) rfl ?_
    rw [e98]
    simp (config := { maxSteps := 1000000 }) only [go_sem, ↓reduceIte, Nat.reduceEqDiff, Nat.reduceAdd, Nat.reduceMul, Nat.reduceSub, Nat.reduceLT, Nat.reduceLeDiff, Int.reduceLT, Int.reduceLE, Int.reduceEq, Int.reduceNe, Int.reduceAdd, Int.reduceNeg, Int.reduceToNat]
    refine quiet_call rfl (withinR_A _ _ _) (frzVs_data rfl) rfl ?_
    generalize inW b 15 _ = w2
    cases w2
    · simp (config := { maxSteps := 1000000 }) only [go_sem, ↓reduceIte, Nat.reduceEqDiff, Nat.reduceAdd, Nat.reduceMul, Nat.reduceSub, Nat.reduceLT, Nat.reduceLeDiff, Int.reduceLT, Int.reduceLE, Int.reduceEq, Int.reduceNe, Int.reduceAdd, Int.reduceNeg, Int.reduceToNat]
      try simp
    simp (config := { maxSteps := 1000000 }) only [go_sem, ↓reduceIte, Nat.reduceEqDiff, Nat.reduceAdd, Nat.reduceMul, Nat.reduceSub, Nat.reduceLT, Nat.reduceLeDiff, Int.reduceLT, Int.reduceLE, Int.reduceEq, Int.reduceNe, Int.reduceAdd, Int.reduceNeg, Int.reduceToNat]
    refine quiet_call rfl (hh (partsT op) hl3 99 (by decide)) (frzVs_data rfl) rfl ?_
    rw [e99]
    simp (config := { maxSteps := 1000000 }) only [go_sem, ↓reduceIte, Nat.reduceEqDiff, Nat.reduceAdd, Nat.reduceMul, Nat.reduceSub, Nat.reduceLT, Nat.reduceLeDiff, Int.reduceLT, Int.reduceLE, Int.reduceEq, Int.reduceNe, Int.reduceAdd, Int.reduceNeg, Int.reduceToNat]
    try
      refine quiet_call rfl (hh (partsT op) hl3 114 (by decide)) (frzVs_data rfl) rfl ?_
      rw [e114]
      simp (config := { maxSteps := 1000000 }) only [go_sem, ↓reduceIte, Nat.reduceEqDiff, Nat.reduceAdd, Nat.reduceMul, Nat.reduceSub, Nat.reduceLT, Nat.reduceLeDiff, Int.reduceLT, Int.reduceLE, Int.reduceEq, Int.reduceNe, Int.reduceAdd, Int.reduceNeg, Int.reduceToNat]
    refine quiet_call rfl (withinR_A _ _ _) (frzVs_data rfl) rfl ?_
    simp (config := { maxSteps := 1000000 }) only [go_sem, ↓reduceIte, Nat.reduceEqDiff, Nat.reduceAdd, Nat.reduceMul, Nat.reduceSub, Nat.reduceLT, Nat.reduceLeDiff, Int.reduceLT, Int.reduceLE, Int.reduceEq, Int.reduceNe, Int.reduceAdd, Int.reduceNeg, Int.reduceToNat]
    try rfl

end Go.Proofs.YtifciocionlciaaDoor

namespace Go.Proofs.YtifciocionlciaaDoor
open Go Go.Am Go.Asm

set_option maxHeartbeats 8000000 in
theorem EncodeR_A (op a b c : Int) : PureR Tryd.prog 17 [instV op a b c] (· = if rightI op a b c = true then .tup [iv .u32 (word op.toNat a.toNat b.toNat c.toNat : Nat), iv .i64 0] else .tup [iv .u32 0, iv .i64 1]) := by
  refine pure_of_wp Tt_ok mixed Tryd.func17 rfl (by rfl) [2, 3] rfl (by kernel_rfl) (by simp [Tryd.ntmps17]) fun g => ?_
  unfold instV
  simp (config := { maxSteps := 1000000 }) only [go_sem, ↓reduceIte, Nat.reduceEqDiff, Nat.reduceAdd, Nat.reduceMul, Nat.reduceSub, Nat.reduceLT, Nat.reduceLeDiff, Int.reduceLT, Int.reduceLE, Int.reduceEq, Int.reduceNe, Int.reduceAdd, Int.reduceNeg, Int.reduceToNat]
  refine hook_call rfl (by simp (config := { maxSteps := 1000000 }) only [go_sem, ↓reduceIte, Nat.reduceEqDiff, Nat.reduceAdd, Nat.reduceMul, Nat.reduceSub, Nat.reduceLT, Nat.reduceLeDiff, Int.reduceLT, Int.reduceLE, Int.reduceEq, Int.reduceNe, Int.reduceAdd, Int.reduceNeg, Int.reduceToNat]; exact RightR_A op a b c) (by simp (config := { maxSteps := 1000000 }) only [go_sem, ↓reduceIte, Nat.reduceEqDiff, Nat.reduceAdd, Nat.reduceMul, Nat.reduceSub, Nat.reduceLT, Nat.reduceLeDiff, Int.reduceLT, Int.reduceLE, Int.reduceEq, Int.reduceNe, Int.reduceAdd, Int.reduceNeg, Int.reduceToNat]; rfl) ?_
  rintro _ rfl
  cases hk : rightI op a b c
  · simp (config := { maxSteps := 1000000 }) only [go_sem, ↓reduceIte, Nat.reduceEqDiff, Nat.reduceAdd, Nat.reduceMul, Nat.reduceSub, Nat.reduceLT, Nat.reduceLeDiff, Int.reduceLT, Int.reduceLE, Int.reduceEq, Int.reduceNe, Int.reduceAdd, Int.reduceNeg, Int.reduceToNat]
    try rfl
  obtain ⟨b1, b2, b3, b4, b5, b6, b7, b8⟩ := encode_bounds hk
  obtain ⟨o, rfl⟩ : ∃ n : Nat, op = n := ⟨op.toNat, by omega⟩
  obtain ⟨a, rfl⟩ : ∃ n : Nat, a = n := ⟨a.toNat, by omega⟩
  obtain ⟨b, rfl⟩ : ∃ n : Nat, b = n := ⟨b.toNat, by omega⟩
  obtain ⟨c, rfl⟩ : ∃ n : Nat, c = n := ⟨c.toNat, by omega⟩
  have w1 : IntKind.i64.wrap ((o : Int) * 16777216) = ((o * 16777216 : Nat) : Int) := by rw [IntKind.wrap_i64] <;> omega
  have w2 : IntKind.i64.wrap ((a : Int) * 1048576) = ((a * 1048576 : Nat) : Int) := by rw [IntKind.wrap_i64] <;> omega
  have w3 : IntKind.i64.wrap ((b : Int) * 65536) = ((b * 65536 : Nat) : Int) := by rw [IntKind.wrap_i64] <;> omega
  have w4 : IntKind.i64.wrap (((o * 16777216 : Nat) : Int) + ((a * 1048576 : Nat) : Int)) = ((o * 16777216 + a * 1048576 : Nat) : Int) := by rw [IntKind.wrap_i64] <;> omega
  have w5 : IntKind.i64.wrap (((o * 16777216 + a * 1048576 : Nat) : Int) + ((b * 65536 : Nat) : Int)) = ((o * 16777216 + a * 1048576 + b * 65536 : Nat) : Int) := by rw [IntKind.wrap_i64] <;> omega
  have w6 : IntKind.i64.wrap (((o * 16777216 + a * 1048576 + b * 65536 : Nat) : Int) + (c : Int)) = ((word o a b c : Nat) : Int) := by unfold word; rw [IntKind.wrap_i64] <;> omega
  have w7 : IntKind.u32.wrap ((word o a b c : Nat) : Int) = ((word o a b c : Nat) : Int) := by unfold word; rw [IntKind.wrap_u32]; omega
  simp (config := { maxSteps := 1000000 }) only [go_sem, ↓reduceIte, Nat.reduceEqDiff, Nat.reduceAdd, Nat.reduceMul, Nat.reduceSub, Nat.reduceLT, Nat.reduceLeDiff, Int.reduceLT, Int.reduceLE, Int.reduceEq, Int.reduceNe, Int.reduceAdd, Int.reduceNeg, Int.reduceToNat, w1, w2, w3, w4, w5, w6, w7, Int.toNat_natCast]

theorem nameOf_other {op : Int} (h : op.toNat = 0 ∨ 28 ≤ op.toNat) : nameOf op.toNat = [] := by
  rcases h with h | h
  · rw [h]; rfl
  · obtain ⟨k, hk⟩ : ∃ k, op.toNat = k + 1 := ⟨op.toNat - 1, by omega⟩
    have : names.length ≤ k := by show 27 ≤ k; omega
    rw [hk]; simp [nameOf, this]

set_option maxHeartbeats 8000000 in
set_option maxRecDepth 100000 in
theorem NameR_A (op : Int) : PureR Tryd.prog 38 [iv .i64 op] (· = sv (nameOf op.toNat)) := by
  refine pure_of_wp Tt_ok mixed Tryd.func38 rfl (by rfl) [2] rfl (by kernel_rfl) (by simp [Tryd.ntmps38]) fun g => ?_
  by_cases hr : 1 ≤ op ∧ op ≤ 27
  case neg =>
    rw [nameOf_other (by omega)]
    simp (config := { maxSteps := 1000000 }) only [go_sem, ↓reduceIte, Nat.reduceEqDiff, Nat.reduceAdd, Nat.reduceMul, Nat.reduceSub, Nat.reduceLT, Nat.reduceLeDiff, Int.reduceLT, Int.reduceLE, Int.reduceEq, Int.reduceNe, Int.reduceAdd, Int.reduceNeg, Int.reduceToNat, show ¬ op = 1 by omega, show ¬ op = 2 by omega, show ¬ op = 3 by omega, show ¬ op = 4 by omega, show ¬ op = 5 by omega, show ¬ op = 6 by omega, show ¬ op = 7 by omega, show ¬ op = 8 by omega, show ¬ op = 9 by omega, show ¬ op = 10 by omega, show ¬ op = 11 by omega, show ¬ op = 12 by omega, show ¬ op = 13 by omega, show ¬ op = 14 by omega, show ¬ op = 15 by omega, show ¬ op = 16 by omega, show ¬ op = 17 by omega, show ¬ op = 18 by omega, show ¬ op = 19 by omega, show ¬ op = 20 by omega, show ¬ op = 21 by omega, show ¬ op = 22 by omega, show ¬ op = 23 by omega, show ¬ op = 24 by omega, show ¬ op = 25 by omega, show ¬ op = 26 by omega, show ¬ op = 27 by omega]
    try rfl
  rcases (show op = 1 ∨ op = 2 ∨ op = 3 ∨ op = 4 ∨ op = 5 ∨ op = 6 ∨ op = 7 ∨ op = 8 ∨ op = 9 ∨ op = 10 ∨ op = 11 ∨ op = 12 ∨ op = 13 ∨ op = 14 ∨ op = 15 ∨ op = 16 ∨ op = 17 ∨ op = 18 ∨ op = 19 ∨ op = 20 ∨ op = 21 ∨ op = 22 ∨ op = 23 ∨ op = 24 ∨ op = 25 ∨ op = 26 ∨ op = 27 by omega) with rfl | rfl | rfl | rfl | rfl | rfl | rfl | rfl | rfl | rfl | rfl | rfl | rfl | rfl | rfl | rfl | rfl | rfl | rfl | rfl | rfl | rfl | rfl | rfl | rfl | rfl | rfl
  all_goals
    simp (config := { maxSteps := 1000000 }) only [go_sem, ↓reduceIte, Nat.reduceEqDiff, Nat.reduceAdd, Nat.reduceMul, Nat.reduceSub, Nat.reduceLT, Nat.reduceLeDiff, Int.reduceLT, Int.reduceLE, Int.reduceEq, Int.reduceNe, Int.reduceAdd, Int.reduceNeg, Int.reduceToNat]
    rfl

theorem numberR_A (n : Nat) (h : n < 4294967296) : PureR Tryd.prog 39 [iv .i64 n] (· = sv (decT n)) := by
  refine pure_of_wp Tt_ok mixed Tryd.func39 rfl (by rfl) [2] rfl (by kernel_rfl) (by simp [Tryd.ntmps39]) fun g => ?_
  simp (config := { maxSteps := 1000000 }) only [go_sem, ↓reduceIte, Nat.reduceEqDiff, Nat.reduceAdd, Nat.reduceMul, Nat.reduceSub, Nat.reduceLT, Nat.reduceLeDiff, Int.reduceLT, Int.reduceLE, Int.reduceEq, Int.reduceNe, Int.reduceAdd, Int.reduceNeg, Int.reduceToNat, wrapN n h]
  refine hook_call rfl (by simp (config := { maxSteps := 1000000 }) only [go_sem, ↓reduceIte, Nat.reduceEqDiff, Nat.reduceAdd, Nat.reduceMul, Nat.reduceSub, Nat.reduceLT, Nat.reduceLeDiff, Int.reduceLT, Int.reduceLE, Int.reduceEq, Int.reduceNe, Int.reduceAdd, Int.reduceNeg, Int.reduceToNat]; exact Text_A n h) (by simp (config := { maxSteps := 1000000 }) only [go_sem, ↓reduceIte, Nat.reduceEqDiff, Nat.reduceAdd, Nat.reduceMul, Nat.reduceSub, Nat.reduceLT, Nat.reduceLeDiff, Int.reduceLT, Int.reduceLE, Int.reduceEq, Int.reduceNe, Int.reduceAdd, Int.reduceNeg, Int.reduceToNat]; rfl) ?_
  rintro _ rfl
  simp (config := { maxSteps := 1000000 }) only [go_sem, ↓reduceIte, Nat.reduceEqDiff, Nat.reduceAdd, Nat.reduceMul, Nat.reduceSub, Nat.reduceLT, Nat.reduceLeDiff, Int.reduceLT, Int.reduceLE, Int.reduceEq, Int.reduceNe, Int.reduceAdd, Int.reduceNeg, Int.reduceToNat]

end Go.Proofs.YtifciocionlciaaDoor

namespace Go.Proofs.YtifciocionlciaaDoor
open Go Go.Am Go.Asm

def argC (a b c : Nat) (ch : UInt8) : Str := if ch = 97 then 114 :: decT a else if ch = 98 then 114 :: decT b else if ch = 114 then 114 :: decT c else decT c
def argsI (op a b c : Nat) : List Str := (partsI op).map (argC a b c)
def tailA : List Str → Str
  | [] => []
  | l => 32 :: joinA l
def textI (op a b c : Nat) : Str := nameOf op ++ tailA (argsI op a b c)
theorem joinA_snoc : ∀ {l : List Str} (x : Str), l ≠ [] → joinA (l ++ [x]) = joinA l ++ 44 :: 32 :: x
  | [], _, h => absurd rfl h
  | [y], x, _ => rfl
  | y :: z :: l, x, _ => by
    have := joinA_snoc (l := z :: l) x (by simp)
    rw [List.cons_append, List.cons_append]
    unfold joinA
    rw [← List.cons_append, this]
    simp
theorem tailA_snoc (l : List Str) (x : Str) : tailA (l ++ [x]) = tailA l ++ (if l = [] then 32 :: x else 44 :: 32 :: x) := by
  cases l with
  | nil => rfl
  | cons y l =>
    have := joinA_snoc (l := y :: l) x (by simp)
    simp only [List.cons_append] at this ⊢
    simp only [tailA, this, reduceCtorEq, if_false, List.cons_append]
theorem partsI_mem {op : Nat} {c : UInt8} (h : c ∈ partsI op) : c = 97 ∨ c = 98 ∨ c = 114 ∨ c = 99 := by
  unfold partsI at h
  simp only [List.mem_append] at h
  rcases h with (h | h) | h <;> repeat' split at h
  all_goals simp at h
  all_goals simp [h]
theorem partsI_len (op : Nat) : (partsI op).length ≤ 3 := by
  unfold partsI
  simp only [List.length_append]
  repeat' split
  all_goals simp
theorem nameOf_len (op : Nat) : (nameOf op).length ≤ 4 := by
  by_cases h : op ≤ 27
  · have : ∀ k, k ≤ 27 → (nameOf k).length ≤ 4 := by decide
    exact this op h
  · have := nameOf_other (op := (op : Int)) (.inr (by omega))
    rw [Int.toNat_natCast] at this
    rw [this]; simp
theorem argC_len {a b c : Nat} (ha : a ≤ 65535) (hb : b ≤ 65535) (hc : c ≤ 65535) (ch : UInt8) : (argC a b c ch).length ≤ 11 := by
  have h1 := decT_short (n := a) (by omega)
  have h2 := decT_short (n := b) (by omega)
  have h3 := decT_short (n := c) (by omega)
  unfold argC
  repeat' split
  all_goals (try simp only [List.length_cons])
  all_goals omega

theorem tailA_len (l : List Str) (m : Nat) (h : ∀ x ∈ l, x.length ≤ m) : (tailA l).length ≤ (m + 2) * l.length := by
  have key : ∀ l : List Str, (∀ x ∈ l, x.length ≤ m) → (joinA l).length + 2 ≤ (m + 2) * l.length ∨ l = [] := by
    intro l
    induction l with
    | nil => intro _; exact .inr rfl
    | cons a l ih =>
      intro h
      left
      have ha := h a (by simp)
      cases l with
      | nil => simp [joinA]; omega
      | cons b l =>
        rcases ih (fun x hx => h x (by simp [hx])) with h1 | h1
        · simp only [joinA, List.length_append, List.length_cons] at h1 ⊢
          rw [Nat.mul_add (m + 2) (l.length + 1) 1]
          omega
        · cases h1
  cases l with
  | nil => simp [tailA]
  | cons a l =>
    rcases key (a :: l) h with h1 | h1
    · simp only [tailA, List.length_cons] at h1 ⊢; omega
    · cases h1

set_option maxHeartbeats 8000000 in
theorem TextR_A (op a b c : Nat) (hr : rightI op a b c = true) : PureR Tryd.prog 16 [instV op a b c] (· = sv (textI op a b c)) := by
  refine pure_of_wp Tt_ok mixed Tryd.func16 rfl (by rfl) [2] rfl (by kernel_rfl) (by simp [Tryd.ntmps16]) fun g => ?_
  obtain ⟨b1, b2, b3, b4, b5, b6, b7, b8⟩ := encode_bounds hr
  have hRR := RightR_A op a b c
  unfold instV at hRR ⊢
  simp (config := { maxSteps := 1000000 }) only [go_sem, ↓reduceIte, Nat.reduceEqDiff, Nat.reduceAdd, Nat.reduceMul, Nat.reduceSub, Nat.reduceLT, Nat.reduceLeDiff, Int.reduceLT, Int.reduceLE, Int.reduceEq, Int.reduceNe, Int.reduceAdd, Int.reduceNeg, Int.reduceToNat]
  refine hook_call rfl (by simp (config := { maxSteps := 1000000 }) only [go_sem, ↓reduceIte, Nat.reduceEqDiff, Nat.reduceAdd, Nat.reduceMul, Nat.reduceSub, Nat.reduceLT, Nat.reduceLeDiff, Int.reduceLT, Int.reduceLE, Int.reduceEq, Int.reduceNe, Int.reduceAdd, Int.reduceNeg, Int.reduceToNat]; exact hRR) (by simp (config := { maxSteps := 1000000 }) only [go_sem, ↓reduceIte, Nat.reduceEqDiff, Nat.reduceAdd, Nat.reduceMul, Nat.reduceSub, Nat.reduceLT, Nat.reduceLeDiff, Int.reduceLT, Int.reduceLE, Int.reduceEq, Int.reduceNe, Int.reduceAdd, Int.reduceNeg, Int.reduceToNat]; rfl) ?_
  rintro _ rfl
  rw [hr]
  have hkn : knownN op = true := by simp [knownN]; omega
  have hpt : partsT (op : Int) = partsI op := by unfold partsT; rw [Int.toNat_natCast, if_pos hkn]
  simp (config := { maxSteps := 1000000 }) only [go_sem, ↓reduceIte, Nat.reduceEqDiff, Nat.reduceAdd, Nat.reduceMul, Nat.reduceSub, Nat.reduceLT, Nat.reduceLeDiff, Int.reduceLT, Int.reduceLE, Int.reduceEq, Int.reduceNe, Int.reduceAdd, Int.reduceNeg, Int.reduceToNat]
  refine hook_call rfl (by simp (config := { maxSteps := 1000000 }) only [go_sem, ↓reduceIte, Nat.reduceEqDiff, Nat.reduceAdd, Nat.reduceMul, Nat.reduceSub, Nat.reduceLT, Nat.reduceLeDiff, Int.reduceLT, Int.reduceLE, Int.reduceEq, Int.reduceNe, Int.reduceAdd, Int.reduceNeg, Int.reduceToNat]; exact PartsR_A op) (by simp (config := { maxSteps := 1000000 }) only [go_sem, ↓reduceIte, Nat.reduceEqDiff, Nat.reduceAdd, Nat.reduceMul, Nat.reduceSub, Nat.reduceLT, Nat.reduceLeDiff, Int.reduceLT, Int.reduceLE, Int.reduceEq, Int.reduceNe, Int.reduceAdd, Int.reduceNeg, Int.reduceToNat]; rfl) ?_
  rintro _ rfl
  rw [hpt]
  simp (config := { maxSteps := 1000000 }) only [go_sem, ↓reduceIte, Nat.reduceEqDiff, Nat.reduceAdd, Nat.reduceMul, Nat.reduceSub, Nat.reduceLT, Nat.reduceLeDiff, Int.reduceLT, Int.reduceLE, Int.reduceEq, Int.reduceNe, Int.reduceAdd, Int.reduceNeg, Int.reduceToNat]
  refine hook_call rfl (by simp (config := { maxSteps := 1000000 }) only [go_sem, ↓reduceIte, Nat.reduceEqDiff, Nat.reduceAdd, Nat.reduceMul, Nat.reduceSub, Nat.reduceLT, Nat.reduceLeDiff, Int.reduceLT, Int.reduceLE, Int.reduceEq, Int.reduceNe, Int.reduceAdd, Int.reduceNeg, Int.reduceToNat]; exact NameR_A op) (by simp (config := { maxSteps := 1000000 }) only [go_sem, ↓reduceIte, Nat.reduceEqDiff, Nat.reduceAdd, Nat.reduceMul, Nat.reduceSub, Nat.reduceLT, Nat.reduceLeDiff, Int.reduceLT, Int.reduceLE, Int.reduceEq, Int.reduceNe, Int.reduceAdd, Int.reduceNeg, Int.reduceToNat]; rfl) ?_
  rintro _ rfl
  rw [Int.toNat_natCast]
  have hmem := fun c => @partsI_mem op c
  have hpl := partsI_len op
  have hnl := nameOf_len op
  unfold textI argsI
  generalize partsI op = p at hmem hpl ⊢
  simp (config := { maxSteps := 1000000 }) only [go_sem, ↓reduceIte, Nat.reduceEqDiff, Nat.reduceAdd, Nat.reduceMul, Nat.reduceSub, Nat.reduceLT, Nat.reduceLeDiff, Int.reduceLT, Int.reduceLE, Int.reduceEq, Int.reduceNe, Int.reduceAdd, Int.reduceNeg, Int.reduceToNat]
  refine loop_intro (fun n st => ∃ k : Nat, n + k = p.length ∧ st.f 1 = .one (.ptr 1 (nxC 38 (g 1)) 0) ∧ st.gen 1 = nxC 38 (g 1) ∧ st.obj 1 = some [.d (.int .i64 op), .d (.int .i64 a), .d (.int .i64 b), .d (.int .i64 c)] ∧ st.f 3 = sv p ∧ st.f 4 = sv (nameOf op ++ tailA ((p.take k).map (argC a b c))) ∧ st.f 5 = iv .i64 k) p.length ?_ ?_
  · refine ⟨0, by omega, ?_⟩
    simp (config := { maxSteps := 1000000 }) only [go_sem, ↓reduceIte, Nat.reduceEqDiff, Nat.reduceAdd, Nat.reduceMul, Nat.reduceSub, Nat.reduceLT, Nat.reduceLeDiff, Int.reduceLT, Int.reduceLE, Int.reduceEq, Int.reduceNe, Int.reduceAdd, Int.reduceNeg, Int.reduceToNat, tailA]
  rintro n f g1 ob ⟨k, hk, q1, q1g, q1o, q3, q4, q5⟩
  simp only at q1 q1g q1o q3 q4 q5
  have hw := wrap_succ (k := k) (by omega)
  by_cases hlt : k < p.length
  · obtain ⟨ch, hch⟩ := getq hlt
    have hki : (k : Int) < (p.length : Int) := by omega
    have hk0 : (0 : Int) ≤ (k : Int) := by omega
    have htl := tailA_len ((p.take k).map (argC a b c)) 11 (fun x hx => by
      obtain ⟨y, _, rfl⟩ := List.mem_map.1 hx
      exact argC_len (by omega) (by omega) (by omega) y)
    have hlen : ((p.take k).map (argC a b c)).length = k := by rw [List.length_map, List.length_take]; omega
    rw [hlen] at htl
    have hnext : tailA ((p.take (k + 1)).map (argC a b c)) = tailA ((p.take k).map (argC a b c)) ++ (if k = 0 then 32 :: argC a b c ch else 44 :: 32 :: argC a b c ch) := by
      rw [List.take_add_one, hch, List.map_append]
      show tailA ((p.take k).map (argC a b c) ++ [argC a b c ch]) = _
      rw [tailA_snoc]
      congr 1
      by_cases h0 : k = 0
      · rw [if_pos h0, if_pos (List.eq_nil_of_length_eq_zero (by omega))]
      · rw [if_neg h0, if_neg (fun e => h0 (by rw [e] at hlen; exact hlen.symm))]
    generalize tailA ((p.take k).map (argC a b c)) = s at q4 htl hnext
    have hN : ∀ m : Nat, m ≤ 65535 → PureR Tryd.prog 39 [iv .i64 m] (· = sv (decT m)) := fun m hm => numberR_A m (by omega)
    have d1 := decT_short (n := a) (by omega)
    have d2 := decT_short (n := b) (by omega)
    have d3 := decT_short (n := c) (by omega)
    by_cases hk1 : k = 0
    case' pos =>
      rw [if_pos hk1] at hnext
      subst hk1
      have hki : (0 : Int) < (p.length : Int) := by omega
      have hk0 : (0 : Int) ≤ 0 := Int.le_refl _
      have hkz : (0 : Int) = 0 := rfl
      have hw : IntKind.i64.wrap 1 = ((0 + 1 : Nat) : Int) := by rw [IntKind.wrap_i64] <;> decide
    case' neg =>
      have hkz : ¬ (k : Int) = 0 := by omega
      rw [if_neg hk1] at hnext
    all_goals
      rcases hmem ch (List.mem_of_getElem? hch) with e | e | e | e
      all_goals
        subst e
        simp only [argC, if_true, show ((98 : UInt8) = 97) = False from by simp, show ((114 : UInt8) = 97) = False from by simp, show ((114 : UInt8) = 98) = False from by simp, show ((99 : UInt8) = 97) = False from by simp, show ((99 : UInt8) = 98) = False from by simp, show ((99 : UInt8) = 114) = False from by simp, if_false] at hnext
        have hu1 : ((97 : UInt8).toNat : Int) = 97 := rfl
        have hu2 : ((98 : UInt8).toNat : Int) = 98 := rfl
        have hu3 : ((114 : UInt8).toNat : Int) = 114 := rfl
        have hu4 : ((99 : UInt8).toNat : Int) = 99 := rfl
        simp (config := { maxSteps := 1000000 }) only [go_sem, ↓reduceIte, Nat.reduceEqDiff, Nat.reduceAdd, Nat.reduceMul, Nat.reduceSub, Nat.reduceLT, Nat.reduceLeDiff, Int.reduceLT, Int.reduceLE, Int.reduceEq, Int.reduceNe, Int.reduceAdd, Int.reduceNeg, Int.reduceToNat, q1, q1g, q1o, q3, q4, q5, hki, hk0, hkz, hch, hu1, hu2, hu3, hu4, List.length_append]
        repeat (refine And.intro (by omega) ?_)
        refine hook_call rfl (by simp (config := { maxSteps := 1000000 }) only [go_sem, ↓reduceIte, Nat.reduceEqDiff, Nat.reduceAdd, Nat.reduceMul, Nat.reduceSub, Nat.reduceLT, Nat.reduceLeDiff, Int.reduceLT, Int.reduceLE, Int.reduceEq, Int.reduceNe, Int.reduceAdd, Int.reduceNeg, Int.reduceToNat]; exact hN _ (by omega)) (by simp (config := { maxSteps := 1000000 }) only [go_sem, ↓reduceIte, Nat.reduceEqDiff, Nat.reduceAdd, Nat.reduceMul, Nat.reduceSub, Nat.reduceLT, Nat.reduceLeDiff, Int.reduceLT, Int.reduceLE, Int.reduceEq, Int.reduceNe, Int.reduceAdd, Int.reduceNeg, Int.reduceToNat]; rfl) ?_
        rintro _ rfl
        simp (config := { maxSteps := 1000000 }) only [go_sem, ↓reduceIte, Nat.reduceEqDiff, Nat.reduceAdd, Nat.reduceMul, Nat.reduceSub, Nat.reduceLT, Nat.reduceLeDiff, Int.reduceLT, Int.reduceLE, Int.reduceEq, Int.reduceNe, Int.reduceAdd, Int.reduceNeg, Int.reduceToNat, q5, hw, List.length_append]
        repeat (refine And.intro (by omega) ?_)
        refine ⟨n - 1, _, by omega, SemVs.refl _, (by first | exact k + 1 | exact 0 + 1), by omega, ?_⟩
        simp (config := { maxSteps := 1000000 }) only [go_sem, ↓reduceIte, Nat.reduceEqDiff, Nat.reduceAdd, Nat.reduceMul, Nat.reduceSub, Nat.reduceLT, Nat.reduceLeDiff, Int.reduceLT, Int.reduceLE, Int.reduceEq, Int.reduceNe, Int.reduceAdd, Int.reduceNeg, Int.reduceToNat, q1, q1g, q1o, q3, hnext]
        try simp
  · have hki : ¬ (k : Int) < (p.length : Int) := by omega
    simp (config := { maxSteps := 1000000 }) only [go_sem, ↓reduceIte, Nat.reduceEqDiff, Nat.reduceAdd, Nat.reduceMul, Nat.reduceSub, Nat.reduceLT, Nat.reduceLeDiff, Int.reduceLT, Int.reduceLE, Int.reduceEq, Int.reduceNe, Int.reduceAdd, Int.reduceNeg, Int.reduceToNat, q3, q4, q5, hki]
    rw [List.take_of_length_le (by omega)]

end Go.Proofs.YtifciocionlciaaDoor

namespace Go.Proofs.YtifciocionlciaaDoor
open Go Go.Am Go.Asm

def nameOk (k : Nat) : Bool := isWord (nameOf k) && (nameOf k).all (fun c => !wht c && decide (c ≠ 35) && decide (c ≠ 58) && decide (c ≠ 10)) && decide (nameOf k ≠ []) && decide (opNum (nameOf k) = k) && decide (nameOf k ≠ wordW) && decide (nameOf k ≠ dataW)
theorem nameOk_all : ∀ k : Nat, k < 28 → k = 0 ∨ nameOk k = true := by decide
theorem name_facts {k : Nat} (h : k ≤ 27) (h1 : 1 ≤ k) : isWord (nameOf k) = true ∧ (∀ c ∈ nameOf k, wht c = false ∧ c ≠ 35 ∧ c ≠ 58) ∧ nameOf k ≠ [] ∧ 10 ∉ nameOf k ∧ opNum (nameOf k) = k ∧ nameOf k ≠ wordW ∧ nameOf k ≠ dataW := by
  rcases nameOk_all k (by omega) with h2 | h2
  · omega
  · simp only [nameOk, Bool.and_eq_true, decide_eq_true_eq, List.all_eq_true, Bool.not_eq_true'] at h2
    obtain ⟨⟨⟨⟨⟨a1, a2⟩, a3⟩, a4⟩, a5⟩, a6⟩ := h2
    exact ⟨a1, fun c hc => ⟨(a2 c hc).1.1.1, (a2 c hc).1.1.2, (a2 c hc).1.2⟩, a3, fun hm => (a2 _ hm).2 rfl, a4, a5, a6⟩
theorem inW_elim {v : Nat} {m : Nat} {b : Bool} (h : inW (v : Int) (m : Int) b = true) : (b = true → v ≤ m) ∧ (b = false → v = 0) := by
  unfold inW at h
  cases b
  · simp at h; exact ⟨fun h => (by cases h), fun _ => h⟩
  · simp at h; exact ⟨fun _ => by omega, fun h => (by cases h)⟩
theorem opd_reg (n : Nat) : OpdOk (114 :: decT n) := OpdOk.cons (by decide) (OpdOk.dec n).1
theorem argC_ok (a b c : Nat) (ch : UInt8) : OpdOk (argC a b c ch) := by
  unfold argC
  repeat' split
  all_goals first | exact opd_reg _ | exact OpdOk.dec _
theorem encR_ok {op a b c : Nat} (hr : rightI op a b c = true) : encR st0 op a b c = .ok { st0 with code := [word op a b c] } := by
  unfold encR
  rw [if_pos hr]
  simp [addW, st0]

theorem regs1 {x : Str} {a : Nat} (h : operandA x = .reg a) {l : List Str} : regsOf ((x :: l).take 1) = some [a] := by simp [regsOf, regOf?, h]
theorem regs2 {x y : Str} {a b : Nat} (h : operandA x = .reg a) (h' : operandA y = .reg b) {l : List Str} : regsOf ((x :: y :: l).take 2) = some [a, b] := by simp [regsOf, regOf?, h, h']
theorem regs3 {x y z : Str} {a b c : Nat} (h : operandA x = .reg a) (h' : operandA y = .reg b) (h'' : operandA z = .reg c) {l : List Str} : regsOf ((x :: y :: z :: l).take 3) = some [a, b, c] := by simp [regsOf, regOf?, h, h', h'']

theorem insP_text {op a b c : Nat} (hr : rightI op a b c = true) : insP 1 st0 op (argsI op a b c) = .ok { st0 with code := [word op a b c] } := by
  obtain ⟨b1, b2, b3, b4, b5, b6, b7, b8⟩ := encode_bounds hr
  have hr0 := hr
  unfold rightI mostC at hr
  simp only [Bool.and_eq_true, Int.toNat_natCast] at hr
  obtain ⟨_, hA, hB, hC⟩ := hr
  have oA : a ≤ 15 → operandA (114 :: decT a) = .reg a := operand_regT
  have oB : b ≤ 15 → operandA (114 :: decT b) = .reg b := operand_regT
  have oC : c ≤ 15 → operandA (114 :: decT c) = .reg c := operand_regT
  have oN : operandA (decT c) = .num c := operand_dec (by omega)
  have hna := nArgs_eq op
  have hnr : nRegs op = nRegs op := rfl
  conv at hnr => rhs; unfold nRegs
  rcases shape_cases op with hs | hs | hs | hs | hs | hs | hs
  all_goals
    simp only [hs] at hA hB hC hna hnr
    simp only [if_true, Bool.false_eq_true, if_false, Nat.reduceEqDiff, Nat.reduceAdd, Nat.add_zero, Nat.zero_add] at hna hnr hC
    have hargs : argsI op a b c = argsI op a b c := rfl
    conv at hargs => rhs; unfold argsI partsI; rw [hs]
    simp only [if_true, Bool.false_eq_true, if_false, Nat.reduceEqDiff, List.nil_append, List.append_nil, List.cons_append, List.map_cons, List.map_nil] at hargs
    have eA := inW_elim (m := 15) hA
    have eB := inW_elim (m := 15) hB
    first | have eC := inW_elim (m := 15) hC | have eC := inW_elim (m := 65535) hC
    simp only [forall_const, Bool.true_eq_false, Bool.false_eq_true, false_implies, true_and, and_true, decide_true, decide_false] at eA eB eC
  all_goals
    have r97 : argC a b c 97 = 114 :: decT a := rfl
    have r98 : argC a b c 98 = 114 :: decT b := rfl
    have r114 : argC a b c 114 = 114 :: decT c := rfl
    have r99 : argC a b c 99 = decT c := rfl
    try simp only [r97, r98, r114, r99] at hargs
    rw [hargs]
    clear r97 r98 r114 r99 hargs hA hB hC
  · subst eB
    rw [insP_num (rs := [a]) (by rw [hna, hnr]; rfl) (by rw [hnr]; exact regs1 (oA eA)) (by rw [hs]), hnr]
    show withCA 1 st0 op a 0 (decT c) = _
    unfold withCA
    simp only [oN]
    rw [if_neg (by omega)]
    exact encR_ok hr0
  · have : c = 0 := by simpa using eC
    subst this
    rw [insP_reg (rs := [a, b]) (by rw [hna, hnr]; rfl) (by rw [hnr]; exact regs2 (oA eA) (oB eB)) (by rw [hs]; decide)]
    exact encR_ok hr0
  · have h15 : c ≤ 15 := by simpa using eC
    rw [insP_reg (rs := [a, b, c]) (by rw [hna, hnr]; rfl) (by rw [hnr]; exact regs3 (oA eA) (oB eB) (oC h15)) (by rw [hs]; decide)]
    exact encR_ok hr0
  · rw [insP_num (rs := [a, b]) (by rw [hna, hnr]; rfl) (by rw [hnr]; exact regs2 (oA eA) (oB eB)) (by rw [hs]), hnr]
    show withCA 1 st0 op a b (decT c) = _
    unfold withCA
    simp only [oN]
    rw [if_neg (by omega)]
    exact encR_ok hr0
  · subst eA eB
    rw [insP_num (rs := []) (by rw [hna, hnr]; rfl) (by rw [hnr]; rfl) (by rw [hs]), hnr]
    show withCA 1 st0 op 0 0 (decT c) = _
    unfold withCA
    simp only [oN]
    rw [if_neg (by omega)]
    exact encR_ok hr0
  · have : c = 0 := by simpa using eC
    subst this eB
    rw [insP_reg (rs := [a]) (by rw [hna, hnr]; rfl) (by rw [hnr]; exact regs1 (oA eA)) (by rw [hs]; decide)]
    exact encR_ok hr0
  · have : c = 0 := by simpa using eC
    subst this eA eB
    rw [insP_reg (rs := []) (by rw [hna, hnr]; rfl) (by rw [hnr]; rfl) (by rw [hs]; decide)]
    exact encR_ok hr0

theorem opA_name {n op : Nat} {st : Sta} {args : List Str} (h1 : 1 ≤ op) (h2 : op ≤ 27) : Asm.opA n st (nameOf op) args = insP n st op args := by
  obtain ⟨_, _, a3, _, a5, a6, a7⟩ := name_facts h2 h1
  unfold Asm.opA
  rw [if_neg a3, if_neg a6, if_neg a7, a5, if_neg (by omega), insP_A h1 h2]
theorem textI_len {op a b c : Nat} (ha : a ≤ 65535) (hb : b ≤ 65535) (hc : c ≤ 65535) : (textI op a b c).length ≤ 100 := by
  have h1 := nameOf_len op
  have h2 := tailA_len (argsI op a b c) 11 (fun x hx => by
    unfold argsI at hx
    obtain ⟨y, _, rfl⟩ := List.mem_map.1 hx
    exact argC_len ha hb hc y)
  have h3 := partsI_len op
  unfold argsI at h2
  rw [List.length_map] at h2
  unfold textI
  rw [List.length_append]
  unfold argsI
  have : (11 + 2) * (partsI op).length ≤ 39 := by omega
  omega
def lineOk (k : Nat) : Bool := decide (lineA (nameOf k) = some (([] : Str), nameOf k, ([] : List Str)))
theorem lineOk_all : ∀ k : Nat, k < 28 → k = 0 ∨ lineOk k = true := by decide +kernel
theorem textI_line {op a b c : Nat} (h1 : 1 ≤ op) (h2 : op ≤ 27) : lineA (textI op a b c) = some ([], nameOf op, argsI op a b c) ∧ 10 ∉ textI op a b c := by
  obtain ⟨a1, a2, a3, a4, _⟩ := name_facts h2 h1
  have hok : ∀ x ∈ argsI op a b c, OpdOk x := fun x hx => by
    unfold argsI at hx
    obtain ⟨y, _, rfl⟩ := List.mem_map.1 hx
    exact argC_ok _ _ _ y
  unfold textI
  generalize argsI op a b c = l at hok ⊢
  cases l with
  | nil =>
    rcases lineOk_all op (by omega) with h | h
    · omega
    · simp only [tailA, List.append_nil]
      exact ⟨of_decide_eq_true h, a4⟩
  | cons x l =>
    show lineA (nameOf op ++ 32 :: joinA (x :: l)) = _ ∧ 10 ∉ nameOf op ++ 32 :: joinA (x :: l)
    exact ⟨lineA_joinA a1 a2 a3 (by simp) (fun y hy => (hok y hy).arg), free10 a4 hok⟩
theorem read_text {op a b c : Nat} (hr : rightI op a b c = true) : readA (textI op a b c) = (([word op a b c], 0), 0, 0) := by
  obtain ⟨b1, b2, b3, b4, b5, b6, b7, b8⟩ := encode_bounds hr
  obtain ⟨h1, h2⟩ := textI_line (op := op) (a := a) (b := b) (c := c) (by omega) (by omega)
  have h3 := textI_len (op := op) (a := a) (b := b) (c := c) (by omega) (by omega) (by omega)
  exact readA_one h2 (by omega) h1 (by rw [opA_name (by omega) (by omega)]; exact insP_text hr) rfl

set_option maxHeartbeats 8000000 in
theorem AsmInstructions_G {o : Obj} (ho : SmallO o) (op a b c : Int) : PureG Tryd.prog 3 o 5 [instV op a b c] (· = bv true) := by
  refine pure_of_wpG2 0 3 o Tt_ok mixed Tryd.func5 rfl (by rfl) [.tmp 2] rfl (by kernel_rfl) (by kernel_rfl) (by simp [Tryd.ntmps5]) fun b₀ β0 s0 w0 g => ?_
  have hRR := RightR_A op a b c
  unfold instV at hRR ⊢
  simp (config := { maxSteps := 1000000 }) only [go_sem, ↓reduceIte, Nat.reduceEqDiff, Nat.reduceAdd, Nat.reduceMul, Nat.reduceSub, Nat.reduceLT, Nat.reduceLeDiff, Int.reduceLT, Int.reduceLE, Int.reduceEq, Int.reduceNe, Int.reduceAdd, Int.reduceNeg, Int.reduceToNat]
  refine hook_callF kept_phiG rfl (by simp (config := { maxSteps := 1000000 }) only [go_sem, ↓reduceIte, Nat.reduceEqDiff, Nat.reduceAdd, Nat.reduceMul, Nat.reduceSub, Nat.reduceLT, Nat.reduceLeDiff, Int.reduceLT, Int.reduceLE, Int.reduceEq, Int.reduceNe, Int.reduceAdd, Int.reduceNeg, Int.reduceToNat]; exact hRR) (by simp (config := { maxSteps := 1000000 }) only [go_sem, ↓reduceIte, Nat.reduceEqDiff, Nat.reduceAdd, Nat.reduceMul, Nat.reduceSub, Nat.reduceLT, Nat.reduceLeDiff, Int.reduceLT, Int.reduceLE, Int.reduceEq, Int.reduceNe, Int.reduceAdd, Int.reduceNeg, Int.reduceToNat]; rfl) ?_
  rintro _ rfl
  cases hr : rightI op a b c
  · simp (config := { maxSteps := 1000000 }) only [go_sem, ↓reduceIte, Nat.reduceEqDiff, Nat.reduceAdd, Nat.reduceMul, Nat.reduceSub, Nat.reduceLT, Nat.reduceLeDiff, Int.reduceLT, Int.reduceLE, Int.reduceEq, Int.reduceNe, Int.reduceAdd, Int.reduceNeg, Int.reduceToNat]
    refine hook_callG kept_phiG (fun s β ds w h => h.1.2) rfl (by simp (config := { maxSteps := 1000000 }) only [go_sem, ↓reduceIte, Nat.reduceEqDiff, Nat.reduceAdd, Nat.reduceMul, Nat.reduceSub, Nat.reduceLT, Nat.reduceLeDiff, Int.reduceLT, Int.reduceLE, Int.reduceEq, Int.reduceNe, Int.reduceAdd, Int.reduceNeg, Int.reduceToNat]; exact awake_G ho) (by simp (config := { maxSteps := 1000000 }) only [go_sem, ↓reduceIte, Nat.reduceEqDiff, Nat.reduceAdd, Nat.reduceMul, Nat.reduceSub, Nat.reduceLT, Nat.reduceLeDiff, Int.reduceLT, Int.reduceLE, Int.reduceEq, Int.reduceNe, Int.reduceAdd, Int.reduceNeg, Int.reduceToNat]; rfl) ?_
    rintro _ rfl
    simp (config := { maxSteps := 1000000 }) only [go_sem, ↓reduceIte, Nat.reduceEqDiff, Nat.reduceAdd, Nat.reduceMul, Nat.reduceSub, Nat.reduceLT, Nat.reduceLeDiff, Int.reduceLT, Int.reduceLE, Int.reduceEq, Int.reduceNe, Int.reduceAdd, Int.reduceNeg, Int.reduceToNat]
  obtain ⟨b1, b2, b3, b4, b5, b6, b7, b8⟩ := encode_bounds hr
  obtain ⟨op, rfl⟩ : ∃ n : Nat, op = n := ⟨op.toNat, by omega⟩
  obtain ⟨a, rfl⟩ : ∃ n : Nat, a = n := ⟨a.toNat, by omega⟩
  obtain ⟨b, rfl⟩ : ∃ n : Nat, b = n := ⟨b.toNat, by omega⟩
  obtain ⟨c, rfl⟩ : ∃ n : Nat, c = n := ⟨c.toNat, by omega⟩
  have hT := TextR_A op a b c hr
  have hE := EncodeR_A op a b c
  rw [hr] at hE
  simp only [if_true, Int.toNat_natCast] at hE
  unfold instV at hT hE
  simp (config := { maxSteps := 1000000 }) only [go_sem, ↓reduceIte, Nat.reduceEqDiff, Nat.reduceAdd, Nat.reduceMul, Nat.reduceSub, Nat.reduceLT, Nat.reduceLeDiff, Int.reduceLT, Int.reduceLE, Int.reduceEq, Int.reduceNe, Int.reduceAdd, Int.reduceNeg, Int.reduceToNat]
  refine hook_callF kept_phiG rfl (by simp (config := { maxSteps := 1000000 }) only [go_sem, ↓reduceIte, Nat.reduceEqDiff, Nat.reduceAdd, Nat.reduceMul, Nat.reduceSub, Nat.reduceLT, Nat.reduceLeDiff, Int.reduceLT, Int.reduceLE, Int.reduceEq, Int.reduceNe, Int.reduceAdd, Int.reduceNeg, Int.reduceToNat]; exact hT) (by simp (config := { maxSteps := 1000000 }) only [go_sem, ↓reduceIte, Nat.reduceEqDiff, Nat.reduceAdd, Nat.reduceMul, Nat.reduceSub, Nat.reduceLT, Nat.reduceLeDiff, Int.reduceLT, Int.reduceLE, Int.reduceEq, Int.reduceNe, Int.reduceAdd, Int.reduceNeg, Int.reduceToNat]; rfl) ?_
  rintro _ rfl
  simp (config := { maxSteps := 1000000 }) only [go_sem, ↓reduceIte, Nat.reduceEqDiff, Nat.reduceAdd, Nat.reduceMul, Nat.reduceSub, Nat.reduceLT, Nat.reduceLeDiff, Int.reduceLT, Int.reduceLE, Int.reduceEq, Int.reduceNe, Int.reduceAdd, Int.reduceNeg, Int.reduceToNat]
  refine hook_callG kept_phiG (fun s β ds w h => h.1.2) rfl (by simp (config := { maxSteps := 1000000 }) only [go_sem, ↓reduceIte, Nat.reduceEqDiff, Nat.reduceAdd, Nat.reduceMul, Nat.reduceSub, Nat.reduceLT, Nat.reduceLeDiff, Int.reduceLT, Int.reduceLE, Int.reduceEq, Int.reduceNe, Int.reduceAdd, Int.reduceNeg, Int.reduceToNat]; exact Read_G ho _) (by simp (config := { maxSteps := 1000000 }) only [go_sem, ↓reduceIte, Nat.reduceEqDiff, Nat.reduceAdd, Nat.reduceMul, Nat.reduceSub, Nat.reduceLT, Nat.reduceLeDiff, Int.reduceLT, Int.reduceLE, Int.reduceEq, Int.reduceNe, Int.reduceAdd, Int.reduceNeg, Int.reduceToNat]; rfl) ?_
  rintro _ rfl
  rw [read_text hr]
  unfold readV imgV codeD
  simp (config := { maxSteps := 1000000 }) only [go_sem, ↓reduceIte, Nat.reduceEqDiff, Nat.reduceAdd, Nat.reduceMul, Nat.reduceSub, Nat.reduceLT, Nat.reduceLeDiff, Int.reduceLT, Int.reduceLE, Int.reduceEq, Int.reduceNe, Int.reduceAdd, Int.reduceNeg, Int.reduceToNat]
  refine hook_callF kept_phiG rfl (by simp (config := { maxSteps := 1000000 }) only [go_sem, ↓reduceIte, Nat.reduceEqDiff, Nat.reduceAdd, Nat.reduceMul, Nat.reduceSub, Nat.reduceLT, Nat.reduceLeDiff, Int.reduceLT, Int.reduceLE, Int.reduceEq, Int.reduceNe, Int.reduceAdd, Int.reduceNeg, Int.reduceToNat]; exact hE) (by simp (config := { maxSteps := 1000000 }) only [go_sem, ↓reduceIte, Nat.reduceEqDiff, Nat.reduceAdd, Nat.reduceMul, Nat.reduceSub, Nat.reduceLT, Nat.reduceLeDiff, Int.reduceLT, Int.reduceLE, Int.reduceEq, Int.reduceNe, Int.reduceAdd, Int.reduceNeg, Int.reduceToNat]; rfl) ?_
  rintro _ rfl
  simp (config := { maxSteps := 1000000 }) only [go_sem, ↓reduceIte, Nat.reduceEqDiff, Nat.reduceAdd, Nat.reduceMul, Nat.reduceSub, Nat.reduceLT, Nat.reduceLeDiff, Int.reduceLT, Int.reduceLE, Int.reduceEq, Int.reduceNe, Int.reduceAdd, Int.reduceNeg, Int.reduceToNat]
  refine hook_callG kept_phiG (fun s β ds w h => h.1.2) rfl (by simp (config := { maxSteps := 1000000 }) only [go_sem, ↓reduceIte, Nat.reduceEqDiff, Nat.reduceAdd, Nat.reduceMul, Nat.reduceSub, Nat.reduceLT, Nat.reduceLeDiff, Int.reduceLT, Int.reduceLE, Int.reduceEq, Int.reduceNe, Int.reduceAdd, Int.reduceNeg, Int.reduceToNat]; exact awake_G ho) (by simp (config := { maxSteps := 1000000 }) only [go_sem, ↓reduceIte, Nat.reduceEqDiff, Nat.reduceAdd, Nat.reduceMul, Nat.reduceSub, Nat.reduceLT, Nat.reduceLeDiff, Int.reduceLT, Int.reduceLE, Int.reduceEq, Int.reduceNe, Int.reduceAdd, Int.reduceNeg, Int.reduceToNat]; rfl) ?_
  rintro _ rfl
  simp (config := { maxSteps := 1000000 }) only [go_sem, ↓reduceIte, Nat.reduceEqDiff, Nat.reduceAdd, Nat.reduceMul, Nat.reduceSub, Nat.reduceLT, Nat.reduceLeDiff, Int.reduceLT, Int.reduceLE, Int.reduceEq, Int.reduceNe, Int.reduceAdd, Int.reduceNeg, Int.reduceToNat]

end Go.Proofs.YtifciocionlciaaDoor

namespace Go.Proofs.YtifciocionlciaaDoor
open Go Go.Am Go.Asm

theorem nameC_plain {c : UInt8} (h : nameC c = true) : wht c = false ∧ c ≠ 35 ∧ c ≠ 58 ∧ c ≠ 44 ∧ c ≠ 10 := by
  have hb : (65 ≤ c.toNat ∧ c.toNat ≤ 122) ∨ (48 ≤ c.toNat ∧ c.toNat ≤ 57) := by
    simp only [nameC, letter, small, digit, Bool.or_eq_true, Bool.and_eq_true, decide_eq_true_eq, beq_iff_eq] at h
    rcases h with (h | h) | h
    · omega
    · omega
    · subst h; left; decide
  have key : ∀ x : UInt8, x.toNat < 48 ∨ x.toNat = 58 → c ≠ x := fun x hx e => by subst e; omega
  exact ⟨by simp [wht, key 32 (by decide), key 9 (by decide)], key _ (by decide), key _ (by decide), key _ (by decide), key _ (by decide)⟩

structure Lab (name : Str) : Prop where
  ok : isLabel name = true
  noReg : regOf name = none
theorem Lab.opd {name : Str} (h : Lab name) : OpdOk name := by
  have h1 := h.ok
  unfold isLabel at h1
  simp only [Bool.and_eq_true, List.all_eq_true] at h1
  refine ⟨fun c hc => nameC_plain (h1.2 c hc), ?_⟩
  rintro rfl
  simp at h1
theorem Lab.len {name : Str} (h : Lab name) : name.length ≤ 20 := by
  have h1 := h.ok
  unfold isLabel at h1
  simp only [Bool.and_eq_true, decide_eq_true_eq] at h1
  exact h1.1.1
theorem letter_not {c : UInt8} (h : letter c = true) : digit c = false ∧ c ≠ 48 ∧ c ≠ 39 := by
  have hb : 65 ≤ c.toNat := by
    simp only [letter, small, Bool.or_eq_true, Bool.and_eq_true, decide_eq_true_eq] at h
    omega
  have key : ∀ x : UInt8, x.toNat < 65 → c ≠ x := fun x hx e => by subst e; omega
  exact ⟨by unfold digit; simp; omega, key _ (by decide), key _ (by decide)⟩
theorem Lab.operand {name : Str} (h : Lab name) : operandA name = .lab := by
  have h1 := h.ok
  unfold isLabel at h1
  simp only [Bool.and_eq_true, decide_eq_true_eq] at h1
  obtain ⟨⟨h2, h3⟩, h4⟩ := h1
  have hlab := h.ok
  have hreg := h.noReg
  cases name with
  | nil => simp at h3
  | cons c r =>
    obtain ⟨n1, n2, n3⟩ := letter_not h3
    have hp : parseN (c :: r) = .syn := by
      unfold parseN
      rw [if_neg (by simp [n2]), if_neg (by simp [n1])]
    unfold operandA
    rw [hreg, hp]
    have hc : charOf (c :: r) = none := by
      unfold charOf
      split
      · rename_i a b d e
        have := ((List.cons.injEq _ _ _ _).mp e).1
        rw [if_neg (by rw [← this]; simp [n3])]
      · rfl
    show restOpd (c :: r) = _
    unfold restOpd
    split
    · rename_i d e
      exact absurd ((List.cons.injEq _ _ _ _).mp e).1 n2
    · rw [hc]; simp only [hlab, if_true]

/-! ### The lines -/
def jmpT (name : Str) : Str := [106, 109, 112] ++ 32 :: joinA [name]
def jzT (name : Str) : Str := [106, 122] ++ 32 :: joinA [[114, 50], name]
def haltT : Str := [104, 97, 108, 116]
def getT : Str := [103, 101, 116, 32, 114, 49]
theorem jmp_line {name : Str} (h : Lab name) : lineA (jmpT name) = some ([], [106, 109, 112], [name]) :=
  lineA_joinA (by decide) (by decide) (by decide) (by simp) (fun x hx => by rw [List.mem_singleton] at hx; rw [hx]; exact h.opd.arg)
theorem jz_line {name : Str} (h : Lab name) : lineA (jzT name) = some ([], [106, 122], [[114, 50], name]) :=
  lineA_joinA (by decide) (by decide) (by decide) (by simp) (fun x hx => by
    simp only [List.mem_cons, List.not_mem_nil, or_false] at hx
    rcases hx with rfl | rfl
    · exact OpdOk.arg ⟨by decide, by decide⟩
    · exact h.opd.arg)
theorem halt_line : lineA haltT = some ([], haltT, []) := by decide +kernel
theorem get_line : lineA getT = some ([], [103, 101, 116], [[114, 49]]) := by decide +kernel
theorem lab_free {name : Str} (h : Lab name) (c : UInt8) (hc : c = 35 ∨ c = 58 ∨ c = 44 ∨ c = 10) : c ∉ name := fun hm => by
  obtain ⟨_, a, b, d, e⟩ := h.opd.1 c hm
  rcases hc with rfl | rfl | rfl | rfl
  · exact a rfl
  · exact b rfl
  · exact d rfl
  · exact e rfl
theorem lab_line {name rest : Str} (h : Lab name) (h35 : 35 ∉ rest) (ht : Tight (name ++ 58 :: rest)) : labelOf (trimW (upto 35 (name ++ 58 :: rest))) = some (name, trimW rest) := by
  have hf : 35 ∉ name ++ 58 :: rest := by
    intro hm
    simp only [List.mem_append, List.mem_cons] at hm
    rcases hm with hm | hm | hm
    · exact lab_free h 35 (by simp) hm
    · exact absurd hm (by decide)
    · exact h35 hm
  rw [upto_none hf, ht.trim]
  unfold labelOf
  rw [if_pos (by simp), upto_app _ (lab_free h 58 (by simp)), if_pos h.ok, ← List.drop_drop, List.drop_left]
  rfl
theorem colon_line {name : Str} (h : Lab name) : lineA (name ++ [58]) = some (name, [], []) := by
  unfold lineA
  rw [lab_line h (by simp) (Tight.of_all fun c hc => by
    rcases List.mem_append.1 hc with hc | hc
    · exact (h.opd.1 c hc).1
    · rw [List.mem_singleton] at hc; rw [hc]; decide)]
  rfl
theorem again_line {name : Str} (h : Lab name) : lineA (name ++ [58, 32, 104, 97, 108, 116]) = some (name, haltT, []) := by
  have ht : Tight (name ++ [58, 32] ++ haltT) := Tight.join (Tight.of_all fun c hc => (h.opd.1 c hc).1) (Tight.of_all (by decide)) h.opd.2 (by decide) _
  unfold lineA
  rw [lab_line h (rest := [32, 104, 97, 108, 116]) (by decide) (by simpa [haltT] using ht)]
  rfl

/-! ### What they do -/
def jmpW : Nat := word 18 0 0 0
def haltW : Nat := word 26 0 0 0
def getW : Nat := word 23 1 0 0
def jzW : Nat := word 19 2 0 0
theorem halt_step {n : Nat} {st : Sta} (hl : st.code.length < 16384) : stepA n st haltT = .ok { st with code := st.code ++ [haltW] } := by
  unfold stepA
  rw [halt_line]
  simp only [if_true]
  have : Asm.opA n st haltT [] = insA n st 26 [] := rfl
  rw [this]
  show addW st (word 26 0 0 0) = _
  unfold addW
  rw [if_neg (by omega)]
  rfl
theorem get_step {n : Nat} {st : Sta} (hl : st.code.length < 16384) : stepA n st getT = .ok { st with code := st.code ++ [getW] } := by
  unfold stepA
  rw [get_line]
  simp only [if_true]
  have h1 : Asm.opA n st [103, 101, 116] [[114, 49]] = insA n st 23 [[114, 49]] := rfl
  rw [h1]
  have hr : operandA [114, 49] = .reg 1 := by decide
  unfold insA
  rw [if_neg (by decide), show regsOf (([[114, 49]] : List Str).take (nRegs 23)) = some [1] by decide]
  simp only []
  rw [if_neg (by decide)]
  show addW st (word 23 1 0 0) = _
  unfold addW
  rw [if_neg (by omega)]
  rfl
theorem jmp_step {n : Nat} {st : Sta} {name : Str} (h : Lab name) (hl : st.code.length < 16384) : stepA n st (jmpT name) = .ok { st with code := st.code ++ [jmpW], uses := st.uses ++ [(n, st.code.length, name)] } := by
  unfold stepA
  rw [jmp_line h]
  simp only [if_true]
  have h1 : Asm.opA n st [106, 109, 112] [name] = insA n st 18 [name] := rfl
  rw [h1]
  unfold insA
  rw [if_neg (by simp; decide), show nRegs 18 = 0 from by decide]
  simp only [List.take_zero, regsOf, List.getD_cons_zero, h.operand]
  rw [if_pos (by decide)]
  show addW { st with uses := st.uses ++ [(n, st.code.length, name)] } (word 18 0 0 0) = _
  unfold addW
  rw [if_neg (by simp only; omega)]
  rfl
theorem jz_step {n : Nat} {st : Sta} {name : Str} (h : Lab name) (hl : st.code.length < 16384) : stepA n st (jzT name) = .ok { st with code := st.code ++ [jzW], uses := st.uses ++ [(n, st.code.length, name)] } := by
  unfold stepA
  rw [jz_line h]
  simp only [if_true]
  have h1 : Asm.opA n st [106, 122] [[114, 50], name] = insA n st 19 [[114, 50], name] := rfl
  rw [h1]
  have hr : operandA [114, 50] = .reg 2 := by decide
  unfold insA
  rw [if_neg (by simp; decide), show nRegs 19 = 1 from by decide]
  have h2 : regsOf (([[114, 50], name] : List Str).take 1) = some [2] := by simp [regsOf, regOf?, hr]
  rw [h2]
  simp only [List.getD_cons_succ, List.getD_cons_zero, h.operand]
  rw [if_pos (by decide)]
  show addW { st with uses := st.uses ++ [(n, st.code.length, name)] } (word 19 2 0 0) = _
  unfold addW
  rw [if_neg (by simp only; omega)]
  rfl
theorem colon_step {n : Nat} {st : Sta} {name : Str} (h : Lab name) (hp : Asm.placeOf st.labs name = none) : stepA n st (name ++ [58]) = .ok { st with labs := st.labs ++ [(name, st.code.length)] } := by
  unfold stepA
  rw [colon_line h]
  simp only [if_neg h.opd.2, hp, Option.isSome_none, Bool.false_eq_true, if_false]
  rfl
theorem again_step {n : Nat} {st : Sta} {name : Str} (h : Lab name) {p : Nat} (hp : Asm.placeOf st.labs name = some p) : stepA n st (name ++ [58, 32, 104, 97, 108, 116]) = .err 4 := by
  unfold stepA
  rw [again_line h]
  simp only [if_neg h.opd.2, hp, Option.isSome_some, if_true]

theorem halts {n k : Nat} {st : Sta} {m : List Str} (hl : st.code.length + k ≤ 16384) : linesA n st (List.replicate k haltT ++ m) = linesA (n + k) { st with code := st.code ++ List.replicate k haltW } m := by
  induction k generalizing n st with
  | zero => simp
  | succ k ih =>
    rw [List.replicate_succ, List.cons_append, linesA_ok (halt_step (by omega)), ih (by simp only [List.length_append, List.length_cons, List.length_nil]; omega)]
    simp only [List.append_assoc, List.replicate_succ, List.singleton_append]
    rw [show n + 1 + k = n + (k + 1) by omega]
theorem gets {n k : Nat} {st : Sta} {m : List Str} (hl : st.code.length + k ≤ 16384) : linesA n st (List.replicate k getT ++ m) = linesA (n + k) { st with code := st.code ++ List.replicate k getW } m := by
  induction k generalizing n st with
  | zero => simp
  | succ k ih =>
    rw [List.replicate_succ, List.cons_append, linesA_ok (get_step (by omega)), ih (by simp only [List.length_append, List.length_cons, List.length_nil]; omega)]
    simp only [List.append_assoc, List.replicate_succ, List.singleton_append]
    rw [show n + 1 + k = n + (k + 1) by omega]

/-- The text, and its lines. -/
def linesL (a b : Nat) (name : Str) : List Str := jmpT name :: (List.replicate a haltT ++ ((name ++ [58]) :: (List.replicate b getT ++ [jzT name])))
def stL (a b : Nat) (name : Str) : Sta := { code := [jmpW] ++ List.replicate a haltW ++ List.replicate b getW ++ [jzW], data := 0, hasD := false, labs := [(name, a + 1)], uses := [(1, 0, name), (a + b + 3, a + b + 1, name)] }
theorem lines_L {a b : Nat} {name : Str} (h : Lab name) (ha : a ≤ 255) (hb : b ≤ 255) (m : List Str) : linesA 0 st0 (linesL a b name ++ m) = linesA (a + b + 3) (stL a b name) m := by
  have e : linesL a b name ++ m = jmpT name :: (List.replicate a haltT ++ ((name ++ [58]) :: (List.replicate b getT ++ (jzT name :: m)))) := by simp [linesL]
  rw [e, linesA_ok (jmp_step h (by decide)), halts (by simp [st0]; omega), linesA_ok (colon_step h rfl), gets (by simp [st0]; omega), linesA_ok (jz_step h (by simp [st0]; omega))]
  have e1 : 0 + 1 + a + 1 + b + 1 = a + b + 3 := by omega
  simp only [st0, List.nil_append, List.length_append, List.length_replicate, List.length_cons, List.length_nil, e1]
  unfold stL
  congr 2
  · simp; omega
  · simp; omega

def codeL (a b : Nat) : List Nat := [jmpW + (a + 1)] ++ List.replicate a haltW ++ List.replicate b getW ++ [jzW + (a + 1)]
theorem uses_L {a b : Nat} {name : Str} : usesA (stL a b name).labs (stL a b name).code (stL a b name).uses = .inl (codeL a b) := by
  have hp : Asm.placeOf [(name, a + 1)] name = some (a + 1) := by simp [Asm.placeOf]
  unfold stL
  simp only []
  rw [usesA_cons (u := (1, 0, name)) hp, usesA_cons (u := (a + b + 3, a + b + 1, name)) hp]
  unfold usesA
  congr 1
  have e1 : addAt ([jmpW] ++ List.replicate a haltW ++ List.replicate b getW ++ [jzW]) 0 (a + 1) = [jmpW + (a + 1)] ++ List.replicate a haltW ++ List.replicate b getW ++ [jzW] := by
    unfold addAt; simp
  simp only [e1]
  unfold addAt codeL
  have hlen : ([jmpW + (a + 1)] ++ List.replicate a haltW ++ List.replicate b getW).length = a + b + 1 := by first | (simp; done) | (simp; omega)
  rw [← hlen, getD_new, List.set_append_right _ _ (Nat.le_refl _)]
  simp

def flat (k : Nat) (x : Str) : Str := (List.replicate k (x ++ [10])).flatten
theorem flat_succ (k : Nat) (x : Str) : flat (k + 1) x = flat k x ++ (x ++ [10]) := by unfold flat; rw [List.replicate_succ']; simp
theorem flat_len (k : Nat) (x : Str) : (flat k x).length = k * (x.length + 1) := by
  induction k with
  | zero => simp [flat]
  | succ k ih => rw [flat_succ, List.length_append, ih, Nat.succ_mul]; simp
theorem split_line {x r : Str} (h : 10 ∉ x) : splitC 10 (x ++ 10 :: r) = x :: splitC 10 r := by rw [splitC_join, splitC_none h]; rfl
theorem split_flat {x r : Str} (h : 10 ∉ x) : ∀ k, splitC 10 (flat k x ++ r) = List.replicate k x ++ splitC 10 r
  | 0 => by simp [flat]
  | k + 1 => by
    have : flat (k + 1) x ++ r = x ++ 10 :: (flat k x ++ r) := by unfold flat; simp [List.replicate_succ]
    rw [this, split_line h, split_flat h k, List.replicate_succ]; rfl
/-- As it is built. -/
def textL (a b : Nat) (name : Str) : Str := [106, 109, 112, 32] ++ name ++ [10] ++ flat a haltT ++ name ++ [58, 10] ++ flat b getT ++ [106, 122, 32, 114, 50, 44, 32] ++ name
theorem textL_len {a b : Nat} {name : Str} (h : Lab name) (ha : a ≤ 255) (hb : b ≤ 255) : (textL a b name).length ≤ 4000 := by
  have h1 := flat_len a haltT
  have h2 := flat_len b getT
  have h3 := h.len
  have e1 : haltT.length = 4 := rfl
  have e2 : getT.length = 6 := rfl
  rw [e1] at h1
  rw [e2] at h2
  unfold textL
  simp only [List.length_append, List.length_cons, List.length_nil]
  omega
theorem free_jmp {name : Str} (h : Lab name) : 10 ∉ jmpT name := by
  have := lab_free h 10 (by simp)
  simp [jmpT, joinA, this]
theorem free_jz {name : Str} (h : Lab name) : 10 ∉ jzT name := by
  have := lab_free h 10 (by simp)
  simp [jzT, joinA, this]
theorem free_colon {name : Str} (h : Lab name) : 10 ∉ name ++ [58] := by
  have := lab_free h 10 (by simp)
  simp [this]
theorem free_again {name : Str} (h : Lab name) : 10 ∉ name ++ [58, 32, 104, 97, 108, 116] := by
  have := lab_free h 10 (by simp)
  simp [this]
theorem split_L {a b : Nat} {name : Str} (h : Lab name) (r : Str) (m : List Str) (hr : splitC 10 (jzT name ++ r) = jzT name :: m) : splitC 10 (textL a b name ++ r) = linesL a b name ++ m := by
  have e : textL a b name ++ r = jmpT name ++ 10 :: (flat a haltT ++ ((name ++ [58]) ++ 10 :: (flat b getT ++ (jzT name ++ r)))) := by
    unfold textL jmpT jzT joinA
    simp [joinA]
  rw [e, split_line (free_jmp h), split_flat (by decide), split_line (free_colon h), split_flat (by decide), hr]
  simp [linesL]
theorem read_L {a b : Nat} {name : Str} (h : Lab name) (ha : a ≤ 255) (hb : b ≤ 255) : readA (textL a b name) = ((codeL a b, 0), 0, 0) := by
  have hl := textL_len (a := a) (b := b) h ha hb
  have hs := split_L (a := a) (b := b) h [] [] (by rw [List.append_nil]; exact splitC_none (free_jz h))
  rw [List.append_nil] at hs
  refine readA_good (st := stL a b name) (by omega) ?_ uses_L
  rw [hs, lines_L h ha hb]
  rfl
theorem read_again {a b : Nat} {name : Str} (h : Lab name) (ha : a ≤ 255) (hb : b ≤ 255) : readA (textL a b name ++ [10] ++ name ++ [58, 32, 104, 97, 108, 116]) = (([], 0), a + b + 4, 4) := by
  have hl := textL_len (a := a) (b := b) h ha hb
  have hn := h.len
  have e : textL a b name ++ [10] ++ name ++ [58, 32, 104, 97, 108, 116] = textL a b name ++ (10 :: (name ++ [58, 32, 104, 97, 108, 116])) := by simp
  have hs := split_L (a := a) (b := b) h (10 :: (name ++ [58, 32, 104, 97, 108, 116])) [name ++ [58, 32, 104, 97, 108, 116]] (by rw [split_line (free_jz h), splitC_none (free_again h)])
  rw [e]
  refine readA_bad (by simp only [List.length_append, List.length_cons, List.length_nil]; omega) ?_
  rw [hs, lines_L h ha hb]
  have hp : Asm.placeOf (stL a b name).labs name = some (a + 1) := by simp [stL, Asm.placeOf]
  rw [linesA_bad (again_step (n := a + b + 3 + 1) h hp)]

end Go.Proofs.YtifciocionlciaaDoor

namespace Go.Proofs.YtifciocionlciaaDoor
open Go Go.Am Go.Asm

set_option maxHeartbeats 2000000 in
theorem ParseR_A (s : Str) (hl : s.length ≤ 1000000000) : PureR Tryd.prog 61 [sv s] (· = prV (parseN s)) := by
  refine pure_of_wp Tt_ok mixed Tryd.func61 rfl (by rfl) [2, 3] rfl (by kernel_rfl) (by simp [Tryd.ntmps61]) fun g => ?_
  cases s with
  | nil =>
    simp (config := { maxSteps := 1000000 }) only [go_sem, ↓reduceIte, Nat.reduceEqDiff, Nat.reduceAdd, Nat.reduceMul, Nat.reduceSub, Nat.reduceLT, Nat.reduceLeDiff, Int.reduceLT, Int.reduceLE, Int.reduceEq, Int.reduceNe, Int.reduceAdd, Int.reduceNeg, Int.reduceToNat]
    rfl
  | cons a r =>
  by_cases h48 : 1 < (a :: r).length ∧ a = 48
  · have hp : parseN (a :: r) = .syn := by rw [parseN, if_pos (.inr ⟨h48.1, by rw [h48.2]; rfl⟩)]
    rw [hp]
    have e3 : (1 : Int) < ((r.length + 1 : Nat) : Int) := by have := h48.1; simp only [List.length_cons] at this; omega
    have e2 : (a.toNat : Int) = 48 := by rw [h48.2]; rfl
    have e4 : ¬ ((r.length + 1 : Nat) : Int) = 0 := by omega
    simp (config := { maxSteps := 1000000 }) only [go_sem, ↓reduceIte, Nat.reduceEqDiff, Nat.reduceAdd, Nat.reduceMul, Nat.reduceSub, Nat.reduceLT, Nat.reduceLeDiff, Int.reduceLT, Int.reduceLE, Int.reduceEq, Int.reduceNe, Int.reduceAdd, Int.reduceNeg, Int.reduceToNat, e2, e3, e4]
    try rfl
  have hpn : parseN (a :: r) = if (a :: r).all digit = true then (if 4294967295 < decN (a :: r) then .rng else .ok (decN (a :: r))) else .syn := by
    rw [parseN, if_neg]
    rintro (h | ⟨h1, h2⟩)
    · cases h
    · exact h48 ⟨h1, by simpa using h2⟩
  rw [hpn]
  have e4 : ¬ ((r.length + 1 : Nat) : Int) = 0 := by omega
  simp (config := { maxSteps := 1000000 }) only [go_sem, ↓reduceIte, Nat.reduceEqDiff, Nat.reduceAdd, Nat.reduceMul, Nat.reduceSub, Nat.reduceLT, Nat.reduceLeDiff, Int.reduceLT, Int.reduceLE, Int.reduceEq, Int.reduceNe, Int.reduceAdd, Int.reduceNeg, Int.reduceToNat, e4]
  refine ⟨fun h1 => ⟨fun h2 => absurd (show 1 < (a :: r).length ∧ a = 48 from ⟨by simp only [List.length_cons]; omega, u8_eq (d := 48) h2⟩) h48, fun h2 => ?_⟩, fun h1 => ?_⟩
  all_goals
    refine loop_intro (fun n st => ∃ k : Nat, n + k = (a :: r).length ∧ st.f 0 = sv (a :: r) ∧ st.f 5 = iv .i64 k ∧ st.f 4 = iv .u64 (min (decN ((a :: r).take k)) 4294967296 : Nat) ∧ ((a :: r).take k).all digit = true) (a :: r).length ?_ ?_
    · refine ⟨0, rfl, ?_⟩
      simp (config := { maxSteps := 1000000 }) only [go_sem, ↓reduceIte, Nat.reduceEqDiff, Nat.reduceAdd, Nat.reduceMul, Nat.reduceSub, Nat.reduceLT, Nat.reduceLeDiff, Int.reduceLT, Int.reduceLE, Int.reduceEq, Int.reduceNe, Int.reduceAdd, Int.reduceNeg, Int.reduceToNat]
      exact ⟨rfl, rfl⟩
    generalize a :: r = s at hl ⊢
    rintro n f g ob ⟨k, hk, q0, q5, q4, hall⟩
    simp only at q0 q5 q4
    have hw := wrap_succ (k := k) (by omega)
    by_cases hlt : k < s.length
    · obtain ⟨c, hc⟩ := getq hlt
      have hcm := List.mem_of_getElem? hc
      cases hd : digit c
      · have hno : s.all digit = false := by rw [List.all_eq_false]; exact ⟨c, hcm, by simp [hd]⟩
        rw [if_neg (by rw [hno]; simp)]
        have h3 := digit_not hd
        simp (config := { maxSteps := 1000000 }) only [go_sem, ↓reduceIte, Nat.reduceEqDiff, Nat.reduceAdd, Nat.reduceMul, Nat.reduceSub, Nat.reduceLT, Nat.reduceLeDiff, Int.reduceLT, Int.reduceLE, Int.reduceEq, Int.reduceNe, Int.reduceAdd, Int.reduceNeg, Int.reduceToNat, q0, q5, q4, hc, hlt]
        refine ⟨fun _ => rfl, fun h4 => ⟨fun _ => rfl, fun h5 => ?_⟩⟩
        exfalso; omega
      · have h3 := digit_dom hd
        have h4 : ¬ (c.toNat : Int) < 48 := by omega
        have h5 : ¬ (57 : Int) < (c.toNat : Int) := by omega
        have hnx := decN_take hc
        generalize decN (s.take k) = m at q4 hnx
        have w1 : IntKind.u64.wrap (((min m 4294967296 : Nat) : Int) * 10) = ((min m 4294967296 * 10 : Nat) : Int) := by rw [IntKind.wrap_u64]; omega
        have w2 : IntKind.u8.wrap ((c.toNat : Int) - 48) = ((c.toNat - 48 : Nat) : Int) := by rw [IntKind.wrap_u8]; omega
        have w3 : IntKind.u64.wrap ((c.toNat - 48 : Nat) : Int) = ((c.toNat - 48 : Nat) : Int) := by rw [IntKind.wrap_u64]; omega
        have w4 : IntKind.u64.wrap (((min m 4294967296 * 10 : Nat) : Int) + ((c.toNat - 48 : Nat) : Int)) = ((min m 4294967296 * 10 + (c.toNat - 48) : Nat) : Int) := by rw [IntKind.wrap_u64]; omega
        simp (config := { maxSteps := 1000000 }) only [go_sem, ↓reduceIte, Nat.reduceEqDiff, Nat.reduceAdd, Nat.reduceMul, Nat.reduceSub, Nat.reduceLT, Nat.reduceLeDiff, Int.reduceLT, Int.reduceLE, Int.reduceEq, Int.reduceNe, Int.reduceAdd, Int.reduceNeg, Int.reduceToNat, q0, q5, q4, hc, hlt, h4, h5, w1, w2, w3, w4]
        refine ⟨fun hg => ?_, fun hg => ?_⟩
        · simp (config := { maxSteps := 1000000 }) only [go_sem, ↓reduceIte, Nat.reduceEqDiff, Nat.reduceAdd, Nat.reduceMul, Nat.reduceSub, Nat.reduceLT, Nat.reduceLeDiff, Int.reduceLT, Int.reduceLE, Int.reduceEq, Int.reduceNe, Int.reduceAdd, Int.reduceNeg, Int.reduceToNat, q5, hw]
          refine round_end (n - 1) (by omega) ⟨k + 1, by omega, ?_⟩
          simp (config := { maxSteps := 1000000 }) only [go_sem, ↓reduceIte, Nat.reduceEqDiff, Nat.reduceAdd, Nat.reduceMul, Nat.reduceSub, Nat.reduceLT, Nat.reduceLeDiff, Int.reduceLT, Int.reduceLE, Int.reduceEq, Int.reduceNe, Int.reduceAdd, Int.reduceNeg, Int.reduceToNat, q0]
          refine ⟨?_, all_take hc hall hd⟩
          rw [hnx]; omega
        · simp (config := { maxSteps := 1000000 }) only [go_sem, ↓reduceIte, Nat.reduceEqDiff, Nat.reduceAdd, Nat.reduceMul, Nat.reduceSub, Nat.reduceLT, Nat.reduceLeDiff, Int.reduceLT, Int.reduceLE, Int.reduceEq, Int.reduceNe, Int.reduceAdd, Int.reduceNeg, Int.reduceToNat, q5, hw]
          refine round_end (n - 1) (by omega) ⟨k + 1, by omega, ?_⟩
          simp (config := { maxSteps := 1000000 }) only [go_sem, ↓reduceIte, Nat.reduceEqDiff, Nat.reduceAdd, Nat.reduceMul, Nat.reduceSub, Nat.reduceLT, Nat.reduceLeDiff, Int.reduceLT, Int.reduceLE, Int.reduceEq, Int.reduceNe, Int.reduceAdd, Int.reduceNeg, Int.reduceToNat, q0]
          refine ⟨?_, all_take hc hall hd⟩
          rw [hnx]; omega
    · rw [List.take_of_length_le (by omega)] at hall q4
      rw [if_pos hall]
      simp (config := { maxSteps := 1000000 }) only [go_sem, ↓reduceIte, Nat.reduceEqDiff, Nat.reduceAdd, Nat.reduceMul, Nat.reduceSub, Nat.reduceLT, Nat.reduceLeDiff, Int.reduceLT, Int.reduceLE, Int.reduceEq, Int.reduceNe, Int.reduceAdd, Int.reduceNeg, Int.reduceToNat, q0, q5, q4, hlt]
      refine ⟨fun hg => ?_, fun hg => ?_⟩
      · rw [if_pos (by omega)]; rfl
      · have w5 : IntKind.u32.wrap ((min (decN s) 4294967296 : Nat) : Int) = (decN s : Int) := by rw [IntKind.wrap_u32]; omega
        rw [if_neg (by omega), w5]; rfl

end Go.Proofs.YtifciocionlciaaDoor

namespace Go.Proofs.YtifciocionlciaaDoor
open Go Go.Am Go.Asm

def regI (s : Str) : Int := match regOf s with | some n => (n : Nat) | none => -1
theorem regOf_cons (r : Str) : regOf (114 :: r) = (match parseN r with | .ok n => if n ≤ 15 then some n else none | _ => none) := rfl

set_option maxHeartbeats 4000000 in
theorem registerR_A (s : Str) (hl : s.length ≤ 1000000) : PureR Tryd.prog 42 [sv s] (· = iv .i64 (regI s)) := by
  refine pure_of_wp Tt_ok mixed Tryd.func42 rfl (by rfl) [2] rfl (by kernel_rfl) (by simp [Tryd.ntmps42]) fun g => ?_
  cases s with
  | nil =>
    simp (config := { maxSteps := 1000000 }) only [go_sem, ↓reduceIte, Nat.reduceEqDiff, Nat.reduceAdd, Nat.reduceMul, Nat.reduceSub, Nat.reduceLT, Nat.reduceLeDiff, Int.reduceLT, Int.reduceLE, Int.reduceEq, Int.reduceNe, Int.reduceAdd, Int.reduceNeg, Int.reduceToNat]
    rfl
  | cons c r =>
    by_cases hr : r = []
    · subst hr
      have : regI [c] = -1 := by
        unfold regI
        by_cases hc : c = 114
        · subst hc; rw [regOf_cons]; rfl
        · have : regOf [c] = none := by
            unfold regOf
            split
            · rename_i x e; exact absurd ((List.cons.injEq _ _ _ _).mp e).1 hc
            · rfl
          rw [this]
      rw [this]
      simp (config := { maxSteps := 1000000 }) only [go_sem, ↓reduceIte, Nat.reduceEqDiff, Nat.reduceAdd, Nat.reduceMul, Nat.reduceSub, Nat.reduceLT, Nat.reduceLeDiff, Int.reduceLT, Int.reduceLE, Int.reduceEq, Int.reduceNe, Int.reduceAdd, Int.reduceNeg, Int.reduceToNat]
    have hrl : ¬ ((r.length + 1 : Nat) : Int) < 2 := by have := List.length_pos_iff.2 hr; omega
    by_cases hc : c = 114
    case neg =>
      have hci : ¬ (c.toNat : Int) = 114 := u8_ne (d := 114) hc
      have : regI (c :: r) = -1 := by
        unfold regI
        have : regOf (c :: r) = none := by
          unfold regOf
          split
          · rename_i x e; exact absurd ((List.cons.injEq _ _ _ _).mp e).1 hc
          · rfl
        rw [this]
      rw [this]
      simp (config := { maxSteps := 1000000 }) only [go_sem, ↓reduceIte, Nat.reduceEqDiff, Nat.reduceAdd, Nat.reduceMul, Nat.reduceSub, Nat.reduceLT, Nat.reduceLeDiff, Int.reduceLT, Int.reduceLE, Int.reduceEq, Int.reduceNe, Int.reduceAdd, Int.reduceNeg, Int.reduceToNat, hrl, hci]
    subst hc
    have hci : ((114 : UInt8).toNat : Int) = 114 := rfl
    simp (config := { maxSteps := 1000000 }) only [go_sem, ↓reduceIte, Nat.reduceEqDiff, Nat.reduceAdd, Nat.reduceMul, Nat.reduceSub, Nat.reduceLT, Nat.reduceLeDiff, Int.reduceLT, Int.reduceLE, Int.reduceEq, Int.reduceNe, Int.reduceAdd, Int.reduceNeg, Int.reduceToNat, hrl, hci, List.take_of_length_le, Nat.le_refl]
    refine hook_call rfl (by simp (config := { maxSteps := 1000000 }) only [go_sem, ↓reduceIte, Nat.reduceEqDiff, Nat.reduceAdd, Nat.reduceMul, Nat.reduceSub, Nat.reduceLT, Nat.reduceLeDiff, Int.reduceLT, Int.reduceLE, Int.reduceEq, Int.reduceNe, Int.reduceAdd, Int.reduceNeg, Int.reduceToNat]; exact ParseR_A r (by simp only [List.length_cons] at hl; omega)) (by simp (config := { maxSteps := 1000000 }) only [go_sem, ↓reduceIte, Nat.reduceEqDiff, Nat.reduceAdd, Nat.reduceMul, Nat.reduceSub, Nat.reduceLT, Nat.reduceLeDiff, Int.reduceLT, Int.reduceLE, Int.reduceEq, Int.reduceNe, Int.reduceAdd, Int.reduceNeg, Int.reduceToNat]; rfl) ?_
    rintro _ rfl
    have hreg := regOf_cons r
    unfold regI
    rw [hreg]
    cases hp : parseN r with
    | ok n =>
      unfold prV
      by_cases h15 : n ≤ 15
      · have h15i : ¬ (15 : Int) < (n : Int) := by omega
        have hw : IntKind.i64.wrap (n : Int) = (n : Int) := by rw [IntKind.wrap_i64] <;> omega
        simp (config := { maxSteps := 1000000 }) only [go_sem, ↓reduceIte, Nat.reduceEqDiff, Nat.reduceAdd, Nat.reduceMul, Nat.reduceSub, Nat.reduceLT, Nat.reduceLeDiff, Int.reduceLT, Int.reduceLE, Int.reduceEq, Int.reduceNe, Int.reduceAdd, Int.reduceNeg, Int.reduceToNat, h15i, hw, h15]
      · have h15i : (15 : Int) < (n : Int) := by omega
        simp (config := { maxSteps := 1000000 }) only [go_sem, ↓reduceIte, Nat.reduceEqDiff, Nat.reduceAdd, Nat.reduceMul, Nat.reduceSub, Nat.reduceLT, Nat.reduceLeDiff, Int.reduceLT, Int.reduceLE, Int.reduceEq, Int.reduceNe, Int.reduceAdd, Int.reduceNeg, Int.reduceToNat, h15i, h15]
    | syn =>
      unfold prV
      simp (config := { maxSteps := 1000000 }) only [go_sem, ↓reduceIte, Nat.reduceEqDiff, Nat.reduceAdd, Nat.reduceMul, Nat.reduceSub, Nat.reduceLT, Nat.reduceLeDiff, Int.reduceLT, Int.reduceLE, Int.reduceEq, Int.reduceNe, Int.reduceAdd, Int.reduceNeg, Int.reduceToNat]
    | rng =>
      unfold prV
      simp (config := { maxSteps := 1000000 }) only [go_sem, ↓reduceIte, Nat.reduceEqDiff, Nat.reduceAdd, Nat.reduceMul, Nat.reduceSub, Nat.reduceLT, Nat.reduceLeDiff, Int.reduceLT, Int.reduceLE, Int.reduceEq, Int.reduceNe, Int.reduceAdd, Int.reduceNeg, Int.reduceToNat]
theorem RegisterR_A (s : Str) (hl : s.length ≤ 1000000) : PureR Tryd.prog 21 [sv s] (· = bv (regOf s).isSome) := by
  refine pure_of_wp Tt_ok mixed Tryd.func21 rfl (by rfl) [2] rfl (by kernel_rfl) (by simp [Tryd.ntmps21]) fun g => ?_
  simp (config := { maxSteps := 1000000 }) only [go_sem, ↓reduceIte, Nat.reduceEqDiff, Nat.reduceAdd, Nat.reduceMul, Nat.reduceSub, Nat.reduceLT, Nat.reduceLeDiff, Int.reduceLT, Int.reduceLE, Int.reduceEq, Int.reduceNe, Int.reduceAdd, Int.reduceNeg, Int.reduceToNat]
  refine hook_call rfl (by simp (config := { maxSteps := 1000000 }) only [go_sem, ↓reduceIte, Nat.reduceEqDiff, Nat.reduceAdd, Nat.reduceMul, Nat.reduceSub, Nat.reduceLT, Nat.reduceLeDiff, Int.reduceLT, Int.reduceLE, Int.reduceEq, Int.reduceNe, Int.reduceAdd, Int.reduceNeg, Int.reduceToNat]; exact registerR_A s hl) (by simp (config := { maxSteps := 1000000 }) only [go_sem, ↓reduceIte, Nat.reduceEqDiff, Nat.reduceAdd, Nat.reduceMul, Nat.reduceSub, Nat.reduceLT, Nat.reduceLeDiff, Int.reduceLT, Int.reduceLE, Int.reduceEq, Int.reduceNe, Int.reduceAdd, Int.reduceNeg, Int.reduceToNat]; rfl) ?_
  rintro _ rfl
  unfold regI
  cases regOf s with
  | none => simp (config := { maxSteps := 1000000 }) only [go_sem, ↓reduceIte, Nat.reduceEqDiff, Nat.reduceAdd, Nat.reduceMul, Nat.reduceSub, Nat.reduceLT, Nat.reduceLeDiff, Int.reduceLT, Int.reduceLE, Int.reduceEq, Int.reduceNe, Int.reduceAdd, Int.reduceNeg, Int.reduceToNat]; rfl
  | some n =>
    have : (0 : Int) ≤ (n : Nat) := by omega
    simp (config := { maxSteps := 1000000 }) only [go_sem, ↓reduceIte, Nat.reduceEqDiff, Nat.reduceAdd, Nat.reduceMul, Nat.reduceSub, Nat.reduceLT, Nat.reduceLeDiff, Int.reduceLT, Int.reduceLE, Int.reduceEq, Int.reduceNe, Int.reduceAdd, Int.reduceNeg, Int.reduceToNat, this]

theorem codeL_len (a b : Nat) : (codeL a b).length = a + b + 2 := by simp [codeL]; omega
theorem codeL_first (a b : Nat) : (codeL a b)[0]? = some (jmpW + (a + 1)) := by simp [codeL]
theorem codeL_last (a b : Nat) : (codeL a b)[a + b + 1]? = some (jzW + (a + 1)) := by
  unfold codeL
  have hlen : ([jmpW + (a + 1)] ++ List.replicate a haltW ++ List.replicate b getW).length = a + b + 1 := by first | (simp; done) | (simp; omega)
  rw [List.getElem?_append_right (by omega), hlen]
  simp

set_option maxHeartbeats 16000000 in
set_option maxRecDepth 100000 in
theorem AsmLabels_G {o : Obj} (ho : SmallO o) (a b : Nat) (name : Str) (ha : a < 256) (hb : b < 256) (hn : name.length ≤ 4000000000000000000) : PureG Tryd.prog 3 o 8 [iv .u8 a, iv .u8 b, sv name] (· = bv true) := by
  refine pure_of_wpG2 0 3 o Tt_ok mixed Tryd.func8 rfl (by rfl) [.tmp 6] rfl (by kernel_rfl) (by kernel_rfl) (by simp [Tryd.ntmps8]) fun b₀ β0 s0 w0 g => ?_
  simp (config := { maxSteps := 1000000 }) only [go_sem, ↓reduceIte, Nat.reduceEqDiff, Nat.reduceAdd, Nat.reduceMul, Nat.reduceSub, Nat.reduceLT, Nat.reduceLeDiff, Int.reduceLT, Int.reduceLE, Int.reduceEq, Int.reduceNe, Int.reduceAdd, Int.reduceNeg, Int.reduceToNat]
  refine hook_callF kept_phiG rfl (by simp (config := { maxSteps := 1000000 }) only [go_sem, ↓reduceIte, Nat.reduceEqDiff, Nat.reduceAdd, Nat.reduceMul, Nat.reduceSub, Nat.reduceLT, Nat.reduceLeDiff, Int.reduceLT, Int.reduceLE, Int.reduceEq, Int.reduceNe, Int.reduceAdd, Int.reduceNeg, Int.reduceToNat]; exact isLabelR_A name hn) (by simp (config := { maxSteps := 1000000 }) only [go_sem, ↓reduceIte, Nat.reduceEqDiff, Nat.reduceAdd, Nat.reduceMul, Nat.reduceSub, Nat.reduceLT, Nat.reduceLeDiff, Int.reduceLT, Int.reduceLE, Int.reduceEq, Int.reduceNe, Int.reduceAdd, Int.reduceNeg, Int.reduceToNat]; rfl) ?_
  rintro _ rfl
  cases hlab : isLabel name
  · simp (config := { maxSteps := 1000000 }) only [go_sem, ↓reduceIte, Nat.reduceEqDiff, Nat.reduceAdd, Nat.reduceMul, Nat.reduceSub, Nat.reduceLT, Nat.reduceLeDiff, Int.reduceLT, Int.reduceLE, Int.reduceEq, Int.reduceNe, Int.reduceAdd, Int.reduceNeg, Int.reduceToNat]
    refine hook_callG kept_phiG (fun s β ds w h => h.1.2) rfl (by simp (config := { maxSteps := 1000000 }) only [go_sem, ↓reduceIte, Nat.reduceEqDiff, Nat.reduceAdd, Nat.reduceMul, Nat.reduceSub, Nat.reduceLT, Nat.reduceLeDiff, Int.reduceLT, Int.reduceLE, Int.reduceEq, Int.reduceNe, Int.reduceAdd, Int.reduceNeg, Int.reduceToNat]; exact awake_G ho) (by simp (config := { maxSteps := 1000000 }) only [go_sem, ↓reduceIte, Nat.reduceEqDiff, Nat.reduceAdd, Nat.reduceMul, Nat.reduceSub, Nat.reduceLT, Nat.reduceLeDiff, Int.reduceLT, Int.reduceLE, Int.reduceEq, Int.reduceNe, Int.reduceAdd, Int.reduceNeg, Int.reduceToNat]; rfl) ?_
    rintro _ rfl
    simp (config := { maxSteps := 1000000 }) only [go_sem, ↓reduceIte, Nat.reduceEqDiff, Nat.reduceAdd, Nat.reduceMul, Nat.reduceSub, Nat.reduceLT, Nat.reduceLeDiff, Int.reduceLT, Int.reduceLE, Int.reduceEq, Int.reduceNe, Int.reduceAdd, Int.reduceNeg, Int.reduceToNat]
  have hl20 : name.length ≤ 20 := by
    unfold isLabel at hlab
    simp only [Bool.and_eq_true, decide_eq_true_eq] at hlab
    exact hlab.1.1
  simp (config := { maxSteps := 1000000 }) only [go_sem, ↓reduceIte, Nat.reduceEqDiff, Nat.reduceAdd, Nat.reduceMul, Nat.reduceSub, Nat.reduceLT, Nat.reduceLeDiff, Int.reduceLT, Int.reduceLE, Int.reduceEq, Int.reduceNe, Int.reduceAdd, Int.reduceNeg, Int.reduceToNat]
  refine hook_callF kept_phiG rfl (by simp (config := { maxSteps := 1000000 }) only [go_sem, ↓reduceIte, Nat.reduceEqDiff, Nat.reduceAdd, Nat.reduceMul, Nat.reduceSub, Nat.reduceLT, Nat.reduceLeDiff, Int.reduceLT, Int.reduceLE, Int.reduceEq, Int.reduceNe, Int.reduceAdd, Int.reduceNeg, Int.reduceToNat]; exact RegisterR_A name (by omega)) (by simp (config := { maxSteps := 1000000 }) only [go_sem, ↓reduceIte, Nat.reduceEqDiff, Nat.reduceAdd, Nat.reduceMul, Nat.reduceSub, Nat.reduceLT, Nat.reduceLeDiff, Int.reduceLT, Int.reduceLE, Int.reduceEq, Int.reduceNe, Int.reduceAdd, Int.reduceNeg, Int.reduceToNat]; rfl) ?_
  rintro _ rfl
  cases hreg : regOf name with
  | some x =>
    simp (config := { maxSteps := 1000000 }) only [go_sem, ↓reduceIte, Nat.reduceEqDiff, Nat.reduceAdd, Nat.reduceMul, Nat.reduceSub, Nat.reduceLT, Nat.reduceLeDiff, Int.reduceLT, Int.reduceLE, Int.reduceEq, Int.reduceNe, Int.reduceAdd, Int.reduceNeg, Int.reduceToNat]
    refine hook_callG kept_phiG (fun s β ds w h => h.1.2) rfl (by simp (config := { maxSteps := 1000000 }) only [go_sem, ↓reduceIte, Nat.reduceEqDiff, Nat.reduceAdd, Nat.reduceMul, Nat.reduceSub, Nat.reduceLT, Nat.reduceLeDiff, Int.reduceLT, Int.reduceLE, Int.reduceEq, Int.reduceNe, Int.reduceAdd, Int.reduceNeg, Int.reduceToNat]; exact awake_G ho) (by simp (config := { maxSteps := 1000000 }) only [go_sem, ↓reduceIte, Nat.reduceEqDiff, Nat.reduceAdd, Nat.reduceMul, Nat.reduceSub, Nat.reduceLT, Nat.reduceLeDiff, Int.reduceLT, Int.reduceLE, Int.reduceEq, Int.reduceNe, Int.reduceAdd, Int.reduceNeg, Int.reduceToNat]; rfl) ?_
    rintro _ rfl
    simp (config := { maxSteps := 1000000 }) only [go_sem, ↓reduceIte, Nat.reduceEqDiff, Nat.reduceAdd, Nat.reduceMul, Nat.reduceSub, Nat.reduceLT, Nat.reduceLeDiff, Int.reduceLT, Int.reduceLE, Int.reduceEq, Int.reduceNe, Int.reduceAdd, Int.reduceNeg, Int.reduceToNat]
  | none =>
  have hL : Lab name := ⟨hlab, hreg⟩
  have wA : IntKind.i64.wrap (a : Int) = (a : Int) := by rw [IntKind.wrap_i64] <;> omega
  have wB : IntKind.i64.wrap (b : Int) = (b : Int) := by rw [IntKind.wrap_i64] <;> omega
  simp (config := { maxSteps := 1000000 }) only [go_sem, ↓reduceIte, Nat.reduceEqDiff, Nat.reduceAdd, Nat.reduceMul, Nat.reduceSub, Nat.reduceLT, Nat.reduceLeDiff, Int.reduceLT, Int.reduceLE, Int.reduceEq, Int.reduceNe, Int.reduceAdd, Int.reduceNeg, Int.reduceToNat, Option.isSome_none, List.length_append]
  repeat (refine And.intro (by omega) ?_)
  refine loop_introF (fun nn st => ∃ k : Nat, nn + k = a ∧ st.f 0 = iv .u8 a ∧ st.f 1 = iv .u8 b ∧ st.f 2 = sv name ∧ st.f 7 = sv ([106, 109, 112, 32] ++ name ++ [10] ++ flat k haltT) ∧ st.f 8 = iv .i64 k) a ?_ ?_
  · refine ⟨0, by omega, ?_⟩
    simp (config := { maxSteps := 1000000 }) only [go_sem, ↓reduceIte, Nat.reduceEqDiff, Nat.reduceAdd, Nat.reduceMul, Nat.reduceSub, Nat.reduceLT, Nat.reduceLeDiff, Int.reduceLT, Int.reduceLE, Int.reduceEq, Int.reduceNe, Int.reduceAdd, Int.reduceNeg, Int.reduceToNat, flat, List.replicate_zero, List.flatten_nil]
  rintro nn f g ob ⟨k, hk, q0, q1, q2, q7, q8⟩
  simp only at q0 q1 q2 q7 q8
  have hw := wrap_succ (k := k) (by omega)
  have hfl := flat_len k haltT
  have e4 : haltT.length = 4 := rfl
  have e6 : getT.length = 6 := rfl
  rw [e4] at hfl
  by_cases hlt : k < a
  · have hki : (k : Int) < (a : Int) := by omega
    simp (config := { maxSteps := 1000000 }) only [go_sem, ↓reduceIte, Nat.reduceEqDiff, Nat.reduceAdd, Nat.reduceMul, Nat.reduceSub, Nat.reduceLT, Nat.reduceLeDiff, Int.reduceLT, Int.reduceLE, Int.reduceEq, Int.reduceNe, Int.reduceAdd, Int.reduceNeg, Int.reduceToNat, q0, q7, q8, wA, hki, hw, List.length_append]
    repeat (refine And.intro (by omega) ?_)
    refine ⟨nn - 1, _, by omega, SemVs.refl _, k + 1, by omega, ?_⟩
    simp (config := { maxSteps := 1000000 }) only [go_sem, ↓reduceIte, Nat.reduceEqDiff, Nat.reduceAdd, Nat.reduceMul, Nat.reduceSub, Nat.reduceLT, Nat.reduceLeDiff, Int.reduceLT, Int.reduceLE, Int.reduceEq, Int.reduceNe, Int.reduceAdd, Int.reduceNeg, Int.reduceToNat, q0, q1, q2, flat_succ]
    simp [haltT]
  have hki : ¬ (k : Int) < (a : Int) := by omega
  have hka : k = a := by omega
  rw [hka] at q7 q8 hfl hki
  simp (config := { maxSteps := 1000000 }) only [go_sem, ↓reduceIte, Nat.reduceEqDiff, Nat.reduceAdd, Nat.reduceMul, Nat.reduceSub, Nat.reduceLT, Nat.reduceLeDiff, Int.reduceLT, Int.reduceLE, Int.reduceEq, Int.reduceNe, Int.reduceAdd, Int.reduceNeg, Int.reduceToNat, q0, q7, q8, wA, hki, q1, q2, List.length_append]
  repeat (refine And.intro (by omega) ?_)
  clear hki hlt hk hw hka q7 q8
  refine loop_introF (fun nn st => ∃ k : Nat, nn + k = b ∧ st.f 0 = iv .u8 a ∧ st.f 1 = iv .u8 b ∧ st.f 2 = sv name ∧ st.f 7 = sv ([106, 109, 112, 32] ++ name ++ [10] ++ flat a haltT ++ name ++ [58, 10] ++ flat k getT) ∧ st.f 9 = iv .i64 k) b ?_ ?_
  · refine ⟨0, by omega, ?_⟩
    simp (config := { maxSteps := 1000000 }) only [go_sem, ↓reduceIte, Nat.reduceEqDiff, Nat.reduceAdd, Nat.reduceMul, Nat.reduceSub, Nat.reduceLT, Nat.reduceLeDiff, Int.reduceLT, Int.reduceLE, Int.reduceEq, Int.reduceNe, Int.reduceAdd, Int.reduceNeg, Int.reduceToNat, flat, List.replicate_zero, List.flatten_nil, q0, q1, q2]
  rintro nn f g ob ⟨k, hk, q0, q1, q2, q7, q9⟩
  simp only at q0 q1 q2 q7 q9
  have hw := wrap_succ (k := k) (by omega)
  have hfl2 := flat_len k getT
  rw [e6] at hfl2
  by_cases hlt : k < b
  · have hki : (k : Int) < (b : Int) := by omega
    simp (config := { maxSteps := 1000000 }) only [go_sem, ↓reduceIte, Nat.reduceEqDiff, Nat.reduceAdd, Nat.reduceMul, Nat.reduceSub, Nat.reduceLT, Nat.reduceLeDiff, Int.reduceLT, Int.reduceLE, Int.reduceEq, Int.reduceNe, Int.reduceAdd, Int.reduceNeg, Int.reduceToNat, q1, q7, q9, wB, hki, hw, List.length_append]
    repeat (refine And.intro (by omega) ?_)
    refine ⟨nn - 1, _, by omega, SemVs.refl _, k + 1, by omega, ?_⟩
    simp (config := { maxSteps := 1000000 }) only [go_sem, ↓reduceIte, Nat.reduceEqDiff, Nat.reduceAdd, Nat.reduceMul, Nat.reduceSub, Nat.reduceLT, Nat.reduceLeDiff, Int.reduceLT, Int.reduceLE, Int.reduceEq, Int.reduceNe, Int.reduceAdd, Int.reduceNeg, Int.reduceToNat, q0, q1, q2, flat_succ]
    simp [getT]
  have hki : ¬ (k : Int) < (b : Int) := by omega
  have hkb : k = b := by omega
  rw [hkb] at q7 q9 hfl2 hki
  simp (config := { maxSteps := 1000000 }) only [go_sem, ↓reduceIte, Nat.reduceEqDiff, Nat.reduceAdd, Nat.reduceMul, Nat.reduceSub, Nat.reduceLT, Nat.reduceLeDiff, Int.reduceLT, Int.reduceLE, Int.reduceEq, Int.reduceNe, Int.reduceAdd, Int.reduceNeg, Int.reduceToNat, q1, q7, q9, wB, hki, q2, List.length_append]
  repeat (refine And.intro (by omega) ?_)
  have e1 := read_L (a := a) (b := b) hL (by omega) (by omega)
  have e2 := read_again (a := a) (b := b) hL (by omega) (by omega)
  unfold textL at e1 e2
  simp only [List.cons_append, List.nil_append] at e1 e2
  refine hook_callG kept_phiG (fun s β ds w h => h.1.2) rfl (by simp (config := { maxSteps := 1000000 }) only [go_sem, ↓reduceIte, Nat.reduceEqDiff, Nat.reduceAdd, Nat.reduceMul, Nat.reduceSub, Nat.reduceLT, Nat.reduceLeDiff, Int.reduceLT, Int.reduceLE, Int.reduceEq, Int.reduceNe, Int.reduceAdd, Int.reduceNeg, Int.reduceToNat]; exact Read_G ho _) (by simp (config := { maxSteps := 1000000 }) only [go_sem, ↓reduceIte, Nat.reduceEqDiff, Nat.reduceAdd, Nat.reduceMul, Nat.reduceSub, Nat.reduceLT, Nat.reduceLeDiff, Int.reduceLT, Int.reduceLE, Int.reduceEq, Int.reduceNe, Int.reduceAdd, Int.reduceNeg, Int.reduceToNat]; rfl) ?_
  rintro _ rfl
  rw [e1]
  unfold readV imgV codeD
  have wA1 : IntKind.i64.wrap ((a : Int) + 1) = ((a + 1 : Nat) : Int) := by rw [IntKind.wrap_i64] <;> omega
  simp (config := { maxSteps := 1000000 }) only [go_sem, ↓reduceIte, Nat.reduceEqDiff, Nat.reduceAdd, Nat.reduceMul, Nat.reduceSub, Nat.reduceLT, Nat.reduceLeDiff, Int.reduceLT, Int.reduceLE, Int.reduceEq, Int.reduceNe, Int.reduceAdd, Int.reduceNeg, Int.reduceToNat, q0, wA, wA1, q2, List.length_append]
  repeat (refine And.intro (by omega) ?_)
  refine hook_callG kept_phiG (fun s β ds w h => h.1.2) rfl (by simp (config := { maxSteps := 1000000 }) only [go_sem, ↓reduceIte, Nat.reduceEqDiff, Nat.reduceAdd, Nat.reduceMul, Nat.reduceSub, Nat.reduceLT, Nat.reduceLeDiff, Int.reduceLT, Int.reduceLE, Int.reduceEq, Int.reduceNe, Int.reduceAdd, Int.reduceNeg, Int.reduceToNat]; exact Read_G ho _) (by simp (config := { maxSteps := 1000000 }) only [go_sem, ↓reduceIte, Nat.reduceEqDiff, Nat.reduceAdd, Nat.reduceMul, Nat.reduceSub, Nat.reduceLT, Nat.reduceLeDiff, Int.reduceLT, Int.reduceLE, Int.reduceEq, Int.reduceNe, Int.reduceAdd, Int.reduceNeg, Int.reduceToNat]; rfl) ?_
  rintro _ rfl
  rw [e2]
  unfold readV imgV codeD
  simp (config := { maxSteps := 1000000 }) only [go_sem, ↓reduceIte, Nat.reduceEqDiff, Nat.reduceAdd, Nat.reduceMul, Nat.reduceSub, Nat.reduceLT, Nat.reduceLeDiff, Int.reduceLT, Int.reduceLE, Int.reduceEq, Int.reduceNe, Int.reduceAdd, Int.reduceNeg, Int.reduceToNat]
  refine hook_callG kept_phiG (fun s β ds w h => h.1.2) rfl (by simp (config := { maxSteps := 1000000 }) only [go_sem, ↓reduceIte, Nat.reduceEqDiff, Nat.reduceAdd, Nat.reduceMul, Nat.reduceSub, Nat.reduceLT, Nat.reduceLeDiff, Int.reduceLT, Int.reduceLE, Int.reduceEq, Int.reduceNe, Int.reduceAdd, Int.reduceNeg, Int.reduceToNat]; exact awake_G ho) (by simp (config := { maxSteps := 1000000 }) only [go_sem, ↓reduceIte, Nat.reduceEqDiff, Nat.reduceAdd, Nat.reduceMul, Nat.reduceSub, Nat.reduceLT, Nat.reduceLeDiff, Int.reduceLT, Int.reduceLE, Int.reduceEq, Int.reduceNe, Int.reduceAdd, Int.reduceNeg, Int.reduceToNat]; rfl) ?_
  rintro _ rfl
  have hcl := codeL_len a b
  have hc0 : ((codeL a b).map fun n => [D.int .u32 (n : Nat)])[0]? = some [.int .u32 ((jmpW + (a + 1) : Nat) : Int)] := code_get (codeL_first a b)
  have hc1 : ((codeL a b).map fun n => [D.int .u32 (n : Nat)])[a + b + 1]? = some [.int .u32 ((jzW + (a + 1) : Nat) : Int)] := code_get (codeL_last a b)
  have w1 : IntKind.i64.wrap (((a + 1 : Nat) : Int) + (b : Int)) = ((a + 1 + b : Nat) : Int) := by rw [IntKind.wrap_i64] <;> omega
  have w2 : IntKind.i64.wrap (((a + 1 + b : Nat) : Int) + 1) = ((a + b + 2 : Nat) : Int) := by rw [IntKind.wrap_i64] <;> omega
  have w3 := wrapN (a + 1) (by omega)
  have w4 : IntKind.u32.wrap (301989888 + ((a + 1 : Nat) : Int)) = ((jmpW + (a + 1) : Nat) : Int) := by unfold jmpW word; rw [IntKind.wrap_u32]; omega
  have w5 : IntKind.i64.wrap (((a + b + 2 : Nat) : Int) - 1) = ((a + b + 1 : Nat) : Int) := by rw [IntKind.wrap_i64] <;> omega
  have w6 : IntKind.u32.wrap (320864256 + ((a + 1 : Nat) : Int)) = ((jzW + (a + 1) : Nat) : Int) := by unfold jzW word; rw [IntKind.wrap_u32]; omega
  have w7 : IntKind.i64.wrap (((a + 1 + b : Nat) : Int) + 3) = ((a + b + 4 : Nat) : Int) := by rw [IntKind.wrap_i64] <;> omega
  have hz0 : (0 : Int) ≤ ((a + b + 1 : Nat) : Int) := by omega
  have hf0 := codeL_first a b
  have hf1 := codeL_last a b
  simp (config := { maxSteps := 1000000 }) only [go_sem, ↓reduceIte, Nat.reduceEqDiff, Nat.reduceAdd, Nat.reduceMul, Nat.reduceSub, Nat.reduceLT, Nat.reduceLeDiff, Int.reduceLT, Int.reduceLE, Int.reduceEq, Int.reduceNe, Int.reduceAdd, Int.reduceNeg, Int.reduceToNat, List.append_eq, hcl, hf0, hf1, q1, wB, w1, w2, w3, w4, w5, w6, w7, hz0]

end Go.Proofs.YtifciocionlciaaDoor

namespace Go.Am
open Go.ChangeShapes Go.WideShapes Go.ChangeAt Go.RowKit
variable {H : Type} {enc : TypeId × Value → H}

theorem returns_of_law_laidX {C : Checked} {os : Os} {f : FuncId} {fn : Func} {s : ChangeSpec} {conds : List PathCond} {laid : List (String × DataW Unit)} (own : ownKnob C.prog.godebug = none) (started : os.Started) (noInit : C.prog.inits.idxOf? f = none) (hfn : C.prog.funcs[f]? = some fn)
    (witness : ∃ (w : World) (tape : Tape) (i : Input), w.os = os ∧ (w.forCall tape i).Shaped C.prog ∧ i.vars = [] ∧ Input.okWide C.prog (w.forCall tape i) .any w.heap.size f i ∧
      ((s.pre enc C.prog fn conds false (w.forCall tape i).memory i.args ∧ laidMetH C.prog laid (w.forCall tape i).memory) ∧ sizedMet enc C.prog fn (OpenSpec.ofChange s) false (w.forCall tape i).memory i.args) ∧ Assume.holds {} C.prog (lone (Frame.enter C.prog f i.args .normal) [] (w.forCall tape i)))
    (hvars : s.vars = []) (hl : laidOutB C.prog = true) (hts : fn.params.toList.all (fun t => C.prog.readableRec t && decide (t < C.prog.types.size)) = true) {tb : TypeId} (hres : fn.resultTypes = #[tb]) (htb : C.prog.underlying tb = some .bool)
    (hspec : ∀ ds : List (DataW H), ds.length = fn.params.toList.length → s.fn H ds = { results := [.lit (.bool true)], args := ds })
    (hcall : ∀ (W : World) (base : Nat) (args : Array Value) (ds : List (DataW H)) (ps : List MemPlace), laidMetH C.prog laid W → (∀ (j : Nat) t v, fn.params[j]? = some t → args[j]? = some v → Value.okWide C.prog W .any base t v) → DataW.TrodAll enc C.prog W 0 (fun _ => true) true fn.params.toList args.toList ds ps → (DataW.weightsEach C.prog fn.params.toList ds).all (· ≤ reachBytes) = true → SaysTrue C.prog f args W) :
    ReturnsInHanded {} C os f .any (fun w args => (s.pre enc C.prog fn conds false w args ∧ laidMetH C.prog laid w) ∧ sizedMet enc C.prog fn (OpenSpec.ofChange s) false w args) (s.post enc C.prog fn false true false false) := by
  refine returnsInHanded_of_change_and (X := fun w _ => laidMetH C.prog laid w) (fun _ _ _ hh h => h.of_heap hh) own started noInit hfn witness ?_
  intro W base args ds gs before hval hW hcnd hsz hX _
  have hW' := hW
  obtain ⟨p, q, hA, hV, rfl, hfz, hnd⟩ := hW
  rw [hvars] at hV
  obtain ⟨rfl, rfl⟩ := trodVars_none hV
  have hvt : s.plain.varTypes C.prog = [] := by simp [ChangeSpec.plain, DataSpec.varTypes, hvars]
  rw [hvt, List.append_nil, List.append_nil] at hsz
  refine (hcall W base args ds p hX hval hA hsz).mono fun e W' ⟨he, hs, hb, ho⟩ => ⟨_, he, ?_⟩
  have hlt : ∀ x ∈ p, x.block < W.heap.size := fun x hx => hW'.lt x (by simp [hx])
  have hsp : s.fn H (ds ++ []) = { results := [.lit (.bool true)], args := ds } := by rw [List.append_nil]; exact hspec ds (trodAll_len _ _ _ _ hA)
  refine ⟨ds, [], p ++ [], [], p, [], hW', ?_, ?_, ?_, kept_of hb ho _, fun h => by cases h⟩
  · rw [hsp, hres]
    exact trodAll_mk1 ⟨1, by simp [DataW.trod, htb, Value.cells]⟩
  · rw [hsp]
    exact trodAll_stays hl hb _ _ _ _ hts hlt hA
  · rw [hsp, hvars]
    exact rfl

theorem says_of_pureG {P : Program} {w : World} {gb : Nat} {o : Obj} (hG : Held gb o w) {f : FuncId} {args : List AV} (h : PureG P gb o f args (· = bv true)) {vs : List Value} (hv : RVs (fun b => b < w.heap.size) w args vs) : SaysTrue P f vs.toArray w := by
  refine (h.2 _ w vs hG (fun _ h => h) hv).mono fun e w' ⟨v, r, h1, h2, h3, h4, h5, h6⟩ => ⟨?_, h3, h4, h5⟩
  subst h2
  simp only [RV] at h6
  obtain ⟨x, hx, hr⟩ := h6
  cases hx
  cases hr
  exact h1

end Go.Am

namespace Go.Am

/-- A guard that holds. -/
def GuardOk (ops : Array Oper) (o : Oper) (s : St) : Prop := match o.guard with | none => True | some (j, w) => ∃ d, ((ops[j]?).bind (·.dst)) = some d ∧ s.f d = bv w
def GdE (ops : Array Oper) (e : Ent) (s : St) : Prop := match e.o.guard with | none => True | some (j, w) => ∃ d, ((ops[j]?).bind (·.dst)) = some d ∧ d ∈ e.rd ∧ s.f d = bv w
theorem GdE.ok {ops : Array Oper} {e : Ent} {s s' : St} (h : GdE ops e s) (hr : ∀ r ∈ e.rd, s'.f r = s.f r) : GuardOk ops e.o s' := by
  unfold GdE at h
  unfold GuardOk
  cases hg : e.o.guard with
  | none => trivial
  | some p =>
    obtain ⟨j, w⟩ := p
    rw [hg] at h
    obtain ⟨d, h1, h2, h3⟩ := h
    exact ⟨d, h1, by rw [hr d h2]; exact h3⟩
def StepG (S : Sp) (T : Nat → TI) (ops : Array Oper) (ids : List Nat) (e : Ent) (s : St) (v : AV) (m : List (Nat × Option (List C))) : Prop := StepE S T ids e s v m ∧ GdE ops e s
def LastG (S : Sp) (T : Nat → TI) (ops : Array Oper) (e : Ent) (s : St) (K : St → Prop) : Prop := LastE S T e.o s K ∧ GdE ops e s

def wpDetG (S : Sp) (T : Nat → TI) (ops : Array Oper) (ids : List Nat) : List Ent → St → {K : St → Prop} → Box K → Prop
  | [], s, K, _ => K s
  | e :: r, s, K, k => match e.full with
    | true => LastG S T ops e s K
    | false => ∃ v m, (m.length = e.ef.length ∧ StepG S T ops ids e s v m) ∧ wpDetG S T ops ids r (effS ids e v m s) k

theorem det_traceG {S : Sp} {T : Nat → TI} {ops : Array Oper} {ids : List Nat} {K : St → Prop} {k : Box K} : ∀ (l : List Ent) (s : St), wpDetG S T ops ids l s k → (∀ i e, l[i]? = some e → e.full = true → i + 1 = l.length) →
    ∃ t : Nat → St, t 0 = s ∧ (∀ i e, l[i]? = some e → e.full = false → ∃ v m, (m.length = e.ef.length ∧ StepG S T ops ids e (t i) v m) ∧ t (i + 1) = effS ids e v m (t i)) ∧ (∀ i e, l[i]? = some e → e.full = true → LastG S T ops e (t i) K) ∧
      ((∀ (i : Nat) (e : Ent), l[i]? = some e → e.full = false) → K (t l.length))
  | [], s, h, _ => ⟨fun _ => s, rfl, fun i e hi => (by simp at hi), fun i e hi => (by simp at hi), fun _ => h⟩
  | e :: r, s, h, hl => by
    unfold wpDetG at h
    cases hf : e.full with
    | true =>
      rw [hf] at h
      have h0 := hl 0 e rfl hf
      have : r = [] := List.eq_nil_of_length_eq_zero (by simpa using h0)
      subst this
      refine ⟨fun _ => s, rfl, fun i e' hi hf' => ?_, fun i e' hi _ => ?_, fun ha => ?_⟩
      · cases i with
        | zero => simp at hi; subst hi; rw [hf] at hf'; cases hf'
        | succ i => simp at hi
      · cases i with
        | zero => simp at hi; subst hi; exact h
        | succ i => simp at hi
      · have := ha 0 e rfl; rw [hf] at this; cases this
    | false =>
      rw [hf] at h
      obtain ⟨v, m, hs, hr⟩ := h
      obtain ⟨t, t0, t1, t2, t3⟩ := det_traceG r _ hr (fun i e' hi hf' => by have := hl (i + 1) e' (by simpa using hi) hf'; simpa using this)
      refine ⟨fun i => match i with | 0 => s | i + 1 => t i, rfl, fun i e' hi hf' => ?_, fun i e' hi hf' => ?_, fun ha => ?_⟩
      · cases i with
        | zero => simp at hi; subst hi; exact ⟨v, m, hs, t0⟩
        | succ i => exact t1 i e' (by simpa using hi) hf'
      · cases i with
        | zero => simp at hi; subst hi; rw [hf] at hf'; cases hf'
        | succ i => exact t2 i e' (by simpa using hi) hf'
      · exact t3 (fun i e' hi => ha (i + 1) e' (by rw [List.getElem?_cons_succ]; exact hi))


def okDetTG (ops : Array Oper) (tb : List (List Nat × List Nat × List Nat × Bool)) (nid : Nat) (tab : List (List Nat)) : Bool :=
  backB ops && clOk ops tab && (tb.length == ops.size) &&
  (List.range ops.size).all fun i => (((ops[i]?).bind fun o => (tb[i]?).map fun t =>
    (t.1.all fun r => (List.range ops.size).all fun j => inCl tab i j || ((ops[j]?).map fun o' => decide (o'.dst ≠ some r)).getD false) &&
    ((List.range ops.size).all fun j => i == j || ((ops[j]?).map fun o' => o'.dst.isNone || decide (o'.dst ≠ o.dst)).getD false) &&
    ((List.range nid).all fun a => t.2.1.contains a || (List.range ops.size).all fun j => inCl tab i j || inCl tab j i || i == j || ((tb[j]?).map fun t' => !t'.2.2.1.contains a).getD false) &&
    (t.2.1.all fun a => decide (a < nid)) && (t.2.2.1.all fun a => decide (a < nid)) && (t.2.2.1.all fun a => (List.range ops.size).all fun j => inCl tab i j || inCl tab j i || i == j || ((tb[j]?).map fun t' => !t'.2.2.1.contains a).getD false) &&
    (!t.2.2.2 || (i + 1 == ops.size && (List.range i).all fun j => inCl tab i j))).getD false)

def okDetG (ops : Array Oper) (tb : List (List Nat × List Nat × List Nat × Bool)) (nid : Nat) : Bool := okDetTG ops tb nid (clTab ops)

section
variable {P : Program} {T : Nat → TI} {b₀ : Bs} {β : Loc} {w : World}
theorem det_invG {S : Sp} {ops : Array Oper} {s : St} {Q : Exit → St → Prop} (ids : List Nat) (tb : List (List Nat × List Nat × List Nat × Bool)) (nid : Nat) (hok : okDetG ops tb nid = true) (hnid : ids.length = nid) (hnd : ids.Nodup)
    (h : wpDetG S T ops ids (zipE ops.toList tb) s (bx fun s' => Q .normal s')) : backB ops = true ∧ ∃ I : (Nat → Bool) → St → Prop, I (fun _ => false) s ∧
      (∀ (L : Nat → Bool) (s : St) (i : Nat) (o : Oper), I L s → ops[i]? = some o → L i = false → (∀ e ∈ o.after.toList, Region.binds .any e = true → L e.on = true) →
        (∀ j o', L j = true → ops[j]? = some o' → ∀ e ∈ o'.after.toList, Region.binds .any e = true → L e.on = true) → GuardOk ops o s ∧ opA S T o s (bx fun s' => I (upd L i true) s')) ∧
      (∀ L s', I L s' → (∀ i, i < ops.size → L i = true) → Q .normal s') := by
  subst hnid
  unfold okDetG okDetTG at hok
  generalize clTab ops = tab at hok
  simp only [Bool.and_eq_true, beq_iff_eq] at hok
  obtain ⟨⟨⟨hbk, hcl⟩, htl⟩, hall⟩ := hok
  have hzl : (zipE ops.toList tb).length = ops.size := by rw [zipE_len (by simpa using htl)]; simp
  have hent : ∀ i, i < ops.size → ∃ e, (zipE ops.toList tb)[i]? = some e ∧ ops[i]? = some e.o ∧ tb[i]? = some (e.rd, e.hd, e.ef, e.full) := fun i hi => by
    have h1 : i < (zipE ops.toList tb).length := by omega
    refine ⟨_, List.getElem?_eq_getElem h1, ?_⟩
    have := zipE_get (List.getElem?_eq_getElem h1)
    simpa using this
  have hinj : ∀ a b, a < ids.length → b < ids.length → ids.getD a 0 = ids.getD b 0 → a = b := fun a b ha hb e => by
    rw [List.getD_eq_getElem?_getD, List.getD_eq_getElem?_getD, List.getElem?_eq_getElem ha, List.getElem?_eq_getElem hb] at e
    simp only [Option.getD_some] at e
    exact (List.getElem_inj hnd).1 e
  -- the checks, by operation
  have hchk : ∀ (i : Nat) (e : Ent), i < ops.size → ops[i]? = some e.o → tb[i]? = some (e.rd, e.hd, e.ef, e.full) →
      (∀ r ∈ e.rd, ∀ (j : Nat) (e' : Oper), j < ops.size → ops[j]? = some e' → e'.dst = some r → inCl tab i j = true) ∧
      (∀ (j : Nat) (o' : Oper), j < ops.size → j ≠ i → ops[j]? = some o' → o'.dst = none ∨ o'.dst ≠ e.o.dst) ∧
      (∀ a, a < ids.length → a ∉ e.hd → ∀ j t', j < ops.size → tb[j]? = some t' → a ∈ t'.2.2.1 → inCl tab i j = true ∨ inCl tab j i = true ∨ i = j) ∧
      (∀ a ∈ e.hd, a < ids.length) ∧ (∀ a ∈ e.ef, a < ids.length) ∧
      (∀ a ∈ e.ef, ∀ j t', j < ops.size → tb[j]? = some t' → a ∈ t'.2.2.1 → inCl tab i j = true ∨ inCl tab j i = true ∨ i = j) ∧
      (e.full = true → i + 1 = ops.size ∧ ∀ j, j < i → inCl tab i j = true) := by
    intro i e hi ho ht
    have h1 := List.all_eq_true.1 hall i (List.mem_range.2 hi)
    rw [ho, ht] at h1
    simp only [Option.bind_some, Option.map_some, Option.getD_some, Bool.and_eq_true] at h1
    obtain ⟨⟨⟨⟨⟨⟨c1, c2⟩, c3⟩, c4⟩, c5⟩, c6⟩, c7⟩ := h1
    refine ⟨fun r hr j o' hj hoj hd => ?_, fun j o' hj hne hoj => ?_, fun a ha hna j t' hj htj hat => ?_, fun a ha => ?_, fun a ha => ?_, fun a ha j t' hj htj hat => ?_, fun hf => ?_⟩
    · have := List.all_eq_true.1 (List.all_eq_true.1 c1 r hr) j (List.mem_range.2 hj)
      rw [hoj] at this
      simp only [Option.map_some, Option.getD_some, Bool.or_eq_true, decide_eq_true_eq] at this
      rcases this with h | h
      · exact h
      · exact absurd hd h
    · have := List.all_eq_true.1 c2 j (List.mem_range.2 hj)
      rw [hoj] at this
      simp only [Option.map_some, Option.getD_some, Bool.or_eq_true, decide_eq_true_eq, beq_iff_eq, Option.isNone_iff_eq_none] at this
      rcases this with h | h | h
      · exact absurd h.symm hne
      · exact .inl h
      · exact .inr h
    · have := List.all_eq_true.1 c3 a (List.mem_range.2 ha)
      simp only [Bool.or_eq_true, List.contains_iff_mem, List.all_eq_true, List.mem_range] at this
      rcases this with h | h
      · exact absurd h hna
      · have := h j hj
        rw [htj] at this
        simp only [Option.map_some, Option.getD_some, beq_iff_eq, Bool.not_eq_true'] at this
        rcases this with ((h | h) | h) | h
        · exact .inl h
        · exact .inr (.inl h)
        · exact .inr (.inr h)
        · rw [List.contains_iff_mem.2 hat] at h; cases h
    · exact of_decide_eq_true (List.all_eq_true.1 c4 a ha)
    · exact of_decide_eq_true (List.all_eq_true.1 c5 a ha)
    · have := List.all_eq_true.1 (List.all_eq_true.1 c6 a ha) j (List.mem_range.2 hj)
      rw [htj] at this
      simp only [Option.map_some, Option.getD_some, Bool.or_eq_true, beq_iff_eq, Bool.not_eq_true'] at this
      rcases this with ((h | h) | h) | h
      · exact .inl h
      · exact .inr (.inl h)
      · exact .inr (.inr h)
      · rw [List.contains_iff_mem.2 hat] at h; cases h
    · rw [hf] at c7
      simp only [Bool.not_true, Bool.false_or, Bool.and_eq_true, beq_iff_eq, List.all_eq_true, List.mem_range] at c7
      exact c7
  have hfull : ∀ (i : Nat) (e : Ent), (zipE ops.toList tb)[i]? = some e → e.full = true → i + 1 = (zipE ops.toList tb).length := fun i e hi hf => by
    have hlt : i < ops.size := by rw [← hzl]; exact (List.getElem?_eq_some_iff.1 hi).1
    have h2 := zipE_get hi
    rw [hzl]
    exact ((hchk i e hlt (by simpa using h2.1) h2.2).2.2.2.2.2.2 hf).1
  obtain ⟨t, t0, t1, t2, t3⟩ := det_traceG _ _ h hfull
  let dst : Nat → Option Nat := fun i => (ops[i]?).bind (·.dst)
  let ef : Nat → List Nat := fun i => ((tb[i]?).map (·.2.2.1)).getD []
  -- how the trace goes
  have tf : ∀ (i : Nat) (e : Ent), i < ops.size → (zipE ops.toList tb)[i]? = some e → e.full = false → ∀ d, dst i ≠ some d → (t (i + 1)).f d = (t i).f d := fun i e hi he hf d hd => by
    obtain ⟨v, m, _, h2⟩ := t1 i e he hf
    rw [h2]
    have h3 : ops[i]? = some e.o := by simpa using (zipE_get he).1
    simp only [dst, h3, Option.bind_some] at hd
    simp only [effS]
    cases hq : e.o.dst with
    | none => rfl
    | some d' => simp only [putF, upd]; rw [if_neg (fun e' => hd (by rw [hq, e']))]
  have tm : ∀ (i : Nat) (e : Ent), i < ops.size → (zipE ops.toList tb)[i]? = some e → e.full = false → ∀ id, (∀ a ∈ ef i, ids.getD a 0 ≠ id) → (t (i + 1)).gen id = (t i).gen id ∧ (t (i + 1)).obj id = (t i).obj id := fun i e hi he hf id hd => by
    obtain ⟨v, m, _, h2⟩ := t1 i e he hf
    rw [h2]
    have h3 := (zipE_get he).2
    simp only [ef, h3, Option.map_some, Option.getD_some] at hd
    simp only [effS]
    exact ⟨setm_other hd, setm_other hd⟩
  -- how many are walked by themselves
  obtain ⟨N, hN, hNf, hNl⟩ : ∃ N, N ≤ ops.size ∧ (∀ (i : Nat) (e : Ent), i < N → (zipE ops.toList tb)[i]? = some e → e.full = false) ∧ (N = ops.size ∨ (N + 1 = ops.size ∧ ∃ e, (zipE ops.toList tb)[N]? = some e ∧ e.full = true)) := by
    by_cases hlast : ∃ (i : Nat) (e : Ent), (zipE ops.toList tb)[i]? = some e ∧ e.full = true
    · obtain ⟨i, e, he, hf⟩ := hlast
      have h1 := hfull i e he hf
      rw [hzl] at h1
      refine ⟨i, by omega, fun j e' hj hj' => ?_, .inr ⟨h1, e, he, hf⟩⟩
      cases hq : e'.full with
      | false => rfl
      | true => have := hfull j e' hj' hq; rw [hzl] at this; omega
    · refine ⟨ops.size, Nat.le_refl _, fun j e' hj hj' => ?_, .inl rfl⟩
      cases hq : e'.full with
      | false => rfl
      | true => exact absurd ⟨j, e', hj', hq⟩ hlast
  have tfs : ∀ (d k i : Nat), i ≤ k → k ≤ N → (∀ j, i ≤ j → j < k → dst j ≠ some d) → (t k).f d = (t i).f d := by
    intro d k
    induction k with
    | zero => intro i hi _ _; rw [show i = 0 by omega]
    | succ k ih =>
      intro i hi hk hd
      by_cases hik : i = k + 1
      · subst hik; rfl
      · obtain ⟨e, he, _, _⟩ := hent k (by omega)
        rw [tf k e (by omega) he (hNf k e (by omega) he) d (hd k (by omega) (by omega))]
        exact ih i (by omega) (by omega) (fun j h1 h2 => hd j h1 (by omega))
  have tms : ∀ (id k i : Nat), i ≤ k → k ≤ N → (∀ j, i ≤ j → j < k → ∀ a ∈ ef j, ids.getD a 0 ≠ id) → (t k).gen id = (t i).gen id ∧ (t k).obj id = (t i).obj id := by
    intro id k
    induction k with
    | zero => intro i hi _ _; rw [show i = 0 by omega]; exact ⟨rfl, rfl⟩
    | succ k ih =>
      intro i hi hk hd
      by_cases hik : i = k + 1
      · subst hik; exact ⟨rfl, rfl⟩
      · obtain ⟨e, he, _, _⟩ := hent k (by omega)
        obtain ⟨m1, m2⟩ := tm k e (by omega) he (hNf k e (by omega) he) id (hd k (by omega) (by omega))
        rw [m1, m2]
        exact ih i (by omega) (by omega) (fun j h1 h2 => hd j h1 (by omega))
  have hdist : ∀ (i j d : Nat), i < ops.size → j < ops.size → dst i = some d → dst j = some d → i = j := fun i j d hi hj h1 h2 => by
    rcases Nat.lt_or_ge i j with hij | hij
    · exfalso
      obtain ⟨e, he, ho, htb⟩ := hent i hi
      obtain ⟨e', he', ho', htb'⟩ := hent j hj
      simp only [dst, ho, ho', Option.bind_some] at h1 h2
      rcases (hchk i e hi ho htb).2.1 j e'.o hj (by omega) ho' with h | h
      · rw [h] at h2; cases h2
      · exact h (by rw [h1, h2])
    · rcases Nat.lt_or_ge j i with hji | hji
      · exfalso
        obtain ⟨e, he, ho, htb⟩ := hent i hi
        obtain ⟨e', he', ho', htb'⟩ := hent j hj
        simp only [dst, ho, ho', Option.bind_some] at h1 h2
        rcases (hchk i e hi ho htb).2.1 j e'.o hj (by omega) ho' with h | h
        · rw [h] at h2; cases h2
        · exact h (by rw [h1, h2])
      · omega
  -- where all have come up, it is the text's state
  have hsame : ∀ (k : Nat) (L : Nat → Bool) (s' : St), k = N → (∀ i, i < k → L i = true) → DetI N dst ef ids t L s' → s' = t k := by
    rintro k L ⟨f', g', o'⟩ rfl hL hI
    have h1 : f' = (t k).f := by
      funext d
      by_cases hd : ∃ i, i < k ∧ dst i = some d
      · obtain ⟨i, hi, hd⟩ := hd
        rw [show f' d = _ from hI.f i d hi hd (hL i hi)]
        exact (tfs d k (i + 1) (by omega) (Nat.le_refl _) (fun j h1 h2 h3 => by have := hdist i j d (by omega) (by omega) hd h3; omega)).symm
      · have h0 : ∀ i, i < k → dst i ≠ some d := fun i hi h => hd ⟨i, hi, h⟩
        rw [show f' d = _ from hI.f0 d h0]
        exact (tfs d k 0 (by omega) (Nat.le_refl _) (fun j _ h2 => h0 j h2)).symm
    have h2 : g' = (t k).gen := funext fun id => (hI.m id k (Nat.le_refl _) (fun j a hj _ _ => ⟨fun _ => hj, fun _ => hL j hj⟩)).1
    have h3 : o' = (t k).obj := funext fun id => (hI.m id k (Nat.le_refl _) (fun j a hj _ _ => ⟨fun _ => hj, fun _ => hL j hj⟩)).2
    rw [h1, h2, h3]
  refine ⟨hbk, fun L s' => (N < ops.size → L N = true → Q .normal s') ∧ ((N < ops.size → L N = false) → DetI N dst ef ids t L s'), ?_, ?_, ?_⟩
  · refine ⟨fun _ h => (by cases h), fun _ => ⟨fun i d _ _ h => (by cases h), fun d _ => by rw [t0], fun id k hk hc => ?_⟩⟩
    have := tms id k 0 (by omega) hk (fun j _ hj a ha e => by have := (hc j a (by omega) ha e).2 hj; cases this)
    rw [this.1, this.2, t0]
    exact ⟨rfl, rfl⟩
  · intro L s' i o hI ho hL hdep hid
    have hi := (Array.getElem?_eq_some_iff.1 ho).1
    obtain ⟨e, he, ho', htb⟩ := hent i hi
    obtain rfl : o = e.o := by rw [ho] at ho'; cases ho'; rfl
    have hcls := cl_listed hcl hid i e.o ho hdep
    have hck := hchk i e hi ho htb
    by_cases hiN : i < N
    · have hLN : N < ops.size → L N = false := fun hlt => by
        cases hq : L N with
        | false => rfl
        | true =>
          exfalso
          rcases hNl with h | ⟨h, e2, he2, hf2⟩
          · omega
          · have hz := zipE_get he2
            have ho2 : ops[N]? = some e2.o := by simpa using hz.1
            have := (hchk N e2 hlt ho2 hz.2).2.2.2.2.2.2 hf2
            have h3 := cl_listed hcl hid N e2.o ho2 (fun e' he' hb' => hid N _ hq ho2 e' he' hb') i (this.2 i hiN)
            rw [hL] at h3
            exact absurd h3.1 (by simp)
      have hD := hI.2 hLN
      obtain ⟨v, m, ⟨hml, hst, hgd⟩, hn⟩ := t1 i e he (hNf i e hiN he)
      have hr1 : ∀ r ∈ e.rd, s'.f r = (t i).f r := fun r hr => by
        by_cases hd : ∃ j, j < N ∧ dst j = some r
        · obtain ⟨j, hj, hd⟩ := hd
          obtain ⟨e2, he2, ho2, _⟩ := hent j (by omega)
          have hd2 : e2.o.dst = some r := by simpa [dst, ho2] using hd
          obtain ⟨hLj, hji⟩ := hcls j (hck.1 r hr j e2.o (by omega) ho2 hd2)
          rw [hD.f j r hj hd hLj]
          exact (tfs r i (j + 1) (by omega) (by omega) (fun k h1 h2 h3 => by have := hdist j k r (by omega) (by omega) hd h3; omega)).symm
        · have h0 : ∀ j, j < N → dst j ≠ some r := fun j hj h => hd ⟨j, hj, h⟩
          rw [hD.f0 r h0]
          exact (tfs r i 0 (by omega) (by omega) (fun j _ h2 => h0 j (by omega))).symm
      have r1 : maskf e.rd (t i).f s'.f = s'.f := maskf_same hr1
      have hvis : ∀ id, (∀ a ∈ e.hd, ids.getD a 0 ≠ id) → s'.gen id = (t i).gen id ∧ s'.obj id = (t i).obj id := fun id hv => by
        refine hD.m id i (by omega) (fun j a hj ha hai => ?_)
        obtain ⟨e2, he2, ho2, htb2⟩ := hent j (by omega)
        have ha2 : a ∈ e2.ef := by simpa [ef, htb2] using ha
        have halt : a < ids.length := (hchk j e2 (by omega) ho2 htb2).2.2.2.2.1 a ha2
        rcases hck.2.2.1 a halt (fun h => hv a h hai) j _ (by omega) htb2 ha2 with h | h | h
        · have := hcls j h
          exact ⟨fun _ => this.2, fun _ => this.1⟩
        · constructor
          · intro hLj
            have := cl_listed hcl hid j e2.o ho2 (fun e' he' hb' => hid j _ hLj ho2 e' he' hb') i h
            rw [hL] at this
            exact absurd this.1 (by simp)
          · intro hji
            exfalso
            have h1 := List.all_eq_true.1 hcl j (List.mem_range.2 (by omega))
            have h2 := List.all_eq_true.1 h1 i (by simpa [inCl] using h)
            simp only [Bool.and_eq_true, decide_eq_true_eq] at h2
            omega
        · subst h
          rw [hL]
          exact ⟨fun h => (by cases h), fun h => (by omega)⟩
      have r2 : maskm ids e.hd (t i).gen s'.gen = s'.gen := maskm_same fun id hv => (hvis id hv).1
      have r3 : maskm ids e.hd (t i).obj s'.obj = s'.obj := maskm_same fun id hv => (hvis id hv).2
      have h1 := hst s'.f s'.gen s'.obj
      rw [r1, r2, r3] at h1
      refine ⟨hgd.ok hr1, h1 _ ?_⟩
      refine ⟨fun hlt h => ?_, fun _ => ⟨fun j d hj hd hLj => ?_, fun d hd => ?_, fun id k hk hc => ?_⟩⟩
      · simp only [upd] at h
        rw [if_neg (by omega), hLN hlt] at h
        cases h
      · simp only [upd] at hLj
        by_cases hji : j = i
        · subst hji
          have hd2 : e.o.dst = some d := by simpa [dst, ho] using hd
          rw [hn]
          simp only [effS, hd2, putF, upd, if_true]
        · rw [if_neg hji] at hLj
          have hne : e.o.dst ≠ some d := fun h => hji (hdist j i d (by omega) hi hd (by simpa [dst, ho] using h))
          rw [← hD.f j d hj hd hLj]
          simp only [effS]
          cases hq : e.o.dst with
          | none => rfl
          | some d' => simp only [putF, upd]; rw [if_neg (fun e' => hne (by rw [hq, e']))]
      · rw [← hD.f0 d hd]
        have hne : e.o.dst ≠ some d := fun h => hd i hiN (by simpa [dst, ho] using h)
        simp only [effS]
        cases hq : e.o.dst with
        | none => rfl
        | some d' => simp only [putF, upd]; rw [if_neg (fun e' => hne (by rw [hq, e']))]
      · have hef : ef i = e.ef := by simp [ef, htb]
        by_cases hmine : ∃ a ∈ e.ef, ids.getD a 0 = id
        · obtain ⟨a, ha, hai⟩ := hmine
          have hik : i < k := (hc i a hiN (by rw [hef]; exact ha) hai).1 (by simp [upd])
          have halt := hck.2.2.2.2.1 a ha
          have := tms id k (i + 1) (by omega) hk (fun j h1 h2 b hb hbi => by
            obtain ⟨e2, he2, ho2, htb2⟩ := hent j (by omega)
            have hb2 : b ∈ e2.ef := by simpa [ef, htb2] using hb
            have hblt := (hchk j e2 (by omega) ho2 htb2).2.2.2.2.1 b hb2
            obtain rfl : a = b := hinj a b halt hblt (by rw [hai, hbi])
            have hLj : L j = true := by
              have := (hc j a (by omega) hb hbi).2 h2
              simp only [upd] at this
              rwa [if_neg (by omega)] at this
            rcases hck.2.2.2.2.2.1 a ha j _ (by omega) htb2 hb2 with h | h | h
            · have := (hcls j h).2; omega
            · have := cl_listed hcl hid j e2.o ho2 (fun e' he' hb' => hid j _ hLj ho2 e' he' hb') i h
              rw [hL] at this
              exact absurd this.1 (by simp)
            · omega)
          rw [this.1, this.2, hn]
          simp only [effS]
          exact ⟨setm_mine (by simpa using hml) ⟨a, ha, hai⟩, setm_mine (by simpa using hml) ⟨a, ha, hai⟩⟩
        · have hno : ∀ a ∈ e.ef, ids.getD a 0 ≠ id := fun a ha h => hmine ⟨a, ha, h⟩
          simp only [effS]
          rw [setm_other hno, setm_other hno]
          refine hD.m id k hk (fun j a hj ha hai => ?_)
          have hji : j ≠ i := fun h => by subst h; rw [hef] at ha; exact hno a ha hai
          have := hc j a hj ha hai
          simp only [upd] at this
          rwa [if_neg hji] at this
    · have hiN' : i = N := by
        rcases hNl with h | ⟨h, _⟩ <;> omega
      subst hiN'
      rcases hNl with h | ⟨h, e2, he2, hf2⟩
      · omega
      · obtain rfl : e = e2 := by rw [he] at he2; cases he2; rfl
        have hD := hI.2 (fun _ => hL)
        have hall2 : ∀ j, j < i → L j = true := fun j hj => (hcls j ((hck.2.2.2.2.2.2 hf2).2 j hj)).1
        rw [hsame i L s' rfl hall2 hD]
        obtain ⟨hla, hgd⟩ := t2 i e he hf2
        refine ⟨hgd.ok fun _ _ => rfl, hla _ (fun s'' hs => ?_)⟩
        exact ⟨fun _ _ => hs, fun hh => by have := hh hi; simp [upd] at this⟩
  · intro L s' hI hL
    rcases hNl with h | ⟨h, _⟩
    · subst h
      have hD := hI.2 (fun h => absurd h (by omega))
      have h1 := t3 (fun i e he => hNf i e (by rw [← hzl]; exact (List.getElem?_eq_some_iff.1 he).1) he)
      rw [hzl] at h1
      rw [hsame _ L s' rfl hL hD]
      exact h1
    · exact hI.1 (by omega) (hL N (by omega))


end

section
variable {P : Program} {T : Nat → TI} {b₀ : Bs} {w : World} {rd : Option Nat} {Φ : St → Loc → List Deferred → World → Prop}
theorem wpAny_ofG {hT : TabOk P T} (hΦ : KeptTr b₀ Φ) {B N : Nat} {ops : Array Oper} {ds : List Deferred} {Q : Exit → Act → World → Prop} (hnd : ops.toList.all noDefer = true) (hds : dstsOk N ops.toList = true) (I : (Nat → Bool) → St → Prop)
    (hstep : ∀ (L : Nat → Bool) (s : St) (i : Nat) (o : Oper), I L s → ops[i]? = some o → L i = false → (∀ e ∈ o.after.toList, Region.binds .any e = true → L e.on = true) →
      (∀ j o', L j = true → ops[j]? = some o' → ∀ e ∈ o'.after.toList, Region.binds .any e = true → L e.on = true) → GuardOk ops o s ∧ opA (spF P rd b₀ Φ B) T o s (bx fun s' => I (upd L i true) s')) :
    ∀ (fuel : Nat) (listed : Array Bool) {s : St} {β : Loc} {a : Act} {w : World}, listed.size = ops.size → listed.toList.count false ≤ fuel → Rel b₀ N s β a w → Φ s β ds w → I (fun i => listed.getD i false) s →
      (∀ j o', listed.getD j false = true → ops[j]? = some o' → ∀ e ∈ o'.after.toList, Region.binds .any e = true → listed.getD e.on false = true) →
      (∀ L s' β' a' w', I L s' → Rel b₀ N s' β' a' w' → Φ s' β' ds w' → (∃ listed', L = (fun i => listed'.getD i false) ∧ listed'.size = ops.size ∧ Region.ready .any ops listed' = []) → Q .normal { a' with defers := ds } w') →
      wpAnyIn (fen rd) 0 P .any ops Q fuel listed { a with defers := ds } w
  | 0, listed, s, β, a, w, hsz, hc, hr, hφ, hI, hid, hQ => by
    have hall : ∀ i, i < ops.size → listed.getD i true = true := fun i hi => by
      have hnf : false ∉ listed.toList := fun h => by
        have := List.count_pos_iff.2 h; omega
      rw [Array.getD_eq_getD_getElem?, Array.getElem?_eq_getElem (by omega)]
      simp only [Option.getD_some]
      cases hq : listed[i]'(by omega) with
      | true => rfl
      | false => exact absurd (hq ▸ Array.mem_toList_iff.2 (Array.getElem_mem (by omega))) hnf
    have hrd : Region.ready .any ops listed = [] := by
      unfold Region.ready
      rw [List.filter_eq_nil_iff]
      intro i hi
      simp [hall i (List.mem_range.1 hi)]
    exact ⟨hrd, hQ _ s β a w hI hr hφ ⟨listed, rfl, hsz, hrd⟩⟩
  | fuel + 1, listed, s, β, a, w, hsz, hc, hr, hφ, hI, hid, hQ => by
    refine ⟨fun hrd => hQ _ s β a w hI hr hφ ⟨listed, rfl, hsz, hrd⟩, fun i hi => ?_⟩
    unfold Region.ready at hi
    simp only [List.mem_filter, List.mem_range, Bool.and_eq_true, Bool.not_eq_true'] at hi
    obtain ⟨hi1, hi2, hi3⟩ := hi
    have ho : ops[i]? = some ops[i] := Array.getElem?_eq_getElem hi1
    rw [ho] at hi3
    simp only [Option.map_some, Option.getD_some, Array.all_eq_true', Bool.or_eq_true, Bool.not_eq_true'] at hi3
    have hli : listed[i]? = some false := by
      rw [Array.getD_eq_getD_getElem?, Array.getElem?_eq_getElem (by omega)] at hi2
      rw [Array.getElem?_eq_getElem (by omega)]
      simpa using hi2
    have hL : listed.getD i false = false := by rw [Array.getD_eq_getD_getElem?, hli]; rfl
    have hedge : ∀ e ∈ ops[i].after.toList, Region.binds .any e = true → listed.getD e.on false = true := fun e he hb => by
      rcases hi3 e (by simpa using he) with h | h
      · rw [hb] at h; cases h
      · exact h
    obtain ⟨hgd, hst⟩ := hstep _ s i ops[i] hI ho hL hedge hid
    have hgi : Region.wanted ops[i] (yielded ops a.tmps) = true := by
      unfold GuardOk at hgd
      cases hg : (ops[i]).guard with
      | none => simp [Region.wanted, hg]
      | some p =>
        obtain ⟨j, want⟩ := p
        rw [hg] at hgd
        obtain ⟨d, hj, hb⟩ := hgd
        have hy := hr.yielded hj hb
        simp [Region.wanted, hg, hy]
    have hdi : ∀ d, (ops[i]).dst = some d → d < N := fun d hd => by
      have := List.all_eq_true.1 hds ops[i] (Array.getElem_mem_toList hi1)
      rw [hd] at this
      simpa using this
    have hni : noDefer ops[i] = true := List.all_eq_true.1 hnd ops[i] (Array.getElem_mem_toList hi1)
    unfold wpOpIn
    rw [ho]
    simp only
    rw [if_pos hgi]
    have hset : (fun j => (listed.setIfInBounds i true).getD j false) = upd (fun j => listed.getD j false) i true := by
      funext j
      simp only [upd, Array.getD_eq_getD_getElem?, Array.getElem?_setIfInBounds]
      by_cases hj : i = j
      · subst hj; simp [hsz, hi1]
      · have : ¬ j = i := fun e => hj e.symm
        simp [hj, this]
    refine opA_soundF hT hΦ hr hφ hni hdi hst (fun s' β' a' w' hI' hr' hφ' => ?_)
    refine wpAny_ofG (hT := hT) hΦ hnd hds I hstep fuel (listed.setIfInBounds i true) (by simpa using hsz) (by have := count_set hli; omega) hr' hφ' (by rw [hset]; exact hI') (fun j o' hj hoj e he hb => ?_) hQ
    have e1 := congrFun hset
    simp only [upd] at e1
    rw [e1] at hj ⊢
    by_cases hej : e.on = i
    · rw [if_pos hej]
    · rw [if_neg hej]
      by_cases hji : j = i
      · subst hji
        rw [ho] at hoj
        cases hoj
        exact hedge e he hb
      · rw [if_neg hji] at hj
        exact hid j o' hj hoj e he hb

theorem draw_anyG (hT : TabOk P T) (hm : P.follows .mixedOrders = true) (hΦ : KeptTr b₀ Φ) {B id : Nat} {ops : Array Oper} {s : St} {Q : Exit → St → Prop} {q : Box Q} (hnd : ops.toList.all noDefer = true) (hbk : backB ops = true) (I : (Nat → Bool) → St → Prop) (h0 : I (fun _ => false) s)
    (hstep : ∀ (L : Nat → Bool) (s : St) (i : Nat) (o : Oper), I L s → ops[i]? = some o → L i = false → (∀ e ∈ o.after.toList, Region.binds .any e = true → L e.on = true) →
      (∀ j o', L j = true → ops[j]? = some o' → ∀ e ∈ o'.after.toList, Region.binds .any e = true → L e.on = true) → GuardOk ops o s ∧ opA (spF P rd b₀ Φ B) T o s (bx fun s' => I (upd L i true) s'))
    (hend : ∀ L s', I L s' → (∀ i, i < ops.size → L i = true) → Q .normal s') : DrawA (spF P rd b₀ Φ B) T id ops s q := by
  refine .inr ⟨fun e s' => e = .normal ∧ Q .normal s', fun N β a ds w hc hr hφ => ?_, fun e s' ⟨h1, h2⟩ => h1 ▸ h2⟩
  have hr1 : Rel b₀ N s β a { w with drawn := w.drawn + 1 } := hr.of_heap rfl
  have hφ1 : Φ s β ds { w with drawn := w.drawn + 1 } := hΦ _ _ _ _ _ _ _ hφ (Tr.same rfl rfl rfl)
  refine wpIn_region_any hm (wpAny_ofG (hT := hT) hΦ hnd hc I hstep ops.size (Array.replicate ops.size false) (by simp) (by simp) hr1 hφ1 ?_ (fun j o' hj => ?_) (fun L s' β' a' w' h2 h4 h5 h6 => ⟨s', β', a', ds, rfl, ⟨rfl, hend L s' h2 (by obtain ⟨listed, rfl, e1, e2⟩ := h6; exact ready_all hbk e1 e2)⟩, h4, h5⟩))
  · have : (fun i => (Array.replicate ops.size false).getD i false) = fun _ => false := by
      funext i
      rw [Array.getD_eq_getD_getElem?, Array.getElem?_replicate]
      split <;> rfl
    rw [this]; exact h0
  · rw [Array.getD_eq_getD_getElem?, Array.getElem?_replicate] at hj
    split at hj <;> simp at hj

theorem draw_detG (hT : TabOk P T) (hm : P.follows .mixedOrders = true) (hΦ : KeptTr b₀ Φ) {B id : Nat} {ops : Array Oper} {s : St} {Q : Exit → St → Prop} {q : Box Q} (ids : List Nat) (tb : List (List Nat × List Nat × List Nat × Bool)) (nid : Nat) (hnd0 : ops.toList.all noDefer = true) (hok : okDetG ops tb nid = true) (hnid : ids.length = nid) (hnd : ids.Nodup)
    (h : wpDetG (spF P rd b₀ Φ B) T ops ids (zipE ops.toList tb) s (bx fun s' => Q .normal s')) : DrawA (spF P rd b₀ Φ B) T id ops s q := by
  obtain ⟨h1, I, h2, h3, h4⟩ := det_invG (Q := Q) ids tb nid hok hnid hnd h
  exact draw_anyG hT hm hΦ hnd0 h1 I h2 h3 h4

end

section steps
variable {S : Sp} {T : Nat → TI} {ops : Array Oper} {ids : List Nat} {f : Nat → AV} {g : Nat → Nat} {ob : Nat → Option (List C)} {K : St → Prop} {k : Box K} {op : Op} {ty : TypeId} {ps : String} {af : Array Edge} {gd : Option (Nat × Bool)} {rd hd : List Nat} {r : List Ent} {d : Nat}

theorem detG_pure {v : AV} (hg : GdE ops ⟨⟨some d, op, ty, ps, af, gd⟩, rd, hd, [], false⟩ ⟨f, g, ob⟩) (h1 : ∀ (fa : Nat → AV) (ga : Nat → Nat) (oa : Nat → Option (List C)) (K' : St → Prop), K' ⟨upd (maskf rd f fa) d v, maskm ids hd g ga, maskm ids hd ob oa⟩ → opA S T ⟨some d, op, ty, ps, af, gd⟩ ⟨maskf rd f fa, maskm ids hd g ga, maskm ids hd ob oa⟩ (bx K'))
    (h2 : wpDetG S T ops ids r ⟨upd f d v, g, ob⟩ k) : wpDetG S T ops ids (⟨⟨some d, op, ty, ps, af, gd⟩, rd, hd, [], false⟩ :: r) ⟨f, g, ob⟩ k := by
  unfold wpDetG
  exact ⟨v, [], ⟨rfl, fun fa ga oa K' hK => h1 fa ga oa K' hK, hg⟩, h2⟩
theorem detG_new {v : AV} {a x : Nat} {y : Option (List C)} (hg : GdE ops ⟨⟨some d, op, ty, ps, af, gd⟩, rd, hd, [a], false⟩ ⟨f, g, ob⟩) (h1 : ∀ (fa : Nat → AV) (ga : Nat → Nat) (oa : Nat → Option (List C)) (K' : St → Prop), K' ⟨upd (maskf rd f fa) d v, upd (maskm ids hd g ga) (ids.getD a 0) x, upd (maskm ids hd ob oa) (ids.getD a 0) y⟩ → opA S T ⟨some d, op, ty, ps, af, gd⟩ ⟨maskf rd f fa, maskm ids hd g ga, maskm ids hd ob oa⟩ (bx K'))
    (h2 : wpDetG S T ops ids r ⟨upd f d v, upd g (ids.getD a 0) x, upd ob (ids.getD a 0) y⟩ k) : wpDetG S T ops ids (⟨⟨some d, op, ty, ps, af, gd⟩, rd, hd, [a], false⟩ :: r) ⟨f, g, ob⟩ k := by
  unfold wpDetG
  exact ⟨v, [(x, y)], ⟨rfl, fun fa ga oa K' hK => h1 fa ga oa K' hK, hg⟩, h2⟩
theorem detG_nil (h : K ⟨f, g, ob⟩) : wpDetG S T ops ids [] ⟨f, g, ob⟩ k := by unfold wpDetG; exact h
end steps

end Go.Am
