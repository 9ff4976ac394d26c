/- A part of the proof; no conditions. -/
import Derived.Test.YthclfagbojkbjabGreatDoorPart6
import Derived.Lib.LaidU8
import Derived.OpenShut
import Derived.Laws.IdiomArrays
import Derived.Test.YthclfagbojkbjabGreatDoorTie
import Derived.Test.YthclfagbojkbjabGreatDoorCards
set_option linter.unusedSimpArgs false
set_option linter.unusedVariables false
namespace Go.Proofs.YthclfagbojkbjabGreatDoor
open Go Go.Am Go.Asm

theorem stepA_put {n : Nat} {st : Sta} {s l op : Str} {args : List Str} (h : lineA s = some (l, op, args)) (hl : l = []) : stepA n st s = Asm.opA n st op args := by
  unfold stepA; rw [h]; exact if_pos hl
theorem stepA_lab {n : Nat} {st : Sta} {s l op : Str} {args : List Str} (h : lineA s = some (l, op, args)) (hl : l ≠ []) (hp : Asm.placeOf st.labs l = none) : stepA n st s = Asm.opA n { st with labs := st.labs ++ [(l, st.code.length)] } op args := by
  unfold stepA; rw [h]; simp only; rw [if_neg hl, hp]; rfl
theorem stepA_dup {n p : Nat} {st : Sta} {s l op : Str} {args : List Str} (h : lineA s = some (l, op, args)) (hl : l ≠ []) (hp : Asm.placeOf st.labs l = some p) : stepA n st s = .err 4 := by
  unfold stepA; rw [h]; simp only; rw [if_neg hl, hp]; rfl
theorem opA_nil {n : Nat} {st : Sta} {args : List Str} : Asm.opA n st [] args = .ok st := by unfold Asm.opA; exact if_pos rfl
theorem useR_at {us : List (Nat × Nat × Str)} {j : Nat} {u : Nat × Nat × Str} (h : us[j]? = some u) : ((us.flatMap useR).drop (j * 3)).take 3 = useR u := by
  induction us generalizing j with
  | nil => simp at h
  | cons v us ih =>
    cases j with
    | zero => simp at h; subst h; simp [useR]
    | succ j =>
      have := ih (j := j) (by simpa using h)
      rw [List.flatMap_cons, show (j + 1) * 3 = (useR v).length + j * 3 by simp [useR]; omega, ← List.drop_drop, List.drop_left]
      exact this

set_option maxHeartbeats 16000000 in
theorem RefRead_A (s : Str) (hs9 : s.length ≤ 1000000000) : PureR Tryz.prog 7 [sv s] (· = readV (readA s)) := by
  refine pure_of_wpR Tt_ok mixed Tryz.func7 rfl (by rfl) [.cell 2 37, .tmp 3, .tmp 4] rfl (by kernel_rfl) (by simp [Tryz.ntmps7]) fun g => ?_
  obtain ⟨P, hP⟩ : ∃ P, readA s = P := ⟨_, rfl⟩
  rw [hP]
  by_cases hs : 20000 < s.length
  · have hsi : (20000 : Int) < (s.length : Int) := by omega
    rw [show readA s = (([], 0), 0, 2) by unfold readA; rw [if_pos hs]] at hP
    subst hP
    simp (config := { maxSteps := 1000000 }) only [go_sem,↓reduceIte,hsi, buildA]
    exact ⟨_, frz_read (code := []) (d := 0) (n := 0) (e := 2) (.d _), rfl⟩
  have hsi : ¬ (20000 : Int) < (s.length : Int) := by omega
  have hr1 : ∀ {n e : Nat}, _ → _ := @readA_bad s hs
  have hr2 : ∀ {st : Sta} {n e : Nat}, _ → _ → _ := @readA_use s hs
  have hr3 : ∀ {st : Sta} {code : List Nat}, _ → _ → _ := @readA_good s hs
  have hls := splitC_len (c := 10) s
  have hlt := splitC_text (c := 10) s
  simp (config := { maxSteps := 1000000 }) only [go_sem,↓reduceIte,hsi, buildA]
  refine hook_call rfl (by simp (config := { maxSteps := 1000000 }) only [go_sem,↓reduceIte]; exact LinesR_A s (by omega)) (by simp (config := { maxSteps := 1000000 }) only [go_sem,↓reduceIte]; rfl) ?_
  rintro _ rfl
  generalize splitC 10 s = ls at hls hlt hr1 hr2 hr3 ⊢
  simp (config := { maxSteps := 1000000 }) only [go_sem,↓reduceIte,strs]
  generalize hgr : nxC 54 (g 20) = gr
  generalize hg2 : nxC 38 (g 2) = g2
  refine loop_intro (fun nn s => ∃ (k : Nat) (st : Sta), nn + k = ls.length ∧ linesA 0 st0 ls = linesA k st (ls.drop k) ∧ WF st ∧ st.labs.length ≤ k ∧ st.uses.length ≤ k ∧ Made gr st s.gen s.obj ∧ s.f 2 = .one (.ptr 2 g2 0) ∧ s.gen 2 = g2 ∧
    s.obj 2 = some [.d .nsl, .d (.int .i64 0)] ∧ s.f 5 = .one (.ptr 20 gr 0) ∧ s.f 6 = .one (.d (.sl (ls.map fun w => [D.str w]))) ∧ s.f 7 = iv .i64 k) ls.length ?_ ?_
  · refine ⟨0, st0, by omega, rfl, WF.zero, Nat.le_refl _, Nat.le_refl _, ⟨rfl, _, _, _, _, rfl, .inl ⟨rfl, rfl⟩, .inl ⟨rfl, rfl, rfl⟩, .inl ⟨rfl, rfl⟩⟩, ?_⟩
    simp (config := { maxSteps := 1000000 }) only [go_sem,↓reduceIte,hgr, hg2]
    try trivial
  clear hgr hg2
  rintro nn f g ob ⟨k, st, hk, hli, hwf, hbl, hul, hM, q2, q2g, q2o, q5, q6, q7⟩
  simp only at hM q2 q2g q2o q5 q6 q7
  by_cases hlt' : k < ls.length
  · obtain ⟨x, hx⟩ := getq hlt'
    have hgx : (ls.map fun w => [D.str w])[k]? = some [D.str x] := by rw [List.getElem?_map, hx]; rfl
    have hxl := hlt x (List.mem_of_getElem? hx)
    have hkw : IntKind.i64.wrap ((k : Int) + 1) = ((k + 1 : Nat) : Int) := wrap_succ (by omega)
    have hkl : (k : Int) < (ls.length : Int) := by omega
    have hk0 : (0 : Int) ≤ (k : Int) := by omega
    have hdr : ls.drop k = x :: ls.drop (k + 1) := by rw [List.drop_eq_getElem_cons hlt']; congr 1; exact (List.getElem?_eq_some_iff.1 hx).2
    rw [hdr] at hli
    have hbad : ∀ e, stepA (k + 1) st x = .err e → readA s = (([], 0), k + 1, e) := fun e he => hr1 (hli.trans (linesA_bad he))
    have hwf' : ∀ st', stepA (k + 1) st x = .ok st' → WF st' := fun st' he => hwf.stepA (fun _ _ => operand_reg) he
    have hlenc := hwf.len
    simp (config := { maxSteps := 1000000 }) only [go_sem,↓reduceIte,q5, q6, q7, hgx, hkw, hkl, hk0, List.length_map, Int.toNat_natCast]
    refine hook_call rfl (by simp (config := { maxSteps := 1000000 }) only [go_sem,↓reduceIte]; exact LineR_A x (by omega)) (by simp (config := { maxSteps := 1000000 }) only [go_sem,↓reduceIte]; rfl) ?_
    rintro _ rfl
    cases hla : lineA x with
    | none =>
      have hst : stepA (k + 1) st x = .err 3 := by unfold stepA; rw [hla]
      rw [hbad 3 hst] at hP
      subst hP
      unfold lineV
      simp (config := { maxSteps := 1000000 }) only [go_sem,↓reduceIte,q2, q2g, q2o, buildA, hkw, q7]
      exact ⟨_, frz_read (code := []) (d := 0) (n := k + 1) (e := 3) (.d _), rfl⟩
    | some y =>
      obtain ⟨l, op, args⟩ := y
      obtain ⟨hal, hax, hol⟩ := lineA_len hla
      rw [show lineV (some (l, op, args)) = .tup [sv l, sv op, .one (.d (strs args)), iv .i64 0] from rfl]
      by_cases hl0 : l = []
      case pos =>
        have hsp := stepA_put (n := k + 1) (st := st) hla hl0
        subst hl0
        by_cases hop : op = []
        case pos =>
          subst hop
          have hst : stepA (k + 1) st x = .ok st := by rw [hsp]; exact opA_nil
          have hgrow := stepA_grow hst
          have hgl := stepA_labs hst
          simp (config := { maxSteps := 1000000 }) only [go_sem,↓reduceIte,q2, q2g, q2o, q5, q6, q7, hkw, strs]
          refine round_end (nn - 1) (by omega) ⟨k + 1, _, by omega, by rw [hli, linesA_ok hst], hwf' _ hst, by omega, by omega, ?_⟩
          simp (config := { maxSteps := 1000000 }) only [go_sem,↓reduceIte,q2, q2g, q2o, q5, q6, q7, hkw, strs]
          exact hM
        case neg =>
          simp (config := { maxSteps := 1000000 }) only [go_sem,↓reduceIte,q2, q2g, q2o, q5, q6, q7, hkw, strs, hop]
          refine hook_fun (R := OutM gr (putA (k + 1) st op args) _ _) rfl (by simp (config := { maxSteps := 1000000 }) only [go_sem,↓reduceIte,q2, q2g, q2o, q5, q6, q7, hkw, strs, hop]; refine put_A (st := st) ?_ op args (k + 1) (by omega) (by omega) (fun a ha => by have := hax a ha; omega) hlenc (show st.uses.length ≤ 1000000 by omega); exact hM) ?_
          rintro r g' ob' ⟨o1, o2, o3⟩
          rw [put_same (st := st) hop hlenc, ← hsp] at o3
          have o2g := o1 2 (by decide)
          have o2o := o2 2 (by decide) (by decide)
          simp [upd, q2g] at o2g
          simp [upd, q2o] at o2o
          cases hst : stepA (k + 1) st x with
          | err e =>
            have hne : ¬ ((e : Nat) : Int) = 0 := by have := stepA_ne hst; omega
            rw [hst] at o3
            simp only at o3
            subst o3
            rw [hbad e hst] at hP
            subst hP
            simp (config := { maxSteps := 1000000 }) only [go_sem,↓reduceIte,q2, q2g, q2o, q5, q6, q7, hkw, strs, hop, hne, o2g, o2o, buildA]
            exact ⟨_, frz_read (code := []) (d := 0) (n := k + 1) (e := e) (.d _), rfl⟩
          | ok st' =>
            rw [hst] at o3
            obtain ⟨rfl, hM'⟩ := o3
            have hgrow := stepA_grow hst
            have hgl := stepA_labs hst
            simp (config := { maxSteps := 1000000 }) only [go_sem,↓reduceIte,q2, q2g, q2o, q5, q6, q7, hkw, strs, hop]
            refine round_end (nn - 1) (by omega) ⟨k + 1, st', by omega, by rw [hli, linesA_ok hst], hwf' st' hst, by omega, by omega, ?_⟩
            simp (config := { maxSteps := 1000000 }) only [go_sem,↓reduceIte,q2, q2g, q2o, q5, q6, q7, hkw, strs, hop]
            exact ⟨hM', o2g, o2o⟩
      have hM0 := hM
      obtain ⟨hg, cc, lc, pc, uc, h20, hc, hl, hu⟩ := hM
      simp (config := { maxSteps := 1000000 }) only [go_sem,↓reduceIte,q2, q2g, q2o, q5, q6, q7, hkw, strs, hl0]
      refine hook_lent rfl (by simp (config := { maxSteps := 1000000 }) only [go_sem,↓reduceIte,q5]; exact place_A hM0 l (by omega)) ?_
      rintro _ rfl
      have hpl : placeI st.labs l = (match Asm.placeOf st.labs l with | some p => (p : Int) | none => -1) := rfl
      rw [hpl]
      clear hpl
      cases hpo : Asm.placeOf st.labs l
      case none =>
        have hsp := stepA_lab (n := k + 1) hla hl0 hpo
        simp (config := { maxSteps := 1000000 }) only [go_sem,↓reduceIte,q2, q2g, q2o, q5, q6, q7, hkw, strs, hl0]
        rcases hc with ⟨c1, rfl⟩ | ⟨c1, ci, rfl | rfl, rfl, c3⟩
        · rcases hl with ⟨l1, rfl, rfl⟩ | ⟨l1, rfl, rfl, l57, l69⟩
          · refine draw_det Tt_ok mixed [56, 57, 68, 69, 20] [([5], [0, 1, 2, 3], [], false), ([5], [0, 1, 2, 3, 4], [], false), ([5], [0, 2], [], false), ([51], [0, 2], [], false), ([52], [0, 2], [], false), ([53], [0, 2], [], false), ([8], [2], [], false), ([55], [2], [0], false), ([54, 56], [2], [1], false), ([5], [0, 1, 2], [], false), ([58], [0, 1, 2], [], false), ([59], [0, 1, 2], [], false), ([60], [0, 1, 2], [], false), ([5], [0, 1], [], false), ([62], [0, 1], [], false), ([63], [0, 1], [], false), ([64], [0, 1], [], false), ([65], [0, 1], [], false), ([66], [0, 1], [], false), ([67], [0, 1], [2], false), ([61, 68], [], [3], false), ([49], [], [], false), ([70], [], [], false), ([71, 57], [], [4], false), ([50], [], [], false), ([72], [], [], false), ([73, 69], [], [], true)] 5 (by decide +kernel) rfl (by decide) ?_
            simp (config := { maxSteps := 1000000 }) only [go_sem,↓reduceIte]
            iterate 7 (apply det_pure; · (intro fa ga oa K' hK; simp (config := { maxSteps := 1000000 }) only [go_sem,↓reduceIte,q2, q2g, q2o, q5, q6, q7, hkw, strs, hl0, hg, h20, List.length_map] at hK ⊢; exact hK))
            (apply det_new; · (intro fa ga oa K' hK; simp (config := { maxSteps := 1000000 }) only [go_sem,↓reduceIte,q2, q2g, q2o, q5, q6, q7, hkw, strs, hl0, hg, h20, List.length_map, elemTy] at hK ⊢; exact hK))
            (apply det_new; · (intro fa ga oa K' hK; simp (config := { maxSteps := 1000000 }) only [go_sem,↓reduceIte,q2, q2g, q2o, q5, q6, q7, hkw, strs, hl0, hg, h20, List.length_map, elemTy] at hK ⊢; first | exact ⟨⟨by decide, by decide⟩, hK⟩ | exact ⟨⟨by decide, by omega⟩, hK⟩ | exact ⟨Nat.le_refl _, ⟨by decide, by omega⟩, hK⟩))
            iterate 10 (apply det_pure; · (intro fa ga oa K' hK; simp (config := { maxSteps := 1000000 }) only [go_sem,↓reduceIte,q2, q2g, q2o, q5, q6, q7, hkw, strs, hl0, hg, h20, List.length_map] at hK ⊢; exact hK))
            (apply det_new; · (intro fa ga oa K' hK; simp (config := { maxSteps := 1000000 }) only [go_sem,↓reduceIte,q2, q2g, q2o, q5, q6, q7, hkw, strs, hl0, hg, h20, List.length_map, elemTy] at hK ⊢; exact hK))
            (apply det_new; · (intro fa ga oa K' hK; simp (config := { maxSteps := 1000000 }) only [go_sem,↓reduceIte,q2, q2g, q2o, q5, q6, q7, hkw, strs, hl0, hg, h20, List.length_map, elemTy] at hK ⊢; first | exact ⟨⟨by decide, by decide⟩, hK⟩ | exact ⟨⟨by decide, by omega⟩, hK⟩ | exact ⟨Nat.le_refl _, ⟨by decide, by omega⟩, hK⟩))
            iterate 2 (apply det_pure; · (intro fa ga oa K' hK; simp (config := { maxSteps := 1000000 }) only [go_sem,↓reduceIte,q2, q2g, q2o, q5, q6, q7, hkw, strs, hl0, hg, h20, List.length_map] at hK ⊢; exact hK))
            (apply det_store; (focus simp); (focus (intro fa ga oa K' hK; simp (config := { maxSteps := 1000000 }) only [go_sem,↓reduceIte,q2, q2g, q2o, q5, q6, q7, hkw, strs, hl0, hg, h20, List.length_map] at hK ⊢; exact hK)))
            iterate 2 (apply det_pure; · (intro fa ga oa K' hK; simp (config := { maxSteps := 1000000 }) only [go_sem,↓reduceIte,q2, q2g, q2o, q5, q6, q7, hkw, strs, hl0, hg, h20, List.length_map] at hK ⊢; exact hK))
            apply det_last
            intro K' hK'
            simp (config := { maxSteps := 1000000 }) only [go_sem,↓reduceIte,q2, q2g, q2o, q5, q6, q7, hkw, strs, hl0, hg, h20, List.length_map]
            refine hK' _ ?_
            clear hK' K'
            by_cases hop : op = []
            case pos =>
              subst hop
              have hst : stepA (k + 1) st x = .ok { st with labs := st.labs ++ [(l, st.code.length)] } := by rw [hsp]; exact opA_nil
              have hgrow := stepA_grow hst
              have hgl := stepA_labs hst
              simp (config := { maxSteps := 1000000 }) only [go_sem,↓reduceIte,q2, q2g, q2o, q5, q6, q7, hkw, strs, hl0, hg, h20, List.length_map]
              refine round_end (nn - 1) (by omega) ⟨k + 1, _, by omega, by rw [hli, linesA_ok hst], hwf' _ hst, by omega, by omega, ?_⟩
              simp (config := { maxSteps := 1000000 }) only [go_sem,↓reduceIte,q2, q2g, q2o, q5, q6, q7, hkw, strs, hl0, hg, h20, List.length_map]
              exact ⟨by simp [upd, hg], _, _, _, uc, rfl, .inl ⟨c1, rfl⟩, .inr ⟨by simp, by simp [upd, l1], by simp [upd, l1], by simp [upd, l1], by simp [upd, l1, c1]⟩, hu⟩
            case neg =>
              simp (config := { maxSteps := 1000000 }) only [go_sem,↓reduceIte,q2, q2g, q2o, q5, q6, q7, hkw, strs, hl0, hg, h20, List.length_map, hop]
              refine hook_fun (R := OutM gr (putA (k + 1) { st with labs := st.labs ++ [(l, st.code.length)] } op args) _ _) rfl (by simp (config := { maxSteps := 1000000 }) only [go_sem,↓reduceIte,q2, q2g, q2o, q5, q6, q7, hkw, strs, hl0, hg, h20, List.length_map, hop]; refine put_A (st := { st with labs := st.labs ++ [(l, st.code.length)] }) ?_ op args (k + 1) (by omega) (by omega) (fun a ha => by have := hax a ha; omega) hlenc (show st.uses.length ≤ 1000000 by omega); exact ⟨by simp [upd, hg], _, _, _, uc, rfl, .inl ⟨c1, rfl⟩, .inr ⟨by simp, by simp [upd, l1], by simp [upd, l1], by simp [upd, l1], by simp [upd, l1, c1]⟩, hu⟩) ?_
              rintro r g' ob' ⟨o1, o2, o3⟩
              rw [put_same (st := { st with labs := st.labs ++ [(l, st.code.length)] }) hop hlenc, ← hsp] at o3
              have o2g := o1 2 (by decide)
              have o2o := o2 2 (by decide) (by decide)
              simp [upd, q2g] at o2g
              simp [upd, q2o] at o2o
              cases hst : stepA (k + 1) st x with
              | err e =>
                have hne : ¬ ((e : Nat) : Int) = 0 := by have := stepA_ne hst; omega
                rw [hst] at o3
                simp only at o3
                subst o3
                rw [hbad e hst] at hP
                subst hP
                simp (config := { maxSteps := 1000000 }) only [go_sem,↓reduceIte,q2, q2g, q2o, q5, q6, q7, hkw, strs, hl0, hg, h20, List.length_map, hop, hne, o2g, o2o, buildA]
                exact ⟨_, frz_read (code := []) (d := 0) (n := k + 1) (e := e) (.d _), rfl⟩
              | ok st' =>
                rw [hst] at o3
                obtain ⟨rfl, hM'⟩ := o3
                have hgrow := stepA_grow hst
                have hgl := stepA_labs hst
                simp (config := { maxSteps := 1000000 }) only [go_sem,↓reduceIte,q2, q2g, q2o, q5, q6, q7, hkw, strs, hl0, hg, h20, List.length_map, hop]
                refine round_end (nn - 1) (by omega) ⟨k + 1, st', by omega, by rw [hli, linesA_ok hst], hwf' st' hst, by omega, by omega, ?_⟩
                simp (config := { maxSteps := 1000000 }) only [go_sem,↓reduceIte,q2, q2g, q2o, q5, q6, q7, hkw, strs, hl0, hg, h20, List.length_map, hop]
                exact ⟨hM', o2g, o2o⟩
          · refine draw_det Tt_ok mixed [56, 57, 68, 69, 20] [([5], [0, 1, 2, 3], [], false), ([5], [0, 1, 2, 3, 4], [], false), ([5], [0, 2], [], false), ([51], [0, 2], [], false), ([52], [0, 2], [], false), ([53], [0, 2], [], false), ([8], [2], [], false), ([55], [2], [0], false), ([54, 56], [2], [1], false), ([5], [0, 1, 2], [], false), ([58], [0, 1, 2], [], false), ([59], [0, 1, 2], [], false), ([60], [0, 1, 2], [], false), ([5], [0, 1], [], false), ([62], [0, 1], [], false), ([63], [0, 1], [], false), ([64], [0, 1], [], false), ([65], [0, 1], [], false), ([66], [0, 1], [], false), ([67], [0, 1], [2], false), ([61, 68], [], [3], false), ([49], [], [], false), ([70], [], [], false), ([71, 57], [], [4], false), ([50], [], [], false), ([72], [], [], false), ([73, 69], [], [], true)] 5 (by decide +kernel) rfl (by decide) ?_
            simp (config := { maxSteps := 1000000 }) only [go_sem,↓reduceIte]
            iterate 7 (apply det_pure; · (intro fa ga oa K' hK; simp (config := { maxSteps := 1000000 }) only [go_sem,↓reduceIte,q2, q2g, q2o, q5, q6, q7, hkw, strs, hl0, hg, h20, l57, l69, List.length_map] at hK ⊢; exact hK))
            (apply det_new; · (intro fa ga oa K' hK; simp (config := { maxSteps := 1000000 }) only [go_sem,↓reduceIte,q2, q2g, q2o, q5, q6, q7, hkw, strs, hl0, hg, h20, l57, l69, List.length_map, elemTy] at hK ⊢; exact hK))
            (apply det_new; · (intro fa ga oa K' hK; simp (config := { maxSteps := 1000000 }) only [go_sem,↓reduceIte,q2, q2g, q2o, q5, q6, q7, hkw, strs, hl0, hg, h20, l57, l69, List.length_map, elemTy] at hK ⊢; first | exact ⟨⟨by decide, by decide⟩, hK⟩ | exact ⟨⟨by decide, by omega⟩, hK⟩ | exact ⟨Nat.le_refl _, ⟨by decide, by omega⟩, hK⟩))
            iterate 10 (apply det_pure; · (intro fa ga oa K' hK; simp (config := { maxSteps := 1000000 }) only [go_sem,↓reduceIte,q2, q2g, q2o, q5, q6, q7, hkw, strs, hl0, hg, h20, l57, l69, List.length_map] at hK ⊢; exact hK))
            (apply det_new; · (intro fa ga oa K' hK; simp (config := { maxSteps := 1000000 }) only [go_sem,↓reduceIte,q2, q2g, q2o, q5, q6, q7, hkw, strs, hl0, hg, h20, l57, l69, List.length_map, elemTy] at hK ⊢; exact hK))
            (apply det_new; · (intro fa ga oa K' hK; simp (config := { maxSteps := 1000000 }) only [go_sem,↓reduceIte,q2, q2g, q2o, q5, q6, q7, hkw, strs, hl0, hg, h20, l57, l69, List.length_map, elemTy] at hK ⊢; first | exact ⟨⟨by decide, by decide⟩, hK⟩ | exact ⟨⟨by decide, by omega⟩, hK⟩ | exact ⟨Nat.le_refl _, ⟨by decide, by omega⟩, hK⟩))
            iterate 2 (apply det_pure; · (intro fa ga oa K' hK; simp (config := { maxSteps := 1000000 }) only [go_sem,↓reduceIte,q2, q2g, q2o, q5, q6, q7, hkw, strs, hl0, hg, h20, l57, l69, List.length_map] at hK ⊢; exact hK))
            (apply det_store; (focus simp); (focus (intro fa ga oa K' hK; simp (config := { maxSteps := 1000000 }) only [go_sem,↓reduceIte,q2, q2g, q2o, q5, q6, q7, hkw, strs, hl0, hg, h20, l57, l69, List.length_map] at hK ⊢; exact hK)))
            iterate 2 (apply det_pure; · (intro fa ga oa K' hK; simp (config := { maxSteps := 1000000 }) only [go_sem,↓reduceIte,q2, q2g, q2o, q5, q6, q7, hkw, strs, hl0, hg, h20, l57, l69, List.length_map] at hK ⊢; exact hK))
            apply det_last
            intro K' hK'
            simp (config := { maxSteps := 1000000 }) only [go_sem,↓reduceIte,q2, q2g, q2o, q5, q6, q7, hkw, strs, hl0, hg, h20, l57, l69, List.length_map]
            refine hK' _ ?_
            clear hK' K'
            by_cases hop : op = []
            case pos =>
              subst hop
              have hst : stepA (k + 1) st x = .ok { st with labs := st.labs ++ [(l, st.code.length)] } := by rw [hsp]; exact opA_nil
              have hgrow := stepA_grow hst
              have hgl := stepA_labs hst
              simp (config := { maxSteps := 1000000 }) only [go_sem,↓reduceIte,q2, q2g, q2o, q5, q6, q7, hkw, strs, hl0, hg, h20, l57, l69, List.length_map]
              refine round_end (nn - 1) (by omega) ⟨k + 1, _, by omega, by rw [hli, linesA_ok hst], hwf' _ hst, by omega, by omega, ?_⟩
              simp (config := { maxSteps := 1000000 }) only [go_sem,↓reduceIte,q2, q2g, q2o, q5, q6, q7, hkw, strs, hl0, hg, h20, l57, l69, List.length_map]
              exact ⟨by simp [upd, hg], _, _, _, uc, rfl, .inl ⟨c1, rfl⟩, .inr ⟨by simp, by simp [upd], by simp [upd], by simp [upd, List.take_of_length_le], by simp [upd, List.take_of_length_le, c1]⟩, hu⟩
            case neg =>
              simp (config := { maxSteps := 1000000 }) only [go_sem,↓reduceIte,q2, q2g, q2o, q5, q6, q7, hkw, strs, hl0, hg, h20, l57, l69, List.length_map, hop]
              refine hook_fun (R := OutM gr (putA (k + 1) { st with labs := st.labs ++ [(l, st.code.length)] } op args) _ _) rfl (by simp (config := { maxSteps := 1000000 }) only [go_sem,↓reduceIte,q2, q2g, q2o, q5, q6, q7, hkw, strs, hl0, hg, h20, l57, l69, List.length_map, hop]; refine put_A (st := { st with labs := st.labs ++ [(l, st.code.length)] }) ?_ op args (k + 1) (by omega) (by omega) (fun a ha => by have := hax a ha; omega) hlenc (show st.uses.length ≤ 1000000 by omega); exact ⟨by simp [upd, hg], _, _, _, uc, rfl, .inl ⟨c1, rfl⟩, .inr ⟨by simp, by simp [upd], by simp [upd], by simp [upd, List.take_of_length_le], by simp [upd, List.take_of_length_le, c1]⟩, hu⟩) ?_
              rintro r g' ob' ⟨o1, o2, o3⟩
              rw [put_same (st := { st with labs := st.labs ++ [(l, st.code.length)] }) hop hlenc, ← hsp] at o3
              have o2g := o1 2 (by decide)
              have o2o := o2 2 (by decide) (by decide)
              simp [upd, q2g] at o2g
              simp [upd, q2o] at o2o
              cases hst : stepA (k + 1) st x with
              | err e =>
                have hne : ¬ ((e : Nat) : Int) = 0 := by have := stepA_ne hst; omega
                rw [hst] at o3
                simp only at o3
                subst o3
                rw [hbad e hst] at hP
                subst hP
                simp (config := { maxSteps := 1000000 }) only [go_sem,↓reduceIte,q2, q2g, q2o, q5, q6, q7, hkw, strs, hl0, hg, h20, l57, l69, List.length_map, hop, hne, o2g, o2o, buildA]
                exact ⟨_, frz_read (code := []) (d := 0) (n := k + 1) (e := e) (.d _), rfl⟩
              | ok st' =>
                rw [hst] at o3
                obtain ⟨rfl, hM'⟩ := o3
                have hgrow := stepA_grow hst
                have hgl := stepA_labs hst
                simp (config := { maxSteps := 1000000 }) only [go_sem,↓reduceIte,q2, q2g, q2o, q5, q6, q7, hkw, strs, hl0, hg, h20, l57, l69, List.length_map, hop]
                refine round_end (nn - 1) (by omega) ⟨k + 1, st', by omega, by rw [hli, linesA_ok hst], hwf' st' hst, by omega, by omega, ?_⟩
                simp (config := { maxSteps := 1000000 }) only [go_sem,↓reduceIte,q2, q2g, q2o, q5, q6, q7, hkw, strs, hl0, hg, h20, l57, l69, List.length_map, hop]
                exact ⟨hM', o2g, o2o⟩
        · rcases hl with ⟨l1, rfl, rfl⟩ | ⟨l1, rfl, rfl, l57, l69⟩
          · refine draw_det Tt_ok mixed [56, 57, 68, 69, 20] [([5], [0, 1, 2, 3], [], false), ([5], [0, 1, 2, 3, 4], [], false), ([5], [0, 2], [], false), ([51], [0, 2], [], false), ([52], [0, 2], [], false), ([53], [0, 2], [], false), ([8], [2], [], false), ([55], [2], [0], false), ([54, 56], [2], [1], false), ([5], [0, 1, 2], [], false), ([58], [0, 1, 2], [], false), ([59], [0, 1, 2], [], false), ([60], [0, 1, 2], [], false), ([5], [0, 1], [], false), ([62], [0, 1], [], false), ([63], [0, 1], [], false), ([64], [0, 1], [], false), ([65], [0, 1], [], false), ([66], [0, 1], [], false), ([67], [0, 1], [2], false), ([61, 68], [], [3], false), ([49], [], [], false), ([70], [], [], false), ([71, 57], [], [4], false), ([50], [], [], false), ([72], [], [], false), ([73, 69], [], [], true)] 5 (by decide +kernel) rfl (by decide) ?_
            simp (config := { maxSteps := 1000000 }) only [go_sem,↓reduceIte]
            iterate 7 (apply det_pure; · (intro fa ga oa K' hK; simp (config := { maxSteps := 1000000 }) only [go_sem,↓reduceIte,q2, q2g, q2o, q5, q6, q7, hkw, strs, hl0, hg, h20, c3, codeC, List.length_map] at hK ⊢; exact hK))
            (apply det_new; · (intro fa ga oa K' hK; simp (config := { maxSteps := 1000000 }) only [go_sem,↓reduceIte,q2, q2g, q2o, q5, q6, q7, hkw, strs, hl0, hg, h20, c3, codeC, List.length_map, elemTy] at hK ⊢; exact hK))
            (apply det_new; · (intro fa ga oa K' hK; simp (config := { maxSteps := 1000000 }) only [go_sem,↓reduceIte,q2, q2g, q2o, q5, q6, q7, hkw, strs, hl0, hg, h20, c3, codeC, List.length_map, elemTy] at hK ⊢; first | exact ⟨⟨by decide, by decide⟩, hK⟩ | exact ⟨⟨by decide, by omega⟩, hK⟩ | exact ⟨Nat.le_refl _, ⟨by decide, by omega⟩, hK⟩))
            iterate 10 (apply det_pure; · (intro fa ga oa K' hK; simp (config := { maxSteps := 1000000 }) only [go_sem,↓reduceIte,q2, q2g, q2o, q5, q6, q7, hkw, strs, hl0, hg, h20, c3, codeC, List.length_map] at hK ⊢; exact hK))
            (apply det_new; · (intro fa ga oa K' hK; simp (config := { maxSteps := 1000000 }) only [go_sem,↓reduceIte,q2, q2g, q2o, q5, q6, q7, hkw, strs, hl0, hg, h20, c3, codeC, List.length_map, elemTy] at hK ⊢; exact hK))
            (apply det_new; · (intro fa ga oa K' hK; simp (config := { maxSteps := 1000000 }) only [go_sem,↓reduceIte,q2, q2g, q2o, q5, q6, q7, hkw, strs, hl0, hg, h20, c3, codeC, List.length_map, elemTy] at hK ⊢; first | exact ⟨⟨by decide, by decide⟩, hK⟩ | exact ⟨⟨by decide, by omega⟩, hK⟩ | exact ⟨Nat.le_refl _, ⟨by decide, by omega⟩, hK⟩))
            iterate 2 (apply det_pure; · (intro fa ga oa K' hK; simp (config := { maxSteps := 1000000 }) only [go_sem,↓reduceIte,q2, q2g, q2o, q5, q6, q7, hkw, strs, hl0, hg, h20, c3, codeC, List.length_map] at hK ⊢; exact hK))
            (apply det_store; (focus simp); (focus (intro fa ga oa K' hK; simp (config := { maxSteps := 1000000 }) only [go_sem,↓reduceIte,q2, q2g, q2o, q5, q6, q7, hkw, strs, hl0, hg, h20, c3, codeC, List.length_map] at hK ⊢; exact hK)))
            iterate 2 (apply det_pure; · (intro fa ga oa K' hK; simp (config := { maxSteps := 1000000 }) only [go_sem,↓reduceIte,q2, q2g, q2o, q5, q6, q7, hkw, strs, hl0, hg, h20, c3, codeC, List.length_map] at hK ⊢; exact hK))
            apply det_last
            intro K' hK'
            simp (config := { maxSteps := 1000000 }) only [go_sem,↓reduceIte,q2, q2g, q2o, q5, q6, q7, hkw, strs, hl0, hg, h20, c3, codeC, List.length_map]
            refine hK' _ ?_
            clear hK' K'
            by_cases hop : op = []
            case pos =>
              subst hop
              have hst : stepA (k + 1) st x = .ok { st with labs := st.labs ++ [(l, st.code.length)] } := by rw [hsp]; exact opA_nil
              have hgrow := stepA_grow hst
              have hgl := stepA_labs hst
              simp (config := { maxSteps := 1000000 }) only [go_sem,↓reduceIte,q2, q2g, q2o, q5, q6, q7, hkw, strs, hl0, hg, h20, c3, codeC, List.length_map]
              refine round_end (nn - 1) (by omega) ⟨k + 1, _, by omega, by rw [hli, linesA_ok hst], hwf' _ hst, by omega, by omega, ?_⟩
              simp (config := { maxSteps := 1000000 }) only [go_sem,↓reduceIte,q2, q2g, q2o, q5, q6, q7, hkw, strs, hl0, hg, h20, c3, codeC, List.length_map]
              exact ⟨by simp [upd, hg], _, _, _, uc, rfl, .inr ⟨c1, 3172, .inl rfl, by simp [upd], by simp [upd, c3]⟩, .inr ⟨by simp, by simp [upd, l1], by simp [upd, l1], by simp [upd, l1], by simp [upd, l1]⟩, hu⟩
            case neg =>
              simp (config := { maxSteps := 1000000 }) only [go_sem,↓reduceIte,q2, q2g, q2o, q5, q6, q7, hkw, strs, hl0, hg, h20, c3, codeC, List.length_map, hop]
              refine hook_fun (R := OutM gr (putA (k + 1) { st with labs := st.labs ++ [(l, st.code.length)] } op args) _ _) rfl (by simp (config := { maxSteps := 1000000 }) only [go_sem,↓reduceIte,q2, q2g, q2o, q5, q6, q7, hkw, strs, hl0, hg, h20, c3, codeC, List.length_map, hop]; refine put_A (st := { st with labs := st.labs ++ [(l, st.code.length)] }) ?_ op args (k + 1) (by omega) (by omega) (fun a ha => by have := hax a ha; omega) hlenc (show st.uses.length ≤ 1000000 by omega); exact ⟨by simp [upd, hg], _, _, _, uc, rfl, .inr ⟨c1, 3172, .inl rfl, by simp [upd], by simp [upd, c3]⟩, .inr ⟨by simp, by simp [upd, l1], by simp [upd, l1], by simp [upd, l1], by simp [upd, l1]⟩, hu⟩) ?_
              rintro r g' ob' ⟨o1, o2, o3⟩
              rw [put_same (st := { st with labs := st.labs ++ [(l, st.code.length)] }) hop hlenc, ← hsp] at o3
              have o2g := o1 2 (by decide)
              have o2o := o2 2 (by decide) (by decide)
              simp [upd, q2g] at o2g
              simp [upd, q2o] at o2o
              cases hst : stepA (k + 1) st x with
              | err e =>
                have hne : ¬ ((e : Nat) : Int) = 0 := by have := stepA_ne hst; omega
                rw [hst] at o3
                simp only at o3
                subst o3
                rw [hbad e hst] at hP
                subst hP
                simp (config := { maxSteps := 1000000 }) only [go_sem,↓reduceIte,q2, q2g, q2o, q5, q6, q7, hkw, strs, hl0, hg, h20, c3, codeC, List.length_map, hop, hne, o2g, o2o, buildA]
                exact ⟨_, frz_read (code := []) (d := 0) (n := k + 1) (e := e) (.d _), rfl⟩
              | ok st' =>
                rw [hst] at o3
                obtain ⟨rfl, hM'⟩ := o3
                have hgrow := stepA_grow hst
                have hgl := stepA_labs hst
                simp (config := { maxSteps := 1000000 }) only [go_sem,↓reduceIte,q2, q2g, q2o, q5, q6, q7, hkw, strs, hl0, hg, h20, c3, codeC, List.length_map, hop]
                refine round_end (nn - 1) (by omega) ⟨k + 1, st', by omega, by rw [hli, linesA_ok hst], hwf' st' hst, by omega, by omega, ?_⟩
                simp (config := { maxSteps := 1000000 }) only [go_sem,↓reduceIte,q2, q2g, q2o, q5, q6, q7, hkw, strs, hl0, hg, h20, c3, codeC, List.length_map, hop]
                exact ⟨hM', o2g, o2o⟩
          · refine draw_det Tt_ok mixed [56, 57, 68, 69, 20] [([5], [0, 1, 2, 3], [], false), ([5], [0, 1, 2, 3, 4], [], false), ([5], [0, 2], [], false), ([51], [0, 2], [], false), ([52], [0, 2], [], false), ([53], [0, 2], [], false), ([8], [2], [], false), ([55], [2], [0], false), ([54, 56], [2], [1], false), ([5], [0, 1, 2], [], false), ([58], [0, 1, 2], [], false), ([59], [0, 1, 2], [], false), ([60], [0, 1, 2], [], false), ([5], [0, 1], [], false), ([62], [0, 1], [], false), ([63], [0, 1], [], false), ([64], [0, 1], [], false), ([65], [0, 1], [], false), ([66], [0, 1], [], false), ([67], [0, 1], [2], false), ([61, 68], [], [3], false), ([49], [], [], false), ([70], [], [], false), ([71, 57], [], [4], false), ([50], [], [], false), ([72], [], [], false), ([73, 69], [], [], true)] 5 (by decide +kernel) rfl (by decide) ?_
            simp (config := { maxSteps := 1000000 }) only [go_sem,↓reduceIte]
            iterate 7 (apply det_pure; · (intro fa ga oa K' hK; simp (config := { maxSteps := 1000000 }) only [go_sem,↓reduceIte,q2, q2g, q2o, q5, q6, q7, hkw, strs, hl0, hg, h20, c3, codeC, l57, l69, List.length_map] at hK ⊢; exact hK))
            (apply det_new; · (intro fa ga oa K' hK; simp (config := { maxSteps := 1000000 }) only [go_sem,↓reduceIte,q2, q2g, q2o, q5, q6, q7, hkw, strs, hl0, hg, h20, c3, codeC, l57, l69, List.length_map, elemTy] at hK ⊢; exact hK))
            (apply det_new; · (intro fa ga oa K' hK; simp (config := { maxSteps := 1000000 }) only [go_sem,↓reduceIte,q2, q2g, q2o, q5, q6, q7, hkw, strs, hl0, hg, h20, c3, codeC, l57, l69, List.length_map, elemTy] at hK ⊢; first | exact ⟨⟨by decide, by decide⟩, hK⟩ | exact ⟨⟨by decide, by omega⟩, hK⟩ | exact ⟨Nat.le_refl _, ⟨by decide, by omega⟩, hK⟩))
            iterate 10 (apply det_pure; · (intro fa ga oa K' hK; simp (config := { maxSteps := 1000000 }) only [go_sem,↓reduceIte,q2, q2g, q2o, q5, q6, q7, hkw, strs, hl0, hg, h20, c3, codeC, l57, l69, List.length_map] at hK ⊢; exact hK))
            (apply det_new; · (intro fa ga oa K' hK; simp (config := { maxSteps := 1000000 }) only [go_sem,↓reduceIte,q2, q2g, q2o, q5, q6, q7, hkw, strs, hl0, hg, h20, c3, codeC, l57, l69, List.length_map, elemTy] at hK ⊢; exact hK))
            (apply det_new; · (intro fa ga oa K' hK; simp (config := { maxSteps := 1000000 }) only [go_sem,↓reduceIte,q2, q2g, q2o, q5, q6, q7, hkw, strs, hl0, hg, h20, c3, codeC, l57, l69, List.length_map, elemTy] at hK ⊢; first | exact ⟨⟨by decide, by decide⟩, hK⟩ | exact ⟨⟨by decide, by omega⟩, hK⟩ | exact ⟨Nat.le_refl _, ⟨by decide, by omega⟩, hK⟩))
            iterate 2 (apply det_pure; · (intro fa ga oa K' hK; simp (config := { maxSteps := 1000000 }) only [go_sem,↓reduceIte,q2, q2g, q2o, q5, q6, q7, hkw, strs, hl0, hg, h20, c3, codeC, l57, l69, List.length_map] at hK ⊢; exact hK))
            (apply det_store; (focus simp); (focus (intro fa ga oa K' hK; simp (config := { maxSteps := 1000000 }) only [go_sem,↓reduceIte,q2, q2g, q2o, q5, q6, q7, hkw, strs, hl0, hg, h20, c3, codeC, l57, l69, List.length_map] at hK ⊢; exact hK)))
            iterate 2 (apply det_pure; · (intro fa ga oa K' hK; simp (config := { maxSteps := 1000000 }) only [go_sem,↓reduceIte,q2, q2g, q2o, q5, q6, q7, hkw, strs, hl0, hg, h20, c3, codeC, l57, l69, List.length_map] at hK ⊢; exact hK))
            apply det_last
            intro K' hK'
            simp (config := { maxSteps := 1000000 }) only [go_sem,↓reduceIte,q2, q2g, q2o, q5, q6, q7, hkw, strs, hl0, hg, h20, c3, codeC, l57, l69, List.length_map]
            refine hK' _ ?_
            clear hK' K'
            by_cases hop : op = []
            case pos =>
              subst hop
              have hst : stepA (k + 1) st x = .ok { st with labs := st.labs ++ [(l, st.code.length)] } := by rw [hsp]; exact opA_nil
              have hgrow := stepA_grow hst
              have hgl := stepA_labs hst
              simp (config := { maxSteps := 1000000 }) only [go_sem,↓reduceIte,q2, q2g, q2o, q5, q6, q7, hkw, strs, hl0, hg, h20, c3, codeC, l57, l69, List.length_map]
              refine round_end (nn - 1) (by omega) ⟨k + 1, _, by omega, by rw [hli, linesA_ok hst], hwf' _ hst, by omega, by omega, ?_⟩
              simp (config := { maxSteps := 1000000 }) only [go_sem,↓reduceIte,q2, q2g, q2o, q5, q6, q7, hkw, strs, hl0, hg, h20, c3, codeC, l57, l69, List.length_map]
              exact ⟨by simp [upd, hg], _, _, _, uc, rfl, .inr ⟨c1, 3172, .inl rfl, by simp [upd], by simp [upd, c3]⟩, .inr ⟨by simp, by simp [upd], by simp [upd], by simp [upd, List.take_of_length_le], by simp [upd, List.take_of_length_le]⟩, hu⟩
            case neg =>
              simp (config := { maxSteps := 1000000 }) only [go_sem,↓reduceIte,q2, q2g, q2o, q5, q6, q7, hkw, strs, hl0, hg, h20, c3, codeC, l57, l69, List.length_map, hop]
              refine hook_fun (R := OutM gr (putA (k + 1) { st with labs := st.labs ++ [(l, st.code.length)] } op args) _ _) rfl (by simp (config := { maxSteps := 1000000 }) only [go_sem,↓reduceIte,q2, q2g, q2o, q5, q6, q7, hkw, strs, hl0, hg, h20, c3, codeC, l57, l69, List.length_map, hop]; refine put_A (st := { st with labs := st.labs ++ [(l, st.code.length)] }) ?_ op args (k + 1) (by omega) (by omega) (fun a ha => by have := hax a ha; omega) hlenc (show st.uses.length ≤ 1000000 by omega); exact ⟨by simp [upd, hg], _, _, _, uc, rfl, .inr ⟨c1, 3172, .inl rfl, by simp [upd], by simp [upd, c3]⟩, .inr ⟨by simp, by simp [upd], by simp [upd], by simp [upd, List.take_of_length_le], by simp [upd, List.take_of_length_le]⟩, hu⟩) ?_
              rintro r g' ob' ⟨o1, o2, o3⟩
              rw [put_same (st := { st with labs := st.labs ++ [(l, st.code.length)] }) hop hlenc, ← hsp] at o3
              have o2g := o1 2 (by decide)
              have o2o := o2 2 (by decide) (by decide)
              simp [upd, q2g] at o2g
              simp [upd, q2o] at o2o
              cases hst : stepA (k + 1) st x with
              | err e =>
                have hne : ¬ ((e : Nat) : Int) = 0 := by have := stepA_ne hst; omega
                rw [hst] at o3
                simp only at o3
                subst o3
                rw [hbad e hst] at hP
                subst hP
                simp (config := { maxSteps := 1000000 }) only [go_sem,↓reduceIte,q2, q2g, q2o, q5, q6, q7, hkw, strs, hl0, hg, h20, c3, codeC, l57, l69, List.length_map, hop, hne, o2g, o2o, buildA]
                exact ⟨_, frz_read (code := []) (d := 0) (n := k + 1) (e := e) (.d _), rfl⟩
              | ok st' =>
                rw [hst] at o3
                obtain ⟨rfl, hM'⟩ := o3
                have hgrow := stepA_grow hst
                have hgl := stepA_labs hst
                simp (config := { maxSteps := 1000000 }) only [go_sem,↓reduceIte,q2, q2g, q2o, q5, q6, q7, hkw, strs, hl0, hg, h20, c3, codeC, l57, l69, List.length_map, hop]
                refine round_end (nn - 1) (by omega) ⟨k + 1, st', by omega, by rw [hli, linesA_ok hst], hwf' st' hst, by omega, by omega, ?_⟩
                simp (config := { maxSteps := 1000000 }) only [go_sem,↓reduceIte,q2, q2g, q2o, q5, q6, q7, hkw, strs, hl0, hg, h20, c3, codeC, l57, l69, List.length_map, hop]
                exact ⟨hM', o2g, o2o⟩
        · rcases hl with ⟨l1, rfl, rfl⟩ | ⟨l1, rfl, rfl, l57, l69⟩
          · refine draw_det Tt_ok mixed [56, 57, 68, 69, 20] [([5], [0, 1, 2, 3], [], false), ([5], [0, 1, 2, 3, 4], [], false), ([5], [0, 2], [], false), ([51], [0, 2], [], false), ([52], [0, 2], [], false), ([53], [0, 2], [], false), ([8], [2], [], false), ([55], [2], [0], false), ([54, 56], [2], [1], false), ([5], [0, 1, 2], [], false), ([58], [0, 1, 2], [], false), ([59], [0, 1, 2], [], false), ([60], [0, 1, 2], [], false), ([5], [0, 1], [], false), ([62], [0, 1], [], false), ([63], [0, 1], [], false), ([64], [0, 1], [], false), ([65], [0, 1], [], false), ([66], [0, 1], [], false), ([67], [0, 1], [2], false), ([61, 68], [], [3], false), ([49], [], [], false), ([70], [], [], false), ([71, 57], [], [4], false), ([50], [], [], false), ([72], [], [], false), ([73, 69], [], [], true)] 5 (by decide +kernel) rfl (by decide) ?_
            simp (config := { maxSteps := 1000000 }) only [go_sem,↓reduceIte]
            iterate 7 (apply det_pure; · (intro fa ga oa K' hK; simp (config := { maxSteps := 1000000 }) only [go_sem,↓reduceIte,q2, q2g, q2o, q5, q6, q7, hkw, strs, hl0, hg, h20, c3, codeC, List.length_map] at hK ⊢; exact hK))
            (apply det_new; · (intro fa ga oa K' hK; simp (config := { maxSteps := 1000000 }) only [go_sem,↓reduceIte,q2, q2g, q2o, q5, q6, q7, hkw, strs, hl0, hg, h20, c3, codeC, List.length_map, elemTy] at hK ⊢; exact hK))
            (apply det_new; · (intro fa ga oa K' hK; simp (config := { maxSteps := 1000000 }) only [go_sem,↓reduceIte,q2, q2g, q2o, q5, q6, q7, hkw, strs, hl0, hg, h20, c3, codeC, List.length_map, elemTy] at hK ⊢; first | exact ⟨⟨by decide, by decide⟩, hK⟩ | exact ⟨⟨by decide, by omega⟩, hK⟩ | exact ⟨Nat.le_refl _, ⟨by decide, by omega⟩, hK⟩))
            iterate 10 (apply det_pure; · (intro fa ga oa K' hK; simp (config := { maxSteps := 1000000 }) only [go_sem,↓reduceIte,q2, q2g, q2o, q5, q6, q7, hkw, strs, hl0, hg, h20, c3, codeC, List.length_map] at hK ⊢; exact hK))
            (apply det_new; · (intro fa ga oa K' hK; simp (config := { maxSteps := 1000000 }) only [go_sem,↓reduceIte,q2, q2g, q2o, q5, q6, q7, hkw, strs, hl0, hg, h20, c3, codeC, List.length_map, elemTy] at hK ⊢; exact hK))
            (apply det_new; · (intro fa ga oa K' hK; simp (config := { maxSteps := 1000000 }) only [go_sem,↓reduceIte,q2, q2g, q2o, q5, q6, q7, hkw, strs, hl0, hg, h20, c3, codeC, List.length_map, elemTy] at hK ⊢; first | exact ⟨⟨by decide, by decide⟩, hK⟩ | exact ⟨⟨by decide, by omega⟩, hK⟩ | exact ⟨Nat.le_refl _, ⟨by decide, by omega⟩, hK⟩))
            iterate 2 (apply det_pure; · (intro fa ga oa K' hK; simp (config := { maxSteps := 1000000 }) only [go_sem,↓reduceIte,q2, q2g, q2o, q5, q6, q7, hkw, strs, hl0, hg, h20, c3, codeC, List.length_map] at hK ⊢; exact hK))
            (apply det_store; (focus simp); (focus (intro fa ga oa K' hK; simp (config := { maxSteps := 1000000 }) only [go_sem,↓reduceIte,q2, q2g, q2o, q5, q6, q7, hkw, strs, hl0, hg, h20, c3, codeC, List.length_map] at hK ⊢; exact hK)))
            iterate 2 (apply det_pure; · (intro fa ga oa K' hK; simp (config := { maxSteps := 1000000 }) only [go_sem,↓reduceIte,q2, q2g, q2o, q5, q6, q7, hkw, strs, hl0, hg, h20, c3, codeC, List.length_map] at hK ⊢; exact hK))
            apply det_last
            intro K' hK'
            simp (config := { maxSteps := 1000000 }) only [go_sem,↓reduceIte,q2, q2g, q2o, q5, q6, q7, hkw, strs, hl0, hg, h20, c3, codeC, List.length_map]
            refine hK' _ ?_
            clear hK' K'
            by_cases hop : op = []
            case pos =>
              subst hop
              have hst : stepA (k + 1) st x = .ok { st with labs := st.labs ++ [(l, st.code.length)] } := by rw [hsp]; exact opA_nil
              have hgrow := stepA_grow hst
              have hgl := stepA_labs hst
              simp (config := { maxSteps := 1000000 }) only [go_sem,↓reduceIte,q2, q2g, q2o, q5, q6, q7, hkw, strs, hl0, hg, h20, c3, codeC, List.length_map]
              refine round_end (nn - 1) (by omega) ⟨k + 1, _, by omega, by rw [hli, linesA_ok hst], hwf' _ hst, by omega, by omega, ?_⟩
              simp (config := { maxSteps := 1000000 }) only [go_sem,↓reduceIte,q2, q2g, q2o, q5, q6, q7, hkw, strs, hl0, hg, h20, c3, codeC, List.length_map]
              exact ⟨by simp [upd, hg], _, _, _, uc, rfl, .inr ⟨c1, 3223, .inr rfl, by simp [upd], by simp [upd, c3]⟩, .inr ⟨by simp, by simp [upd, l1], by simp [upd, l1], by simp [upd, l1], by simp [upd, l1]⟩, hu⟩
            case neg =>
              simp (config := { maxSteps := 1000000 }) only [go_sem,↓reduceIte,q2, q2g, q2o, q5, q6, q7, hkw, strs, hl0, hg, h20, c3, codeC, List.length_map, hop]
              refine hook_fun (R := OutM gr (putA (k + 1) { st with labs := st.labs ++ [(l, st.code.length)] } op args) _ _) rfl (by simp (config := { maxSteps := 1000000 }) only [go_sem,↓reduceIte,q2, q2g, q2o, q5, q6, q7, hkw, strs, hl0, hg, h20, c3, codeC, List.length_map, hop]; refine put_A (st := { st with labs := st.labs ++ [(l, st.code.length)] }) ?_ op args (k + 1) (by omega) (by omega) (fun a ha => by have := hax a ha; omega) hlenc (show st.uses.length ≤ 1000000 by omega); exact ⟨by simp [upd, hg], _, _, _, uc, rfl, .inr ⟨c1, 3223, .inr rfl, by simp [upd], by simp [upd, c3]⟩, .inr ⟨by simp, by simp [upd, l1], by simp [upd, l1], by simp [upd, l1], by simp [upd, l1]⟩, hu⟩) ?_
              rintro r g' ob' ⟨o1, o2, o3⟩
              rw [put_same (st := { st with labs := st.labs ++ [(l, st.code.length)] }) hop hlenc, ← hsp] at o3
              have o2g := o1 2 (by decide)
              have o2o := o2 2 (by decide) (by decide)
              simp [upd, q2g] at o2g
              simp [upd, q2o] at o2o
              cases hst : stepA (k + 1) st x with
              | err e =>
                have hne : ¬ ((e : Nat) : Int) = 0 := by have := stepA_ne hst; omega
                rw [hst] at o3
                simp only at o3
                subst o3
                rw [hbad e hst] at hP
                subst hP
                simp (config := { maxSteps := 1000000 }) only [go_sem,↓reduceIte,q2, q2g, q2o, q5, q6, q7, hkw, strs, hl0, hg, h20, c3, codeC, List.length_map, hop, hne, o2g, o2o, buildA]
                exact ⟨_, frz_read (code := []) (d := 0) (n := k + 1) (e := e) (.d _), rfl⟩
              | ok st' =>
                rw [hst] at o3
                obtain ⟨rfl, hM'⟩ := o3
                have hgrow := stepA_grow hst
                have hgl := stepA_labs hst
                simp (config := { maxSteps := 1000000 }) only [go_sem,↓reduceIte,q2, q2g, q2o, q5, q6, q7, hkw, strs, hl0, hg, h20, c3, codeC, List.length_map, hop]
                refine round_end (nn - 1) (by omega) ⟨k + 1, st', by omega, by rw [hli, linesA_ok hst], hwf' st' hst, by omega, by omega, ?_⟩
                simp (config := { maxSteps := 1000000 }) only [go_sem,↓reduceIte,q2, q2g, q2o, q5, q6, q7, hkw, strs, hl0, hg, h20, c3, codeC, List.length_map, hop]
                exact ⟨hM', o2g, o2o⟩
          · refine draw_det Tt_ok mixed [56, 57, 68, 69, 20] [([5], [0, 1, 2, 3], [], false), ([5], [0, 1, 2, 3, 4], [], false), ([5], [0, 2], [], false), ([51], [0, 2], [], false), ([52], [0, 2], [], false), ([53], [0, 2], [], false), ([8], [2], [], false), ([55], [2], [0], false), ([54, 56], [2], [1], false), ([5], [0, 1, 2], [], false), ([58], [0, 1, 2], [], false), ([59], [0, 1, 2], [], false), ([60], [0, 1, 2], [], false), ([5], [0, 1], [], false), ([62], [0, 1], [], false), ([63], [0, 1], [], false), ([64], [0, 1], [], false), ([65], [0, 1], [], false), ([66], [0, 1], [], false), ([67], [0, 1], [2], false), ([61, 68], [], [3], false), ([49], [], [], false), ([70], [], [], false), ([71, 57], [], [4], false), ([50], [], [], false), ([72], [], [], false), ([73, 69], [], [], true)] 5 (by decide +kernel) rfl (by decide) ?_
            simp (config := { maxSteps := 1000000 }) only [go_sem,↓reduceIte]
            iterate 7 (apply det_pure; · (intro fa ga oa K' hK; simp (config := { maxSteps := 1000000 }) only [go_sem,↓reduceIte,q2, q2g, q2o, q5, q6, q7, hkw, strs, hl0, hg, h20, c3, codeC, l57, l69, List.length_map] at hK ⊢; exact hK))
            (apply det_new; · (intro fa ga oa K' hK; simp (config := { maxSteps := 1000000 }) only [go_sem,↓reduceIte,q2, q2g, q2o, q5, q6, q7, hkw, strs, hl0, hg, h20, c3, codeC, l57, l69, List.length_map, elemTy] at hK ⊢; exact hK))
            (apply det_new; · (intro fa ga oa K' hK; simp (config := { maxSteps := 1000000 }) only [go_sem,↓reduceIte,q2, q2g, q2o, q5, q6, q7, hkw, strs, hl0, hg, h20, c3, codeC, l57, l69, List.length_map, elemTy] at hK ⊢; first | exact ⟨⟨by decide, by decide⟩, hK⟩ | exact ⟨⟨by decide, by omega⟩, hK⟩ | exact ⟨Nat.le_refl _, ⟨by decide, by omega⟩, hK⟩))
            iterate 10 (apply det_pure; · (intro fa ga oa K' hK; simp (config := { maxSteps := 1000000 }) only [go_sem,↓reduceIte,q2, q2g, q2o, q5, q6, q7, hkw, strs, hl0, hg, h20, c3, codeC, l57, l69, List.length_map] at hK ⊢; exact hK))
            (apply det_new; · (intro fa ga oa K' hK; simp (config := { maxSteps := 1000000 }) only [go_sem,↓reduceIte,q2, q2g, q2o, q5, q6, q7, hkw, strs, hl0, hg, h20, c3, codeC, l57, l69, List.length_map, elemTy] at hK ⊢; exact hK))
            (apply det_new; · (intro fa ga oa K' hK; simp (config := { maxSteps := 1000000 }) only [go_sem,↓reduceIte,q2, q2g, q2o, q5, q6, q7, hkw, strs, hl0, hg, h20, c3, codeC, l57, l69, List.length_map, elemTy] at hK ⊢; first | exact ⟨⟨by decide, by decide⟩, hK⟩ | exact ⟨⟨by decide, by omega⟩, hK⟩ | exact ⟨Nat.le_refl _, ⟨by decide, by omega⟩, hK⟩))
            iterate 2 (apply det_pure; · (intro fa ga oa K' hK; simp (config := { maxSteps := 1000000 }) only [go_sem,↓reduceIte,q2, q2g, q2o, q5, q6, q7, hkw, strs, hl0, hg, h20, c3, codeC, l57, l69, List.length_map] at hK ⊢; exact hK))
            (apply det_store; (focus simp); (focus (intro fa ga oa K' hK; simp (config := { maxSteps := 1000000 }) only [go_sem,↓reduceIte,q2, q2g, q2o, q5, q6, q7, hkw, strs, hl0, hg, h20, c3, codeC, l57, l69, List.length_map] at hK ⊢; exact hK)))
            iterate 2 (apply det_pure; · (intro fa ga oa K' hK; simp (config := { maxSteps := 1000000 }) only [go_sem,↓reduceIte,q2, q2g, q2o, q5, q6, q7, hkw, strs, hl0, hg, h20, c3, codeC, l57, l69, List.length_map] at hK ⊢; exact hK))
            apply det_last
            intro K' hK'
            simp (config := { maxSteps := 1000000 }) only [go_sem,↓reduceIte,q2, q2g, q2o, q5, q6, q7, hkw, strs, hl0, hg, h20, c3, codeC, l57, l69, List.length_map]
            refine hK' _ ?_
            clear hK' K'
            by_cases hop : op = []
            case pos =>
              subst hop
              have hst : stepA (k + 1) st x = .ok { st with labs := st.labs ++ [(l, st.code.length)] } := by rw [hsp]; exact opA_nil
              have hgrow := stepA_grow hst
              have hgl := stepA_labs hst
              simp (config := { maxSteps := 1000000 }) only [go_sem,↓reduceIte,q2, q2g, q2o, q5, q6, q7, hkw, strs, hl0, hg, h20, c3, codeC, l57, l69, List.length_map]
              refine round_end (nn - 1) (by omega) ⟨k + 1, _, by omega, by rw [hli, linesA_ok hst], hwf' _ hst, by omega, by omega, ?_⟩
              simp (config := { maxSteps := 1000000 }) only [go_sem,↓reduceIte,q2, q2g, q2o, q5, q6, q7, hkw, strs, hl0, hg, h20, c3, codeC, l57, l69, List.length_map]
              exact ⟨by simp [upd, hg], _, _, _, uc, rfl, .inr ⟨c1, 3223, .inr rfl, by simp [upd], by simp [upd, c3]⟩, .inr ⟨by simp, by simp [upd], by simp [upd], by simp [upd, List.take_of_length_le], by simp [upd, List.take_of_length_le]⟩, hu⟩
            case neg =>
              simp (config := { maxSteps := 1000000 }) only [go_sem,↓reduceIte,q2, q2g, q2o, q5, q6, q7, hkw, strs, hl0, hg, h20, c3, codeC, l57, l69, List.length_map, hop]
              refine hook_fun (R := OutM gr (putA (k + 1) { st with labs := st.labs ++ [(l, st.code.length)] } op args) _ _) rfl (by simp (config := { maxSteps := 1000000 }) only [go_sem,↓reduceIte,q2, q2g, q2o, q5, q6, q7, hkw, strs, hl0, hg, h20, c3, codeC, l57, l69, List.length_map, hop]; refine put_A (st := { st with labs := st.labs ++ [(l, st.code.length)] }) ?_ op args (k + 1) (by omega) (by omega) (fun a ha => by have := hax a ha; omega) hlenc (show st.uses.length ≤ 1000000 by omega); exact ⟨by simp [upd, hg], _, _, _, uc, rfl, .inr ⟨c1, 3223, .inr rfl, by simp [upd], by simp [upd, c3]⟩, .inr ⟨by simp, by simp [upd], by simp [upd], by simp [upd, List.take_of_length_le], by simp [upd, List.take_of_length_le]⟩, hu⟩) ?_
              rintro r g' ob' ⟨o1, o2, o3⟩
              rw [put_same (st := { st with labs := st.labs ++ [(l, st.code.length)] }) hop hlenc, ← hsp] at o3
              have o2g := o1 2 (by decide)
              have o2o := o2 2 (by decide) (by decide)
              simp [upd, q2g] at o2g
              simp [upd, q2o] at o2o
              cases hst : stepA (k + 1) st x with
              | err e =>
                have hne : ¬ ((e : Nat) : Int) = 0 := by have := stepA_ne hst; omega
                rw [hst] at o3
                simp only at o3
                subst o3
                rw [hbad e hst] at hP
                subst hP
                simp (config := { maxSteps := 1000000 }) only [go_sem,↓reduceIte,q2, q2g, q2o, q5, q6, q7, hkw, strs, hl0, hg, h20, c3, codeC, l57, l69, List.length_map, hop, hne, o2g, o2o, buildA]
                exact ⟨_, frz_read (code := []) (d := 0) (n := k + 1) (e := e) (.d _), rfl⟩
              | ok st' =>
                rw [hst] at o3
                obtain ⟨rfl, hM'⟩ := o3
                have hgrow := stepA_grow hst
                have hgl := stepA_labs hst
                simp (config := { maxSteps := 1000000 }) only [go_sem,↓reduceIte,q2, q2g, q2o, q5, q6, q7, hkw, strs, hl0, hg, h20, c3, codeC, l57, l69, List.length_map, hop]
                refine round_end (nn - 1) (by omega) ⟨k + 1, st', by omega, by rw [hli, linesA_ok hst], hwf' st' hst, by omega, by omega, ?_⟩
                simp (config := { maxSteps := 1000000 }) only [go_sem,↓reduceIte,q2, q2g, q2o, q5, q6, q7, hkw, strs, hl0, hg, h20, c3, codeC, l57, l69, List.length_map, hop]
                exact ⟨hM', o2g, o2o⟩
      case some p =>
        have hst := stepA_dup (n := k + 1) hla hl0 hpo
        rw [hbad 4 hst] at hP
        subst hP
        have hp0 : (0 : Int) ≤ (p : Int) := by omega
        simp (config := { maxSteps := 1000000 }) only [go_sem,↓reduceIte,q2, q2g, q2o, q5, q6, q7, hkw, strs, hl0, hp0]
        rcases hc with ⟨c1, rfl⟩ | ⟨c1, ci, rfl | rfl, rfl, c3⟩
        · rcases hl with ⟨l1, rfl, rfl⟩ | ⟨l1, rfl, rfl, l57, l69⟩
          · refine draw_det Tt_ok mixed [56, 57, 68, 69, 20] [([5], [0, 1, 2, 3], [], false), ([5], [0, 1, 2, 3, 4], [], false), ([5], [0, 2], [], false), ([51], [0, 2], [], false), ([52], [0, 2], [], false), ([53], [0, 2], [], false), ([8], [2], [], false), ([55], [2], [0], false), ([54, 56], [2], [1], false), ([5], [0, 1, 2], [], false), ([58], [0, 1, 2], [], false), ([59], [0, 1, 2], [], false), ([60], [0, 1, 2], [], false), ([5], [0, 1], [], false), ([62], [0, 1], [], false), ([63], [0, 1], [], false), ([64], [0, 1], [], false), ([65], [0, 1], [], false), ([66], [0, 1], [], false), ([67], [0, 1], [2], false), ([61, 68], [], [3], false), ([49], [], [], false), ([70], [], [], false), ([71, 57], [], [4], false), ([50], [], [], false), ([72], [], [], false), ([73, 69], [], [], true)] 5 (by decide +kernel) rfl (by decide) ?_
            simp (config := { maxSteps := 1000000 }) only [go_sem,↓reduceIte]
            iterate 7 (apply det_pure; · (intro fa ga oa K' hK; simp (config := { maxSteps := 1000000 }) only [go_sem,↓reduceIte,q2, q2g, q2o, q5, q6, q7, hkw, strs, hl0, hg, h20, List.length_map] at hK ⊢; exact hK))
            (apply det_new; · (intro fa ga oa K' hK; simp (config := { maxSteps := 1000000 }) only [go_sem,↓reduceIte,q2, q2g, q2o, q5, q6, q7, hkw, strs, hl0, hg, h20, List.length_map, elemTy] at hK ⊢; exact hK))
            (apply det_new; · (intro fa ga oa K' hK; simp (config := { maxSteps := 1000000 }) only [go_sem,↓reduceIte,q2, q2g, q2o, q5, q6, q7, hkw, strs, hl0, hg, h20, List.length_map, elemTy] at hK ⊢; first | exact ⟨⟨by decide, by decide⟩, hK⟩ | exact ⟨⟨by decide, by omega⟩, hK⟩ | exact ⟨Nat.le_refl _, ⟨by decide, by omega⟩, hK⟩))
            iterate 10 (apply det_pure; · (intro fa ga oa K' hK; simp (config := { maxSteps := 1000000 }) only [go_sem,↓reduceIte,q2, q2g, q2o, q5, q6, q7, hkw, strs, hl0, hg, h20, List.length_map] at hK ⊢; exact hK))
            (apply det_new; · (intro fa ga oa K' hK; simp (config := { maxSteps := 1000000 }) only [go_sem,↓reduceIte,q2, q2g, q2o, q5, q6, q7, hkw, strs, hl0, hg, h20, List.length_map, elemTy] at hK ⊢; exact hK))
            (apply det_new; · (intro fa ga oa K' hK; simp (config := { maxSteps := 1000000 }) only [go_sem,↓reduceIte,q2, q2g, q2o, q5, q6, q7, hkw, strs, hl0, hg, h20, List.length_map, elemTy] at hK ⊢; first | exact ⟨⟨by decide, by decide⟩, hK⟩ | exact ⟨⟨by decide, by omega⟩, hK⟩ | exact ⟨Nat.le_refl _, ⟨by decide, by omega⟩, hK⟩))
            iterate 2 (apply det_pure; · (intro fa ga oa K' hK; simp (config := { maxSteps := 1000000 }) only [go_sem,↓reduceIte,q2, q2g, q2o, q5, q6, q7, hkw, strs, hl0, hg, h20, List.length_map] at hK ⊢; exact hK))
            (apply det_store; (focus simp); (focus (intro fa ga oa K' hK; simp (config := { maxSteps := 1000000 }) only [go_sem,↓reduceIte,q2, q2g, q2o, q5, q6, q7, hkw, strs, hl0, hg, h20, List.length_map] at hK ⊢; exact hK)))
            iterate 2 (apply det_pure; · (intro fa ga oa K' hK; simp (config := { maxSteps := 1000000 }) only [go_sem,↓reduceIte,q2, q2g, q2o, q5, q6, q7, hkw, strs, hl0, hg, h20, List.length_map] at hK ⊢; exact hK))
            apply det_last
            intro K' hK'
            simp (config := { maxSteps := 1000000 }) only [go_sem,↓reduceIte,q2, q2g, q2o, q5, q6, q7, hkw, strs, hl0, hg, h20, List.length_map]
            refine hK' _ ?_
            clear hK' K'
            simp (config := { maxSteps := 1000000 }) only [go_sem,↓reduceIte,q2, q2g, q2o, q5, q6, q7, hkw, strs, hl0, hg, h20, List.length_map, buildA]
            exact ⟨_, frz_read (code := []) (d := 0) (n := k + 1) (e := 4) (.d _), rfl⟩
          · refine draw_det Tt_ok mixed [56, 57, 68, 69, 20] [([5], [0, 1, 2, 3], [], false), ([5], [0, 1, 2, 3, 4], [], false), ([5], [0, 2], [], false), ([51], [0, 2], [], false), ([52], [0, 2], [], false), ([53], [0, 2], [], false), ([8], [2], [], false), ([55], [2], [0], false), ([54, 56], [2], [1], false), ([5], [0, 1, 2], [], false), ([58], [0, 1, 2], [], false), ([59], [0, 1, 2], [], false), ([60], [0, 1, 2], [], false), ([5], [0, 1], [], false), ([62], [0, 1], [], false), ([63], [0, 1], [], false), ([64], [0, 1], [], false), ([65], [0, 1], [], false), ([66], [0, 1], [], false), ([67], [0, 1], [2], false), ([61, 68], [], [3], false), ([49], [], [], false), ([70], [], [], false), ([71, 57], [], [4], false), ([50], [], [], false), ([72], [], [], false), ([73, 69], [], [], true)] 5 (by decide +kernel) rfl (by decide) ?_
            simp (config := { maxSteps := 1000000 }) only [go_sem,↓reduceIte]
            iterate 7 (apply det_pure; · (intro fa ga oa K' hK; simp (config := { maxSteps := 1000000 }) only [go_sem,↓reduceIte,q2, q2g, q2o, q5, q6, q7, hkw, strs, hl0, hg, h20, l57, l69, List.length_map] at hK ⊢; exact hK))
            (apply det_new; · (intro fa ga oa K' hK; simp (config := { maxSteps := 1000000 }) only [go_sem,↓reduceIte,q2, q2g, q2o, q5, q6, q7, hkw, strs, hl0, hg, h20, l57, l69, List.length_map, elemTy] at hK ⊢; exact hK))
            (apply det_new; · (intro fa ga oa K' hK; simp (config := { maxSteps := 1000000 }) only [go_sem,↓reduceIte,q2, q2g, q2o, q5, q6, q7, hkw, strs, hl0, hg, h20, l57, l69, List.length_map, elemTy] at hK ⊢; first | exact ⟨⟨by decide, by decide⟩, hK⟩ | exact ⟨⟨by decide, by omega⟩, hK⟩ | exact ⟨Nat.le_refl _, ⟨by decide, by omega⟩, hK⟩))
            iterate 10 (apply det_pure; · (intro fa ga oa K' hK; simp (config := { maxSteps := 1000000 }) only [go_sem,↓reduceIte,q2, q2g, q2o, q5, q6, q7, hkw, strs, hl0, hg, h20, l57, l69, List.length_map] at hK ⊢; exact hK))
            (apply det_new; · (intro fa ga oa K' hK; simp (config := { maxSteps := 1000000 }) only [go_sem,↓reduceIte,q2, q2g, q2o, q5, q6, q7, hkw, strs, hl0, hg, h20, l57, l69, List.length_map, elemTy] at hK ⊢; exact hK))
            (apply det_new; · (intro fa ga oa K' hK; simp (config := { maxSteps := 1000000 }) only [go_sem,↓reduceIte,q2, q2g, q2o, q5, q6, q7, hkw, strs, hl0, hg, h20, l57, l69, List.length_map, elemTy] at hK ⊢; first | exact ⟨⟨by decide, by decide⟩, hK⟩ | exact ⟨⟨by decide, by omega⟩, hK⟩ | exact ⟨Nat.le_refl _, ⟨by decide, by omega⟩, hK⟩))
            iterate 2 (apply det_pure; · (intro fa ga oa K' hK; simp (config := { maxSteps := 1000000 }) only [go_sem,↓reduceIte,q2, q2g, q2o, q5, q6, q7, hkw, strs, hl0, hg, h20, l57, l69, List.length_map] at hK ⊢; exact hK))
            (apply det_store; (focus simp); (focus (intro fa ga oa K' hK; simp (config := { maxSteps := 1000000 }) only [go_sem,↓reduceIte,q2, q2g, q2o, q5, q6, q7, hkw, strs, hl0, hg, h20, l57, l69, List.length_map] at hK ⊢; exact hK)))
            iterate 2 (apply det_pure; · (intro fa ga oa K' hK; simp (config := { maxSteps := 1000000 }) only [go_sem,↓reduceIte,q2, q2g, q2o, q5, q6, q7, hkw, strs, hl0, hg, h20, l57, l69, List.length_map] at hK ⊢; exact hK))
            apply det_last
            intro K' hK'
            simp (config := { maxSteps := 1000000 }) only [go_sem,↓reduceIte,q2, q2g, q2o, q5, q6, q7, hkw, strs, hl0, hg, h20, l57, l69, List.length_map]
            refine hK' _ ?_
            clear hK' K'
            simp (config := { maxSteps := 1000000 }) only [go_sem,↓reduceIte,q2, q2g, q2o, q5, q6, q7, hkw, strs, hl0, hg, h20, l57, l69, List.length_map, buildA]
            exact ⟨_, frz_read (code := []) (d := 0) (n := k + 1) (e := 4) (.d _), rfl⟩
        · rcases hl with ⟨l1, rfl, rfl⟩ | ⟨l1, rfl, rfl, l57, l69⟩
          · refine draw_det Tt_ok mixed [56, 57, 68, 69, 20] [([5], [0, 1, 2, 3], [], false), ([5], [0, 1, 2, 3, 4], [], false), ([5], [0, 2], [], false), ([51], [0, 2], [], false), ([52], [0, 2], [], false), ([53], [0, 2], [], false), ([8], [2], [], false), ([55], [2], [0], false), ([54, 56], [2], [1], false), ([5], [0, 1, 2], [], false), ([58], [0, 1, 2], [], false), ([59], [0, 1, 2], [], false), ([60], [0, 1, 2], [], false), ([5], [0, 1], [], false), ([62], [0, 1], [], false), ([63], [0, 1], [], false), ([64], [0, 1], [], false), ([65], [0, 1], [], false), ([66], [0, 1], [], false), ([67], [0, 1], [2], false), ([61, 68], [], [3], false), ([49], [], [], false), ([70], [], [], false), ([71, 57], [], [4], false), ([50], [], [], false), ([72], [], [], false), ([73, 69], [], [], true)] 5 (by decide +kernel) rfl (by decide) ?_
            simp (config := { maxSteps := 1000000 }) only [go_sem,↓reduceIte]
            iterate 7 (apply det_pure; · (intro fa ga oa K' hK; simp (config := { maxSteps := 1000000 }) only [go_sem,↓reduceIte,q2, q2g, q2o, q5, q6, q7, hkw, strs, hl0, hg, h20, c3, codeC, List.length_map] at hK ⊢; exact hK))
            (apply det_new; · (intro fa ga oa K' hK; simp (config := { maxSteps := 1000000 }) only [go_sem,↓reduceIte,q2, q2g, q2o, q5, q6, q7, hkw, strs, hl0, hg, h20, c3, codeC, List.length_map, elemTy] at hK ⊢; exact hK))
            (apply det_new; · (intro fa ga oa K' hK; simp (config := { maxSteps := 1000000 }) only [go_sem,↓reduceIte,q2, q2g, q2o, q5, q6, q7, hkw, strs, hl0, hg, h20, c3, codeC, List.length_map, elemTy] at hK ⊢; first | exact ⟨⟨by decide, by decide⟩, hK⟩ | exact ⟨⟨by decide, by omega⟩, hK⟩ | exact ⟨Nat.le_refl _, ⟨by decide, by omega⟩, hK⟩))
            iterate 10 (apply det_pure; · (intro fa ga oa K' hK; simp (config := { maxSteps := 1000000 }) only [go_sem,↓reduceIte,q2, q2g, q2o, q5, q6, q7, hkw, strs, hl0, hg, h20, c3, codeC, List.length_map] at hK ⊢; exact hK))
            (apply det_new; · (intro fa ga oa K' hK; simp (config := { maxSteps := 1000000 }) only [go_sem,↓reduceIte,q2, q2g, q2o, q5, q6, q7, hkw, strs, hl0, hg, h20, c3, codeC, List.length_map, elemTy] at hK ⊢; exact hK))
            (apply det_new; · (intro fa ga oa K' hK; simp (config := { maxSteps := 1000000 }) only [go_sem,↓reduceIte,q2, q2g, q2o, q5, q6, q7, hkw, strs, hl0, hg, h20, c3, codeC, List.length_map, elemTy] at hK ⊢; first | exact ⟨⟨by decide, by decide⟩, hK⟩ | exact ⟨⟨by decide, by omega⟩, hK⟩ | exact ⟨Nat.le_refl _, ⟨by decide, by omega⟩, hK⟩))
            iterate 2 (apply det_pure; · (intro fa ga oa K' hK; simp (config := { maxSteps := 1000000 }) only [go_sem,↓reduceIte,q2, q2g, q2o, q5, q6, q7, hkw, strs, hl0, hg, h20, c3, codeC, List.length_map] at hK ⊢; exact hK))
            (apply det_store; (focus simp); (focus (intro fa ga oa K' hK; simp (config := { maxSteps := 1000000 }) only [go_sem,↓reduceIte,q2, q2g, q2o, q5, q6, q7, hkw, strs, hl0, hg, h20, c3, codeC, List.length_map] at hK ⊢; exact hK)))
            iterate 2 (apply det_pure; · (intro fa ga oa K' hK; simp (config := { maxSteps := 1000000 }) only [go_sem,↓reduceIte,q2, q2g, q2o, q5, q6, q7, hkw, strs, hl0, hg, h20, c3, codeC, List.length_map] at hK ⊢; exact hK))
            apply det_last
            intro K' hK'
            simp (config := { maxSteps := 1000000 }) only [go_sem,↓reduceIte,q2, q2g, q2o, q5, q6, q7, hkw, strs, hl0, hg, h20, c3, codeC, List.length_map]
            refine hK' _ ?_
            clear hK' K'
            simp (config := { maxSteps := 1000000 }) only [go_sem,↓reduceIte,q2, q2g, q2o, q5, q6, q7, hkw, strs, hl0, hg, h20, c3, codeC, List.length_map, buildA]
            exact ⟨_, frz_read (code := []) (d := 0) (n := k + 1) (e := 4) (.d _), rfl⟩
          · refine draw_det Tt_ok mixed [56, 57, 68, 69, 20] [([5], [0, 1, 2, 3], [], false), ([5], [0, 1, 2, 3, 4], [], false), ([5], [0, 2], [], false), ([51], [0, 2], [], false), ([52], [0, 2], [], false), ([53], [0, 2], [], false), ([8], [2], [], false), ([55], [2], [0], false), ([54, 56], [2], [1], false), ([5], [0, 1, 2], [], false), ([58], [0, 1, 2], [], false), ([59], [0, 1, 2], [], false), ([60], [0, 1, 2], [], false), ([5], [0, 1], [], false), ([62], [0, 1], [], false), ([63], [0, 1], [], false), ([64], [0, 1], [], false), ([65], [0, 1], [], false), ([66], [0, 1], [], false), ([67], [0, 1], [2], false), ([61, 68], [], [3], false), ([49], [], [], false), ([70], [], [], false), ([71, 57], [], [4], false), ([50], [], [], false), ([72], [], [], false), ([73, 69], [], [], true)] 5 (by decide +kernel) rfl (by decide) ?_
            simp (config := { maxSteps := 1000000 }) only [go_sem,↓reduceIte]
            iterate 7 (apply det_pure; · (intro fa ga oa K' hK; simp (config := { maxSteps := 1000000 }) only [go_sem,↓reduceIte,q2, q2g, q2o, q5, q6, q7, hkw, strs, hl0, hg, h20, c3, codeC, l57, l69, List.length_map] at hK ⊢; exact hK))
            (apply det_new; · (intro fa ga oa K' hK; simp (config := { maxSteps := 1000000 }) only [go_sem,↓reduceIte,q2, q2g, q2o, q5, q6, q7, hkw, strs, hl0, hg, h20, c3, codeC, l57, l69, List.length_map, elemTy] at hK ⊢; exact hK))
            (apply det_new; · (intro fa ga oa K' hK; simp (config := { maxSteps := 1000000 }) only [go_sem,↓reduceIte,q2, q2g, q2o, q5, q6, q7, hkw, strs, hl0, hg, h20, c3, codeC, l57, l69, List.length_map, elemTy] at hK ⊢; first | exact ⟨⟨by decide, by decide⟩, hK⟩ | exact ⟨⟨by decide, by omega⟩, hK⟩ | exact ⟨Nat.le_refl _, ⟨by decide, by omega⟩, hK⟩))
            iterate 10 (apply det_pure; · (intro fa ga oa K' hK; simp (config := { maxSteps := 1000000 }) only [go_sem,↓reduceIte,q2, q2g, q2o, q5, q6, q7, hkw, strs, hl0, hg, h20, c3, codeC, l57, l69, List.length_map] at hK ⊢; exact hK))
            (apply det_new; · (intro fa ga oa K' hK; simp (config := { maxSteps := 1000000 }) only [go_sem,↓reduceIte,q2, q2g, q2o, q5, q6, q7, hkw, strs, hl0, hg, h20, c3, codeC, l57, l69, List.length_map, elemTy] at hK ⊢; exact hK))
            (apply det_new; · (intro fa ga oa K' hK; simp (config := { maxSteps := 1000000 }) only [go_sem,↓reduceIte,q2, q2g, q2o, q5, q6, q7, hkw, strs, hl0, hg, h20, c3, codeC, l57, l69, List.length_map, elemTy] at hK ⊢; first | exact ⟨⟨by decide, by decide⟩, hK⟩ | exact ⟨⟨by decide, by omega⟩, hK⟩ | exact ⟨Nat.le_refl _, ⟨by decide, by omega⟩, hK⟩))
            iterate 2 (apply det_pure; · (intro fa ga oa K' hK; simp (config := { maxSteps := 1000000 }) only [go_sem,↓reduceIte,q2, q2g, q2o, q5, q6, q7, hkw, strs, hl0, hg, h20, c3, codeC, l57, l69, List.length_map] at hK ⊢; exact hK))
            (apply det_store; (focus simp); (focus (intro fa ga oa K' hK; simp (config := { maxSteps := 1000000 }) only [go_sem,↓reduceIte,q2, q2g, q2o, q5, q6, q7, hkw, strs, hl0, hg, h20, c3, codeC, l57, l69, List.length_map] at hK ⊢; exact hK)))
            iterate 2 (apply det_pure; · (intro fa ga oa K' hK; simp (config := { maxSteps := 1000000 }) only [go_sem,↓reduceIte,q2, q2g, q2o, q5, q6, q7, hkw, strs, hl0, hg, h20, c3, codeC, l57, l69, List.length_map] at hK ⊢; exact hK))
            apply det_last
            intro K' hK'
            simp (config := { maxSteps := 1000000 }) only [go_sem,↓reduceIte,q2, q2g, q2o, q5, q6, q7, hkw, strs, hl0, hg, h20, c3, codeC, l57, l69, List.length_map]
            refine hK' _ ?_
            clear hK' K'
            simp (config := { maxSteps := 1000000 }) only [go_sem,↓reduceIte,q2, q2g, q2o, q5, q6, q7, hkw, strs, hl0, hg, h20, c3, codeC, l57, l69, List.length_map, buildA]
            exact ⟨_, frz_read (code := []) (d := 0) (n := k + 1) (e := 4) (.d _), rfl⟩
        · rcases hl with ⟨l1, rfl, rfl⟩ | ⟨l1, rfl, rfl, l57, l69⟩
          · refine draw_det Tt_ok mixed [56, 57, 68, 69, 20] [([5], [0, 1, 2, 3], [], false), ([5], [0, 1, 2, 3, 4], [], false), ([5], [0, 2], [], false), ([51], [0, 2], [], false), ([52], [0, 2], [], false), ([53], [0, 2], [], false), ([8], [2], [], false), ([55], [2], [0], false), ([54, 56], [2], [1], false), ([5], [0, 1, 2], [], false), ([58], [0, 1, 2], [], false), ([59], [0, 1, 2], [], false), ([60], [0, 1, 2], [], false), ([5], [0, 1], [], false), ([62], [0, 1], [], false), ([63], [0, 1], [], false), ([64], [0, 1], [], false), ([65], [0, 1], [], false), ([66], [0, 1], [], false), ([67], [0, 1], [2], false), ([61, 68], [], [3], false), ([49], [], [], false), ([70], [], [], false), ([71, 57], [], [4], false), ([50], [], [], false), ([72], [], [], false), ([73, 69], [], [], true)] 5 (by decide +kernel) rfl (by decide) ?_
            simp (config := { maxSteps := 1000000 }) only [go_sem,↓reduceIte]
            iterate 7 (apply det_pure; · (intro fa ga oa K' hK; simp (config := { maxSteps := 1000000 }) only [go_sem,↓reduceIte,q2, q2g, q2o, q5, q6, q7, hkw, strs, hl0, hg, h20, c3, codeC, List.length_map] at hK ⊢; exact hK))
            (apply det_new; · (intro fa ga oa K' hK; simp (config := { maxSteps := 1000000 }) only [go_sem,↓reduceIte,q2, q2g, q2o, q5, q6, q7, hkw, strs, hl0, hg, h20, c3, codeC, List.length_map, elemTy] at hK ⊢; exact hK))
            (apply det_new; · (intro fa ga oa K' hK; simp (config := { maxSteps := 1000000 }) only [go_sem,↓reduceIte,q2, q2g, q2o, q5, q6, q7, hkw, strs, hl0, hg, h20, c3, codeC, List.length_map, elemTy] at hK ⊢; first | exact ⟨⟨by decide, by decide⟩, hK⟩ | exact ⟨⟨by decide, by omega⟩, hK⟩ | exact ⟨Nat.le_refl _, ⟨by decide, by omega⟩, hK⟩))
            iterate 10 (apply det_pure; · (intro fa ga oa K' hK; simp (config := { maxSteps := 1000000 }) only [go_sem,↓reduceIte,q2, q2g, q2o, q5, q6, q7, hkw, strs, hl0, hg, h20, c3, codeC, List.length_map] at hK ⊢; exact hK))
            (apply det_new; · (intro fa ga oa K' hK; simp (config := { maxSteps := 1000000 }) only [go_sem,↓reduceIte,q2, q2g, q2o, q5, q6, q7, hkw, strs, hl0, hg, h20, c3, codeC, List.length_map, elemTy] at hK ⊢; exact hK))
            (apply det_new; · (intro fa ga oa K' hK; simp (config := { maxSteps := 1000000 }) only [go_sem,↓reduceIte,q2, q2g, q2o, q5, q6, q7, hkw, strs, hl0, hg, h20, c3, codeC, List.length_map, elemTy] at hK ⊢; first | exact ⟨⟨by decide, by decide⟩, hK⟩ | exact ⟨⟨by decide, by omega⟩, hK⟩ | exact ⟨Nat.le_refl _, ⟨by decide, by omega⟩, hK⟩))
            iterate 2 (apply det_pure; · (intro fa ga oa K' hK; simp (config := { maxSteps := 1000000 }) only [go_sem,↓reduceIte,q2, q2g, q2o, q5, q6, q7, hkw, strs, hl0, hg, h20, c3, codeC, List.length_map] at hK ⊢; exact hK))
            (apply det_store; (focus simp); (focus (intro fa ga oa K' hK; simp (config := { maxSteps := 1000000 }) only [go_sem,↓reduceIte,q2, q2g, q2o, q5, q6, q7, hkw, strs, hl0, hg, h20, c3, codeC, List.length_map] at hK ⊢; exact hK)))
            iterate 2 (apply det_pure; · (intro fa ga oa K' hK; simp (config := { maxSteps := 1000000 }) only [go_sem,↓reduceIte,q2, q2g, q2o, q5, q6, q7, hkw, strs, hl0, hg, h20, c3, codeC, List.length_map] at hK ⊢; exact hK))
            apply det_last
            intro K' hK'
            simp (config := { maxSteps := 1000000 }) only [go_sem,↓reduceIte,q2, q2g, q2o, q5, q6, q7, hkw, strs, hl0, hg, h20, c3, codeC, List.length_map]
            refine hK' _ ?_
            clear hK' K'
            simp (config := { maxSteps := 1000000 }) only [go_sem,↓reduceIte,q2, q2g, q2o, q5, q6, q7, hkw, strs, hl0, hg, h20, c3, codeC, List.length_map, buildA]
            exact ⟨_, frz_read (code := []) (d := 0) (n := k + 1) (e := 4) (.d _), rfl⟩
          · refine draw_det Tt_ok mixed [56, 57, 68, 69, 20] [([5], [0, 1, 2, 3], [], false), ([5], [0, 1, 2, 3, 4], [], false), ([5], [0, 2], [], false), ([51], [0, 2], [], false), ([52], [0, 2], [], false), ([53], [0, 2], [], false), ([8], [2], [], false), ([55], [2], [0], false), ([54, 56], [2], [1], false), ([5], [0, 1, 2], [], false), ([58], [0, 1, 2], [], false), ([59], [0, 1, 2], [], false), ([60], [0, 1, 2], [], false), ([5], [0, 1], [], false), ([62], [0, 1], [], false), ([63], [0, 1], [], false), ([64], [0, 1], [], false), ([65], [0, 1], [], false), ([66], [0, 1], [], false), ([67], [0, 1], [2], false), ([61, 68], [], [3], false), ([49], [], [], false), ([70], [], [], false), ([71, 57], [], [4], false), ([50], [], [], false), ([72], [], [], false), ([73, 69], [], [], true)] 5 (by decide +kernel) rfl (by decide) ?_
            simp (config := { maxSteps := 1000000 }) only [go_sem,↓reduceIte]
            iterate 7 (apply det_pure; · (intro fa ga oa K' hK; simp (config := { maxSteps := 1000000 }) only [go_sem,↓reduceIte,q2, q2g, q2o, q5, q6, q7, hkw, strs, hl0, hg, h20, c3, codeC, l57, l69, List.length_map] at hK ⊢; exact hK))
            (apply det_new; · (intro fa ga oa K' hK; simp (config := { maxSteps := 1000000 }) only [go_sem,↓reduceIte,q2, q2g, q2o, q5, q6, q7, hkw, strs, hl0, hg, h20, c3, codeC, l57, l69, List.length_map, elemTy] at hK ⊢; exact hK))
            (apply det_new; · (intro fa ga oa K' hK; simp (config := { maxSteps := 1000000 }) only [go_sem,↓reduceIte,q2, q2g, q2o, q5, q6, q7, hkw, strs, hl0, hg, h20, c3, codeC, l57, l69, List.length_map, elemTy] at hK ⊢; first | exact ⟨⟨by decide, by decide⟩, hK⟩ | exact ⟨⟨by decide, by omega⟩, hK⟩ | exact ⟨Nat.le_refl _, ⟨by decide, by omega⟩, hK⟩))
            iterate 10 (apply det_pure; · (intro fa ga oa K' hK; simp (config := { maxSteps := 1000000 }) only [go_sem,↓reduceIte,q2, q2g, q2o, q5, q6, q7, hkw, strs, hl0, hg, h20, c3, codeC, l57, l69, List.length_map] at hK ⊢; exact hK))
            (apply det_new; · (intro fa ga oa K' hK; simp (config := { maxSteps := 1000000 }) only [go_sem,↓reduceIte,q2, q2g, q2o, q5, q6, q7, hkw, strs, hl0, hg, h20, c3, codeC, l57, l69, List.length_map, elemTy] at hK ⊢; exact hK))
            (apply det_new; · (intro fa ga oa K' hK; simp (config := { maxSteps := 1000000 }) only [go_sem,↓reduceIte,q2, q2g, q2o, q5, q6, q7, hkw, strs, hl0, hg, h20, c3, codeC, l57, l69, List.length_map, elemTy] at hK ⊢; first | exact ⟨⟨by decide, by decide⟩, hK⟩ | exact ⟨⟨by decide, by omega⟩, hK⟩ | exact ⟨Nat.le_refl _, ⟨by decide, by omega⟩, hK⟩))
            iterate 2 (apply det_pure; · (intro fa ga oa K' hK; simp (config := { maxSteps := 1000000 }) only [go_sem,↓reduceIte,q2, q2g, q2o, q5, q6, q7, hkw, strs, hl0, hg, h20, c3, codeC, l57, l69, List.length_map] at hK ⊢; exact hK))
            (apply det_store; (focus simp); (focus (intro fa ga oa K' hK; simp (config := { maxSteps := 1000000 }) only [go_sem,↓reduceIte,q2, q2g, q2o, q5, q6, q7, hkw, strs, hl0, hg, h20, c3, codeC, l57, l69, List.length_map] at hK ⊢; exact hK)))
            iterate 2 (apply det_pure; · (intro fa ga oa K' hK; simp (config := { maxSteps := 1000000 }) only [go_sem,↓reduceIte,q2, q2g, q2o, q5, q6, q7, hkw, strs, hl0, hg, h20, c3, codeC, l57, l69, List.length_map] at hK ⊢; exact hK))
            apply det_last
            intro K' hK'
            simp (config := { maxSteps := 1000000 }) only [go_sem,↓reduceIte,q2, q2g, q2o, q5, q6, q7, hkw, strs, hl0, hg, h20, c3, codeC, l57, l69, List.length_map]
            refine hK' _ ?_
            clear hK' K'
            simp (config := { maxSteps := 1000000 }) only [go_sem,↓reduceIte,q2, q2g, q2o, q5, q6, q7, hkw, strs, hl0, hg, h20, c3, codeC, l57, l69, List.length_map, buildA]
            exact ⟨_, frz_read (code := []) (d := 0) (n := k + 1) (e := 4) (.d _), rfl⟩
  · have hkl : ¬ (k : Int) < (ls.length : Int) := by omega
    have hfin : linesA 0 st0 ls = .inl st := by rw [hli, List.drop_eq_nil_of_le (by omega)]; rfl
    have hr2 := fun n e => @hr2 st n e hfin
    have hr3 := fun code => @hr3 st code hfin
    clear hr1 hli hfin hlt
    have hlen := hwf.len
    simp (config := { maxSteps := 1000000 }) only [go_sem,↓reduceIte,q6, q7, hkl, List.length_map]
    refine loop_intro (fun nn s => ∃ (j : Nat) (code : List Nat), nn + j = st.uses.length ∧ usesA st.labs st.code st.uses = usesA st.labs code (st.uses.drop j) ∧ (∀ u ∈ st.uses.drop j, UseOk code u) ∧ code.length = st.code.length ∧
      Made gr { st with code := code } s.gen s.obj ∧ s.f 2 = .one (.ptr 2 g2 0) ∧ s.gen 2 = g2 ∧ s.obj 2 = some [.d .nsl, .d (.int .i64 0)] ∧ s.f 5 = .one (.ptr 20 gr 0) ∧ s.f 12 = iv .i64 j) st.uses.length ?_ ?_
    · refine ⟨0, st.code, by omega, rfl, hwf.uses, rfl, hM, ?_⟩
      simp (config := { maxSteps := 1000000 }) only [go_sem,↓reduceIte,q2, q2g, q2o, q5]
      try trivial
    clear q2 q2g q2o q5 q6 q7 hM
    rintro mm f g ob ⟨j, code, hj, hua, hok, hcn, hM, q2, q2g, q2o, q5, q12⟩
    simp only at hM q2 q2g q2o q5 q12
    have hM0 := hM
    obtain ⟨hg, cc, lc, pc, uc, h20, hc, hl, hu⟩ := hM
    simp only at h20 hc hl hu
    by_cases hlt : j < st.uses.length
    · obtain ⟨u, hu'⟩ := getq hlt
      have hjl : (j : Int) < (st.uses.length : Int) := by omega
      have hj0 : (0 : Int) ≤ (j : Int) := by omega
      have hdr : st.uses.drop j = u :: st.uses.drop (j + 1) := by rw [List.drop_eq_getElem_cons hlt]; congr 1; exact (List.getElem?_eq_some_iff.1 hu').2
      have hune : ¬ st.uses = [] := fun e => by rw [e] at hlt; simp at hlt
      rcases hu with ⟨u1, _⟩ | ⟨u1, rfl, u3⟩
      · exact absurd u1 hune
      have hua3 := useR_at hu'
      have hul3 := flatR_len st.uses
      have hkw : IntKind.i64.wrap ((j : Int) + 1) = ((j + 1 : Nat) : Int) := wrap_succ (by omega)
      rw [hdr] at hua hok
      obtain ⟨k1, k2, k3⟩ := hok u (by simp)
      have hcne : ¬ code = [] := fun e => by rw [e] at k1; simp at k1
      rcases hc with ⟨c1, _⟩ | ⟨c1, ci, hci, rfl, c3⟩
      · exact absurd c1 hcne
      obtain ⟨un, ua, ul⟩ := u
      simp only at k1 k2 k3
      have hul2 : (useR (un, ua, ul)).length = 3 := rfl
      have hjb : 0 + j * 3 + 3 ≤ (st.uses.flatMap useR).length := by omega
      simp (config := { maxSteps := 1000000 }) only [go_sem,↓reduceIte,q2, q5, q12, hg, h20, u3, hjl, hj0, hua3, hul3, hul2, useR, Int.toNat_natCast]
      refine ⟨by omega, ?_⟩
      refine hook_lent rfl (by simp (config := { maxSteps := 1000000 }) only [go_sem,↓reduceIte,q5]; refine place_A (st := { st with code := code }) (hM0.of ?_ ?_) ul (show st.labs.length ≤ 1000000 by omega) <;> (intro i hi; rcases hi with rfl | rfl | rfl | rfl | rfl | rfl <;> rfl)) ?_
      rintro _ rfl
      rw [show placeI st.labs ul = (match Asm.placeOf st.labs ul with | some p => (p : Int) | none => -1) from rfl]
      cases hp : Asm.placeOf st.labs ul with
      | none =>
        rw [hr2 _ _ (hua.trans (usesA_bad (u := (un, ua, ul)) hp))] at hP
        subst hP
        simp (config := { maxSteps := 1000000 }) only [go_sem,↓reduceIte,q2, q5, q12, hg, h20]
        refine draw_det Tt_ok mixed [2] [([], [], [], false), ([13], [0], [], false), ([115], [0], [], false), ([2, 114], [], [0], false), ([116], [], [], false), ([], [], [], false)] 1 (by decide +kernel) rfl (by decide) ?_
        simp (config := { maxSteps := 1000000 }) only [go_sem,↓reduceIte]
        (apply det_pure; · (intro fa ga oa K' hK; simp (config := { maxSteps := 1000000 }) only [go_sem,↓reduceIte,buildA] at hK ⊢; exact hK))
        iterate 2 (apply det_pure; · (intro fa ga oa K' hK; simp (config := { maxSteps := 1000000 }) only [go_sem,↓reduceIte] at hK ⊢; exact hK))
        (apply det_store; (focus simp); (focus (intro fa ga oa K' hK; simp (config := { maxSteps := 1000000 }) only [go_sem,↓reduceIte,q2, q2g, q2o] at hK ⊢; exact hK)))
        iterate 2 (apply det_pure; · (intro fa ga oa K' hK; simp (config := { maxSteps := 1000000 }) only [go_sem,↓reduceIte] at hK ⊢; exact hK))
        apply det_nil
        simp (config := { maxSteps := 1000000 }) only [go_sem,↓reduceIte,q2, q2g]
        exact ⟨_, frz_read (code := []) (d := 0) (n := un) (e := 4) (.d _), rfl⟩
      | some p =>
        obtain ⟨pl, hpm⟩ := placeOf_mem hp
        have hpl := hwf.labs _ hpm
        simp only at hpl
        have hpi : ¬ (p : Int) < 0 := by omega
        have hpw : IntKind.u32.wrap (p : Int) = (p : Int) := by rw [IntKind.wrap_u32]; omega
        have hcget : (code.map fun n => C.d (.int .u32 (n : Nat)))[ua]? = some (.d (.int .u32 (code.getD ua 0 : Nat))) := by
          rw [List.getElem?_map, List.getD_eq_getElem?_getD, List.getElem?_eq_getElem k1]; rfl
        have hadd : IntKind.u32.wrap ((code.getD ua 0 : Int) + (p : Int)) = ((code.getD ua 0 + p : Nat) : Int) := by rw [IntKind.wrap_u32]; omega
        have hua0 : (0 : Int) ≤ (ua : Int) := by omega
        have hual : (ua : Int) < (code.length : Int) := by omega
        have hset : (code.map fun n => C.d (.int .u32 (n : Nat))).set ua (.d (.int .u32 ((code.getD ua 0 + p : Nat) : Int))) = codeC (addAt code ua p) := by
          unfold addAt codeC; rw [List.map_set]
        have hne : addAt code ua p ≠ [] := fun e => by have := addAt_len code ua p; rw [e] at this; simp at this; omega
        have hok' : ∀ v ∈ st.uses.drop (j + 1), UseOk (addAt code ua p) v := by
          intro v hv
          refine (hok v (by simp [hv])).set ?_
          have hnd : ((st.uses.drop j).map (·.2.1)).Nodup := hwf.nd.sublist ((List.drop_sublist _ _).map _)
          rw [hdr, List.map_cons, List.nodup_cons] at hnd
          exact fun e => hnd.1 (List.mem_map.2 ⟨v, hv, e.symm⟩)
        rcases hci with rfl | rfl
        · simp (config := { maxSteps := 1000000 }) only [go_sem,↓reduceIte,q2, q5, q12, hg, h20, hpi]
          refine draw_intro (by decide +kernel) ?_
          simp (config := { maxSteps := 1000000 }) only [go_sem,↓reduceIte,q2, q5, q12, hg, h20, c3, codeC, hua0, hual, hcget, hpw, hadd, setAt, Int.toNat_natCast, Nat.mul_one, Nat.zero_add, List.length_map, hkw]
          refine ⟨by omega, mm - 1, _, by omega, SemVs.refl _, j + 1, addAt code ua p, by omega, hua.trans (usesA_cons (u := (un, ua, ul)) hp), hok', by rw [addAt_len]; exact hcn, ?_⟩
          simp (config := { maxSteps := 1000000 }) only [go_sem,↓reduceIte,q2, q2g, q2o, q5]
          exact ⟨by simp [upd, hg], _, lc, pc, _, h20, .inr ⟨hne, 3172, .inl rfl, by simp [upd, addAt_len], congrArg some hset⟩, hl, .inr ⟨u1, by simp [upd], by simp [upd, u3]⟩⟩
        · simp (config := { maxSteps := 1000000 }) only [go_sem,↓reduceIte,q2, q5, q12, hg, h20, hpi]
          refine draw_intro (by decide +kernel) ?_
          simp (config := { maxSteps := 1000000 }) only [go_sem,↓reduceIte,q2, q5, q12, hg, h20, c3, codeC, hua0, hual, hcget, hpw, hadd, setAt, Int.toNat_natCast, Nat.mul_one, Nat.zero_add, List.length_map, hkw]
          refine ⟨by omega, mm - 1, _, by omega, SemVs.refl _, j + 1, addAt code ua p, by omega, hua.trans (usesA_cons (u := (un, ua, ul)) hp), hok', by rw [addAt_len]; exact hcn, ?_⟩
          simp (config := { maxSteps := 1000000 }) only [go_sem,↓reduceIte,q2, q2g, q2o, q5]
          exact ⟨by simp [upd, hg], _, lc, pc, _, h20, .inr ⟨hne, 3223, .inr rfl, by simp [upd, addAt_len], congrArg some hset⟩, hl, .inr ⟨u1, by simp [upd], by simp [upd, u3]⟩⟩
    · have hjl : ¬ (j : Int) < (st.uses.length : Int) := by omega
      have hfin : usesA st.labs st.code st.uses = .inl code := by rw [hua, List.drop_eq_nil_of_le (by omega)]; rfl
      rw [hr3 _ hfin] at hP
      subst hP
      have hj00 : ¬ (j : Int) < 0 := by omega
      rcases hu with ⟨u1, rfl⟩ | ⟨u1, rfl, u3⟩
      case' inl => have u3 := u1
      all_goals
        rcases hc with ⟨c1, rfl⟩ | ⟨c1, ci, rfl | rfl, rfl, c3⟩
        · subst c1
          simp (config := { maxSteps := 1000000 }) only [go_sem,↓reduceIte,q2, q2g, q2o, q5, q12, hg, h20, hjl, hj00, u3, List.length_nil]
          exact ⟨_, frz_read (code := []) (n := 0) (e := 0) (.d _), rfl⟩
        all_goals
          simp (config := { maxSteps := 1000000 }) only [go_sem,↓reduceIte,q2, q2g, q2o, q5, q12, hg, h20, hjl, hj00, u3, c3, List.length_nil]
          exact ⟨_, frz_read (n := 0) (e := 0) (frz_code (by simp [upd]) (by simp [upd, c3, codeC]) rfl), rfl⟩

end Go.Proofs.YthclfagbojkbjabGreatDoor

namespace Go.Proofs.YthclfagbojkbjabGreatDoor
open Go Go.Am Go.Asm

theorem runT_asm (t : Str) : runT ⟨5, (0, 0, 0, 0), [], zeros 1, 0⟩ [t] = asmT t := by
  have hr : rightR ⟨5, (0, 0, 0, 0), [], zeros 1, 0⟩ = true := by decide +kernel
  unfold runT
  rw [if_neg (by rw [hr]; simp [zeros]), if_neg (show ¬ (5 : Int) = 1 by decide), if_neg (show ¬ (5 : Int) = 4 by decide), if_pos rfl]
  rfl
theorem putI_len (m : List Nat × Nat) : 0 < (putI m).length := by
  unfold putI
  simp

set_option maxRecDepth 20000 in
set_option maxHeartbeats 16000000 in
theorem ToolAsms_G {o : Hold} (ho : SmallO o) (t : Str) : PureG Tryz.prog 0 o 3 [sv t] (· = bv true) := by
  refine pure_of_wpG2 0 0 o Tt_ok mixed Tryz.func3 rfl (by rfl) [.tmp 2] rfl (by kernel_rfl) (by kernel_rfl) (by simp [Tryz.ntmps3]) fun b₀ β0 s0 w0 g => ?_
  by_cases h1 : 1000 < t.length
  · have h1i : (1000 : Int) < (t.length : Int) := by omega
    simp (config := { maxSteps := 1000000 }) only [go_sem,↓reduceIte,h1i]
    refine hook_callG kept_phiG (fun s β ds w h => h.1.2) rfl (by simp (config := { maxSteps := 1000000 }) only [go_sem,↓reduceIte]; exact awake_G ho) (by simp (config := { maxSteps := 1000000 }) only [go_sem,↓reduceIte]; rfl) ?_
    rintro _ rfl
    simp (config := { maxSteps := 1000000 }) only [go_sem,↓reduceIte]
  have h1i : ¬ (1000 : Int) < (t.length : Int) := by omega
  simp (config := { maxSteps := 1000000 }) only [go_sem,↓reduceIte,h1i]
  refine hook_callF kept_phiG rfl (by simp (config := { maxSteps := 1000000 }) only [go_sem,↓reduceIte]; exact zero_A 1 (by decide)) (by simp (config := { maxSteps := 1000000 }) only [go_sem,↓reduceIte]; rfl) ?_
  rintro _ rfl
  simp (config := { maxSteps := 1000000 }) only [go_sem,↓reduceIte,buildA]
  refine hook_viewG kept_phiG (fun s β ds w h => h.1.2) rfl (xs := [recV ⟨5, (0, 0, 0, 0), [], zeros 1, 0⟩, sv [], .one (.d (strs [t]))]) ?_ (Run_G ho ⟨5, (0, 0, 0, 0), [], zeros 1, 0⟩ [] [t] (by decide) (by decide) (by simp) (by simp; omega) (by decide) (by decide)) (by rintro _ rfl; rfl) ?_
  · simp (config := { maxSteps := 1000000 }) only [go_sem,↓reduceIte]
    exact frzVs3 (frz_rec (.d .nsl) (.d _)) (frz1 _) (frzOne (frz_strs' rfl rfl rfl))
  rintro _ rfl
  rw [runT_asm]
  obtain ⟨a, e, hae⟩ : ∃ a e, asmT t = (a, e) := ⟨_, _, rfl⟩
  have hz : (e = 0 ↔ 0 < a.length) ∧ e = (readA t).2.2 := by
    unfold asmT at hae
    split at hae
    · rename_i h0
      cases hae
      exact ⟨⟨fun _ => putI_len _, fun _ => rfl⟩, h0.symm⟩
    · rename_i h0
      cases hae
      exact ⟨⟨fun h => absurd h h0, fun h => by simp at h⟩, rfl⟩
  rw [hae]
  simp (config := { maxSteps := 1000000 }) only [go_sem,↓reduceIte,tw]
  refine hook_callF kept_phiG rfl (by simp (config := { maxSteps := 1000000 }) only [go_sem,↓reduceIte]; exact RefRead_A t (by omega)) (by simp (config := { maxSteps := 1000000 }) only [go_sem,↓reduceIte]; rfl) ?_
  rintro _ rfl
  obtain ⟨⟨c, d⟩, n, f, hr⟩ : ∃ x : List Nat × Nat, ∃ n f, readA t = (x, n, f) := ⟨_, _, _, rfl⟩
  rw [hr] at hz ⊢
  simp only at hz
  obtain ⟨hz, rfl⟩ := hz
  rw [show readV ((c, d), n, e) = .tup [.agg [.d (codeD c), .d (.int .i64 (d : Nat))], iv .i64 (n : Nat), iv .i64 (e : Nat)] from rfl]
  simp (config := { maxSteps := 1000000 }) only [go_sem,↓reduceIte]
  refine hook_callG kept_phiG (fun s β ds w h => h.1.2) rfl (by simp (config := { maxSteps := 1000000 }) only [go_sem,↓reduceIte]; exact awake_G ho) (by simp (config := { maxSteps := 1000000 }) only [go_sem,↓reduceIte]; rfl) ?_
  rintro _ rfl
  by_cases he : e = 0
  · have hei : (e : Int) = 0 := by omega
    have hal : (0 : Int) < (a.length : Int) := by have := hz.1 he; omega
    simp (config := { maxSteps := 1000000 }) only [go_sem,↓reduceIte,hei, hal]
  · have hei : ¬ (e : Int) = 0 := by omega
    have hal : ¬ (0 : Int) < (a.length : Int) := by have := mt hz.2 he; omega
    simp (config := { maxSteps := 1000000 }) only [go_sem,↓reduceIte,hei, hal]

end Go.Proofs.YthclfagbojkbjabGreatDoor

namespace Go.Am
section
variable {P : Program} {t : TypeId} {ds : List D}

theorem HasS.inv_bool (h : HasS P t ds) (hu : P.underlying t = some .bool) : ∃ b, ds = [.bool b] := by
  cases h with
  | bool _ b => exact ⟨b, rfl⟩
  | int hu' => rw [hu] at hu'; cases hu'
  | str hu' => rw [hu] at hu'; cases hu'
  | sl hu' => rw [hu] at hu'; cases hu'
  | struct hu' => rw [hu] at hu'; cases hu'
  | array hu' => rw [hu] at hu'; cases hu'
theorem HasS.inv_int {k : IntKind} (h : HasS P t ds) (hu : P.underlying t = some (.int k)) : ∃ m, ds = [.int k m] ∧ (Lit.int k m).wf = true := by
  cases h with
  | int hu' m hw => rw [hu] at hu'; cases hu'; exact ⟨m, rfl, hw⟩
  | bool hu' => rw [hu] at hu'; cases hu'
  | str hu' => rw [hu] at hu'; cases hu'
  | sl hu' => rw [hu] at hu'; cases hu'
  | struct hu' => rw [hu] at hu'; cases hu'
  | array hu' => rw [hu] at hu'; cases hu'
theorem HasS.inv_str (h : HasS P t ds) (hu : P.underlying t = some .string) : ∃ s, ds = [.str s] ∧ s.length ≤ reachBytes := by
  cases h with
  | str _ s hl => exact ⟨s, rfl, hl⟩
  | bool hu' => rw [hu] at hu'; cases hu'
  | int hu' => rw [hu] at hu'; cases hu'
  | sl hu' => rw [hu] at hu'; cases hu'
  | struct hu' => rw [hu] at hu'; cases hu'
  | array hu' => rw [hu] at hu'; cases hu'
theorem HasS.inv_sl {e : TypeId} (h : HasS P t ds) (hu : P.underlying t = some (.slice e)) : ∃ es, ds = [.sl es] ∧ es.length * P.bytesOf e ≤ reachBytes ∧ ∀ x ∈ es, HasS P e x := by
  cases h with
  | sl hu' es hl hh => rw [hu] at hu'; cases hu'; exact ⟨es, rfl, hl, hh⟩
  | bool hu' => rw [hu] at hu'; cases hu'
  | int hu' => rw [hu] at hu'; cases hu'
  | str hu' => rw [hu] at hu'; cases hu'
  | struct hu' => rw [hu] at hu'; cases hu'
  | array hu' => rw [hu] at hu'; cases hu'
theorem HasS.inv_struct {fs : Array Field} (h : HasS P t ds) (hu : P.underlying t = some (.struct fs)) : ∃ parts : List (List D), ds = parts.flatten ∧ parts.length = fs.toList.length ∧ ∀ (i : Nat) (f : Field) (x : List D), fs.toList[i]? = some f → parts[i]? = some x → HasS P f.type x := by
  cases h with
  | struct hu' parts hl hh => rw [hu] at hu'; cases hu'; exact ⟨parts, rfl, hl, hh⟩
  | bool hu' => rw [hu] at hu'; cases hu'
  | int hu' => rw [hu] at hu'; cases hu'
  | str hu' => rw [hu] at hu'; cases hu'
  | sl hu' => rw [hu] at hu'; cases hu'
  | array hu' => rw [hu] at hu'; cases hu'
theorem HasS.inv_array {n e : Nat} (h : HasS P t ds) (hu : P.underlying t = some (.array n e)) : ∃ parts : List (List D), ds = parts.flatten ∧ parts.length = n ∧ ∀ x ∈ parts, HasS P e x := by
  cases h with
  | array hu' parts hl hs hh => rw [hu] at hu'; cases hu'; exact ⟨parts, rfl, hl, hh⟩
  | bool hu' => rw [hu] at hu'; cases hu'
  | int hu' => rw [hu] at hu'; cases hu'
  | str hu' => rw [hu] at hu'; cases hu'
  | sl hu' => rw [hu] at hu'; cases hu'
  | struct hu' => rw [hu] at hu'; cases hu'

/-- A list of things that are each the image of something. -/
theorem list_of {α β : Type} {f : β → α} {Q : β → Prop} : ∀ {l : List α}, (∀ x ∈ l, ∃ y, x = f y ∧ Q y) → ∃ m : List β, l = m.map f ∧ ∀ y ∈ m, Q y
  | [], _ => ⟨[], rfl, fun _ h => by cases h⟩
  | x :: l, h => by
    obtain ⟨y, rfl, hy⟩ := h x (by simp)
    obtain ⟨m, rfl, hm⟩ := list_of (l := l) fun x hx => h x (by simp [hx])
    exact ⟨y :: m, rfl, fun z hz => by
      rcases List.mem_cons.1 hz with rfl | hz
      · exact hy
      · exact hm z hz⟩
end
end Go.Am

namespace Go.Proofs.YthclfagbojkbjabGreatDoor
open Go Go.Am Go.ChangeShapes Go.WideShapes Go.ChangeAt Go.RowKit Go.Lib
set_option maxRecDepth 100000

theorem own : ownKnob Tryz.prog.godebug = none := by kernel_rfl
theorem laidOut : laidOutB Tryz.prog = true := by kernel_rfl
def laidV : List (String × DataW Unit) := [("unicode/utf8.acceptRanges", Rows.laid_unicode_utf8_acceptRanges), ("seedcorn/hex.small", Rows.laid_seedcorn_hex_small), ("seedcorn/token.words", Rows.laid_seedcorn_token_words), ("seedcorn/token.signs", Rows.laid_seedcorn_token_signs), ("unicode/utf8.first", Rows.laid_unicode_utf8_first)]

theorem reach_eq : reachBytes = 140737488351232 := by kernel_rfl
theorem u9 : Tryz.prog.underlying 9 = some .string := by kernel_rfl
theorem u5 : Tryz.prog.underlying 5 = some (.int .u8) := by kernel_rfl
theorem u4 : Tryz.prog.underlying 4 = some .bool := by kernel_rfl
theorem u3 : Tryz.prog.underlying 3 = some (.int .i64) := by kernel_rfl

theorem hasT_str {n : Nat} {x : D} (h : HasT Tryz.prog (n + 1) 9 [x]) : ∃ s, x = .str s ∧ s.length ≤ 140737488351232 := by
  unfold HasT at h
  rw [u9] at h
  obtain ⟨s, h1, h2⟩ := h
  simp only [List.cons.injEq, and_true] at h1
  rw [reach_eq] at h2
  exact ⟨s, h1, h2⟩
theorem small_held {W : World} (h : laidMetH Tryz.prog laidV W) : ∃ o, Held 0 o W ∧ SmallO o := by
  rw [MakeChecks.laidMetH_plain _ _ _ (by kernel_rfl)] at h
  obtain ⟨g, t, cs, fuel, p, hg, hty, hvar, hd⟩ := laidMet.reads h (n := "seedcorn/hex.small") (d := Rows.laid_seedcorn_hex_small) (by simp [laidV])
  obtain rfl := Option.some.inj ((show Tryz.prog.globalNamed "seedcorn/hex.small" = some 0 by kernel_rfl).symm.trans hg)
  obtain rfl := Option.some.inj ((show (Tryz.prog.globals[0]?).map (·.type) = some 130 by kernel_rfl).symm.trans hty)
  have hcs := cells_of_tab (H := Unit) (k := .u8) (zs := (List.range 16).map hexs) (show Tryz.prog.underlying 130 = some (.array 16 5) by kernel_rfl) u5 (by kernel_rfl) (by kernel_rfl) hd
  have hcell : ∀ i : Nat, i < 16 → W.cell? ⟨0, i, none⟩ = some (.int .u8 (hexs i)) := fun i hi => by
    have := World.var?_cell hg hvar i
    rw [this, ← Array.getElem?_toList, hcs]
    simp [hi]
  have h0 := hcell 0 (by decide)
  have hlt : 0 < W.heap.size := by
    refine Nat.lt_of_not_le fun hle => ?_
    simp [World.cell?, Array.getElem?_eq_none hle] at h0
  refine ⟨fun b => W.heap[b]?, ⟨hlt, fun _ _ => rfl⟩, fun w hw i hi => ?_⟩
  rw [← hcell i hi]
  unfold World.cell?
  rw [show w.heap[0]? = W.heap[0]? from hw.2 0 (Nat.le_refl _)]

end Go.Proofs.YthclfagbojkbjabGreatDoor

namespace Go.Proofs.YthclfagbojkbjabGreatDoor
open Go Go.Am
set_option maxRecDepth 100000

def cloL : List FuncId := [3, 4, 6, 5, 8, 10, 21, 45, 75, 46, 76, 22, 23, 9, 20, 43, 72, 109, 71, 108, 44, 74, 73, 110, 111, 165, 166, 167, 168, 261, 131, 160, 161, 213, 262, 315, 316, 347, 317, 318, 348, 349, 350, 112, 11, 24, 48, 49, 80, 117, 81, 82, 118, 79, 83, 84, 119, 176, 263, 264, 319, 321, 320, 351, 265, 266, 47, 77, 113, 169, 114, 115, 116, 170, 171, 172, 173, 175, 174, 177, 78, 50, 85, 86, 120, 87, 121, 178, 122, 179, 25, 26, 51, 88, 123, 180, 267, 181, 268, 183, 184, 182, 269, 270, 124, 185, 271, 272, 277, 322, 273, 274, 275, 186, 276, 187, 89, 90, 125, 126, 52, 53, 55, 94, 132, 214, 279, 280, 323, 215, 281, 324, 133, 54, 91, 127, 188, 189, 190, 191, 278, 192, 92, 128, 193, 194, 129, 195, 196, 197, 198, 199, 200, 201, 202, 203, 204, 205, 206, 207, 208, 209, 210, 211, 130, 212, 93, 27, 28, 56, 57, 12, 13, 29, 30, 58, 59, 60, 96, 136, 137, 219, 221, 220, 222, 223, 224, 138, 225, 288, 289, 334, 335, 352, 353, 336, 354, 355, 139, 290, 337, 338, 291, 339, 340, 95, 134, 216, 282, 325, 230, 292, 217, 283, 326, 327, 218, 284, 233, 232, 293, 328, 329, 285, 330, 331, 332, 333, 287, 286, 98, 143, 234, 235, 294, 295, 341, 296, 145, 144, 146, 135, 61, 97, 140, 226, 227, 229, 141, 228, 231, 142, 99, 147, 148, 236, 237, 297, 238, 298, 299, 301, 300, 302, 239, 149, 14, 31, 15, 32, 62, 100, 150, 240, 241, 303, 151, 242, 152, 243, 304, 342, 305, 306, 307, 343, 63, 101, 153, 244, 154, 246, 245, 247, 249, 255, 248, 251, 308, 344, 260, 253, 309, 310, 250, 155, 252, 156, 254, 157, 256, 311, 102, 158, 257, 312, 258, 259, 314, 345, 356, 357, 346, 313, 159, 103, 104, 162, 163, 164, 7, 16, 33, 17, 34, 36, 35, 64, 66, 65, 37, 18, 19, 38, 41, 69, 39, 67, 40, 68, 42, 70, 105, 106, 107]
theorem clo : Tryz.prog.closure 3 = cloL := by kernel_rfl
theorem k_unf : Tryz.prog.unfollowed 3 = true := by
  unfold Program.unfollowed
  rw [clo]
  kernel_rfl
theorem k_rec : Tryz.prog.recurses 3 = true := by
  unfold Program.recurses
  rw [k_unf]
  rfl
theorem k_inp : (Rows.toolAsmsRow.inPlace == Tryz.prog.inPlace 3) = true := by
  unfold Program.inPlace
  rw [clo]
  kernel_rfl
theorem k_nam : (Rows.toolAsmsRow.named == Tryz.prog.varsNamed 3) = true := by
  unfold Program.varsNamed
  rw [clo]
  kernel_rfl
theorem k_goes : Tryz.prog.goes 3 = false := by
  unfold Program.goes
  rw [clo, k_unf]
  kernel_rfl
theorem k_facts : joinedFacts Tryz.prog 3 Tryz.f3 Rows.toolAsmsSpec Rows.toolAsmsRow = true := by
  unfold joinedFacts
  rw [k_inp, k_nam, k_unf, k_rec]
  kernel_rfl
theorem k_goesBy : false = Rows.toolAsmsRow.goesBy Tryz.prog := by
  unfold OpenClaim.goesBy Program.goesAt Program.goesFrom
  rw [show Tryz.prog.funcNamed Rows.toolAsmsRow.func = some 3 by kernel_rfl]
  simp only [Option.any_some, k_goes, Bool.false_or]
  rfl

end Go.Proofs.YthclfagbojkbjabGreatDoor
