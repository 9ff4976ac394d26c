/- A part of the proof; no conditions. -/
import Derived.Test.YtifciocionlciaaGreatDoorPart5
import Derived.Handed
import Derived.Lay
import Derived.LaidMore
import Derived.SevenTiedAt
import Derived.Stop.Joined
import Derived.Lib.LaidU8
import Derived.Test.YtifciocionlciaaGreatDoorTie
import Derived.Test.YtifciocionlciaaGreatDoorCards
set_option linter.unusedSimpArgs false
set_option linter.unusedVariables false
namespace Go.Proofs.YtifciocionlciaaGreatDoor
open Go Go.Am Go.Asm

theorem stepA_put {n : Nat} {st : Sta} {s l op : Str} {args : List Str} (h : lineA s = some (l, op, args)) (hl : l = []) : stepA n st s = Asm.opA n st op args := by
  unfold stepA; rw [h]; exact if_pos hl
theorem stepA_lab {n : Nat} {st : Sta} {s l op : Str} {args : List Str} (h : lineA s = some (l, op, args)) (hl : l ≠ []) (hp : Asm.placeOf st.labs l = none) : stepA n st s = Asm.opA n { st with labs := st.labs ++ [(l, st.code.length)] } op args := by
  unfold stepA; rw [h]; simp only; rw [if_neg hl, hp]; rfl
theorem stepA_dup {n p : Nat} {st : Sta} {s l op : Str} {args : List Str} (h : lineA s = some (l, op, args)) (hl : l ≠ []) (hp : Asm.placeOf st.labs l = some p) : stepA n st s = .err 4 := by
  unfold stepA; rw [h]; simp only; rw [if_neg hl, hp]; rfl
theorem opA_nil {n : Nat} {st : Sta} {args : List Str} : Asm.opA n st [] args = .ok st := by unfold Asm.opA; exact if_pos rfl
theorem useR_at {us : List (Nat × Nat × Str)} {j : Nat} {u : Nat × Nat × Str} (h : us[j]? = some u) : ((us.flatMap useR).drop (j * 3)).take 3 = useR u := by
  induction us generalizing j with
  | nil => simp at h
  | cons v us ih =>
    cases j with
    | zero => simp at h; subst h; simp [useR]
    | succ j =>
      have := ih (j := j) (by simpa using h)
      rw [List.flatMap_cons, show (j + 1) * 3 = (useR v).length + j * 3 by simp [useR]; omega, ← List.drop_drop, List.drop_left]
      exact this

set_option maxHeartbeats 16000000 in
theorem RefRead_A (s : Str) (hs9 : s.length ≤ 1000000000) : PureR Tryz.prog 6 [sv s] (· = readV (readA s)) := by
  refine pure_of_wpR Tt_ok mixed Tryz.func6 rfl (by rfl) [.cell 2 25, .tmp 3, .tmp 4] rfl (by kernel_rfl) (by simp [Tryz.ntmps6]) fun g => ?_
  obtain ⟨P, hP⟩ : ∃ P, readA s = P := ⟨_, rfl⟩
  rw [hP]
  by_cases hs : 20000 < s.length
  · have hsi : (20000 : Int) < (s.length : Int) := by omega
    rw [show readA s = (([], 0), 0, 2) by unfold readA; rw [if_pos hs]] at hP
    subst hP
    simp (config := { maxSteps := 1000000 }) only [go_sem,↓reduceIte,hsi, buildA]
    exact ⟨_, frz_read (code := []) (d := 0) (n := 0) (e := 2) (.d _), rfl⟩
  have hsi : ¬ (20000 : Int) < (s.length : Int) := by omega
  have hr1 : ∀ {n e : Nat}, _ → _ := @readA_bad s hs
  have hr2 : ∀ {st : Sta} {n e : Nat}, _ → _ → _ := @readA_use s hs
  have hr3 : ∀ {st : Sta} {code : List Nat}, _ → _ → _ := @readA_good s hs
  have hls := splitC_len (c := 10) s
  have hlt := splitC_text (c := 10) s
  simp (config := { maxSteps := 1000000 }) only [go_sem,↓reduceIte,hsi, buildA]
  refine hook_call rfl (by simp (config := { maxSteps := 1000000 }) only [go_sem,↓reduceIte]; exact LinesR_A s (by omega)) (by simp (config := { maxSteps := 1000000 }) only [go_sem,↓reduceIte]; rfl) ?_
  rintro _ rfl
  generalize splitC 10 s = ls at hls hlt hr1 hr2 hr3 ⊢
  simp (config := { maxSteps := 1000000 }) only [go_sem,↓reduceIte,strs]
  generalize hgr : nxC 51 (g 20) = gr
  generalize hg2 : nxC 26 (g 2) = g2
  refine loop_intro (fun nn s => ∃ (k : Nat) (st : Sta), nn + k = ls.length ∧ linesA 0 st0 ls = linesA k st (ls.drop k) ∧ WF st ∧ st.labs.length ≤ k ∧ st.uses.length ≤ k ∧ Made gr st s.gen s.obj ∧ s.f 2 = .one (.ptr 2 g2 0) ∧ s.gen 2 = g2 ∧
    s.obj 2 = some [.d .nsl, .d (.int .i64 0)] ∧ s.f 5 = .one (.ptr 20 gr 0) ∧ s.f 6 = .one (.d (.sl (ls.map fun w => [D.str w]))) ∧ s.f 7 = iv .i64 k) ls.length ?_ ?_
  · refine ⟨0, st0, by omega, rfl, WF.zero, Nat.le_refl _, Nat.le_refl _, ⟨rfl, _, _, _, _, rfl, .inl ⟨rfl, rfl⟩, .inl ⟨rfl, rfl, rfl⟩, .inl ⟨rfl, rfl⟩⟩, ?_⟩
    simp (config := { maxSteps := 1000000 }) only [go_sem,↓reduceIte,hgr, hg2]
    try trivial
  clear hgr hg2
  rintro nn f g ob ⟨k, st, hk, hli, hwf, hbl, hul, hM, q2, q2g, q2o, q5, q6, q7⟩
  simp only at hM q2 q2g q2o q5 q6 q7
  by_cases hlt' : k < ls.length
  · obtain ⟨x, hx⟩ := getq hlt'
    have hgx : (ls.map fun w => [D.str w])[k]? = some [D.str x] := by rw [List.getElem?_map, hx]; rfl
    have hxl := hlt x (List.mem_of_getElem? hx)
    have hkw : IntKind.i64.wrap ((k : Int) + 1) = ((k + 1 : Nat) : Int) := wrap_succ (by omega)
    have hkl : (k : Int) < (ls.length : Int) := by omega
    have hk0 : (0 : Int) ≤ (k : Int) := by omega
    have hdr : ls.drop k = x :: ls.drop (k + 1) := by rw [List.drop_eq_getElem_cons hlt']; congr 1; exact (List.getElem?_eq_some_iff.1 hx).2
    rw [hdr] at hli
    have hbad : ∀ e, stepA (k + 1) st x = .err e → readA s = (([], 0), k + 1, e) := fun e he => hr1 (hli.trans (linesA_bad he))
    have hwf' : ∀ st', stepA (k + 1) st x = .ok st' → WF st' := fun st' he => hwf.stepA (fun _ _ => operand_reg) he
    have hlenc := hwf.len
    simp (config := { maxSteps := 1000000 }) only [go_sem,↓reduceIte,q5, q6, q7, hgx, hkw, hkl, hk0, List.length_map, Int.toNat_natCast]
    refine hook_call rfl (by simp (config := { maxSteps := 1000000 }) only [go_sem,↓reduceIte]; exact LineR_A x (by omega)) (by simp (config := { maxSteps := 1000000 }) only [go_sem,↓reduceIte]; rfl) ?_
    rintro _ rfl
    cases hla : lineA x with
    | none =>
      have hst : stepA (k + 1) st x = .err 3 := by unfold stepA; rw [hla]
      rw [hbad 3 hst] at hP
      subst hP
      unfold lineV
      simp (config := { maxSteps := 1000000 }) only [go_sem,↓reduceIte,q2, q2g, q2o, buildA, hkw, q7]
      exact ⟨_, frz_read (code := []) (d := 0) (n := k + 1) (e := 3) (.d _), rfl⟩
    | some y =>
      obtain ⟨l, op, args⟩ := y
      obtain ⟨hal, hax, hol⟩ := lineA_len hla
      rw [show lineV (some (l, op, args)) = .tup [sv l, sv op, .one (.d (strs args)), iv .i64 0] from rfl]
      by_cases hl0 : l = []
      case pos =>
        have hsp := stepA_put (n := k + 1) (st := st) hla hl0
        subst hl0
        by_cases hop : op = []
        case pos =>
          subst hop
          have hst : stepA (k + 1) st x = .ok st := by rw [hsp]; exact opA_nil
          have hgrow := stepA_grow hst
          have hgl := stepA_labs hst
          simp (config := { maxSteps := 1000000 }) only [go_sem,↓reduceIte,q2, q2g, q2o, q5, q6, q7, hkw, strs]
          refine round_end (nn - 1) (by omega) ⟨k + 1, _, by omega, by rw [hli, linesA_ok hst], hwf' _ hst, by omega, by omega, ?_⟩
          simp (config := { maxSteps := 1000000 }) only [go_sem,↓reduceIte,q2, q2g, q2o, q5, q6, q7, hkw, strs]
          exact hM
        case neg =>
          simp (config := { maxSteps := 1000000 }) only [go_sem,↓reduceIte,q2, q2g, q2o, q5, q6, q7, hkw, strs, hop]
          refine hook_fun (R := OutM gr (putA (k + 1) st op args) _ _) rfl (by simp (config := { maxSteps := 1000000 }) only [go_sem,↓reduceIte,q2, q2g, q2o, q5, q6, q7, hkw, strs, hop]; refine put_A (st := st) ?_ op args (k + 1) (by omega) (by omega) (fun a ha => by have := hax a ha; omega) hlenc (show st.uses.length ≤ 1000000 by omega); exact hM) ?_
          rintro r g' ob' ⟨o1, o2, o3⟩
          rw [put_same (st := st) hop hlenc, ← hsp] at o3
          have o2g := o1 2 (by decide)
          have o2o := o2 2 (by decide) (by decide)
          simp [upd, q2g] at o2g
          simp [upd, q2o] at o2o
          cases hst : stepA (k + 1) st x with
          | err e =>
            have hne : ¬ ((e : Nat) : Int) = 0 := by have := stepA_ne hst; omega
            rw [hst] at o3
            simp only at o3
            subst o3
            rw [hbad e hst] at hP
            subst hP
            simp (config := { maxSteps := 1000000 }) only [go_sem,↓reduceIte,q2, q2g, q2o, q5, q6, q7, hkw, strs, hop, hne, o2g, o2o, buildA]
            exact ⟨_, frz_read (code := []) (d := 0) (n := k + 1) (e := e) (.d _), rfl⟩
          | ok st' =>
            rw [hst] at o3
            obtain ⟨rfl, hM'⟩ := o3
            have hgrow := stepA_grow hst
            have hgl := stepA_labs hst
            simp (config := { maxSteps := 1000000 }) only [go_sem,↓reduceIte,q2, q2g, q2o, q5, q6, q7, hkw, strs, hop]
            refine round_end (nn - 1) (by omega) ⟨k + 1, st', by omega, by rw [hli, linesA_ok hst], hwf' st' hst, by omega, by omega, ?_⟩
            simp (config := { maxSteps := 1000000 }) only [go_sem,↓reduceIte,q2, q2g, q2o, q5, q6, q7, hkw, strs, hop]
            exact ⟨hM', o2g, o2o⟩
      have hM0 := hM
      obtain ⟨hg, cc, lc, pc, uc, h20, hc, hl, hu⟩ := hM
      simp (config := { maxSteps := 1000000 }) only [go_sem,↓reduceIte,q2, q2g, q2o, q5, q6, q7, hkw, strs, hl0]
      refine hook_lent rfl (by simp (config := { maxSteps := 1000000 }) only [go_sem,↓reduceIte,q5]; exact place_A hM0 l (by omega)) ?_
      rintro _ rfl
      have hpl : placeI st.labs l = (match Asm.placeOf st.labs l with | some p => (p : Int) | none => -1) := rfl
      rw [hpl]
      clear hpl
      cases hpo : Asm.placeOf st.labs l
      case none =>
        have hsp := stepA_lab (n := k + 1) hla hl0 hpo
        simp (config := { maxSteps := 1000000 }) only [go_sem,↓reduceIte,q2, q2g, q2o, q5, q6, q7, hkw, strs, hl0]
        rcases hc with ⟨c1, rfl⟩ | ⟨c1, ci, rfl | rfl, rfl, c3⟩
        · rcases hl with ⟨l1, rfl, rfl⟩ | ⟨l1, rfl, rfl, l57, l69⟩
          · refine draw_det Tt_ok mixed [56, 57, 68, 69, 20] [([5], [0, 1, 2, 3], [], false), ([5], [0, 1, 2, 3, 4], [], false), ([5], [0, 2], [], false), ([51], [0, 2], [], false), ([52], [0, 2], [], false), ([53], [0, 2], [], false), ([8], [2], [], false), ([55], [2], [0], false), ([54, 56], [2], [1], false), ([5], [0, 1, 2], [], false), ([58], [0, 1, 2], [], false), ([59], [0, 1, 2], [], false), ([60], [0, 1, 2], [], false), ([5], [0, 1], [], false), ([62], [0, 1], [], false), ([63], [0, 1], [], false), ([64], [0, 1], [], false), ([65], [0, 1], [], false), ([66], [0, 1], [], false), ([67], [0, 1], [2], false), ([61, 68], [], [3], false), ([49], [], [], false), ([70], [], [], false), ([71, 57], [], [4], false), ([50], [], [], false), ([72], [], [], false), ([73, 69], [], [], true)] 5 (by decide +kernel) rfl (by decide) ?_
            simp (config := { maxSteps := 1000000 }) only [go_sem,↓reduceIte]
            iterate 7 (apply det_pure; · (intro fa ga oa K' hK; simp (config := { maxSteps := 1000000 }) only [go_sem,↓reduceIte,q2, q2g, q2o, q5, q6, q7, hkw, strs, hl0, hg, h20, List.length_map] at hK ⊢; exact hK))
            (apply det_new; · (intro fa ga oa K' hK; simp (config := { maxSteps := 1000000 }) only [go_sem,↓reduceIte,q2, q2g, q2o, q5, q6, q7, hkw, strs, hl0, hg, h20, List.length_map, elemTy] at hK ⊢; exact hK))
            (apply det_new; · (intro fa ga oa K' hK; simp (config := { maxSteps := 1000000 }) only [go_sem,↓reduceIte,q2, q2g, q2o, q5, q6, q7, hkw, strs, hl0, hg, h20, List.length_map, elemTy] at hK ⊢; first | exact ⟨⟨by decide, by decide⟩, hK⟩ | exact ⟨⟨by decide, by omega⟩, hK⟩ | exact ⟨Nat.le_refl _, ⟨by decide, by omega⟩, hK⟩))
            iterate 10 (apply det_pure; · (intro fa ga oa K' hK; simp (config := { maxSteps := 1000000 }) only [go_sem,↓reduceIte,q2, q2g, q2o, q5, q6, q7, hkw, strs, hl0, hg, h20, List.length_map] at hK ⊢; exact hK))
            (apply det_new; · (intro fa ga oa K' hK; simp (config := { maxSteps := 1000000 }) only [go_sem,↓reduceIte,q2, q2g, q2o, q5, q6, q7, hkw, strs, hl0, hg, h20, List.length_map, elemTy] at hK ⊢; exact hK))
            (apply det_new; · (intro fa ga oa K' hK; simp (config := { maxSteps := 1000000 }) only [go_sem,↓reduceIte,q2, q2g, q2o, q5, q6, q7, hkw, strs, hl0, hg, h20, List.length_map, elemTy] at hK ⊢; first | exact ⟨⟨by decide, by decide⟩, hK⟩ | exact ⟨⟨by decide, by omega⟩, hK⟩ | exact ⟨Nat.le_refl _, ⟨by decide, by omega⟩, hK⟩))
            iterate 2 (apply det_pure; · (intro fa ga oa K' hK; simp (config := { maxSteps := 1000000 }) only [go_sem,↓reduceIte,q2, q2g, q2o, q5, q6, q7, hkw, strs, hl0, hg, h20, List.length_map] at hK ⊢; exact hK))
            (apply det_store; (focus simp); (focus (intro fa ga oa K' hK; simp (config := { maxSteps := 1000000 }) only [go_sem,↓reduceIte,q2, q2g, q2o, q5, q6, q7, hkw, strs, hl0, hg, h20, List.length_map] at hK ⊢; exact hK)))
            iterate 2 (apply det_pure; · (intro fa ga oa K' hK; simp (config := { maxSteps := 1000000 }) only [go_sem,↓reduceIte,q2, q2g, q2o, q5, q6, q7, hkw, strs, hl0, hg, h20, List.length_map] at hK ⊢; exact hK))
            apply det_last
            intro K' hK'
            simp (config := { maxSteps := 1000000 }) only [go_sem,↓reduceIte,q2, q2g, q2o, q5, q6, q7, hkw, strs, hl0, hg, h20, List.length_map]
            refine hK' _ ?_
            clear hK' K'
            by_cases hop : op = []
            case pos =>
              subst hop
              have hst : stepA (k + 1) st x = .ok { st with labs := st.labs ++ [(l, st.code.length)] } := by rw [hsp]; exact opA_nil
              have hgrow := stepA_grow hst
              have hgl := stepA_labs hst
              simp (config := { maxSteps := 1000000 }) only [go_sem,↓reduceIte,q2, q2g, q2o, q5, q6, q7, hkw, strs, hl0, hg, h20, List.length_map]
              refine round_end (nn - 1) (by omega) ⟨k + 1, _, by omega, by rw [hli, linesA_ok hst], hwf' _ hst, by omega, by omega, ?_⟩
              simp (config := { maxSteps := 1000000 }) only [go_sem,↓reduceIte,q2, q2g, q2o, q5, q6, q7, hkw, strs, hl0, hg, h20, List.length_map]
              exact ⟨by simp [upd, hg], _, _, _, uc, rfl, .inl ⟨c1, rfl⟩, .inr ⟨by simp, by simp [upd, l1], by simp [upd, l1], by simp [upd, l1], by simp [upd, l1, c1]⟩, hu⟩
            case neg =>
              simp (config := { maxSteps := 1000000 }) only [go_sem,↓reduceIte,q2, q2g, q2o, q5, q6, q7, hkw, strs, hl0, hg, h20, List.length_map, hop]
              refine hook_fun (R := OutM gr (putA (k + 1) { st with labs := st.labs ++ [(l, st.code.length)] } op args) _ _) rfl (by simp (config := { maxSteps := 1000000 }) only [go_sem,↓reduceIte,q2, q2g, q2o, q5, q6, q7, hkw, strs, hl0, hg, h20, List.length_map, hop]; refine put_A (st := { st with labs := st.labs ++ [(l, st.code.length)] }) ?_ op args (k + 1) (by omega) (by omega) (fun a ha => by have := hax a ha; omega) hlenc (show st.uses.length ≤ 1000000 by omega); exact ⟨by simp [upd, hg], _, _, _, uc, rfl, .inl ⟨c1, rfl⟩, .inr ⟨by simp, by simp [upd, l1], by simp [upd, l1], by simp [upd, l1], by simp [upd, l1, c1]⟩, hu⟩) ?_
              rintro r g' ob' ⟨o1, o2, o3⟩
              rw [put_same (st := { st with labs := st.labs ++ [(l, st.code.length)] }) hop hlenc, ← hsp] at o3
              have o2g := o1 2 (by decide)
              have o2o := o2 2 (by decide) (by decide)
              simp [upd, q2g] at o2g
              simp [upd, q2o] at o2o
              cases hst : stepA (k + 1) st x with
              | err e =>
                have hne : ¬ ((e : Nat) : Int) = 0 := by have := stepA_ne hst; omega
                rw [hst] at o3
                simp only at o3
                subst o3
                rw [hbad e hst] at hP
                subst hP
                simp (config := { maxSteps := 1000000 }) only [go_sem,↓reduceIte,q2, q2g, q2o, q5, q6, q7, hkw, strs, hl0, hg, h20, List.length_map, hop, hne, o2g, o2o, buildA]
                exact ⟨_, frz_read (code := []) (d := 0) (n := k + 1) (e := e) (.d _), rfl⟩
              | ok st' =>
                rw [hst] at o3
                obtain ⟨rfl, hM'⟩ := o3
                have hgrow := stepA_grow hst
                have hgl := stepA_labs hst
                simp (config := { maxSteps := 1000000 }) only [go_sem,↓reduceIte,q2, q2g, q2o, q5, q6, q7, hkw, strs, hl0, hg, h20, List.length_map, hop]
                refine round_end (nn - 1) (by omega) ⟨k + 1, st', by omega, by rw [hli, linesA_ok hst], hwf' st' hst, by omega, by omega, ?_⟩
                simp (config := { maxSteps := 1000000 }) only [go_sem,↓reduceIte,q2, q2g, q2o, q5, q6, q7, hkw, strs, hl0, hg, h20, List.length_map, hop]
                exact ⟨hM', o2g, o2o⟩
          · refine draw_det Tt_ok mixed [56, 57, 68, 69, 20] [([5], [0, 1, 2, 3], [], false), ([5], [0, 1, 2, 3, 4], [], false), ([5], [0, 2], [], false), ([51], [0, 2], [], false), ([52], [0, 2], [], false), ([53], [0, 2], [], false), ([8], [2], [], false), ([55], [2], [0], false), ([54, 56], [2], [1], false), ([5], [0, 1, 2], [], false), ([58], [0, 1, 2], [], false), ([59], [0, 1, 2], [], false), ([60], [0, 1, 2], [], false), ([5], [0, 1], [], false), ([62], [0, 1], [], false), ([63], [0, 1], [], false), ([64], [0, 1], [], false), ([65], [0, 1], [], false), ([66], [0, 1], [], false), ([67], [0, 1], [2], false), ([61, 68], [], [3], false), ([49], [], [], false), ([70], [], [], false), ([71, 57], [], [4], false), ([50], [], [], false), ([72], [], [], false), ([73, 69], [], [], true)] 5 (by decide +kernel) rfl (by decide) ?_
            simp (config := { maxSteps := 1000000 }) only [go_sem,↓reduceIte]
            iterate 7 (apply det_pure; · (intro fa ga oa K' hK; simp (config := { maxSteps := 1000000 }) only [go_sem,↓reduceIte,q2, q2g, q2o, q5, q6, q7, hkw, strs, hl0, hg, h20, l57, l69, List.length_map] at hK ⊢; exact hK))
            (apply det_new; · (intro fa ga oa K' hK; simp (config := { maxSteps := 1000000 }) only [go_sem,↓reduceIte,q2, q2g, q2o, q5, q6, q7, hkw, strs, hl0, hg, h20, l57, l69, List.length_map, elemTy] at hK ⊢; exact hK))
            (apply det_new; · (intro fa ga oa K' hK; simp (config := { maxSteps := 1000000 }) only [go_sem,↓reduceIte,q2, q2g, q2o, q5, q6, q7, hkw, strs, hl0, hg, h20, l57, l69, List.length_map, elemTy] at hK ⊢; first | exact ⟨⟨by decide, by decide⟩, hK⟩ | exact ⟨⟨by decide, by omega⟩, hK⟩ | exact ⟨Nat.le_refl _, ⟨by decide, by omega⟩, hK⟩))
            iterate 10 (apply det_pure; · (intro fa ga oa K' hK; simp (config := { maxSteps := 1000000 }) only [go_sem,↓reduceIte,q2, q2g, q2o, q5, q6, q7, hkw, strs, hl0, hg, h20, l57, l69, List.length_map] at hK ⊢; exact hK))
            (apply det_new; · (intro fa ga oa K' hK; simp (config := { maxSteps := 1000000 }) only [go_sem,↓reduceIte,q2, q2g, q2o, q5, q6, q7, hkw, strs, hl0, hg, h20, l57, l69, List.length_map, elemTy] at hK ⊢; exact hK))
            (apply det_new; · (intro fa ga oa K' hK; simp (config := { maxSteps := 1000000 }) only [go_sem,↓reduceIte,q2, q2g, q2o, q5, q6, q7, hkw, strs, hl0, hg, h20, l57, l69, List.length_map, elemTy] at hK ⊢; first | exact ⟨⟨by decide, by decide⟩, hK⟩ | exact ⟨⟨by decide, by omega⟩, hK⟩ | exact ⟨Nat.le_refl _, ⟨by decide, by omega⟩, hK⟩))
            iterate 2 (apply det_pure; · (intro fa ga oa K' hK; simp (config := { maxSteps := 1000000 }) only [go_sem,↓reduceIte,q2, q2g, q2o, q5, q6, q7, hkw, strs, hl0, hg, h20, l57, l69, List.length_map] at hK ⊢; exact hK))
            (apply det_store; (focus simp); (focus (intro fa ga oa K' hK; simp (config := { maxSteps := 1000000 }) only [go_sem,↓reduceIte,q2, q2g, q2o, q5, q6, q7, hkw, strs, hl0, hg, h20, l57, l69, List.length_map] at hK ⊢; exact hK)))
            iterate 2 (apply det_pure; · (intro fa ga oa K' hK; simp (config := { maxSteps := 1000000 }) only [go_sem,↓reduceIte,q2, q2g, q2o, q5, q6, q7, hkw, strs, hl0, hg, h20, l57, l69, List.length_map] at hK ⊢; exact hK))
            apply det_last
            intro K' hK'
            simp (config := { maxSteps := 1000000 }) only [go_sem,↓reduceIte,q2, q2g, q2o, q5, q6, q7, hkw, strs, hl0, hg, h20, l57, l69, List.length_map]
            refine hK' _ ?_
            clear hK' K'
            by_cases hop : op = []
            case pos =>
              subst hop
              have hst : stepA (k + 1) st x = .ok { st with labs := st.labs ++ [(l, st.code.length)] } := by rw [hsp]; exact opA_nil
              have hgrow := stepA_grow hst
              have hgl := stepA_labs hst
              simp (config := { maxSteps := 1000000 }) only [go_sem,↓reduceIte,q2, q2g, q2o, q5, q6, q7, hkw, strs, hl0, hg, h20, l57, l69, List.length_map]
              refine round_end (nn - 1) (by omega) ⟨k + 1, _, by omega, by rw [hli, linesA_ok hst], hwf' _ hst, by omega, by omega, ?_⟩
              simp (config := { maxSteps := 1000000 }) only [go_sem,↓reduceIte,q2, q2g, q2o, q5, q6, q7, hkw, strs, hl0, hg, h20, l57, l69, List.length_map]
              exact ⟨by simp [upd, hg], _, _, _, uc, rfl, .inl ⟨c1, rfl⟩, .inr ⟨by simp, by simp [upd], by simp [upd], by simp [upd, List.take_of_length_le], by simp [upd, List.take_of_length_le, c1]⟩, hu⟩
            case neg =>
              simp (config := { maxSteps := 1000000 }) only [go_sem,↓reduceIte,q2, q2g, q2o, q5, q6, q7, hkw, strs, hl0, hg, h20, l57, l69, List.length_map, hop]
              refine hook_fun (R := OutM gr (putA (k + 1) { st with labs := st.labs ++ [(l, st.code.length)] } op args) _ _) rfl (by simp (config := { maxSteps := 1000000 }) only [go_sem,↓reduceIte,q2, q2g, q2o, q5, q6, q7, hkw, strs, hl0, hg, h20, l57, l69, List.length_map, hop]; refine put_A (st := { st with labs := st.labs ++ [(l, st.code.length)] }) ?_ op args (k + 1) (by omega) (by omega) (fun a ha => by have := hax a ha; omega) hlenc (show st.uses.length ≤ 1000000 by omega); exact ⟨by simp [upd, hg], _, _, _, uc, rfl, .inl ⟨c1, rfl⟩, .inr ⟨by simp, by simp [upd], by simp [upd], by simp [upd, List.take_of_length_le], by simp [upd, List.take_of_length_le, c1]⟩, hu⟩) ?_
              rintro r g' ob' ⟨o1, o2, o3⟩
              rw [put_same (st := { st with labs := st.labs ++ [(l, st.code.length)] }) hop hlenc, ← hsp] at o3
              have o2g := o1 2 (by decide)
              have o2o := o2 2 (by decide) (by decide)
              simp [upd, q2g] at o2g
              simp [upd, q2o] at o2o
              cases hst : stepA (k + 1) st x with
              | err e =>
                have hne : ¬ ((e : Nat) : Int) = 0 := by have := stepA_ne hst; omega
                rw [hst] at o3
                simp only at o3
                subst o3
                rw [hbad e hst] at hP
                subst hP
                simp (config := { maxSteps := 1000000 }) only [go_sem,↓reduceIte,q2, q2g, q2o, q5, q6, q7, hkw, strs, hl0, hg, h20, l57, l69, List.length_map, hop, hne, o2g, o2o, buildA]
                exact ⟨_, frz_read (code := []) (d := 0) (n := k + 1) (e := e) (.d _), rfl⟩
              | ok st' =>
                rw [hst] at o3
                obtain ⟨rfl, hM'⟩ := o3
                have hgrow := stepA_grow hst
                have hgl := stepA_labs hst
                simp (config := { maxSteps := 1000000 }) only [go_sem,↓reduceIte,q2, q2g, q2o, q5, q6, q7, hkw, strs, hl0, hg, h20, l57, l69, List.length_map, hop]
                refine round_end (nn - 1) (by omega) ⟨k + 1, st', by omega, by rw [hli, linesA_ok hst], hwf' st' hst, by omega, by omega, ?_⟩
                simp (config := { maxSteps := 1000000 }) only [go_sem,↓reduceIte,q2, q2g, q2o, q5, q6, q7, hkw, strs, hl0, hg, h20, l57, l69, List.length_map, hop]
                exact ⟨hM', o2g, o2o⟩
        · rcases hl with ⟨l1, rfl, rfl⟩ | ⟨l1, rfl, rfl, l57, l69⟩
          · refine draw_det Tt_ok mixed [56, 57, 68, 69, 20] [([5], [0, 1, 2, 3], [], false), ([5], [0, 1, 2, 3, 4], [], false), ([5], [0, 2], [], false), ([51], [0, 2], [], false), ([52], [0, 2], [], false), ([53], [0, 2], [], false), ([8], [2], [], false), ([55], [2], [0], false), ([54, 56], [2], [1], false), ([5], [0, 1, 2], [], false), ([58], [0, 1, 2], [], false), ([59], [0, 1, 2], [], false), ([60], [0, 1, 2], [], false), ([5], [0, 1], [], false), ([62], [0, 1], [], false), ([63], [0, 1], [], false), ([64], [0, 1], [], false), ([65], [0, 1], [], false), ([66], [0, 1], [], false), ([67], [0, 1], [2], false), ([61, 68], [], [3], false), ([49], [], [], false), ([70], [], [], false), ([71, 57], [], [4], false), ([50], [], [], false), ([72], [], [], false), ([73, 69], [], [], true)] 5 (by decide +kernel) rfl (by decide) ?_
            simp (config := { maxSteps := 1000000 }) only [go_sem,↓reduceIte]
            iterate 7 (apply det_pure; · (intro fa ga oa K' hK; simp (config := { maxSteps := 1000000 }) only [go_sem,↓reduceIte,q2, q2g, q2o, q5, q6, q7, hkw, strs, hl0, hg, h20, c3, codeC, List.length_map] at hK ⊢; exact hK))
            (apply det_new; · (intro fa ga oa K' hK; simp (config := { maxSteps := 1000000 }) only [go_sem,↓reduceIte,q2, q2g, q2o, q5, q6, q7, hkw, strs, hl0, hg, h20, c3, codeC, List.length_map, elemTy] at hK ⊢; exact hK))
            (apply det_new; · (intro fa ga oa K' hK; simp (config := { maxSteps := 1000000 }) only [go_sem,↓reduceIte,q2, q2g, q2o, q5, q6, q7, hkw, strs, hl0, hg, h20, c3, codeC, List.length_map, elemTy] at hK ⊢; first | exact ⟨⟨by decide, by decide⟩, hK⟩ | exact ⟨⟨by decide, by omega⟩, hK⟩ | exact ⟨Nat.le_refl _, ⟨by decide, by omega⟩, hK⟩))
            iterate 10 (apply det_pure; · (intro fa ga oa K' hK; simp (config := { maxSteps := 1000000 }) only [go_sem,↓reduceIte,q2, q2g, q2o, q5, q6, q7, hkw, strs, hl0, hg, h20, c3, codeC, List.length_map] at hK ⊢; exact hK))
            (apply det_new; · (intro fa ga oa K' hK; simp (config := { maxSteps := 1000000 }) only [go_sem,↓reduceIte,q2, q2g, q2o, q5, q6, q7, hkw, strs, hl0, hg, h20, c3, codeC, List.length_map, elemTy] at hK ⊢; exact hK))
            (apply det_new; · (intro fa ga oa K' hK; simp (config := { maxSteps := 1000000 }) only [go_sem,↓reduceIte,q2, q2g, q2o, q5, q6, q7, hkw, strs, hl0, hg, h20, c3, codeC, List.length_map, elemTy] at hK ⊢; first | exact ⟨⟨by decide, by decide⟩, hK⟩ | exact ⟨⟨by decide, by omega⟩, hK⟩ | exact ⟨Nat.le_refl _, ⟨by decide, by omega⟩, hK⟩))
            iterate 2 (apply det_pure; · (intro fa ga oa K' hK; simp (config := { maxSteps := 1000000 }) only [go_sem,↓reduceIte,q2, q2g, q2o, q5, q6, q7, hkw, strs, hl0, hg, h20, c3, codeC, List.length_map] at hK ⊢; exact hK))
            (apply det_store; (focus simp); (focus (intro fa ga oa K' hK; simp (config := { maxSteps := 1000000 }) only [go_sem,↓reduceIte,q2, q2g, q2o, q5, q6, q7, hkw, strs, hl0, hg, h20, c3, codeC, List.length_map] at hK ⊢; exact hK)))
            iterate 2 (apply det_pure; · (intro fa ga oa K' hK; simp (config := { maxSteps := 1000000 }) only [go_sem,↓reduceIte,q2, q2g, q2o, q5, q6, q7, hkw, strs, hl0, hg, h20, c3, codeC, List.length_map] at hK ⊢; exact hK))
            apply det_last
            intro K' hK'
            simp (config := { maxSteps := 1000000 }) only [go_sem,↓reduceIte,q2, q2g, q2o, q5, q6, q7, hkw, strs, hl0, hg, h20, c3, codeC, List.length_map]
            refine hK' _ ?_
            clear hK' K'
            by_cases hop : op = []
            case pos =>
              subst hop
              have hst : stepA (k + 1) st x = .ok { st with labs := st.labs ++ [(l, st.code.length)] } := by rw [hsp]; exact opA_nil
              have hgrow := stepA_grow hst
              have hgl := stepA_labs hst
              simp (config := { maxSteps := 1000000 }) only [go_sem,↓reduceIte,q2, q2g, q2o, q5, q6, q7, hkw, strs, hl0, hg, h20, c3, codeC, List.length_map]
              refine round_end (nn - 1) (by omega) ⟨k + 1, _, by omega, by rw [hli, linesA_ok hst], hwf' _ hst, by omega, by omega, ?_⟩
              simp (config := { maxSteps := 1000000 }) only [go_sem,↓reduceIte,q2, q2g, q2o, q5, q6, q7, hkw, strs, hl0, hg, h20, c3, codeC, List.length_map]
              exact ⟨by simp [upd, hg], _, _, _, uc, rfl, .inr ⟨c1, 3172, .inl rfl, by simp [upd], by simp [upd, c3]⟩, .inr ⟨by simp, by simp [upd, l1], by simp [upd, l1], by simp [upd, l1], by simp [upd, l1]⟩, hu⟩
            case neg =>
              simp (config := { maxSteps := 1000000 }) only [go_sem,↓reduceIte,q2, q2g, q2o, q5, q6, q7, hkw, strs, hl0, hg, h20, c3, codeC, List.length_map, hop]
              refine hook_fun (R := OutM gr (putA (k + 1) { st with labs := st.labs ++ [(l, st.code.length)] } op args) _ _) rfl (by simp (config := { maxSteps := 1000000 }) only [go_sem,↓reduceIte,q2, q2g, q2o, q5, q6, q7, hkw, strs, hl0, hg, h20, c3, codeC, List.length_map, hop]; refine put_A (st := { st with labs := st.labs ++ [(l, st.code.length)] }) ?_ op args (k + 1) (by omega) (by omega) (fun a ha => by have := hax a ha; omega) hlenc (show st.uses.length ≤ 1000000 by omega); exact ⟨by simp [upd, hg], _, _, _, uc, rfl, .inr ⟨c1, 3172, .inl rfl, by simp [upd], by simp [upd, c3]⟩, .inr ⟨by simp, by simp [upd, l1], by simp [upd, l1], by simp [upd, l1], by simp [upd, l1]⟩, hu⟩) ?_
              rintro r g' ob' ⟨o1, o2, o3⟩
              rw [put_same (st := { st with labs := st.labs ++ [(l, st.code.length)] }) hop hlenc, ← hsp] at o3
              have o2g := o1 2 (by decide)
              have o2o := o2 2 (by decide) (by decide)
              simp [upd, q2g] at o2g
              simp [upd, q2o] at o2o
              cases hst : stepA (k + 1) st x with
              | err e =>
                have hne : ¬ ((e : Nat) : Int) = 0 := by have := stepA_ne hst; omega
                rw [hst] at o3
                simp only at o3
                subst o3
                rw [hbad e hst] at hP
                subst hP
                simp (config := { maxSteps := 1000000 }) only [go_sem,↓reduceIte,q2, q2g, q2o, q5, q6, q7, hkw, strs, hl0, hg, h20, c3, codeC, List.length_map, hop, hne, o2g, o2o, buildA]
                exact ⟨_, frz_read (code := []) (d := 0) (n := k + 1) (e := e) (.d _), rfl⟩
              | ok st' =>
                rw [hst] at o3
                obtain ⟨rfl, hM'⟩ := o3
                have hgrow := stepA_grow hst
                have hgl := stepA_labs hst
                simp (config := { maxSteps := 1000000 }) only [go_sem,↓reduceIte,q2, q2g, q2o, q5, q6, q7, hkw, strs, hl0, hg, h20, c3, codeC, List.length_map, hop]
                refine round_end (nn - 1) (by omega) ⟨k + 1, st', by omega, by rw [hli, linesA_ok hst], hwf' st' hst, by omega, by omega, ?_⟩
                simp (config := { maxSteps := 1000000 }) only [go_sem,↓reduceIte,q2, q2g, q2o, q5, q6, q7, hkw, strs, hl0, hg, h20, c3, codeC, List.length_map, hop]
                exact ⟨hM', o2g, o2o⟩
          · refine draw_det Tt_ok mixed [56, 57, 68, 69, 20] [([5], [0, 1, 2, 3], [], false), ([5], [0, 1, 2, 3, 4], [], false), ([5], [0, 2], [], false), ([51], [0, 2], [], false), ([52], [0, 2], [], false), ([53], [0, 2], [], false), ([8], [2], [], false), ([55], [2], [0], false), ([54, 56], [2], [1], false), ([5], [0, 1, 2], [], false), ([58], [0, 1, 2], [], false), ([59], [0, 1, 2], [], false), ([60], [0, 1, 2], [], false), ([5], [0, 1], [], false), ([62], [0, 1], [], false), ([63], [0, 1], [], false), ([64], [0, 1], [], false), ([65], [0, 1], [], false), ([66], [0, 1], [], false), ([67], [0, 1], [2], false), ([61, 68], [], [3], false), ([49], [], [], false), ([70], [], [], false), ([71, 57], [], [4], false), ([50], [], [], false), ([72], [], [], false), ([73, 69], [], [], true)] 5 (by decide +kernel) rfl (by decide) ?_
            simp (config := { maxSteps := 1000000 }) only [go_sem,↓reduceIte]
            iterate 7 (apply det_pure; · (intro fa ga oa K' hK; simp (config := { maxSteps := 1000000 }) only [go_sem,↓reduceIte,q2, q2g, q2o, q5, q6, q7, hkw, strs, hl0, hg, h20, c3, codeC, l57, l69, List.length_map] at hK ⊢; exact hK))
            (apply det_new; · (intro fa ga oa K' hK; simp (config := { maxSteps := 1000000 }) only [go_sem,↓reduceIte,q2, q2g, q2o, q5, q6, q7, hkw, strs, hl0, hg, h20, c3, codeC, l57, l69, List.length_map, elemTy] at hK ⊢; exact hK))
            (apply det_new; · (intro fa ga oa K' hK; simp (config := { maxSteps := 1000000 }) only [go_sem,↓reduceIte,q2, q2g, q2o, q5, q6, q7, hkw, strs, hl0, hg, h20, c3, codeC, l57, l69, List.length_map, elemTy] at hK ⊢; first | exact ⟨⟨by decide, by decide⟩, hK⟩ | exact ⟨⟨by decide, by omega⟩, hK⟩ | exact ⟨Nat.le_refl _, ⟨by decide, by omega⟩, hK⟩))
            iterate 10 (apply det_pure; · (intro fa ga oa K' hK; simp (config := { maxSteps := 1000000 }) only [go_sem,↓reduceIte,q2, q2g, q2o, q5, q6, q7, hkw, strs, hl0, hg, h20, c3, codeC, l57, l69, List.length_map] at hK ⊢; exact hK))
            (apply det_new; · (intro fa ga oa K' hK; simp (config := { maxSteps := 1000000 }) only [go_sem,↓reduceIte,q2, q2g, q2o, q5, q6, q7, hkw, strs, hl0, hg, h20, c3, codeC, l57, l69, List.length_map, elemTy] at hK ⊢; exact hK))
            (apply det_new; · (intro fa ga oa K' hK; simp (config := { maxSteps := 1000000 }) only [go_sem,↓reduceIte,q2, q2g, q2o, q5, q6, q7, hkw, strs, hl0, hg, h20, c3, codeC, l57, l69, List.length_map, elemTy] at hK ⊢; first | exact ⟨⟨by decide, by decide⟩, hK⟩ | exact ⟨⟨by decide, by omega⟩, hK⟩ | exact ⟨Nat.le_refl _, ⟨by decide, by omega⟩, hK⟩))
            iterate 2 (apply det_pure; · (intro fa ga oa K' hK; simp (config := { maxSteps := 1000000 }) only [go_sem,↓reduceIte,q2, q2g, q2o, q5, q6, q7, hkw, strs, hl0, hg, h20, c3, codeC, l57, l69, List.length_map] at hK ⊢; exact hK))
            (apply det_store; (focus simp); (focus (intro fa ga oa K' hK; simp (config := { maxSteps := 1000000 }) only [go_sem,↓reduceIte,q2, q2g, q2o, q5, q6, q7, hkw, strs, hl0, hg, h20, c3, codeC, l57, l69, List.length_map] at hK ⊢; exact hK)))
            iterate 2 (apply det_pure; · (intro fa ga oa K' hK; simp (config := { maxSteps := 1000000 }) only [go_sem,↓reduceIte,q2, q2g, q2o, q5, q6, q7, hkw, strs, hl0, hg, h20, c3, codeC, l57, l69, List.length_map] at hK ⊢; exact hK))
            apply det_last
            intro K' hK'
            simp (config := { maxSteps := 1000000 }) only [go_sem,↓reduceIte,q2, q2g, q2o, q5, q6, q7, hkw, strs, hl0, hg, h20, c3, codeC, l57, l69, List.length_map]
            refine hK' _ ?_
            clear hK' K'
            by_cases hop : op = []
            case pos =>
              subst hop
              have hst : stepA (k + 1) st x = .ok { st with labs := st.labs ++ [(l, st.code.length)] } := by rw [hsp]; exact opA_nil
              have hgrow := stepA_grow hst
              have hgl := stepA_labs hst
              simp (config := { maxSteps := 1000000 }) only [go_sem,↓reduceIte,q2, q2g, q2o, q5, q6, q7, hkw, strs, hl0, hg, h20, c3, codeC, l57, l69, List.length_map]
              refine round_end (nn - 1) (by omega) ⟨k + 1, _, by omega, by rw [hli, linesA_ok hst], hwf' _ hst, by omega, by omega, ?_⟩
              simp (config := { maxSteps := 1000000 }) only [go_sem,↓reduceIte,q2, q2g, q2o, q5, q6, q7, hkw, strs, hl0, hg, h20, c3, codeC, l57, l69, List.length_map]
              exact ⟨by simp [upd, hg], _, _, _, uc, rfl, .inr ⟨c1, 3172, .inl rfl, by simp [upd], by simp [upd, c3]⟩, .inr ⟨by simp, by simp [upd], by simp [upd], by simp [upd, List.take_of_length_le], by simp [upd, List.take_of_length_le]⟩, hu⟩
            case neg =>
              simp (config := { maxSteps := 1000000 }) only [go_sem,↓reduceIte,q2, q2g, q2o, q5, q6, q7, hkw, strs, hl0, hg, h20, c3, codeC, l57, l69, List.length_map, hop]
              refine hook_fun (R := OutM gr (putA (k + 1) { st with labs := st.labs ++ [(l, st.code.length)] } op args) _ _) rfl (by simp (config := { maxSteps := 1000000 }) only [go_sem,↓reduceIte,q2, q2g, q2o, q5, q6, q7, hkw, strs, hl0, hg, h20, c3, codeC, l57, l69, List.length_map, hop]; refine put_A (st := { st with labs := st.labs ++ [(l, st.code.length)] }) ?_ op args (k + 1) (by omega) (by omega) (fun a ha => by have := hax a ha; omega) hlenc (show st.uses.length ≤ 1000000 by omega); exact ⟨by simp [upd, hg], _, _, _, uc, rfl, .inr ⟨c1, 3172, .inl rfl, by simp [upd], by simp [upd, c3]⟩, .inr ⟨by simp, by simp [upd], by simp [upd], by simp [upd, List.take_of_length_le], by simp [upd, List.take_of_length_le]⟩, hu⟩) ?_
              rintro r g' ob' ⟨o1, o2, o3⟩
              rw [put_same (st := { st with labs := st.labs ++ [(l, st.code.length)] }) hop hlenc, ← hsp] at o3
              have o2g := o1 2 (by decide)
              have o2o := o2 2 (by decide) (by decide)
              simp [upd, q2g] at o2g
              simp [upd, q2o] at o2o
              cases hst : stepA (k + 1) st x with
              | err e =>
                have hne : ¬ ((e : Nat) : Int) = 0 := by have := stepA_ne hst; omega
                rw [hst] at o3
                simp only at o3
                subst o3
                rw [hbad e hst] at hP
                subst hP
                simp (config := { maxSteps := 1000000 }) only [go_sem,↓reduceIte,q2, q2g, q2o, q5, q6, q7, hkw, strs, hl0, hg, h20, c3, codeC, l57, l69, List.length_map, hop, hne, o2g, o2o, buildA]
                exact ⟨_, frz_read (code := []) (d := 0) (n := k + 1) (e := e) (.d _), rfl⟩
              | ok st' =>
                rw [hst] at o3
                obtain ⟨rfl, hM'⟩ := o3
                have hgrow := stepA_grow hst
                have hgl := stepA_labs hst
                simp (config := { maxSteps := 1000000 }) only [go_sem,↓reduceIte,q2, q2g, q2o, q5, q6, q7, hkw, strs, hl0, hg, h20, c3, codeC, l57, l69, List.length_map, hop]
                refine round_end (nn - 1) (by omega) ⟨k + 1, st', by omega, by rw [hli, linesA_ok hst], hwf' st' hst, by omega, by omega, ?_⟩
                simp (config := { maxSteps := 1000000 }) only [go_sem,↓reduceIte,q2, q2g, q2o, q5, q6, q7, hkw, strs, hl0, hg, h20, c3, codeC, l57, l69, List.length_map, hop]
                exact ⟨hM', o2g, o2o⟩
        · rcases hl with ⟨l1, rfl, rfl⟩ | ⟨l1, rfl, rfl, l57, l69⟩
          · refine draw_det Tt_ok mixed [56, 57, 68, 69, 20] [([5], [0, 1, 2, 3], [], false), ([5], [0, 1, 2, 3, 4], [], false), ([5], [0, 2], [], false), ([51], [0, 2], [], false), ([52], [0, 2], [], false), ([53], [0, 2], [], false), ([8], [2], [], false), ([55], [2], [0], false), ([54, 56], [2], [1], false), ([5], [0, 1, 2], [], false), ([58], [0, 1, 2], [], false), ([59], [0, 1, 2], [], false), ([60], [0, 1, 2], [], false), ([5], [0, 1], [], false), ([62], [0, 1], [], false), ([63], [0, 1], [], false), ([64], [0, 1], [], false), ([65], [0, 1], [], false), ([66], [0, 1], [], false), ([67], [0, 1], [2], false), ([61, 68], [], [3], false), ([49], [], [], false), ([70], [], [], false), ([71, 57], [], [4], false), ([50], [], [], false), ([72], [], [], false), ([73, 69], [], [], true)] 5 (by decide +kernel) rfl (by decide) ?_
            simp (config := { maxSteps := 1000000 }) only [go_sem,↓reduceIte]
            iterate 7 (apply det_pure; · (intro fa ga oa K' hK; simp (config := { maxSteps := 1000000 }) only [go_sem,↓reduceIte,q2, q2g, q2o, q5, q6, q7, hkw, strs, hl0, hg, h20, c3, codeC, List.length_map] at hK ⊢; exact hK))
            (apply det_new; · (intro fa ga oa K' hK; simp (config := { maxSteps := 1000000 }) only [go_sem,↓reduceIte,q2, q2g, q2o, q5, q6, q7, hkw, strs, hl0, hg, h20, c3, codeC, List.length_map, elemTy] at hK ⊢; exact hK))
            (apply det_new; · (intro fa ga oa K' hK; simp (config := { maxSteps := 1000000 }) only [go_sem,↓reduceIte,q2, q2g, q2o, q5, q6, q7, hkw, strs, hl0, hg, h20, c3, codeC, List.length_map, elemTy] at hK ⊢; first | exact ⟨⟨by decide, by decide⟩, hK⟩ | exact ⟨⟨by decide, by omega⟩, hK⟩ | exact ⟨Nat.le_refl _, ⟨by decide, by omega⟩, hK⟩))
            iterate 10 (apply det_pure; · (intro fa ga oa K' hK; simp (config := { maxSteps := 1000000 }) only [go_sem,↓reduceIte,q2, q2g, q2o, q5, q6, q7, hkw, strs, hl0, hg, h20, c3, codeC, List.length_map] at hK ⊢; exact hK))
            (apply det_new; · (intro fa ga oa K' hK; simp (config := { maxSteps := 1000000 }) only [go_sem,↓reduceIte,q2, q2g, q2o, q5, q6, q7, hkw, strs, hl0, hg, h20, c3, codeC, List.length_map, elemTy] at hK ⊢; exact hK))
            (apply det_new; · (intro fa ga oa K' hK; simp (config := { maxSteps := 1000000 }) only [go_sem,↓reduceIte,q2, q2g, q2o, q5, q6, q7, hkw, strs, hl0, hg, h20, c3, codeC, List.length_map, elemTy] at hK ⊢; first | exact ⟨⟨by decide, by decide⟩, hK⟩ | exact ⟨⟨by decide, by omega⟩, hK⟩ | exact ⟨Nat.le_refl _, ⟨by decide, by omega⟩, hK⟩))
            iterate 2 (apply det_pure; · (intro fa ga oa K' hK; simp (config := { maxSteps := 1000000 }) only [go_sem,↓reduceIte,q2, q2g, q2o, q5, q6, q7, hkw, strs, hl0, hg, h20, c3, codeC, List.length_map] at hK ⊢; exact hK))
            (apply det_store; (focus simp); (focus (intro fa ga oa K' hK; simp (config := { maxSteps := 1000000 }) only [go_sem,↓reduceIte,q2, q2g, q2o, q5, q6, q7, hkw, strs, hl0, hg, h20, c3, codeC, List.length_map] at hK ⊢; exact hK)))
            iterate 2 (apply det_pure; · (intro fa ga oa K' hK; simp (config := { maxSteps := 1000000 }) only [go_sem,↓reduceIte,q2, q2g, q2o, q5, q6, q7, hkw, strs, hl0, hg, h20, c3, codeC, List.length_map] at hK ⊢; exact hK))
            apply det_last
            intro K' hK'
            simp (config := { maxSteps := 1000000 }) only [go_sem,↓reduceIte,q2, q2g, q2o, q5, q6, q7, hkw, strs, hl0, hg, h20, c3, codeC, List.length_map]
            refine hK' _ ?_
            clear hK' K'
            by_cases hop : op = []
            case pos =>
              subst hop
              have hst : stepA (k + 1) st x = .ok { st with labs := st.labs ++ [(l, st.code.length)] } := by rw [hsp]; exact opA_nil
              have hgrow := stepA_grow hst
              have hgl := stepA_labs hst
              simp (config := { maxSteps := 1000000 }) only [go_sem,↓reduceIte,q2, q2g, q2o, q5, q6, q7, hkw, strs, hl0, hg, h20, c3, codeC, List.length_map]
              refine round_end (nn - 1) (by omega) ⟨k + 1, _, by omega, by rw [hli, linesA_ok hst], hwf' _ hst, by omega, by omega, ?_⟩
              simp (config := { maxSteps := 1000000 }) only [go_sem,↓reduceIte,q2, q2g, q2o, q5, q6, q7, hkw, strs, hl0, hg, h20, c3, codeC, List.length_map]
              exact ⟨by simp [upd, hg], _, _, _, uc, rfl, .inr ⟨c1, 3223, .inr rfl, by simp [upd], by simp [upd, c3]⟩, .inr ⟨by simp, by simp [upd, l1], by simp [upd, l1], by simp [upd, l1], by simp [upd, l1]⟩, hu⟩
            case neg =>
              simp (config := { maxSteps := 1000000 }) only [go_sem,↓reduceIte,q2, q2g, q2o, q5, q6, q7, hkw, strs, hl0, hg, h20, c3, codeC, List.length_map, hop]
              refine hook_fun (R := OutM gr (putA (k + 1) { st with labs := st.labs ++ [(l, st.code.length)] } op args) _ _) rfl (by simp (config := { maxSteps := 1000000 }) only [go_sem,↓reduceIte,q2, q2g, q2o, q5, q6, q7, hkw, strs, hl0, hg, h20, c3, codeC, List.length_map, hop]; refine put_A (st := { st with labs := st.labs ++ [(l, st.code.length)] }) ?_ op args (k + 1) (by omega) (by omega) (fun a ha => by have := hax a ha; omega) hlenc (show st.uses.length ≤ 1000000 by omega); exact ⟨by simp [upd, hg], _, _, _, uc, rfl, .inr ⟨c1, 3223, .inr rfl, by simp [upd], by simp [upd, c3]⟩, .inr ⟨by simp, by simp [upd, l1], by simp [upd, l1], by simp [upd, l1], by simp [upd, l1]⟩, hu⟩) ?_
              rintro r g' ob' ⟨o1, o2, o3⟩
              rw [put_same (st := { st with labs := st.labs ++ [(l, st.code.length)] }) hop hlenc, ← hsp] at o3
              have o2g := o1 2 (by decide)
              have o2o := o2 2 (by decide) (by decide)
              simp [upd, q2g] at o2g
              simp [upd, q2o] at o2o
              cases hst : stepA (k + 1) st x with
              | err e =>
                have hne : ¬ ((e : Nat) : Int) = 0 := by have := stepA_ne hst; omega
                rw [hst] at o3
                simp only at o3
                subst o3
                rw [hbad e hst] at hP
                subst hP
                simp (config := { maxSteps := 1000000 }) only [go_sem,↓reduceIte,q2, q2g, q2o, q5, q6, q7, hkw, strs, hl0, hg, h20, c3, codeC, List.length_map, hop, hne, o2g, o2o, buildA]
                exact ⟨_, frz_read (code := []) (d := 0) (n := k + 1) (e := e) (.d _), rfl⟩
              | ok st' =>
                rw [hst] at o3
                obtain ⟨rfl, hM'⟩ := o3
                have hgrow := stepA_grow hst
                have hgl := stepA_labs hst
                simp (config := { maxSteps := 1000000 }) only [go_sem,↓reduceIte,q2, q2g, q2o, q5, q6, q7, hkw, strs, hl0, hg, h20, c3, codeC, List.length_map, hop]
                refine round_end (nn - 1) (by omega) ⟨k + 1, st', by omega, by rw [hli, linesA_ok hst], hwf' st' hst, by omega, by omega, ?_⟩
                simp (config := { maxSteps := 1000000 }) only [go_sem,↓reduceIte,q2, q2g, q2o, q5, q6, q7, hkw, strs, hl0, hg, h20, c3, codeC, List.length_map, hop]
                exact ⟨hM', o2g, o2o⟩
          · refine draw_det Tt_ok mixed [56, 57, 68, 69, 20] [([5], [0, 1, 2, 3], [], false), ([5], [0, 1, 2, 3, 4], [], false), ([5], [0, 2], [], false), ([51], [0, 2], [], false), ([52], [0, 2], [], false), ([53], [0, 2], [], false), ([8], [2], [], false), ([55], [2], [0], false), ([54, 56], [2], [1], false), ([5], [0, 1, 2], [], false), ([58], [0, 1, 2], [], false), ([59], [0, 1, 2], [], false), ([60], [0, 1, 2], [], false), ([5], [0, 1], [], false), ([62], [0, 1], [], false), ([63], [0, 1], [], false), ([64], [0, 1], [], false), ([65], [0, 1], [], false), ([66], [0, 1], [], false), ([67], [0, 1], [2], false), ([61, 68], [], [3], false), ([49], [], [], false), ([70], [], [], false), ([71, 57], [], [4], false), ([50], [], [], false), ([72], [], [], false), ([73, 69], [], [], true)] 5 (by decide +kernel) rfl (by decide) ?_
            simp (config := { maxSteps := 1000000 }) only [go_sem,↓reduceIte]
            iterate 7 (apply det_pure; · (intro fa ga oa K' hK; simp (config := { maxSteps := 1000000 }) only [go_sem,↓reduceIte,q2, q2g, q2o, q5, q6, q7, hkw, strs, hl0, hg, h20, c3, codeC, l57, l69, List.length_map] at hK ⊢; exact hK))
            (apply det_new; · (intro fa ga oa K' hK; simp (config := { maxSteps := 1000000 }) only [go_sem,↓reduceIte,q2, q2g, q2o, q5, q6, q7, hkw, strs, hl0, hg, h20, c3, codeC, l57, l69, List.length_map, elemTy] at hK ⊢; exact hK))
            (apply det_new; · (intro fa ga oa K' hK; simp (config := { maxSteps := 1000000 }) only [go_sem,↓reduceIte,q2, q2g, q2o, q5, q6, q7, hkw, strs, hl0, hg, h20, c3, codeC, l57, l69, List.length_map, elemTy] at hK ⊢; first | exact ⟨⟨by decide, by decide⟩, hK⟩ | exact ⟨⟨by decide, by omega⟩, hK⟩ | exact ⟨Nat.le_refl _, ⟨by decide, by omega⟩, hK⟩))
            iterate 10 (apply det_pure; · (intro fa ga oa K' hK; simp (config := { maxSteps := 1000000 }) only [go_sem,↓reduceIte,q2, q2g, q2o, q5, q6, q7, hkw, strs, hl0, hg, h20, c3, codeC, l57, l69, List.length_map] at hK ⊢; exact hK))
            (apply det_new; · (intro fa ga oa K' hK; simp (config := { maxSteps := 1000000 }) only [go_sem,↓reduceIte,q2, q2g, q2o, q5, q6, q7, hkw, strs, hl0, hg, h20, c3, codeC, l57, l69, List.length_map, elemTy] at hK ⊢; exact hK))
            (apply det_new; · (intro fa ga oa K' hK; simp (config := { maxSteps := 1000000 }) only [go_sem,↓reduceIte,q2, q2g, q2o, q5, q6, q7, hkw, strs, hl0, hg, h20, c3, codeC, l57, l69, List.length_map, elemTy] at hK ⊢; first | exact ⟨⟨by decide, by decide⟩, hK⟩ | exact ⟨⟨by decide, by omega⟩, hK⟩ | exact ⟨Nat.le_refl _, ⟨by decide, by omega⟩, hK⟩))
            iterate 2 (apply det_pure; · (intro fa ga oa K' hK; simp (config := { maxSteps := 1000000 }) only [go_sem,↓reduceIte,q2, q2g, q2o, q5, q6, q7, hkw, strs, hl0, hg, h20, c3, codeC, l57, l69, List.length_map] at hK ⊢; exact hK))
            (apply det_store; (focus simp); (focus (intro fa ga oa K' hK; simp (config := { maxSteps := 1000000 }) only [go_sem,↓reduceIte,q2, q2g, q2o, q5, q6, q7, hkw, strs, hl0, hg, h20, c3, codeC, l57, l69, List.length_map] at hK ⊢; exact hK)))
            iterate 2 (apply det_pure; · (intro fa ga oa K' hK; simp (config := { maxSteps := 1000000 }) only [go_sem,↓reduceIte,q2, q2g, q2o, q5, q6, q7, hkw, strs, hl0, hg, h20, c3, codeC, l57, l69, List.length_map] at hK ⊢; exact hK))
            apply det_last
            intro K' hK'
            simp (config := { maxSteps := 1000000 }) only [go_sem,↓reduceIte,q2, q2g, q2o, q5, q6, q7, hkw, strs, hl0, hg, h20, c3, codeC, l57, l69, List.length_map]
            refine hK' _ ?_
            clear hK' K'
            by_cases hop : op = []
            case pos =>
              subst hop
              have hst : stepA (k + 1) st x = .ok { st with labs := st.labs ++ [(l, st.code.length)] } := by rw [hsp]; exact opA_nil
              have hgrow := stepA_grow hst
              have hgl := stepA_labs hst
              simp (config := { maxSteps := 1000000 }) only [go_sem,↓reduceIte,q2, q2g, q2o, q5, q6, q7, hkw, strs, hl0, hg, h20, c3, codeC, l57, l69, List.length_map]
              refine round_end (nn - 1) (by omega) ⟨k + 1, _, by omega, by rw [hli, linesA_ok hst], hwf' _ hst, by omega, by omega, ?_⟩
              simp (config := { maxSteps := 1000000 }) only [go_sem,↓reduceIte,q2, q2g, q2o, q5, q6, q7, hkw, strs, hl0, hg, h20, c3, codeC, l57, l69, List.length_map]
              exact ⟨by simp [upd, hg], _, _, _, uc, rfl, .inr ⟨c1, 3223, .inr rfl, by simp [upd], by simp [upd, c3]⟩, .inr ⟨by simp, by simp [upd], by simp [upd], by simp [upd, List.take_of_length_le], by simp [upd, List.take_of_length_le]⟩, hu⟩
            case neg =>
              simp (config := { maxSteps := 1000000 }) only [go_sem,↓reduceIte,q2, q2g, q2o, q5, q6, q7, hkw, strs, hl0, hg, h20, c3, codeC, l57, l69, List.length_map, hop]
              refine hook_fun (R := OutM gr (putA (k + 1) { st with labs := st.labs ++ [(l, st.code.length)] } op args) _ _) rfl (by simp (config := { maxSteps := 1000000 }) only [go_sem,↓reduceIte,q2, q2g, q2o, q5, q6, q7, hkw, strs, hl0, hg, h20, c3, codeC, l57, l69, List.length_map, hop]; refine put_A (st := { st with labs := st.labs ++ [(l, st.code.length)] }) ?_ op args (k + 1) (by omega) (by omega) (fun a ha => by have := hax a ha; omega) hlenc (show st.uses.length ≤ 1000000 by omega); exact ⟨by simp [upd, hg], _, _, _, uc, rfl, .inr ⟨c1, 3223, .inr rfl, by simp [upd], by simp [upd, c3]⟩, .inr ⟨by simp, by simp [upd], by simp [upd], by simp [upd, List.take_of_length_le], by simp [upd, List.take_of_length_le]⟩, hu⟩) ?_
              rintro r g' ob' ⟨o1, o2, o3⟩
              rw [put_same (st := { st with labs := st.labs ++ [(l, st.code.length)] }) hop hlenc, ← hsp] at o3
              have o2g := o1 2 (by decide)
              have o2o := o2 2 (by decide) (by decide)
              simp [upd, q2g] at o2g
              simp [upd, q2o] at o2o
              cases hst : stepA (k + 1) st x with
              | err e =>
                have hne : ¬ ((e : Nat) : Int) = 0 := by have := stepA_ne hst; omega
                rw [hst] at o3
                simp only at o3
                subst o3
                rw [hbad e hst] at hP
                subst hP
                simp (config := { maxSteps := 1000000 }) only [go_sem,↓reduceIte,q2, q2g, q2o, q5, q6, q7, hkw, strs, hl0, hg, h20, c3, codeC, l57, l69, List.length_map, hop, hne, o2g, o2o, buildA]
                exact ⟨_, frz_read (code := []) (d := 0) (n := k + 1) (e := e) (.d _), rfl⟩
              | ok st' =>
                rw [hst] at o3
                obtain ⟨rfl, hM'⟩ := o3
                have hgrow := stepA_grow hst
                have hgl := stepA_labs hst
                simp (config := { maxSteps := 1000000 }) only [go_sem,↓reduceIte,q2, q2g, q2o, q5, q6, q7, hkw, strs, hl0, hg, h20, c3, codeC, l57, l69, List.length_map, hop]
                refine round_end (nn - 1) (by omega) ⟨k + 1, st', by omega, by rw [hli, linesA_ok hst], hwf' st' hst, by omega, by omega, ?_⟩
                simp (config := { maxSteps := 1000000 }) only [go_sem,↓reduceIte,q2, q2g, q2o, q5, q6, q7, hkw, strs, hl0, hg, h20, c3, codeC, l57, l69, List.length_map, hop]
                exact ⟨hM', o2g, o2o⟩
      case some p =>
        have hst := stepA_dup (n := k + 1) hla hl0 hpo
        rw [hbad 4 hst] at hP
        subst hP
        have hp0 : (0 : Int) ≤ (p : Int) := by omega
        simp (config := { maxSteps := 1000000 }) only [go_sem,↓reduceIte,q2, q2g, q2o, q5, q6, q7, hkw, strs, hl0, hp0]
        rcases hc with ⟨c1, rfl⟩ | ⟨c1, ci, rfl | rfl, rfl, c3⟩
        · rcases hl with ⟨l1, rfl, rfl⟩ | ⟨l1, rfl, rfl, l57, l69⟩
          · refine draw_det Tt_ok mixed [56, 57, 68, 69, 20] [([5], [0, 1, 2, 3], [], false), ([5], [0, 1, 2, 3, 4], [], false), ([5], [0, 2], [], false), ([51], [0, 2], [], false), ([52], [0, 2], [], false), ([53], [0, 2], [], false), ([8], [2], [], false), ([55], [2], [0], false), ([54, 56], [2], [1], false), ([5], [0, 1, 2], [], false), ([58], [0, 1, 2], [], false), ([59], [0, 1, 2], [], false), ([60], [0, 1, 2], [], false), ([5], [0, 1], [], false), ([62], [0, 1], [], false), ([63], [0, 1], [], false), ([64], [0, 1], [], false), ([65], [0, 1], [], false), ([66], [0, 1], [], false), ([67], [0, 1], [2], false), ([61, 68], [], [3], false), ([49], [], [], false), ([70], [], [], false), ([71, 57], [], [4], false), ([50], [], [], false), ([72], [], [], false), ([73, 69], [], [], true)] 5 (by decide +kernel) rfl (by decide) ?_
            simp (config := { maxSteps := 1000000 }) only [go_sem,↓reduceIte]
            iterate 7 (apply det_pure; · (intro fa ga oa K' hK; simp (config := { maxSteps := 1000000 }) only [go_sem,↓reduceIte,q2, q2g, q2o, q5, q6, q7, hkw, strs, hl0, hg, h20, List.length_map] at hK ⊢; exact hK))
            (apply det_new; · (intro fa ga oa K' hK; simp (config := { maxSteps := 1000000 }) only [go_sem,↓reduceIte,q2, q2g, q2o, q5, q6, q7, hkw, strs, hl0, hg, h20, List.length_map, elemTy] at hK ⊢; exact hK))
            (apply det_new; · (intro fa ga oa K' hK; simp (config := { maxSteps := 1000000 }) only [go_sem,↓reduceIte,q2, q2g, q2o, q5, q6, q7, hkw, strs, hl0, hg, h20, List.length_map, elemTy] at hK ⊢; first | exact ⟨⟨by decide, by decide⟩, hK⟩ | exact ⟨⟨by decide, by omega⟩, hK⟩ | exact ⟨Nat.le_refl _, ⟨by decide, by omega⟩, hK⟩))
            iterate 10 (apply det_pure; · (intro fa ga oa K' hK; simp (config := { maxSteps := 1000000 }) only [go_sem,↓reduceIte,q2, q2g, q2o, q5, q6, q7, hkw, strs, hl0, hg, h20, List.length_map] at hK ⊢; exact hK))
            (apply det_new; · (intro fa ga oa K' hK; simp (config := { maxSteps := 1000000 }) only [go_sem,↓reduceIte,q2, q2g, q2o, q5, q6, q7, hkw, strs, hl0, hg, h20, List.length_map, elemTy] at hK ⊢; exact hK))
            (apply det_new; · (intro fa ga oa K' hK; simp (config := { maxSteps := 1000000 }) only [go_sem,↓reduceIte,q2, q2g, q2o, q5, q6, q7, hkw, strs, hl0, hg, h20, List.length_map, elemTy] at hK ⊢; first | exact ⟨⟨by decide, by decide⟩, hK⟩ | exact ⟨⟨by decide, by omega⟩, hK⟩ | exact ⟨Nat.le_refl _, ⟨by decide, by omega⟩, hK⟩))
            iterate 2 (apply det_pure; · (intro fa ga oa K' hK; simp (config := { maxSteps := 1000000 }) only [go_sem,↓reduceIte,q2, q2g, q2o, q5, q6, q7, hkw, strs, hl0, hg, h20, List.length_map] at hK ⊢; exact hK))
            (apply det_store; (focus simp); (focus (intro fa ga oa K' hK; simp (config := { maxSteps := 1000000 }) only [go_sem,↓reduceIte,q2, q2g, q2o, q5, q6, q7, hkw, strs, hl0, hg, h20, List.length_map] at hK ⊢; exact hK)))
            iterate 2 (apply det_pure; · (intro fa ga oa K' hK; simp (config := { maxSteps := 1000000 }) only [go_sem,↓reduceIte,q2, q2g, q2o, q5, q6, q7, hkw, strs, hl0, hg, h20, List.length_map] at hK ⊢; exact hK))
            apply det_last
            intro K' hK'
            simp (config := { maxSteps := 1000000 }) only [go_sem,↓reduceIte,q2, q2g, q2o, q5, q6, q7, hkw, strs, hl0, hg, h20, List.length_map]
            refine hK' _ ?_
            clear hK' K'
            simp (config := { maxSteps := 1000000 }) only [go_sem,↓reduceIte,q2, q2g, q2o, q5, q6, q7, hkw, strs, hl0, hg, h20, List.length_map, buildA]
            exact ⟨_, frz_read (code := []) (d := 0) (n := k + 1) (e := 4) (.d _), rfl⟩
          · refine draw_det Tt_ok mixed [56, 57, 68, 69, 20] [([5], [0, 1, 2, 3], [], false), ([5], [0, 1, 2, 3, 4], [], false), ([5], [0, 2], [], false), ([51], [0, 2], [], false), ([52], [0, 2], [], false), ([53], [0, 2], [], false), ([8], [2], [], false), ([55], [2], [0], false), ([54, 56], [2], [1], false), ([5], [0, 1, 2], [], false), ([58], [0, 1, 2], [], false), ([59], [0, 1, 2], [], false), ([60], [0, 1, 2], [], false), ([5], [0, 1], [], false), ([62], [0, 1], [], false), ([63], [0, 1], [], false), ([64], [0, 1], [], false), ([65], [0, 1], [], false), ([66], [0, 1], [], false), ([67], [0, 1], [2], false), ([61, 68], [], [3], false), ([49], [], [], false), ([70], [], [], false), ([71, 57], [], [4], false), ([50], [], [], false), ([72], [], [], false), ([73, 69], [], [], true)] 5 (by decide +kernel) rfl (by decide) ?_
            simp (config := { maxSteps := 1000000 }) only [go_sem,↓reduceIte]
            iterate 7 (apply det_pure; · (intro fa ga oa K' hK; simp (config := { maxSteps := 1000000 }) only [go_sem,↓reduceIte,q2, q2g, q2o, q5, q6, q7, hkw, strs, hl0, hg, h20, l57, l69, List.length_map] at hK ⊢; exact hK))
            (apply det_new; · (intro fa ga oa K' hK; simp (config := { maxSteps := 1000000 }) only [go_sem,↓reduceIte,q2, q2g, q2o, q5, q6, q7, hkw, strs, hl0, hg, h20, l57, l69, List.length_map, elemTy] at hK ⊢; exact hK))
            (apply det_new; · (intro fa ga oa K' hK; simp (config := { maxSteps := 1000000 }) only [go_sem,↓reduceIte,q2, q2g, q2o, q5, q6, q7, hkw, strs, hl0, hg, h20, l57, l69, List.length_map, elemTy] at hK ⊢; first | exact ⟨⟨by decide, by decide⟩, hK⟩ | exact ⟨⟨by decide, by omega⟩, hK⟩ | exact ⟨Nat.le_refl _, ⟨by decide, by omega⟩, hK⟩))
            iterate 10 (apply det_pure; · (intro fa ga oa K' hK; simp (config := { maxSteps := 1000000 }) only [go_sem,↓reduceIte,q2, q2g, q2o, q5, q6, q7, hkw, strs, hl0, hg, h20, l57, l69, List.length_map] at hK ⊢; exact hK))
            (apply det_new; · (intro fa ga oa K' hK; simp (config := { maxSteps := 1000000 }) only [go_sem,↓reduceIte,q2, q2g, q2o, q5, q6, q7, hkw, strs, hl0, hg, h20, l57, l69, List.length_map, elemTy] at hK ⊢; exact hK))
            (apply det_new; · (intro fa ga oa K' hK; simp (config := { maxSteps := 1000000 }) only [go_sem,↓reduceIte,q2, q2g, q2o, q5, q6, q7, hkw, strs, hl0, hg, h20, l57, l69, List.length_map, elemTy] at hK ⊢; first | exact ⟨⟨by decide, by decide⟩, hK⟩ | exact ⟨⟨by decide, by omega⟩, hK⟩ | exact ⟨Nat.le_refl _, ⟨by decide, by omega⟩, hK⟩))
            iterate 2 (apply det_pure; · (intro fa ga oa K' hK; simp (config := { maxSteps := 1000000 }) only [go_sem,↓reduceIte,q2, q2g, q2o, q5, q6, q7, hkw, strs, hl0, hg, h20, l57, l69, List.length_map] at hK ⊢; exact hK))
            (apply det_store; (focus simp); (focus (intro fa ga oa K' hK; simp (config := { maxSteps := 1000000 }) only [go_sem,↓reduceIte,q2, q2g, q2o, q5, q6, q7, hkw, strs, hl0, hg, h20, l57, l69, List.length_map] at hK ⊢; exact hK)))
            iterate 2 (apply det_pure; · (intro fa ga oa K' hK; simp (config := { maxSteps := 1000000 }) only [go_sem,↓reduceIte,q2, q2g, q2o, q5, q6, q7, hkw, strs, hl0, hg, h20, l57, l69, List.length_map] at hK ⊢; exact hK))
            apply det_last
            intro K' hK'
            simp (config := { maxSteps := 1000000 }) only [go_sem,↓reduceIte,q2, q2g, q2o, q5, q6, q7, hkw, strs, hl0, hg, h20, l57, l69, List.length_map]
            refine hK' _ ?_
            clear hK' K'
            simp (config := { maxSteps := 1000000 }) only [go_sem,↓reduceIte,q2, q2g, q2o, q5, q6, q7, hkw, strs, hl0, hg, h20, l57, l69, List.length_map, buildA]
            exact ⟨_, frz_read (code := []) (d := 0) (n := k + 1) (e := 4) (.d _), rfl⟩
        · rcases hl with ⟨l1, rfl, rfl⟩ | ⟨l1, rfl, rfl, l57, l69⟩
          · refine draw_det Tt_ok mixed [56, 57, 68, 69, 20] [([5], [0, 1, 2, 3], [], false), ([5], [0, 1, 2, 3, 4], [], false), ([5], [0, 2], [], false), ([51], [0, 2], [], false), ([52], [0, 2], [], false), ([53], [0, 2], [], false), ([8], [2], [], false), ([55], [2], [0], false), ([54, 56], [2], [1], false), ([5], [0, 1, 2], [], false), ([58], [0, 1, 2], [], false), ([59], [0, 1, 2], [], false), ([60], [0, 1, 2], [], false), ([5], [0, 1], [], false), ([62], [0, 1], [], false), ([63], [0, 1], [], false), ([64], [0, 1], [], false), ([65], [0, 1], [], false), ([66], [0, 1], [], false), ([67], [0, 1], [2], false), ([61, 68], [], [3], false), ([49], [], [], false), ([70], [], [], false), ([71, 57], [], [4], false), ([50], [], [], false), ([72], [], [], false), ([73, 69], [], [], true)] 5 (by decide +kernel) rfl (by decide) ?_
            simp (config := { maxSteps := 1000000 }) only [go_sem,↓reduceIte]
            iterate 7 (apply det_pure; · (intro fa ga oa K' hK; simp (config := { maxSteps := 1000000 }) only [go_sem,↓reduceIte,q2, q2g, q2o, q5, q6, q7, hkw, strs, hl0, hg, h20, c3, codeC, List.length_map] at hK ⊢; exact hK))
            (apply det_new; · (intro fa ga oa K' hK; simp (config := { maxSteps := 1000000 }) only [go_sem,↓reduceIte,q2, q2g, q2o, q5, q6, q7, hkw, strs, hl0, hg, h20, c3, codeC, List.length_map, elemTy] at hK ⊢; exact hK))
            (apply det_new; · (intro fa ga oa K' hK; simp (config := { maxSteps := 1000000 }) only [go_sem,↓reduceIte,q2, q2g, q2o, q5, q6, q7, hkw, strs, hl0, hg, h20, c3, codeC, List.length_map, elemTy] at hK ⊢; first | exact ⟨⟨by decide, by decide⟩, hK⟩ | exact ⟨⟨by decide, by omega⟩, hK⟩ | exact ⟨Nat.le_refl _, ⟨by decide, by omega⟩, hK⟩))
            iterate 10 (apply det_pure; · (intro fa ga oa K' hK; simp (config := { maxSteps := 1000000 }) only [go_sem,↓reduceIte,q2, q2g, q2o, q5, q6, q7, hkw, strs, hl0, hg, h20, c3, codeC, List.length_map] at hK ⊢; exact hK))
            (apply det_new; · (intro fa ga oa K' hK; simp (config := { maxSteps := 1000000 }) only [go_sem,↓reduceIte,q2, q2g, q2o, q5, q6, q7, hkw, strs, hl0, hg, h20, c3, codeC, List.length_map, elemTy] at hK ⊢; exact hK))
            (apply det_new; · (intro fa ga oa K' hK; simp (config := { maxSteps := 1000000 }) only [go_sem,↓reduceIte,q2, q2g, q2o, q5, q6, q7, hkw, strs, hl0, hg, h20, c3, codeC, List.length_map, elemTy] at hK ⊢; first | exact ⟨⟨by decide, by decide⟩, hK⟩ | exact ⟨⟨by decide, by omega⟩, hK⟩ | exact ⟨Nat.le_refl _, ⟨by decide, by omega⟩, hK⟩))
            iterate 2 (apply det_pure; · (intro fa ga oa K' hK; simp (config := { maxSteps := 1000000 }) only [go_sem,↓reduceIte,q2, q2g, q2o, q5, q6, q7, hkw, strs, hl0, hg, h20, c3, codeC, List.length_map] at hK ⊢; exact hK))
            (apply det_store; (focus simp); (focus (intro fa ga oa K' hK; simp (config := { maxSteps := 1000000 }) only [go_sem,↓reduceIte,q2, q2g, q2o, q5, q6, q7, hkw, strs, hl0, hg, h20, c3, codeC, List.length_map] at hK ⊢; exact hK)))
            iterate 2 (apply det_pure; · (intro fa ga oa K' hK; simp (config := { maxSteps := 1000000 }) only [go_sem,↓reduceIte,q2, q2g, q2o, q5, q6, q7, hkw, strs, hl0, hg, h20, c3, codeC, List.length_map] at hK ⊢; exact hK))
            apply det_last
            intro K' hK'
            simp (config := { maxSteps := 1000000 }) only [go_sem,↓reduceIte,q2, q2g, q2o, q5, q6, q7, hkw, strs, hl0, hg, h20, c3, codeC, List.length_map]
            refine hK' _ ?_
            clear hK' K'
            simp (config := { maxSteps := 1000000 }) only [go_sem,↓reduceIte,q2, q2g, q2o, q5, q6, q7, hkw, strs, hl0, hg, h20, c3, codeC, List.length_map, buildA]
            exact ⟨_, frz_read (code := []) (d := 0) (n := k + 1) (e := 4) (.d _), rfl⟩
          · refine draw_det Tt_ok mixed [56, 57, 68, 69, 20] [([5], [0, 1, 2, 3], [], false), ([5], [0, 1, 2, 3, 4], [], false), ([5], [0, 2], [], false), ([51], [0, 2], [], false), ([52], [0, 2], [], false), ([53], [0, 2], [], false), ([8], [2], [], false), ([55], [2], [0], false), ([54, 56], [2], [1], false), ([5], [0, 1, 2], [], false), ([58], [0, 1, 2], [], false), ([59], [0, 1, 2], [], false), ([60], [0, 1, 2], [], false), ([5], [0, 1], [], false), ([62], [0, 1], [], false), ([63], [0, 1], [], false), ([64], [0, 1], [], false), ([65], [0, 1], [], false), ([66], [0, 1], [], false), ([67], [0, 1], [2], false), ([61, 68], [], [3], false), ([49], [], [], false), ([70], [], [], false), ([71, 57], [], [4], false), ([50], [], [], false), ([72], [], [], false), ([73, 69], [], [], true)] 5 (by decide +kernel) rfl (by decide) ?_
            simp (config := { maxSteps := 1000000 }) only [go_sem,↓reduceIte]
            iterate 7 (apply det_pure; · (intro fa ga oa K' hK; simp (config := { maxSteps := 1000000 }) only [go_sem,↓reduceIte,q2, q2g, q2o, q5, q6, q7, hkw, strs, hl0, hg, h20, c3, codeC, l57, l69, List.length_map] at hK ⊢; exact hK))
            (apply det_new; · (intro fa ga oa K' hK; simp (config := { maxSteps := 1000000 }) only [go_sem,↓reduceIte,q2, q2g, q2o, q5, q6, q7, hkw, strs, hl0, hg, h20, c3, codeC, l57, l69, List.length_map, elemTy] at hK ⊢; exact hK))
            (apply det_new; · (intro fa ga oa K' hK; simp (config := { maxSteps := 1000000 }) only [go_sem,↓reduceIte,q2, q2g, q2o, q5, q6, q7, hkw, strs, hl0, hg, h20, c3, codeC, l57, l69, List.length_map, elemTy] at hK ⊢; first | exact ⟨⟨by decide, by decide⟩, hK⟩ | exact ⟨⟨by decide, by omega⟩, hK⟩ | exact ⟨Nat.le_refl _, ⟨by decide, by omega⟩, hK⟩))
            iterate 10 (apply det_pure; · (intro fa ga oa K' hK; simp (config := { maxSteps := 1000000 }) only [go_sem,↓reduceIte,q2, q2g, q2o, q5, q6, q7, hkw, strs, hl0, hg, h20, c3, codeC, l57, l69, List.length_map] at hK ⊢; exact hK))
            (apply det_new; · (intro fa ga oa K' hK; simp (config := { maxSteps := 1000000 }) only [go_sem,↓reduceIte,q2, q2g, q2o, q5, q6, q7, hkw, strs, hl0, hg, h20, c3, codeC, l57, l69, List.length_map, elemTy] at hK ⊢; exact hK))
            (apply det_new; · (intro fa ga oa K' hK; simp (config := { maxSteps := 1000000 }) only [go_sem,↓reduceIte,q2, q2g, q2o, q5, q6, q7, hkw, strs, hl0, hg, h20, c3, codeC, l57, l69, List.length_map, elemTy] at hK ⊢; first | exact ⟨⟨by decide, by decide⟩, hK⟩ | exact ⟨⟨by decide, by omega⟩, hK⟩ | exact ⟨Nat.le_refl _, ⟨by decide, by omega⟩, hK⟩))
            iterate 2 (apply det_pure; · (intro fa ga oa K' hK; simp (config := { maxSteps := 1000000 }) only [go_sem,↓reduceIte,q2, q2g, q2o, q5, q6, q7, hkw, strs, hl0, hg, h20, c3, codeC, l57, l69, List.length_map] at hK ⊢; exact hK))
            (apply det_store; (focus simp); (focus (intro fa ga oa K' hK; simp (config := { maxSteps := 1000000 }) only [go_sem,↓reduceIte,q2, q2g, q2o, q5, q6, q7, hkw, strs, hl0, hg, h20, c3, codeC, l57, l69, List.length_map] at hK ⊢; exact hK)))
            iterate 2 (apply det_pure; · (intro fa ga oa K' hK; simp (config := { maxSteps := 1000000 }) only [go_sem,↓reduceIte,q2, q2g, q2o, q5, q6, q7, hkw, strs, hl0, hg, h20, c3, codeC, l57, l69, List.length_map] at hK ⊢; exact hK))
            apply det_last
            intro K' hK'
            simp (config := { maxSteps := 1000000 }) only [go_sem,↓reduceIte,q2, q2g, q2o, q5, q6, q7, hkw, strs, hl0, hg, h20, c3, codeC, l57, l69, List.length_map]
            refine hK' _ ?_
            clear hK' K'
            simp (config := { maxSteps := 1000000 }) only [go_sem,↓reduceIte,q2, q2g, q2o, q5, q6, q7, hkw, strs, hl0, hg, h20, c3, codeC, l57, l69, List.length_map, buildA]
            exact ⟨_, frz_read (code := []) (d := 0) (n := k + 1) (e := 4) (.d _), rfl⟩
        · rcases hl with ⟨l1, rfl, rfl⟩ | ⟨l1, rfl, rfl, l57, l69⟩
          · refine draw_det Tt_ok mixed [56, 57, 68, 69, 20] [([5], [0, 1, 2, 3], [], false), ([5], [0, 1, 2, 3, 4], [], false), ([5], [0, 2], [], false), ([51], [0, 2], [], false), ([52], [0, 2], [], false), ([53], [0, 2], [], false), ([8], [2], [], false), ([55], [2], [0], false), ([54, 56], [2], [1], false), ([5], [0, 1, 2], [], false), ([58], [0, 1, 2], [], false), ([59], [0, 1, 2], [], false), ([60], [0, 1, 2], [], false), ([5], [0, 1], [], false), ([62], [0, 1], [], false), ([63], [0, 1], [], false), ([64], [0, 1], [], false), ([65], [0, 1], [], false), ([66], [0, 1], [], false), ([67], [0, 1], [2], false), ([61, 68], [], [3], false), ([49], [], [], false), ([70], [], [], false), ([71, 57], [], [4], false), ([50], [], [], false), ([72], [], [], false), ([73, 69], [], [], true)] 5 (by decide +kernel) rfl (by decide) ?_
            simp (config := { maxSteps := 1000000 }) only [go_sem,↓reduceIte]
            iterate 7 (apply det_pure; · (intro fa ga oa K' hK; simp (config := { maxSteps := 1000000 }) only [go_sem,↓reduceIte,q2, q2g, q2o, q5, q6, q7, hkw, strs, hl0, hg, h20, c3, codeC, List.length_map] at hK ⊢; exact hK))
            (apply det_new; · (intro fa ga oa K' hK; simp (config := { maxSteps := 1000000 }) only [go_sem,↓reduceIte,q2, q2g, q2o, q5, q6, q7, hkw, strs, hl0, hg, h20, c3, codeC, List.length_map, elemTy] at hK ⊢; exact hK))
            (apply det_new; · (intro fa ga oa K' hK; simp (config := { maxSteps := 1000000 }) only [go_sem,↓reduceIte,q2, q2g, q2o, q5, q6, q7, hkw, strs, hl0, hg, h20, c3, codeC, List.length_map, elemTy] at hK ⊢; first | exact ⟨⟨by decide, by decide⟩, hK⟩ | exact ⟨⟨by decide, by omega⟩, hK⟩ | exact ⟨Nat.le_refl _, ⟨by decide, by omega⟩, hK⟩))
            iterate 10 (apply det_pure; · (intro fa ga oa K' hK; simp (config := { maxSteps := 1000000 }) only [go_sem,↓reduceIte,q2, q2g, q2o, q5, q6, q7, hkw, strs, hl0, hg, h20, c3, codeC, List.length_map] at hK ⊢; exact hK))
            (apply det_new; · (intro fa ga oa K' hK; simp (config := { maxSteps := 1000000 }) only [go_sem,↓reduceIte,q2, q2g, q2o, q5, q6, q7, hkw, strs, hl0, hg, h20, c3, codeC, List.length_map, elemTy] at hK ⊢; exact hK))
            (apply det_new; · (intro fa ga oa K' hK; simp (config := { maxSteps := 1000000 }) only [go_sem,↓reduceIte,q2, q2g, q2o, q5, q6, q7, hkw, strs, hl0, hg, h20, c3, codeC, List.length_map, elemTy] at hK ⊢; first | exact ⟨⟨by decide, by decide⟩, hK⟩ | exact ⟨⟨by decide, by omega⟩, hK⟩ | exact ⟨Nat.le_refl _, ⟨by decide, by omega⟩, hK⟩))
            iterate 2 (apply det_pure; · (intro fa ga oa K' hK; simp (config := { maxSteps := 1000000 }) only [go_sem,↓reduceIte,q2, q2g, q2o, q5, q6, q7, hkw, strs, hl0, hg, h20, c3, codeC, List.length_map] at hK ⊢; exact hK))
            (apply det_store; (focus simp); (focus (intro fa ga oa K' hK; simp (config := { maxSteps := 1000000 }) only [go_sem,↓reduceIte,q2, q2g, q2o, q5, q6, q7, hkw, strs, hl0, hg, h20, c3, codeC, List.length_map] at hK ⊢; exact hK)))
            iterate 2 (apply det_pure; · (intro fa ga oa K' hK; simp (config := { maxSteps := 1000000 }) only [go_sem,↓reduceIte,q2, q2g, q2o, q5, q6, q7, hkw, strs, hl0, hg, h20, c3, codeC, List.length_map] at hK ⊢; exact hK))
            apply det_last
            intro K' hK'
            simp (config := { maxSteps := 1000000 }) only [go_sem,↓reduceIte,q2, q2g, q2o, q5, q6, q7, hkw, strs, hl0, hg, h20, c3, codeC, List.length_map]
            refine hK' _ ?_
            clear hK' K'
            simp (config := { maxSteps := 1000000 }) only [go_sem,↓reduceIte,q2, q2g, q2o, q5, q6, q7, hkw, strs, hl0, hg, h20, c3, codeC, List.length_map, buildA]
            exact ⟨_, frz_read (code := []) (d := 0) (n := k + 1) (e := 4) (.d _), rfl⟩
          · refine draw_det Tt_ok mixed [56, 57, 68, 69, 20] [([5], [0, 1, 2, 3], [], false), ([5], [0, 1, 2, 3, 4], [], false), ([5], [0, 2], [], false), ([51], [0, 2], [], false), ([52], [0, 2], [], false), ([53], [0, 2], [], false), ([8], [2], [], false), ([55], [2], [0], false), ([54, 56], [2], [1], false), ([5], [0, 1, 2], [], false), ([58], [0, 1, 2], [], false), ([59], [0, 1, 2], [], false), ([60], [0, 1, 2], [], false), ([5], [0, 1], [], false), ([62], [0, 1], [], false), ([63], [0, 1], [], false), ([64], [0, 1], [], false), ([65], [0, 1], [], false), ([66], [0, 1], [], false), ([67], [0, 1], [2], false), ([61, 68], [], [3], false), ([49], [], [], false), ([70], [], [], false), ([71, 57], [], [4], false), ([50], [], [], false), ([72], [], [], false), ([73, 69], [], [], true)] 5 (by decide +kernel) rfl (by decide) ?_
            simp (config := { maxSteps := 1000000 }) only [go_sem,↓reduceIte]
            iterate 7 (apply det_pure; · (intro fa ga oa K' hK; simp (config := { maxSteps := 1000000 }) only [go_sem,↓reduceIte,q2, q2g, q2o, q5, q6, q7, hkw, strs, hl0, hg, h20, c3, codeC, l57, l69, List.length_map] at hK ⊢; exact hK))
            (apply det_new; · (intro fa ga oa K' hK; simp (config := { maxSteps := 1000000 }) only [go_sem,↓reduceIte,q2, q2g, q2o, q5, q6, q7, hkw, strs, hl0, hg, h20, c3, codeC, l57, l69, List.length_map, elemTy] at hK ⊢; exact hK))
            (apply det_new; · (intro fa ga oa K' hK; simp (config := { maxSteps := 1000000 }) only [go_sem,↓reduceIte,q2, q2g, q2o, q5, q6, q7, hkw, strs, hl0, hg, h20, c3, codeC, l57, l69, List.length_map, elemTy] at hK ⊢; first | exact ⟨⟨by decide, by decide⟩, hK⟩ | exact ⟨⟨by decide, by omega⟩, hK⟩ | exact ⟨Nat.le_refl _, ⟨by decide, by omega⟩, hK⟩))
            iterate 10 (apply det_pure; · (intro fa ga oa K' hK; simp (config := { maxSteps := 1000000 }) only [go_sem,↓reduceIte,q2, q2g, q2o, q5, q6, q7, hkw, strs, hl0, hg, h20, c3, codeC, l57, l69, List.length_map] at hK ⊢; exact hK))
            (apply det_new; · (intro fa ga oa K' hK; simp (config := { maxSteps := 1000000 }) only [go_sem,↓reduceIte,q2, q2g, q2o, q5, q6, q7, hkw, strs, hl0, hg, h20, c3, codeC, l57, l69, List.length_map, elemTy] at hK ⊢; exact hK))
            (apply det_new; · (intro fa ga oa K' hK; simp (config := { maxSteps := 1000000 }) only [go_sem,↓reduceIte,q2, q2g, q2o, q5, q6, q7, hkw, strs, hl0, hg, h20, c3, codeC, l57, l69, List.length_map, elemTy] at hK ⊢; first | exact ⟨⟨by decide, by decide⟩, hK⟩ | exact ⟨⟨by decide, by omega⟩, hK⟩ | exact ⟨Nat.le_refl _, ⟨by decide, by omega⟩, hK⟩))
            iterate 2 (apply det_pure; · (intro fa ga oa K' hK; simp (config := { maxSteps := 1000000 }) only [go_sem,↓reduceIte,q2, q2g, q2o, q5, q6, q7, hkw, strs, hl0, hg, h20, c3, codeC, l57, l69, List.length_map] at hK ⊢; exact hK))
            (apply det_store; (focus simp); (focus (intro fa ga oa K' hK; simp (config := { maxSteps := 1000000 }) only [go_sem,↓reduceIte,q2, q2g, q2o, q5, q6, q7, hkw, strs, hl0, hg, h20, c3, codeC, l57, l69, List.length_map] at hK ⊢; exact hK)))
            iterate 2 (apply det_pure; · (intro fa ga oa K' hK; simp (config := { maxSteps := 1000000 }) only [go_sem,↓reduceIte,q2, q2g, q2o, q5, q6, q7, hkw, strs, hl0, hg, h20, c3, codeC, l57, l69, List.length_map] at hK ⊢; exact hK))
            apply det_last
            intro K' hK'
            simp (config := { maxSteps := 1000000 }) only [go_sem,↓reduceIte,q2, q2g, q2o, q5, q6, q7, hkw, strs, hl0, hg, h20, c3, codeC, l57, l69, List.length_map]
            refine hK' _ ?_
            clear hK' K'
            simp (config := { maxSteps := 1000000 }) only [go_sem,↓reduceIte,q2, q2g, q2o, q5, q6, q7, hkw, strs, hl0, hg, h20, c3, codeC, l57, l69, List.length_map, buildA]
            exact ⟨_, frz_read (code := []) (d := 0) (n := k + 1) (e := 4) (.d _), rfl⟩
  · have hkl : ¬ (k : Int) < (ls.length : Int) := by omega
    have hfin : linesA 0 st0 ls = .inl st := by rw [hli, List.drop_eq_nil_of_le (by omega)]; rfl
    have hr2 := fun n e => @hr2 st n e hfin
    have hr3 := fun code => @hr3 st code hfin
    clear hr1 hli hfin hlt
    have hlen := hwf.len
    simp (config := { maxSteps := 1000000 }) only [go_sem,↓reduceIte,q6, q7, hkl, List.length_map]
    refine loop_intro (fun nn s => ∃ (j : Nat) (code : List Nat), nn + j = st.uses.length ∧ usesA st.labs st.code st.uses = usesA st.labs code (st.uses.drop j) ∧ (∀ u ∈ st.uses.drop j, UseOk code u) ∧ code.length = st.code.length ∧
      Made gr { st with code := code } s.gen s.obj ∧ s.f 2 = .one (.ptr 2 g2 0) ∧ s.gen 2 = g2 ∧ s.obj 2 = some [.d .nsl, .d (.int .i64 0)] ∧ s.f 5 = .one (.ptr 20 gr 0) ∧ s.f 12 = iv .i64 j) st.uses.length ?_ ?_
    · refine ⟨0, st.code, by omega, rfl, hwf.uses, rfl, hM, ?_⟩
      simp (config := { maxSteps := 1000000 }) only [go_sem,↓reduceIte,q2, q2g, q2o, q5]
      try trivial
    clear q2 q2g q2o q5 q6 q7 hM
    rintro mm f g ob ⟨j, code, hj, hua, hok, hcn, hM, q2, q2g, q2o, q5, q12⟩
    simp only at hM q2 q2g q2o q5 q12
    have hM0 := hM
    obtain ⟨hg, cc, lc, pc, uc, h20, hc, hl, hu⟩ := hM
    simp only at h20 hc hl hu
    by_cases hlt : j < st.uses.length
    · obtain ⟨u, hu'⟩ := getq hlt
      have hjl : (j : Int) < (st.uses.length : Int) := by omega
      have hj0 : (0 : Int) ≤ (j : Int) := by omega
      have hdr : st.uses.drop j = u :: st.uses.drop (j + 1) := by rw [List.drop_eq_getElem_cons hlt]; congr 1; exact (List.getElem?_eq_some_iff.1 hu').2
      have hune : ¬ st.uses = [] := fun e => by rw [e] at hlt; simp at hlt
      rcases hu with ⟨u1, _⟩ | ⟨u1, rfl, u3⟩
      · exact absurd u1 hune
      have hua3 := useR_at hu'
      have hul3 := flatR_len st.uses
      have hkw : IntKind.i64.wrap ((j : Int) + 1) = ((j + 1 : Nat) : Int) := wrap_succ (by omega)
      rw [hdr] at hua hok
      obtain ⟨k1, k2, k3⟩ := hok u (by simp)
      have hcne : ¬ code = [] := fun e => by rw [e] at k1; simp at k1
      rcases hc with ⟨c1, _⟩ | ⟨c1, ci, hci, rfl, c3⟩
      · exact absurd c1 hcne
      obtain ⟨un, ua, ul⟩ := u
      simp only at k1 k2 k3
      have hul2 : (useR (un, ua, ul)).length = 3 := rfl
      have hjb : 0 + j * 3 + 3 ≤ (st.uses.flatMap useR).length := by omega
      simp (config := { maxSteps := 1000000 }) only [go_sem,↓reduceIte,q2, q5, q12, hg, h20, u3, hjl, hj0, hua3, hul3, hul2, useR, Int.toNat_natCast]
      refine ⟨by omega, ?_⟩
      refine hook_lent rfl (by simp (config := { maxSteps := 1000000 }) only [go_sem,↓reduceIte,q5]; refine place_A (st := { st with code := code }) (hM0.of ?_ ?_) ul (show st.labs.length ≤ 1000000 by omega) <;> (intro i hi; rcases hi with rfl | rfl | rfl | rfl | rfl | rfl <;> rfl)) ?_
      rintro _ rfl
      rw [show placeI st.labs ul = (match Asm.placeOf st.labs ul with | some p => (p : Int) | none => -1) from rfl]
      cases hp : Asm.placeOf st.labs ul with
      | none =>
        rw [hr2 _ _ (hua.trans (usesA_bad (u := (un, ua, ul)) hp))] at hP
        subst hP
        simp (config := { maxSteps := 1000000 }) only [go_sem,↓reduceIte,q2, q5, q12, hg, h20]
        refine draw_det Tt_ok mixed [2] [([], [], [], false), ([13], [0], [], false), ([115], [0], [], false), ([2, 114], [], [0], false), ([116], [], [], false), ([], [], [], false)] 1 (by decide +kernel) rfl (by decide) ?_
        simp (config := { maxSteps := 1000000 }) only [go_sem,↓reduceIte]
        (apply det_pure; · (intro fa ga oa K' hK; simp (config := { maxSteps := 1000000 }) only [go_sem,↓reduceIte,buildA] at hK ⊢; exact hK))
        iterate 2 (apply det_pure; · (intro fa ga oa K' hK; simp (config := { maxSteps := 1000000 }) only [go_sem,↓reduceIte] at hK ⊢; exact hK))
        (apply det_store; (focus simp); (focus (intro fa ga oa K' hK; simp (config := { maxSteps := 1000000 }) only [go_sem,↓reduceIte,q2, q2g, q2o] at hK ⊢; exact hK)))
        iterate 2 (apply det_pure; · (intro fa ga oa K' hK; simp (config := { maxSteps := 1000000 }) only [go_sem,↓reduceIte] at hK ⊢; exact hK))
        apply det_nil
        simp (config := { maxSteps := 1000000 }) only [go_sem,↓reduceIte,q2, q2g]
        exact ⟨_, frz_read (code := []) (d := 0) (n := un) (e := 4) (.d _), rfl⟩
      | some p =>
        obtain ⟨pl, hpm⟩ := placeOf_mem hp
        have hpl := hwf.labs _ hpm
        simp only at hpl
        have hpi : ¬ (p : Int) < 0 := by omega
        have hpw : IntKind.u32.wrap (p : Int) = (p : Int) := by rw [IntKind.wrap_u32]; omega
        have hcget : (code.map fun n => C.d (.int .u32 (n : Nat)))[ua]? = some (.d (.int .u32 (code.getD ua 0 : Nat))) := by
          rw [List.getElem?_map, List.getD_eq_getElem?_getD, List.getElem?_eq_getElem k1]; rfl
        have hadd : IntKind.u32.wrap ((code.getD ua 0 : Int) + (p : Int)) = ((code.getD ua 0 + p : Nat) : Int) := by rw [IntKind.wrap_u32]; omega
        have hua0 : (0 : Int) ≤ (ua : Int) := by omega
        have hual : (ua : Int) < (code.length : Int) := by omega
        have hset : (code.map fun n => C.d (.int .u32 (n : Nat))).set ua (.d (.int .u32 ((code.getD ua 0 + p : Nat) : Int))) = codeC (addAt code ua p) := by
          unfold addAt codeC; rw [List.map_set]
        have hne : addAt code ua p ≠ [] := fun e => by have := addAt_len code ua p; rw [e] at this; simp at this; omega
        have hok' : ∀ v ∈ st.uses.drop (j + 1), UseOk (addAt code ua p) v := by
          intro v hv
          refine (hok v (by simp [hv])).set ?_
          have hnd : ((st.uses.drop j).map (·.2.1)).Nodup := hwf.nd.sublist ((List.drop_sublist _ _).map _)
          rw [hdr, List.map_cons, List.nodup_cons] at hnd
          exact fun e => hnd.1 (List.mem_map.2 ⟨v, hv, e.symm⟩)
        rcases hci with rfl | rfl
        · simp (config := { maxSteps := 1000000 }) only [go_sem,↓reduceIte,q2, q5, q12, hg, h20, hpi]
          refine draw_intro (by decide +kernel) ?_
          simp (config := { maxSteps := 1000000 }) only [go_sem,↓reduceIte,q2, q5, q12, hg, h20, c3, codeC, hua0, hual, hcget, hpw, hadd, setAt, Int.toNat_natCast, Nat.mul_one, Nat.zero_add, List.length_map, hkw]
          refine ⟨by omega, mm - 1, _, by omega, SemVs.refl _, j + 1, addAt code ua p, by omega, hua.trans (usesA_cons (u := (un, ua, ul)) hp), hok', by rw [addAt_len]; exact hcn, ?_⟩
          simp (config := { maxSteps := 1000000 }) only [go_sem,↓reduceIte,q2, q2g, q2o, q5]
          exact ⟨by simp [upd, hg], _, lc, pc, _, h20, .inr ⟨hne, 3172, .inl rfl, by simp [upd, addAt_len], congrArg some hset⟩, hl, .inr ⟨u1, by simp [upd], by simp [upd, u3]⟩⟩
        · simp (config := { maxSteps := 1000000 }) only [go_sem,↓reduceIte,q2, q5, q12, hg, h20, hpi]
          refine draw_intro (by decide +kernel) ?_
          simp (config := { maxSteps := 1000000 }) only [go_sem,↓reduceIte,q2, q5, q12, hg, h20, c3, codeC, hua0, hual, hcget, hpw, hadd, setAt, Int.toNat_natCast, Nat.mul_one, Nat.zero_add, List.length_map, hkw]
          refine ⟨by omega, mm - 1, _, by omega, SemVs.refl _, j + 1, addAt code ua p, by omega, hua.trans (usesA_cons (u := (un, ua, ul)) hp), hok', by rw [addAt_len]; exact hcn, ?_⟩
          simp (config := { maxSteps := 1000000 }) only [go_sem,↓reduceIte,q2, q2g, q2o, q5]
          exact ⟨by simp [upd, hg], _, lc, pc, _, h20, .inr ⟨hne, 3223, .inr rfl, by simp [upd, addAt_len], congrArg some hset⟩, hl, .inr ⟨u1, by simp [upd], by simp [upd, u3]⟩⟩
    · have hjl : ¬ (j : Int) < (st.uses.length : Int) := by omega
      have hfin : usesA st.labs st.code st.uses = .inl code := by rw [hua, List.drop_eq_nil_of_le (by omega)]; rfl
      rw [hr3 _ hfin] at hP
      subst hP
      have hj00 : ¬ (j : Int) < 0 := by omega
      rcases hu with ⟨u1, rfl⟩ | ⟨u1, rfl, u3⟩
      case' inl => have u3 := u1
      all_goals
        rcases hc with ⟨c1, rfl⟩ | ⟨c1, ci, rfl | rfl, rfl, c3⟩
        · subst c1
          simp (config := { maxSteps := 1000000 }) only [go_sem,↓reduceIte,q2, q2g, q2o, q5, q12, hg, h20, hjl, hj00, u3, List.length_nil]
          exact ⟨_, frz_read (code := []) (n := 0) (e := 0) (.d _), rfl⟩
        all_goals
          simp (config := { maxSteps := 1000000 }) only [go_sem,↓reduceIte,q2, q2g, q2o, q5, q12, hg, h20, hjl, hj00, u3, c3, List.length_nil]
          exact ⟨_, frz_read (n := 0) (e := 0) (frz_code (by simp [upd]) (by simp [upd, c3, codeC]) rfl), rfl⟩

end Go.Proofs.YtifciocionlciaaGreatDoor

namespace Go.Proofs.YtifciocionlciaaGreatDoor
open Go Go.Am Go.Asm

theorem addW_data {st st' : Sta} {w : Nat} (h : addW st w = .ok st') : st'.data = st.data := by
  unfold addW at h; split at h <;> cases h; rfl
theorem dataA_op {n : Nat} {st st' : Sta} {op : Str} {args : List Str} (hd : st.data ≤ 32768) (h : Asm.opA n st op args = .ok st') : st'.data ≤ 32768 := by
  unfold Asm.opA at h
  have hD : ∀ b, dirA st b args = .ok st' → st'.data ≤ 32768 := by
    intro b h
    unfold dirA at h
    repeat' split at h
    all_goals first | (cases h; done) | (rw [addW_data h]; exact hd) | (cases h; exact Nat.le_of_not_lt (by assumption))
  split at h
  · cases h; exact hd
  · split at h
    · exact hD _ h
    · split at h
      · exact hD _ h
      · split at h
        · cases h
        · unfold insA at h
          repeat' split at h
          all_goals first | (cases h; done) | (rw [addW_data h]; exact hd)
theorem stepA_data {n : Nat} {st st' : Sta} {s : Str} (hd : st.data ≤ 32768) (h : stepA n st s = .ok st') : st'.data ≤ 32768 := by
  unfold stepA at h
  repeat' split at h
  · cases h
  · exact dataA_op hd h
  · cases h
  · exact dataA_op (by exact hd) h
theorem linesA_data : ∀ {ls : List Str} {n : Nat} {st st' : Sta}, st.data ≤ 32768 → WF st → linesA n st ls = .inl st' → st'.data ≤ 32768 ∧ st'.code.length ≤ 16384
  | [], n, st, st', hd, hw, h => by unfold linesA at h; cases h; exact ⟨hd, hw.len⟩
  | s :: ls, n, st, st', hd, hw, h => by
    cases hs : stepA (n + 1) st s with
    | ok st1 => rw [linesA_ok hs] at h; exact linesA_data (stepA_data hd hs) (hw.stepA (fun _ _ => operand_reg) hs) h
    | err e => rw [linesA_bad hs] at h; cases h
theorem usesA_len {labs : List (Str × Nat)} : ∀ {us : List (Nat × Nat × Str)} {code c' : List Nat}, usesA labs code us = .inl c' → c'.length = code.length
  | [], code, c', h => by unfold usesA at h; cases h; rfl
  | u :: us, code, c', h => by
    cases hp : Asm.placeOf labs u.2.2 with
    | none => rw [usesA_bad hp] at h; cases h
    | some p => rw [usesA_cons hp] at h; rw [usesA_len h, addAt_len]
theorem readA_right (t : Str) : (readA t).1.1.length ≤ 16384 ∧ (readA t).1.2 ≤ 32768 := by
  by_cases hs : 20000 < t.length
  · unfold readA; rw [if_pos hs]; exact ⟨by decide, by decide⟩
  cases hl : linesA 0 st0 (splitC 10 t) with
  | inr x => obtain ⟨n, e⟩ := x; rw [readA_bad hs hl]; exact ⟨by show 0 ≤ _; omega, by show 0 ≤ _; omega⟩
  | inl st =>
    obtain ⟨h1, h2⟩ := linesA_data (by decide) WF.zero hl
    cases hu : usesA st.labs st.code st.uses with
    | inr x => obtain ⟨n, e⟩ := x; rw [readA_use hs hl hu]; exact ⟨by show 0 ≤ _; omega, by show 0 ≤ _; omega⟩
    | inl c => rw [readA_good hs hl hu]; exact ⟨by show c.length ≤ _; rw [usesA_len hu]; exact h2, h1⟩

set_option maxHeartbeats 8000000 in
theorem AsmReads_G {o : Hold} (ho : SmallO o) (t : Str) : PureG Tryz.prog 3 o 3 [sv t] (· = bv true) := by
  refine pure_of_wpG2 0 3 o Tt_ok mixed Tryz.func3 rfl (by rfl) [.tmp 2] rfl (by kernel_rfl) (by kernel_rfl) (by simp [Tryz.ntmps3]) fun b₀ β0 s0 w0 g => ?_
  by_cases h1 : 2000 < t.length
  · have h1i : (2000 : Int) < (t.length : Int) := by omega
    simp (config := { maxSteps := 1000000 }) only [go_sem,↓reduceIte,h1i]
    refine hook_callG kept_phiG (fun s β ds w h => h.1.2) rfl (by simp (config := { maxSteps := 1000000 }) only [go_sem,↓reduceIte]; exact awake_G ho) (by simp (config := { maxSteps := 1000000 }) only [go_sem,↓reduceIte]; rfl) ?_
    rintro _ rfl
    simp (config := { maxSteps := 1000000 }) only [go_sem,↓reduceIte]
  have h1i : ¬ (2000 : Int) < (t.length : Int) := by omega
  simp (config := { maxSteps := 1000000 }) only [go_sem,↓reduceIte,h1i]
  refine hook_callG kept_phiG (fun s β ds w h => h.1.2) rfl (by simp (config := { maxSteps := 1000000 }) only [go_sem,↓reduceIte]; exact Read_G ho t) (by simp (config := { maxSteps := 1000000 }) only [go_sem,↓reduceIte]; rfl) ?_
  rintro _ rfl
  obtain ⟨hc, hd⟩ := readA_right t
  obtain ⟨r, hr⟩ : ∃ r, readA t = r := ⟨_, rfl⟩
  rw [hr] at hc hd ⊢
  obtain ⟨⟨c, d⟩, n, e⟩ := r
  simp only at hc hd
  rw [show readV ((c, d), n, e) = .tup [.agg [.d (codeD c), .d (.int .i64 (d : Nat))], iv .i64 (n : Nat), iv .i64 (e : Nat)] from rfl]
  simp (config := { maxSteps := 1000000 }) only [go_sem,↓reduceIte,buildA]
  refine hook_callF kept_phiG rfl (by simp (config := { maxSteps := 1000000 }) only [go_sem,↓reduceIte]; exact RefRead_A t (by omega)) (by simp (config := { maxSteps := 1000000 }) only [go_sem,↓reduceIte]; rfl) ?_
  rintro _ rfl
  rw [hr, show readV ((c, d), n, e) = .tup [.agg [.d (codeD c), .d (.int .i64 (d : Nat))], iv .i64 (n : Nat), iv .i64 (e : Nat)] from rfl]
  simp (config := { maxSteps := 1000000 }) only [go_sem,↓reduceIte,buildA]
  refine hook_callG kept_phiG (fun s β ds w h => h.1.2) rfl (by simp (config := { maxSteps := 1000000 }) only [go_sem,↓reduceIte]; exact awake_G ho) (by simp (config := { maxSteps := 1000000 }) only [go_sem,↓reduceIte]; rfl) ?_
  rintro _ rfl
  simp (config := { maxSteps := 1000000 }) only [go_sem,↓reduceIte]
  refine hook_callF kept_phiG rfl (by simp (config := { maxSteps := 1000000 }) only [go_sem,↓reduceIte]; exact Same_A (c, d) (c, d) (by show c.length ≤ _; omega)) (by simp (config := { maxSteps := 1000000 }) only [go_sem,↓reduceIte]; rfl) ?_
  rintro _ rfl
  rw [decide_eq_true (rfl : ((c, d) : List Nat × Nat) = (c, d))]
  by_cases he : (e : Int) = 0
  · simp (config := { maxSteps := 1000000 }) only [go_sem,↓reduceIte,he]
    refine hook_callF kept_phiG rfl (by simp (config := { maxSteps := 1000000 }) only [go_sem,↓reduceIte]; exact Right8_A (c, d)) (by simp (config := { maxSteps := 1000000 }) only [go_sem,↓reduceIte]; rfl) ?_
    rintro _ rfl
    rw [decide_eq_true (show ((c, d) : List Nat × Nat).1.length ≤ 16384 ∧ ((c, d) : List Nat × Nat).2 ≤ 32768 from ⟨hc, hd⟩)]
    simp (config := { maxSteps := 1000000 }) only [go_sem,↓reduceIte,he]
  · simp (config := { maxSteps := 1000000 }) only [go_sem,↓reduceIte,he]

end Go.Proofs.YtifciocionlciaaGreatDoor

namespace Go.Am
open Go.ChangeShapes Go.WideShapes Go.ChangeAt Go.RowKit
variable {H : Type} {enc : TypeId × Value → H}

theorem returns_of_law_laidX {C : Checked} {os : Os} {f : FuncId} {fn : Func} {s : ChangeSpec} {conds : List PathCond} {laid : List (String × DataW Unit)} (own : ownKnob C.prog.godebug = none) (started : os.Started) (noInit : C.prog.inits.idxOf? f = none) (hfn : C.prog.funcs[f]? = some fn)
    (witness : ∃ (w : World) (tape : Tape) (i : Input), w.os = os ∧ (w.forCall tape i).Shaped C.prog ∧ i.vars = [] ∧ Input.okWide C.prog (w.forCall tape i) .any w.heap.size f i ∧
      ((s.pre enc C.prog fn conds false (w.forCall tape i).memory i.args ∧ laidMetH C.prog laid (w.forCall tape i).memory) ∧ sizedMet enc C.prog fn (OpenSpec.ofChange s) false (w.forCall tape i).memory i.args) ∧ Assume.holds {} C.prog (lone (Frame.enter C.prog f i.args .normal) [] (w.forCall tape i)))
    (hvars : s.vars = []) (hl : laidOutB C.prog = true) (hts : fn.params.toList.all (fun t => C.prog.readableRec t && decide (t < C.prog.types.size)) = true) {tb : TypeId} (hres : fn.resultTypes = #[tb]) (htb : C.prog.underlying tb = some .bool)
    (hspec : ∀ ds : List (DataW H), ds.length = fn.params.toList.length → s.fn H ds = { results := [.lit (.bool true)], args := ds })
    (hcall : ∀ (W : World) (base : Nat) (args : Array Value) (ds : List (DataW H)) (ps : List MemPlace), laidMetH C.prog laid W → (∀ (j : Nat) t v, fn.params[j]? = some t → args[j]? = some v → Value.okWide C.prog W .any base t v) → DataW.TrodAll enc C.prog W 0 (fun _ => true) true fn.params.toList args.toList ds ps → (DataW.weightsEach C.prog fn.params.toList ds).all (· ≤ reachBytes) = true → SaysTrue C.prog f args W) :
    ReturnsInHanded {} C os f .any (fun w args => (s.pre enc C.prog fn conds false w args ∧ laidMetH C.prog laid w) ∧ sizedMet enc C.prog fn (OpenSpec.ofChange s) false w args) (s.post enc C.prog fn false true false false) := by
  refine returnsInHanded_of_change_and (X := fun w _ => laidMetH C.prog laid w) (fun _ _ _ hh h => h.of_heap hh) own started noInit hfn witness ?_
  intro W base args ds gs before hval hW hcnd hsz hX _
  have hW' := hW
  obtain ⟨p, q, hA, hV, rfl, hfz, hnd⟩ := hW
  rw [hvars] at hV
  obtain ⟨rfl, rfl⟩ := trodVars_none hV
  have hvt : s.plain.varTypes C.prog = [] := by simp [ChangeSpec.plain, DataSpec.varTypes, hvars]
  rw [hvt, List.append_nil, List.append_nil] at hsz
  refine (hcall W base args ds p hX hval hA hsz).mono fun e W' ⟨he, hs, hb, ho⟩ => ⟨_, he, ?_⟩
  have hlt : ∀ x ∈ p, x.block < W.heap.size := fun x hx => hW'.lt x (by simp [hx])
  have hsp : s.fn H (ds ++ []) = { results := [.lit (.bool true)], args := ds } := by rw [List.append_nil]; exact hspec ds (trodAll_len _ _ _ _ hA)
  refine ⟨ds, [], p ++ [], [], p, [], hW', ?_, ?_, ?_, kept_of hb ho _, fun h => by cases h⟩
  · rw [hsp, hres]
    exact trodAll_mk1 ⟨1, by simp [DataW.trod, htb, Value.cells]⟩
  · rw [hsp]
    exact trodAll_stays hl hb _ _ _ _ hts hlt hA
  · rw [hsp, hvars]
    exact rfl

theorem says_of_pureG {P : Program} {w : World} {gb : Nat} {o : Hold} (hG : Held gb o w) {f : FuncId} {args : List AV} (h : PureG P gb o f args (· = bv true)) {vs : List Value} (hv : RVs (fun b => b < w.heap.size) w args vs) : SaysTrue P f vs.toArray w := by
  refine (h.2 _ w vs hG (fun _ h => h) hv).mono fun e w' ⟨v, r, h1, h2, h3, h4, h5, h6⟩ => ⟨?_, h3, h4, h5⟩
  subst h2
  simp only [RV] at h6
  obtain ⟨x, hx, hr⟩ := h6
  cases hx
  cases hr
  exact h1

end Go.Am

namespace Go.Proofs.YtifciocionlciaaGreatDoor
open Go Go.Am Go.ChangeShapes Go.WideShapes Go.ChangeAt Go.RowKit Go.Lib
set_option maxRecDepth 100000

theorem own : ownKnob Tryz.prog.godebug = none := by kernel_rfl
theorem laidOut : laidOutB Tryz.prog = true := by kernel_rfl
def laidV : List (String × DataW Unit) := [("unicode/utf8.acceptRanges", Rows.laid_unicode_utf8_acceptRanges), ("seedcorn/hex.small", Rows.laid_seedcorn_hex_small), ("unicode/utf8.first", Rows.laid_unicode_utf8_first)]

theorem reach_eq : reachBytes = 140737488351232 := by kernel_rfl
theorem u9 : Tryz.prog.underlying 9 = some .string := by kernel_rfl
theorem u5 : Tryz.prog.underlying 5 = some (.int .u8) := by kernel_rfl
theorem u4 : Tryz.prog.underlying 4 = some .bool := by kernel_rfl

theorem hasT_str {n : Nat} {x : D} (h : HasT Tryz.prog (n + 1) 9 [x]) : ∃ s, x = .str s ∧ s.length ≤ 140737488351232 := by
  unfold HasT at h
  rw [u9] at h
  obtain ⟨s, h1, h2⟩ := h
  simp only [List.cons.injEq, and_true] at h1
  rw [reach_eq] at h2
  exact ⟨s, h1, h2⟩
theorem small_held {W : World} (h : laidMetH Tryz.prog laidV W) : ∃ o, Held 3 o W ∧ SmallO o := by
  rw [MakeChecks.laidMetH_plain _ _ _ (by kernel_rfl)] at h
  obtain ⟨g, t, cs, fuel, p, hg, hty, hvar, hd⟩ := laidMet.reads h (n := "seedcorn/hex.small") (d := Rows.laid_seedcorn_hex_small) (by simp [laidV])
  obtain rfl := Option.some.inj ((show Tryz.prog.globalNamed "seedcorn/hex.small" = some 3 by kernel_rfl).symm.trans hg)
  obtain rfl := Option.some.inj ((show (Tryz.prog.globals[3]?).map (·.type) = some 137 by kernel_rfl).symm.trans hty)
  have hcs := cells_of_tab (H := Unit) (k := .u8) (zs := (List.range 16).map hexs) (show Tryz.prog.underlying 137 = some (.array 16 5) by kernel_rfl) u5 (by kernel_rfl) (by kernel_rfl) hd
  have hcell : ∀ i : Nat, i < 16 → W.cell? ⟨3, i, none⟩ = some (.int .u8 (hexs i)) := fun i hi => by
    have := World.var?_cell hg hvar i
    rw [this, ← Array.getElem?_toList, hcs]
    simp [hi]
  have h0 := hcell 0 (by decide)
  have hlt : 3 < W.heap.size := by
    refine Nat.lt_of_not_le fun hle => ?_
    simp [World.cell?, Array.getElem?_eq_none hle] at h0
  refine ⟨fun b => W.heap[b]?, ⟨hlt, fun _ _ => rfl⟩, fun w hw i hi => ?_⟩
  rw [← hcell i hi]
  unfold World.cell?
  rw [show w.heap[3]? = W.heap[3]? from hw.2 3 (Nat.le_refl _)]

end Go.Proofs.YtifciocionlciaaGreatDoor
