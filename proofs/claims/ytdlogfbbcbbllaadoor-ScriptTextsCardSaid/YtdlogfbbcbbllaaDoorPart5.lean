/- A part of the proof; no conditions. -/
import Derived.Test.YtdlogfbbcbbllaaDoorPart4
import Derived.Handed
import Derived.Lay
import Derived.LaidMore
import Derived.SevenTiedAt
import Derived.Stop.Joined
import Derived.Test.YtdlogfbbcbbllaaDoorTie
import Derived.Test.YtdlogfbbcbbllaaDoorCards
set_option linter.unusedSimpArgs false
set_option linter.unusedVariables false
namespace Go.Proofs.YtdlogfbbcbbllaaDoor
open Go Go.Am

def quoT (w : List UInt8) : List UInt8 := 34 :: w.flatMap esc ++ [34]
def quotedT (ws : List (List UInt8)) : List UInt8 := ws.flatMap fun w => 32 :: quoT w

theorem quotedT_take {l : List (List UInt8)} {k : Nat} {w : List UInt8} (h : l[k]? = some w) : quotedT (l.take (k + 1)) = quotedT (l.take k) ++ 32 :: quoT w := by
  unfold quotedT; rw [List.take_add_one, h]; simp [List.flatMap_append]
theorem quoT_len (w : List UInt8) : (quoT w).length = (w.flatMap esc).length + 2 := by simp [quoT]
theorem overS_quoted (ws : List (List UInt8)) : overS (quotedT ws) = true := by
  cases ws with
  | nil => rfl
  | cons w ws => simp [quotedT, overS]
theorem parts_quoted : ∀ ws : List (List UInt8), partsS (quotedT ws) = ws.map fun w => (w, false, false)
  | [] => rfl
  | w :: ws => by
    have h := parts_word (q := quoT w) (w := w) (b := false) (u := quotedT ws) (fun u _ => cut_quoted w u) (by simp [quoT]) (by simp [quoT]) (by simp [quoT]) 1 (overS_quoted ws)
    rw [show quotedT (w :: ws) = List.replicate 1 32 ++ (quoT w ++ quotedT ws) from by simp [quotedT], h, parts_quoted ws]
    rfl
theorem quotedT_lf (ws : List (List UInt8)) : 10 ∉ quotedT ws := by
  intro h
  obtain ⟨w, _, hw⟩ := List.mem_flatMap.1 h
  simp only [quoT, List.mem_cons, List.mem_append, List.not_mem_nil, or_false] at hw
  rcases hw with hw | (hw | hw) | hw
  · revert hw; decide
  · revert hw; decide
  · exact escs_lf w hw
  · revert hw; decide
theorem wordsT_quoted (ws : List (List UInt8)) : (wordsT ws).length ≤ (quotedT ws).length := by
  induction ws with
  | nil => exact Nat.le_refl _
  | cons w ws ih =>
    unfold wordsT quotedT at *
    simp only [List.flatMap_cons, List.length_append, List.length_cons, quoT_len]
    have : (wordT w).length ≤ (w.flatMap esc).length + 2 := by
      unfold wordT; split
      · have := escs_ge w; omega
      · simp
    omega
theorem verb_lf {v : List UInt8} (h : verbOk v = true) : 10 ∉ v := by
  have hb := verb_bare h
  simp only [bareW, Bool.and_eq_true] at hb
  intro hm
  exact (bareC_ne (List.all_eq_true.1 hb.1 10 hm)).2.2.2 rfl

/-- A verb, and behind it what is read as its words. -/
theorem read_words {v : List UInt8} {ws : List (List UInt8)} {u : List UInt8} {qs : List Part} (hv : verbOk v = true) (hu : overS u = true) (hp : partsS u = qs) (hq : qs.map (·.1) = ws) (hg : ∀ q ∈ qs, q.2.2 = false) (hlf : 10 ∉ u) (hn : ws.length ≤ 100) (hw : (wordsT ws).length ≤ u.length) (hl : (v ++ u).length ≤ 20000) :
    readB (v ++ u) = ([(v, ws)], 0, 0) := by
  have hb := verb_bare hv
  obtain ⟨h1, h2, h3⟩ := bare_head hb
  have hpw := parts_word (q := v) (w := v) (b := true) (u := u) (fun u hu => cut_bare hb hu) h1 h2 h3 0 hu
  rw [List.replicate_zero, List.nil_append, hp] at hpw
  have hr : rightL (v, ws) = true := by
    simp only [rightL, hv, Bool.true_and, Bool.and_eq_true, decide_eq_true_eq, lineT, List.length_append] at hl ⊢
    exact ⟨hn, by omega⟩
  have hline : lineP (v ++ u) = ((v, ws), true, 0) := by
    rw [lineP_S, if_neg (by omega), hpw]
    exact partsR_ok (l := (v, ws)) hr hq hg
  have hsp : splitB (v ++ u) = [v ++ u] := splitB_none (by simp only [List.mem_append, not_or]; exact ⟨verb_lf hv, hlf⟩)
  have hok : okL (v ++ u) = true := by simp [okL, hline]
  rw [readB_ok (by rw [hsp]; simp [hok]), hsp]
  simp [linesOf, hline]

theorem esc1 {c : UInt8} (h : (c.toNat : Int) = 34 ∨ (c.toNat : Int) = 92) : esc c = [92, c] := by
  rcases h with h | h
  · simp [esc, u8_eq (d := 34) h]
  · simp [esc, u8_eq (d := 92) h]
theorem esc2 {c : UInt8} (h : (c.toNat : Int) = 10) : esc c = [92, 110] := by simp [esc, u8_eq (d := 10) h]
theorem esc3 {c : UInt8} (h1 : ¬ (c.toNat : Int) = 34) (h2 : ¬ (c.toNat : Int) = 92) (h3 : ¬ (c.toNat : Int) = 10) : esc c = [c] := by
  have n1 : c ≠ 34 := fun e => h1 (by rw [e]; rfl)
  have n2 : c ≠ 92 := fun e => h2 (by rw [e]; rfl)
  have n3 : c ≠ 10 := fun e => h3 (by rw [e]; rfl)
  simp [esc, n1, n2, n3]

theorem u8s_one (c : UInt8) : u8s [.d (.int .u8 c.toNat)] = some [(c.toNat : Int)] := rfl
theorem back_one (c : UInt8) : ([(c.toNat : Int)].map fun n => UInt8.ofNat n.toNat) = [c] := by simp

set_option maxHeartbeats 8000000 in
theorem ScriptWords_A (v : List UInt8) (ws : List (List UInt8)) (hvl : v.length ≤ 1000000000000000) (hwl : ws.length ≤ 1000000000000000) (hww : ∀ w ∈ ws, w.length ≤ 1000000000000000) : PureR Tryd.prog 5 [sv v, .one (.d (strs ws))] (· = bv true) := by
  refine pure_of_wp Tt_ok mixed Tryd.func5 rfl (by rfl) [4] rfl (by kernel_rfl) (by simp [Tryd.ntmps5]) fun g => ?_
  simp (config := { maxSteps := 1000000 }) only [go_sem, ↓reduceIte, Nat.reduceEqDiff, Nat.reduceAdd, Nat.reduceMul, Nat.reduceSub, Nat.reduceLT, Nat.reduceLeDiff, Int.reduceLT, Int.reduceLE, Int.reduceEq, Int.reduceNe, Int.reduceAdd, Int.reduceNeg, Int.reduceToNat]
  refine hook_call rfl (by simp (config := { maxSteps := 1000000 }) only [go_sem, ↓reduceIte, Nat.reduceEqDiff, Nat.reduceAdd, Nat.reduceMul, Nat.reduceSub, Nat.reduceLT, Nat.reduceLeDiff, Int.reduceLT, Int.reduceLE, Int.reduceEq, Int.reduceNe, Int.reduceAdd, Int.reduceNeg, Int.reduceToNat]; exact alive_A) (by simp (config := { maxSteps := 1000000 }) only [go_sem, ↓reduceIte, Nat.reduceEqDiff, Nat.reduceAdd, Nat.reduceMul, Nat.reduceSub, Nat.reduceLT, Nat.reduceLeDiff, Int.reduceLT, Int.reduceLE, Int.reduceEq, Int.reduceNe, Int.reduceAdd, Int.reduceNeg, Int.reduceToNat]; rfl) ?_
  rintro _ rfl
  simp (config := { maxSteps := 1000000 }) only [go_sem, ↓reduceIte, Nat.reduceEqDiff, Nat.reduceAdd, Nat.reduceMul, Nat.reduceSub, Nat.reduceLT, Nat.reduceLeDiff, Int.reduceLT, Int.reduceLE, Int.reduceEq, Int.reduceNe, Int.reduceAdd, Int.reduceNeg, Int.reduceToNat]
  refine hook_call rfl (by simp (config := { maxSteps := 1000000 }) only [go_sem, ↓reduceIte, Nat.reduceEqDiff, Nat.reduceAdd, Nat.reduceMul, Nat.reduceSub, Nat.reduceLT, Nat.reduceLeDiff, Int.reduceLT, Int.reduceLE, Int.reduceEq, Int.reduceNe, Int.reduceAdd, Int.reduceNeg, Int.reduceToNat]; exact Verb_A v (by omega)) (by simp (config := { maxSteps := 1000000 }) only [go_sem, ↓reduceIte, Nat.reduceEqDiff, Nat.reduceAdd, Nat.reduceMul, Nat.reduceSub, Nat.reduceLT, Nat.reduceLeDiff, Int.reduceLT, Int.reduceLE, Int.reduceEq, Int.reduceNe, Int.reduceAdd, Int.reduceNeg, Int.reduceToNat]; rfl) ?_
  rintro _ rfl
  cases hv : verbOk v
  · simp (config := { maxSteps := 1000000 }) only [go_sem, ↓reduceIte, Nat.reduceEqDiff, Nat.reduceAdd, Nat.reduceMul, Nat.reduceSub, Nat.reduceLT, Nat.reduceLeDiff, Int.reduceLT, Int.reduceLE, Int.reduceEq, Int.reduceNe, Int.reduceAdd, Int.reduceNeg, Int.reduceToNat]
  simp (config := { maxSteps := 1000000 }) only [go_sem, ↓reduceIte, Nat.reduceEqDiff, Nat.reduceAdd, Nat.reduceMul, Nat.reduceSub, Nat.reduceLT, Nat.reduceLeDiff, Int.reduceLT, Int.reduceLE, Int.reduceEq, Int.reduceNe, Int.reduceAdd, Int.reduceNeg, Int.reduceToNat, strs]
  intro h100
  have hv20 : v.length ≤ 20 := by simp only [verbOk, Bool.and_eq_true, decide_eq_true_eq] at hv; exact hv.1.2
  refine loop_intro (fun n st => ∃ k : Nat, n + k = ws.length ∧ st.f 0 = sv v ∧ st.f 1 = .one (.d (.sl (ws.map fun w => [.str w]))) ∧ st.f 6 = iv .i64 k ∧ st.f 5 = sv (v ++ quotedT (ws.take k)) ∧ (quotedT (ws.take k)).length ≤ 303 * k) ws.length ?_ ?_
  · refine ⟨0, by omega, ?_⟩
    simp (config := { maxSteps := 1000000 }) only [go_sem, ↓reduceIte, Nat.reduceEqDiff, Nat.reduceAdd, Nat.reduceMul, Nat.reduceSub, Nat.reduceLT, Nat.reduceLeDiff, Int.reduceLT, Int.reduceLE, Int.reduceEq, Int.reduceNe, Int.reduceAdd, Int.reduceNeg, Int.reduceToNat]
    simp [quotedT]
  rintro n f g ob ⟨k, hk, h0, h1, h6, h5, hql⟩
  simp only at h0 h1 h6 h5
  have hw := wrap_succ (k := k) (by omega)
  by_cases hlt : k < ws.length
  · obtain ⟨w, hwk⟩ := getq hlt
    have hgw := strs_get hwk
    simp (config := { maxSteps := 1000000 }) only [go_sem, ↓reduceIte, Nat.reduceEqDiff, Nat.reduceAdd, Nat.reduceMul, Nat.reduceSub, Nat.reduceLT, Nat.reduceLeDiff, Int.reduceLT, Int.reduceLE, Int.reduceEq, Int.reduceNe, Int.reduceAdd, Int.reduceNeg, Int.reduceToNat, h0, h1, h6, h5, hlt, hgw]
    intro h150
    refine ⟨by simp only [List.length_append, List.length_cons, List.length_nil]; omega, ?_⟩
    refine loop_intro (fun m st => ∃ j : Nat, m + j = w.length ∧ st.f 0 = sv v ∧ st.f 1 = .one (.d (.sl (ws.map fun w => [.str w]))) ∧ st.f 6 = iv .i64 k ∧ st.f 7 = iv .i64 j ∧ st.f 5 = sv (v ++ quotedT (ws.take k) ++ [32, 34] ++ (w.take j).flatMap esc)) w.length ?_ ?_
    · refine ⟨0, by omega, ?_⟩
      simp (config := { maxSteps := 1000000 }) only [go_sem, ↓reduceIte, Nat.reduceEqDiff, Nat.reduceAdd, Nat.reduceMul, Nat.reduceSub, Nat.reduceLT, Nat.reduceLeDiff, Int.reduceLT, Int.reduceLE, Int.reduceEq, Int.reduceNe, Int.reduceAdd, Int.reduceNeg, Int.reduceToNat, h0, h1, h6]
      simp
    · clear h0 h1 h6 h5
      rintro m f g ob ⟨j, hj, h0, h1, h6, h7, h5⟩
      simp only at h0 h1 h6 h7 h5
      have hw2 := wrap_succ (k := j) (by omega)
      have hel := escs_le (w.take j)
      have htl : (w.take j).length ≤ 150 := by simp only [List.length_take]; omega
      by_cases hlt2 : j < w.length
      · obtain ⟨c, hc⟩ := getq hlt2
        have htf := take_flat hc
        simp (config := { maxSteps := 1000000 }) only [go_sem, ↓reduceIte, Nat.reduceEqDiff, Nat.reduceAdd, Nat.reduceMul, Nat.reduceSub, Nat.reduceLT, Nat.reduceLeDiff, Int.reduceLT, Int.reduceLE, Int.reduceEq, Int.reduceNe, Int.reduceAdd, Int.reduceNeg, Int.reduceToNat, h0, h1, h6, h7, h5, hgw, hlt2, hc]
        have fin : ∀ e : List UInt8, esc c = e → v ++ quotedT (ws.take k) ++ [32, 34] ++ (w.take j).flatMap esc ++ e = v ++ quotedT (ws.take k) ++ [32, 34] ++ (w.take (j + 1)).flatMap esc := fun e he => by rw [htf, he]; simp
        have hbd : ∀ e : List UInt8, e.length ≤ 10 → (((v ++ quotedT (ws.take k) ++ [32, 34] ++ (w.take j).flatMap esc ++ e).length : Nat) : Int) ≤ 9223372036854775000 := fun e he => by
          simp only [List.length_append, List.length_cons, List.length_nil]; omega
        have hbd0 := hbd [] (by simp)
        have hbd1 := hbd [92] (by simp)
        rw [List.append_nil] at hbd0
        refine ⟨fun c1 => ⟨fun _ => ?_, fun h => absurd c1 h⟩, fun c1 => ⟨fun c2 => ?_, fun c2 => ⟨fun c3 => ?_, fun c3 => ?_⟩⟩⟩
        · refine ⟨by omega, by omega, ?_⟩
          simp (config := { maxSteps := 1000000 }) only [go_sem, ↓reduceIte, Nat.reduceEqDiff, Nat.reduceAdd, Nat.reduceMul, Nat.reduceSub, Nat.reduceLT, Nat.reduceLeDiff, Int.reduceLT, Int.reduceLE, Int.reduceEq, Int.reduceNe, Int.reduceAdd, Int.reduceNeg, Int.reduceToNat, h7, hw2]
          refine round_end (m - 1) (by omega) ⟨j + 1, by omega, ?_⟩
          simp (config := { maxSteps := 1000000 }) only [go_sem, ↓reduceIte, Nat.reduceEqDiff, Nat.reduceAdd, Nat.reduceMul, Nat.reduceSub, Nat.reduceLT, Nat.reduceLeDiff, Int.reduceLT, Int.reduceLE, Int.reduceEq, Int.reduceNe, Int.reduceAdd, Int.reduceNeg, Int.reduceToNat, h0, h1, h6]
          rw [← fin [92, c] (esc1 (.inl c1))]; simp
        · refine ⟨by omega, by omega, ?_⟩
          simp (config := { maxSteps := 1000000 }) only [go_sem, ↓reduceIte, Nat.reduceEqDiff, Nat.reduceAdd, Nat.reduceMul, Nat.reduceSub, Nat.reduceLT, Nat.reduceLeDiff, Int.reduceLT, Int.reduceLE, Int.reduceEq, Int.reduceNe, Int.reduceAdd, Int.reduceNeg, Int.reduceToNat, h7, hw2]
          refine round_end (m - 1) (by omega) ⟨j + 1, by omega, ?_⟩
          simp (config := { maxSteps := 1000000 }) only [go_sem, ↓reduceIte, Nat.reduceEqDiff, Nat.reduceAdd, Nat.reduceMul, Nat.reduceSub, Nat.reduceLT, Nat.reduceLeDiff, Int.reduceLT, Int.reduceLE, Int.reduceEq, Int.reduceNe, Int.reduceAdd, Int.reduceNeg, Int.reduceToNat, h0, h1, h6]
          rw [← fin [92, c] (esc1 (.inr c2))]; simp
        · refine ⟨by omega, ?_⟩
          simp (config := { maxSteps := 1000000 }) only [go_sem, ↓reduceIte, Nat.reduceEqDiff, Nat.reduceAdd, Nat.reduceMul, Nat.reduceSub, Nat.reduceLT, Nat.reduceLeDiff, Int.reduceLT, Int.reduceLE, Int.reduceEq, Int.reduceNe, Int.reduceAdd, Int.reduceNeg, Int.reduceToNat, h7, hw2]
          refine round_end (m - 1) (by omega) ⟨j + 1, by omega, ?_⟩
          simp (config := { maxSteps := 1000000 }) only [go_sem, ↓reduceIte, Nat.reduceEqDiff, Nat.reduceAdd, Nat.reduceMul, Nat.reduceSub, Nat.reduceLT, Nat.reduceLeDiff, Int.reduceLT, Int.reduceLE, Int.reduceEq, Int.reduceNe, Int.reduceAdd, Int.reduceNeg, Int.reduceToNat, h0, h1, h6]
          rw [← fin [92, 110] (esc2 c3)]
        · refine ⟨by omega, ?_⟩
          simp (config := { maxSteps := 1000000 }) only [go_sem, ↓reduceIte, Nat.reduceEqDiff, Nat.reduceAdd, Nat.reduceMul, Nat.reduceSub, Nat.reduceLT, Nat.reduceLeDiff, Int.reduceLT, Int.reduceLE, Int.reduceEq, Int.reduceNe, Int.reduceAdd, Int.reduceNeg, Int.reduceToNat, h7, hw2]
          refine round_end (m - 1) (by omega) ⟨j + 1, by omega, ?_⟩
          simp (config := { maxSteps := 1000000 }) only [go_sem, ↓reduceIte, Nat.reduceEqDiff, Nat.reduceAdd, Nat.reduceMul, Nat.reduceSub, Nat.reduceLT, Nat.reduceLeDiff, Int.reduceLT, Int.reduceLE, Int.reduceEq, Int.reduceNe, Int.reduceAdd, Int.reduceNeg, Int.reduceToNat, h0, h1, h6]
          rw [← fin [c] (esc3 c1 c2 c3)]; simp
      · have hts : w.take j = w := List.take_of_length_le (by omega)
        rw [hts] at h5 hel
        simp (config := { maxSteps := 1000000 }) only [go_sem, ↓reduceIte, Nat.reduceEqDiff, Nat.reduceAdd, Nat.reduceMul, Nat.reduceSub, Nat.reduceLT, Nat.reduceLeDiff, Int.reduceLT, Int.reduceLE, Int.reduceEq, Int.reduceNe, Int.reduceAdd, Int.reduceNeg, Int.reduceToNat, h0, h1, h6, h7, h5, hgw, hlt2]
        refine ⟨by simp only [List.length_append, List.length_cons, List.length_nil]; omega, ?_⟩
        simp (config := { maxSteps := 1000000 }) only [go_sem, ↓reduceIte, Nat.reduceEqDiff, Nat.reduceAdd, Nat.reduceMul, Nat.reduceSub, Nat.reduceLT, Nat.reduceLeDiff, Int.reduceLT, Int.reduceLE, Int.reduceEq, Int.reduceNe, Int.reduceAdd, Int.reduceNeg, Int.reduceToNat, h6, hw]
        refine round_end (n - 1) (by omega) ⟨k + 1, by omega, ?_⟩
        simp (config := { maxSteps := 1000000 }) only [go_sem, ↓reduceIte, Nat.reduceEqDiff, Nat.reduceAdd, Nat.reduceMul, Nat.reduceSub, Nat.reduceLT, Nat.reduceLeDiff, Int.reduceLT, Int.reduceLE, Int.reduceEq, Int.reduceNe, Int.reduceAdd, Int.reduceNeg, Int.reduceToNat, h0, h1]
        rw [quotedT_take hwk]
        refine ⟨by simp [quoT], ?_⟩
        simp only [List.length_append, List.length_cons, quoT_len]; omega
  · have hts : ws.take k = ws := List.take_of_length_le (by omega)
    rw [hts] at h5 hql
    simp (config := { maxSteps := 1000000 }) only [go_sem, ↓reduceIte, Nat.reduceEqDiff, Nat.reduceAdd, Nat.reduceMul, Nat.reduceSub, Nat.reduceLT, Nat.reduceLeDiff, Int.reduceLT, Int.reduceLE, Int.reduceEq, Int.reduceNe, Int.reduceAdd, Int.reduceNeg, Int.reduceToNat, h0, h1, h6, h5, hlt]
    intro h15
    refine hook_call rfl (by simp (config := { maxSteps := 1000000 }) only [go_sem, ↓reduceIte, Nat.reduceEqDiff, Nat.reduceAdd, Nat.reduceMul, Nat.reduceSub, Nat.reduceLT, Nat.reduceLeDiff, Int.reduceLT, Int.reduceLE, Int.reduceEq, Int.reduceNe, Int.reduceAdd, Int.reduceNeg, Int.reduceToNat]; exact Read_A (v ++ quotedT ws) (by omega)) (by simp (config := { maxSteps := 1000000 }) only [go_sem, ↓reduceIte, Nat.reduceEqDiff, Nat.reduceAdd, Nat.reduceMul, Nat.reduceSub, Nat.reduceLT, Nat.reduceLeDiff, Int.reduceLT, Int.reduceLE, Int.reduceEq, Int.reduceNe, Int.reduceAdd, Int.reduceNeg, Int.reduceToNat]; rfl) ?_
    rintro _ rfl
    rw [read_words hv (overS_quoted ws) (parts_quoted ws) (by rw [List.map_map]; exact List.map_id ws) (fun q hq => by obtain ⟨w, _, rfl⟩ := List.mem_map.1 hq; rfl) (quotedT_lf ws) (by omega) (wordsT_quoted ws) (by omega)]
    simp (config := { maxSteps := 1000000 }) only [go_sem, ↓reduceIte, Nat.reduceEqDiff, Nat.reduceAdd, Nat.reduceMul, Nat.reduceSub, Nat.reduceLT, Nat.reduceLeDiff, Int.reduceLT, Int.reduceLE, Int.reduceEq, Int.reduceNe, Int.reduceAdd, Int.reduceNeg, Int.reduceToNat, readRV, buildA, elemTy, h0, h1]
    refine hook_view rfl (xs := [.one (.d (linesD [(v, ws)])), .one (.d (linesD [(v, ws)]))]) ?_ (Same_A _ _ (by simp) (by simp; omega)) (by rintro _ rfl; rfl) ?_
    · simp (config := { maxSteps := 1000000 }) only [go_sem, ↓reduceIte, Nat.reduceEqDiff, Nat.reduceAdd, Nat.reduceMul, Nat.reduceSub, Nat.reduceLT, Nat.reduceLeDiff, Int.reduceLT, Int.reduceLE, Int.reduceEq, Int.reduceNe, Int.reduceAdd, Int.reduceNeg, Int.reduceToNat]
      exact frzVs_two (.d (.sl _)) (frz_line1 (by simp [upd]) (by simp [upd]; rfl) (.d _))
    · rintro _ rfl
      simp (config := { maxSteps := 1000000 }) only [go_sem, ↓reduceIte, Nat.reduceEqDiff, Nat.reduceAdd, Nat.reduceMul, Nat.reduceSub, Nat.reduceLT, Nat.reduceLeDiff, Int.reduceLT, Int.reduceLE, Int.reduceEq, Int.reduceNe, Int.reduceAdd, Int.reduceNeg, Int.reduceToNat]

end Go.Proofs.YtdlogfbbcbbllaaDoor

namespace Go.Proofs.YtdlogfbbcbbllaaDoor
open Go Go.Am

/-- Words, and blanks ahead of each: (n + i) % 3 + 1 of them. -/
def bareT (n : Nat) : Nat → List (List UInt8) → List UInt8
  | _, [] => []
  | i, w :: ws => List.replicate ((n + i) % 3 + 1) 32 ++ (w ++ bareT n (i + 1) ws)

theorem bareT_take {n : Nat} : ∀ {l : List (List UInt8)} {i k : Nat} {w : List UInt8}, l[k]? = some w → bareT n i (l.take (k + 1)) = bareT n i (l.take k) ++ List.replicate ((n + (i + k)) % 3 + 1) 32 ++ w
  | [], i, k, w, h => by simp at h
  | x :: l, i, 0, w, h => by simp at h; subst h; simp [bareT]
  | x :: l, i, k + 1, w, h => by
    have ih := bareT_take (n := n) (i := i + 1) (show l[k]? = some w by simpa using h)
    rw [List.take_succ_cons, List.take_succ_cons]
    simp only [bareT]
    rw [ih]
    simp [show i + 1 + k = i + (k + 1) from by omega]
theorem overS_bare (n i : Nat) (ws : List (List UInt8)) : overS (bareT n i ws) = true := by
  cases ws with
  | nil => rfl
  | cons w ws => simp [bareT, List.replicate_succ, overS]
theorem parts_bare (n : Nat) : ∀ (i : Nat) (ws : List (List UInt8)), ws.all bareW = true → partsS (bareT n i ws) = ws.map fun w => (w, true, false)
  | _, [], _ => rfl
  | i, w :: ws, h => by
    simp only [List.all_cons, Bool.and_eq_true] at h
    obtain ⟨h1, h2, h3⟩ := bare_head h.1
    have h' := parts_word (q := w) (w := w) (b := true) (u := bareT n (i + 1) ws) (fun u hu => cut_bare h.1 hu) h1 h2 h3 ((n + i) % 3 + 1) (overS_bare n (i + 1) ws)
    rw [bareT, h', parts_bare n (i + 1) ws h.2]
    rfl
theorem bareT_lf (n : Nat) : ∀ (i : Nat) (ws : List (List UInt8)), ws.all bareW = true → 10 ∉ bareT n i ws
  | _, [], _ => by simp [bareT]
  | i, w :: ws, h => by
    simp only [List.all_cons, Bool.and_eq_true] at h
    simp only [bareT, List.mem_append, not_or]
    refine ⟨fun hm => ?_, fun hm => ?_, bareT_lf n (i + 1) ws h.2⟩
    · have := List.eq_of_mem_replicate hm; revert this; decide
    · have hb := h.1; simp only [bareW, Bool.and_eq_true] at hb
      exact (bareC_ne (List.all_eq_true.1 hb.1 10 hm)).2.2.2 rfl
theorem wordsT_bare (n : Nat) : ∀ (i : Nat) (ws : List (List UInt8)), ws.all bareW = true → (wordsT ws).length ≤ (bareT n i ws).length
  | _, [], _ => Nat.le_refl _
  | i, w :: ws, h => by
    simp only [List.all_cons, Bool.and_eq_true] at h
    have ih := wordsT_bare n (i + 1) ws h.2
    have e : wordT w = w := by unfold wordT; rw [if_pos h.1]
    unfold wordsT at ih ⊢
    simp only [bareT, List.flatMap_cons, List.length_append, List.length_cons, List.length_replicate, e]
    omega

theorem bareC_of' {c : UInt8} (h1 : ¬ (c.toNat : Int) < 33) (h2 : ¬ 126 < (c.toNat : Int)) (h3 : ¬ (c.toNat : Int) = 34) (h4 : ¬ (c.toNat : Int) = 35) : bareC c = true := bareC_of.2 (by omega)

set_option maxHeartbeats 8000000 in
theorem ScriptBare_A (v : List UInt8) (ws : List (List UInt8)) (n8 : Nat) (hvl : v.length ≤ 1000000000000000) (hwl : ws.length ≤ 1000000000000000) (hww : ∀ w ∈ ws, w.length ≤ 1000000000000000) (hn8 : n8 < 256) : PureR Tryd.prog 7 [sv v, .one (.d (strs ws)), iv .u8 n8] (· = bv true) := by
  refine pure_of_wp Tt_ok mixed Tryd.func7 rfl (by rfl) [6] rfl (by kernel_rfl) (by simp [Tryd.ntmps7]) fun g => ?_
  simp (config := { maxSteps := 1000000 }) only [go_sem, ↓reduceIte, Nat.reduceEqDiff, Nat.reduceAdd, Nat.reduceMul, Nat.reduceSub, Nat.reduceLT, Nat.reduceLeDiff, Int.reduceLT, Int.reduceLE, Int.reduceEq, Int.reduceNe, Int.reduceAdd, Int.reduceNeg, Int.reduceToNat]
  refine hook_call rfl (by simp (config := { maxSteps := 1000000 }) only [go_sem, ↓reduceIte, Nat.reduceEqDiff, Nat.reduceAdd, Nat.reduceMul, Nat.reduceSub, Nat.reduceLT, Nat.reduceLeDiff, Int.reduceLT, Int.reduceLE, Int.reduceEq, Int.reduceNe, Int.reduceAdd, Int.reduceNeg, Int.reduceToNat]; exact alive_A) (by simp (config := { maxSteps := 1000000 }) only [go_sem, ↓reduceIte, Nat.reduceEqDiff, Nat.reduceAdd, Nat.reduceMul, Nat.reduceSub, Nat.reduceLT, Nat.reduceLeDiff, Int.reduceLT, Int.reduceLE, Int.reduceEq, Int.reduceNe, Int.reduceAdd, Int.reduceNeg, Int.reduceToNat]; rfl) ?_
  rintro _ rfl
  simp (config := { maxSteps := 1000000 }) only [go_sem, ↓reduceIte, Nat.reduceEqDiff, Nat.reduceAdd, Nat.reduceMul, Nat.reduceSub, Nat.reduceLT, Nat.reduceLeDiff, Int.reduceLT, Int.reduceLE, Int.reduceEq, Int.reduceNe, Int.reduceAdd, Int.reduceNeg, Int.reduceToNat]
  refine hook_call rfl (by simp (config := { maxSteps := 1000000 }) only [go_sem, ↓reduceIte, Nat.reduceEqDiff, Nat.reduceAdd, Nat.reduceMul, Nat.reduceSub, Nat.reduceLT, Nat.reduceLeDiff, Int.reduceLT, Int.reduceLE, Int.reduceEq, Int.reduceNe, Int.reduceAdd, Int.reduceNeg, Int.reduceToNat]; exact Verb_A v (by omega)) (by simp (config := { maxSteps := 1000000 }) only [go_sem, ↓reduceIte, Nat.reduceEqDiff, Nat.reduceAdd, Nat.reduceMul, Nat.reduceSub, Nat.reduceLT, Nat.reduceLeDiff, Int.reduceLT, Int.reduceLE, Int.reduceEq, Int.reduceNe, Int.reduceAdd, Int.reduceNeg, Int.reduceToNat]; rfl) ?_
  rintro _ rfl
  cases hv : verbOk v
  · simp (config := { maxSteps := 1000000 }) only [go_sem, ↓reduceIte, Nat.reduceEqDiff, Nat.reduceAdd, Nat.reduceMul, Nat.reduceSub, Nat.reduceLT, Nat.reduceLeDiff, Int.reduceLT, Int.reduceLE, Int.reduceEq, Int.reduceNe, Int.reduceAdd, Int.reduceNeg, Int.reduceToNat]
  simp (config := { maxSteps := 1000000 }) only [go_sem, ↓reduceIte, Nat.reduceEqDiff, Nat.reduceAdd, Nat.reduceMul, Nat.reduceSub, Nat.reduceLT, Nat.reduceLeDiff, Int.reduceLT, Int.reduceLE, Int.reduceEq, Int.reduceNe, Int.reduceAdd, Int.reduceNeg, Int.reduceToNat, strs]
  intro h50
  have hv20 : v.length ≤ 20 := by simp only [verbOk, Bool.and_eq_true, decide_eq_true_eq] at hv; exact hv.1.2
  refine loop_intro (fun n st => ∃ k : Nat, n + k = ws.length ∧ st.f 0 = sv v ∧ st.f 1 = .one (.d (.sl (ws.map fun w => [.str w]))) ∧ st.f 2 = iv .u8 n8 ∧ st.f 8 = iv .i64 k ∧ st.f 7 = sv (v ++ bareT n8 0 (ws.take k)) ∧ (bareT n8 0 (ws.take k)).length ≤ 103 * k ∧ (ws.take k).all bareW = true) ws.length ?_ ?_
  · refine ⟨0, by omega, ?_⟩
    simp (config := { maxSteps := 1000000 }) only [go_sem, ↓reduceIte, Nat.reduceEqDiff, Nat.reduceAdd, Nat.reduceMul, Nat.reduceSub, Nat.reduceLT, Nat.reduceLeDiff, Int.reduceLT, Int.reduceLE, Int.reduceEq, Int.reduceNe, Int.reduceAdd, Int.reduceNeg, Int.reduceToNat]
    simp [bareT]
  rintro n f g ob ⟨k, hk, h0, h1, h2, h8, h7, hql, hall⟩
  simp only at h0 h1 h2 h8 h7
  have hw := wrap_succ (k := k) (by omega)
  by_cases hlt : k < ws.length
  · obtain ⟨w, hwk⟩ := getq hlt
    have hgw := strs_get hwk
    simp (config := { maxSteps := 1000000 }) only [go_sem, ↓reduceIte, Nat.reduceEqDiff, Nat.reduceAdd, Nat.reduceMul, Nat.reduceSub, Nat.reduceLT, Nat.reduceLeDiff, Int.reduceLT, Int.reduceLE, Int.reduceEq, Int.reduceNe, Int.reduceAdd, Int.reduceNeg, Int.reduceToNat, h0, h1, h2, h8, h7, hlt, hgw]
    intro h100 hne
    refine loop_intro (fun m st => ∃ j : Nat, m + j = w.length ∧ st.f 0 = sv v ∧ st.f 1 = .one (.d (.sl (ws.map fun w => [.str w]))) ∧ st.f 2 = iv .u8 n8 ∧ st.f 8 = iv .i64 k ∧ st.f 7 = sv (v ++ bareT n8 0 (ws.take k)) ∧ st.f 9 = iv .i64 j ∧ (w.take j).all bareC = true) w.length ?_ ?_
    · refine ⟨0, by omega, ?_⟩
      simp (config := { maxSteps := 1000000 }) only [go_sem, ↓reduceIte, Nat.reduceEqDiff, Nat.reduceAdd, Nat.reduceMul, Nat.reduceSub, Nat.reduceLT, Nat.reduceLeDiff, Int.reduceLT, Int.reduceLE, Int.reduceEq, Int.reduceNe, Int.reduceAdd, Int.reduceNeg, Int.reduceToNat, h0, h1, h2, h8, h7]
      simp
    · clear h0 h1 h2 h8 h7
      rintro m f g ob ⟨j, hj, h0, h1, h2, h8, h7, h9, hcs⟩
      simp only at h0 h1 h2 h8 h7 h9
      have hw2 := wrap_succ (k := j) (by omega)
      by_cases hlt2 : j < w.length
      · obtain ⟨c, hc⟩ := getq hlt2
        simp (config := { maxSteps := 1000000 }) only [go_sem, ↓reduceIte, Nat.reduceEqDiff, Nat.reduceAdd, Nat.reduceMul, Nat.reduceSub, Nat.reduceLT, Nat.reduceLeDiff, Int.reduceLT, Int.reduceLE, Int.reduceEq, Int.reduceNe, Int.reduceAdd, Int.reduceNeg, Int.reduceToNat, h0, h1, h2, h8, h7, h9, hgw, hlt2, hc]
        intro c1 c2 c3 c4
        simp (config := { maxSteps := 1000000 }) only [go_sem, ↓reduceIte, Nat.reduceEqDiff, Nat.reduceAdd, Nat.reduceMul, Nat.reduceSub, Nat.reduceLT, Nat.reduceLeDiff, Int.reduceLT, Int.reduceLE, Int.reduceEq, Int.reduceNe, Int.reduceAdd, Int.reduceNeg, Int.reduceToNat, h9, hw2]
        refine round_end (m - 1) (by omega) ⟨j + 1, by omega, ?_⟩
        simp (config := { maxSteps := 1000000 }) only [go_sem, ↓reduceIte, Nat.reduceEqDiff, Nat.reduceAdd, Nat.reduceMul, Nat.reduceSub, Nat.reduceLT, Nat.reduceLeDiff, Int.reduceLT, Int.reduceLE, Int.reduceEq, Int.reduceNe, Int.reduceAdd, Int.reduceNeg, Int.reduceToNat, h0, h1, h2, h8, h7]
        exact all_take hc hcs (bareC_of' c1 c2 c3 c4)
      · rw [List.take_of_length_le (by omega)] at hcs
        have hbw : bareW w = true := by
          have : 0 < w.length := by
            cases w with
            | nil => exact absurd rfl hne
            | cons a b => simp
          simp [bareW, hcs, this]
        simp (config := { maxSteps := 1000000 }) only [go_sem, ↓reduceIte, Nat.reduceEqDiff, Nat.reduceAdd, Nat.reduceMul, Nat.reduceSub, Nat.reduceLT, Nat.reduceLeDiff, Int.reduceLT, Int.reduceLE, Int.reduceEq, Int.reduceNe, Int.reduceAdd, Int.reduceNeg, Int.reduceToNat, h0, h1, h2, h8, h7, h9, hgw, hlt2]
        obtain ⟨q, hq⟩ : ∃ q, (n8 + (0 + k)) % 3 = q := ⟨_, rfl⟩
        have hq3 : q < 3 := by rw [← hq]; exact Nat.mod_lt _ (by decide)
        have hwa : IntKind.i64.wrap ((n8 : Int)) = (n8 : Int) := by rw [wrap_i64] <;> omega
        have hwb : IntKind.i64.wrap ((n8 : Int) + (k : Int)) = (n8 : Int) + (k : Int) := by rw [wrap_i64] <;> omega
        have hrm : ((n8 : Int) + (k : Int)).tmod 3 = (q : Int) := by
          rw [Int.tmod_eq_emod_of_nonneg (by omega), ← hq]; omega
        refine loop_intro (fun m st => ∃ j : Nat, m + j = q + 1 ∧ st.f 0 = sv v ∧ st.f 1 = .one (.d (.sl (ws.map fun w => [.str w]))) ∧ st.f 2 = iv .u8 n8 ∧ st.f 8 = iv .i64 k ∧ st.f 11 = iv .i64 j ∧ st.f 7 = sv (v ++ bareT n8 0 (ws.take k) ++ List.replicate j 32)) (q + 1) ?_ ?_
        · refine ⟨0, by omega, ?_⟩
          simp (config := { maxSteps := 1000000 }) only [go_sem, ↓reduceIte, Nat.reduceEqDiff, Nat.reduceAdd, Nat.reduceMul, Nat.reduceSub, Nat.reduceLT, Nat.reduceLeDiff, Int.reduceLT, Int.reduceLE, Int.reduceEq, Int.reduceNe, Int.reduceAdd, Int.reduceNeg, Int.reduceToNat, h0, h1, h2, h8, h7]
          simp
        · clear h0 h1 h2 h8 h7 h9
          rintro m f g ob ⟨j, hj, h0, h1, h2, h8, h11, h7⟩
          simp only at h0 h1 h2 h8 h11 h7
          have hw3 := wrap_succ (k := j) (by omega)
          by_cases hlt3 : j ≤ q
          · have hle : (j : Int) ≤ (q : Int) := by omega
            simp (config := { maxSteps := 1000000 }) only [go_sem, ↓reduceIte, Nat.reduceEqDiff, Nat.reduceAdd, Nat.reduceMul, Nat.reduceSub, Nat.reduceLT, Nat.reduceLeDiff, Int.reduceLT, Int.reduceLE, Int.reduceEq, Int.reduceNe, Int.reduceAdd, Int.reduceNeg, Int.reduceToNat, h0, h1, h2, h8, h11, h7, hwa, hwb, hrm, hle]
            refine ⟨by simp only [List.length_append, List.length_replicate]; omega, ?_⟩
            simp (config := { maxSteps := 1000000 }) only [go_sem, ↓reduceIte, Nat.reduceEqDiff, Nat.reduceAdd, Nat.reduceMul, Nat.reduceSub, Nat.reduceLT, Nat.reduceLeDiff, Int.reduceLT, Int.reduceLE, Int.reduceEq, Int.reduceNe, Int.reduceAdd, Int.reduceNeg, Int.reduceToNat, h11, hw3]
            refine round_end (m - 1) (by omega) ⟨j + 1, by omega, ?_⟩
            simp (config := { maxSteps := 1000000 }) only [go_sem, ↓reduceIte, Nat.reduceEqDiff, Nat.reduceAdd, Nat.reduceMul, Nat.reduceSub, Nat.reduceLT, Nat.reduceLeDiff, Int.reduceLT, Int.reduceLE, Int.reduceEq, Int.reduceNe, Int.reduceAdd, Int.reduceNeg, Int.reduceToNat, h0, h1, h2, h8]
            rw [List.append_assoc, replicate_succ']
          · have hle : ¬ (j : Int) ≤ (q : Int) := by omega
            have hjq : j = q + 1 := by omega
            have htk := bareT_take (n := n8) (i := 0) hwk
            rw [hq] at htk
            rw [hjq] at h7
            simp (config := { maxSteps := 1000000 }) only [go_sem, ↓reduceIte, Nat.reduceEqDiff, Nat.reduceAdd, Nat.reduceMul, Nat.reduceSub, Nat.reduceLT, Nat.reduceLeDiff, Int.reduceLT, Int.reduceLE, Int.reduceEq, Int.reduceNe, Int.reduceAdd, Int.reduceNeg, Int.reduceToNat, h0, h1, h2, h8, h11, h7, hwa, hwb, hrm, hle, hgw]
            refine ⟨by simp only [List.length_append, List.length_replicate]; omega, ?_⟩
            simp (config := { maxSteps := 1000000 }) only [go_sem, ↓reduceIte, Nat.reduceEqDiff, Nat.reduceAdd, Nat.reduceMul, Nat.reduceSub, Nat.reduceLT, Nat.reduceLeDiff, Int.reduceLT, Int.reduceLE, Int.reduceEq, Int.reduceNe, Int.reduceAdd, Int.reduceNeg, Int.reduceToNat, h8, hw]
            refine round_end (n - 1) (by omega) ⟨k + 1, by omega, ?_⟩
            simp (config := { maxSteps := 1000000 }) only [go_sem, ↓reduceIte, Nat.reduceEqDiff, Nat.reduceAdd, Nat.reduceMul, Nat.reduceSub, Nat.reduceLT, Nat.reduceLeDiff, Int.reduceLT, Int.reduceLE, Int.reduceEq, Int.reduceNe, Int.reduceAdd, Int.reduceNeg, Int.reduceToNat, h0, h1, h2]
            rw [htk]
            refine ⟨by simp, ?_, all_take hwk hall hbw⟩
            simp only [List.length_append, List.length_replicate]; omega
  · have hts : ws.take k = ws := List.take_of_length_le (by omega)
    rw [hts] at h7 hql hall
    simp (config := { maxSteps := 1000000 }) only [go_sem, ↓reduceIte, Nat.reduceEqDiff, Nat.reduceAdd, Nat.reduceMul, Nat.reduceSub, Nat.reduceLT, Nat.reduceLeDiff, Int.reduceLT, Int.reduceLE, Int.reduceEq, Int.reduceNe, Int.reduceAdd, Int.reduceNeg, Int.reduceToNat, h0, h1, h2, h8, h7, hlt]
    have htl : (v ++ bareT n8 0 ws).length ≤ 20000 := by simp only [List.length_append]; omega
    refine hook_call rfl (by simp (config := { maxSteps := 1000000 }) only [go_sem, ↓reduceIte, Nat.reduceEqDiff, Nat.reduceAdd, Nat.reduceMul, Nat.reduceSub, Nat.reduceLT, Nat.reduceLeDiff, Int.reduceLT, Int.reduceLE, Int.reduceEq, Int.reduceNe, Int.reduceAdd, Int.reduceNeg, Int.reduceToNat]; exact Read_A (v ++ bareT n8 0 ws) (by omega)) (by simp (config := { maxSteps := 1000000 }) only [go_sem, ↓reduceIte, Nat.reduceEqDiff, Nat.reduceAdd, Nat.reduceMul, Nat.reduceSub, Nat.reduceLT, Nat.reduceLeDiff, Int.reduceLT, Int.reduceLE, Int.reduceEq, Int.reduceNe, Int.reduceAdd, Int.reduceNeg, Int.reduceToNat]; rfl) ?_
    rintro _ rfl
    rw [read_words hv (overS_bare n8 0 ws) (parts_bare n8 0 ws hall) (by rw [List.map_map]; exact List.map_id ws) (fun q hq => by obtain ⟨w, _, rfl⟩ := List.mem_map.1 hq; rfl) (bareT_lf n8 0 ws hall) (by omega) (wordsT_bare n8 0 ws hall) htl]
    simp (config := { maxSteps := 1000000 }) only [go_sem, ↓reduceIte, Nat.reduceEqDiff, Nat.reduceAdd, Nat.reduceMul, Nat.reduceSub, Nat.reduceLT, Nat.reduceLeDiff, Int.reduceLT, Int.reduceLE, Int.reduceEq, Int.reduceNe, Int.reduceAdd, Int.reduceNeg, Int.reduceToNat, readRV, buildA, elemTy, h0, h1]
    refine hook_view rfl (xs := [.one (.d (linesD [(v, ws)])), .one (.d (linesD [(v, ws)]))]) ?_ (Same_A _ _ (by simp) (by simp; omega)) (by rintro _ rfl; rfl) ?_
    · simp (config := { maxSteps := 1000000 }) only [go_sem, ↓reduceIte, Nat.reduceEqDiff, Nat.reduceAdd, Nat.reduceMul, Nat.reduceSub, Nat.reduceLT, Nat.reduceLeDiff, Int.reduceLT, Int.reduceLE, Int.reduceEq, Int.reduceNe, Int.reduceAdd, Int.reduceNeg, Int.reduceToNat]
      exact frzVs_two (.d (.sl _)) (frz_line1 (by simp [upd]) (by simp [upd]; rfl) (.d _))
    · rintro _ rfl
      simp (config := { maxSteps := 1000000 }) only [go_sem, ↓reduceIte, Nat.reduceEqDiff, Nat.reduceAdd, Nat.reduceMul, Nat.reduceSub, Nat.reduceLT, Nat.reduceLeDiff, Int.reduceLT, Int.reduceLE, Int.reduceEq, Int.reduceNe, Int.reduceAdd, Int.reduceNeg, Int.reduceToNat]

end Go.Proofs.YtdlogfbbcbbllaaDoor

namespace Go.Am
open Go.ChangeShapes Go.WideShapes Go.ChangeAt Go.RowKit
variable {H : Type} {enc : TypeId × Value → H}

theorem returns_of_law_laid {C : Checked} {os : Os} {f : FuncId} {fn : Func} {s : ChangeSpec} {conds : List PathCond} {laid : List (String × DataW Unit)} (own : ownKnob C.prog.godebug = none) (started : os.Started) (noInit : C.prog.inits.idxOf? f = none) (hfn : C.prog.funcs[f]? = some fn)
    (witness : ∃ (w : World) (tape : Tape) (i : Input), w.os = os ∧ (w.forCall tape i).Shaped C.prog ∧ i.vars = [] ∧ Input.okWide C.prog (w.forCall tape i) .any w.heap.size f i ∧
      ((s.pre enc C.prog fn conds false (w.forCall tape i).memory i.args ∧ laidMetH C.prog laid (w.forCall tape i).memory) ∧ sizedMet enc C.prog fn (OpenSpec.ofChange s) false (w.forCall tape i).memory i.args) ∧ Assume.holds {} C.prog (lone (Frame.enter C.prog f i.args .normal) [] (w.forCall tape i)))
    (hvars : s.vars = []) (hl : laidOutB C.prog = true) (hts : fn.params.toList.all (fun t => C.prog.readableRec t && decide (t < C.prog.types.size)) = true) {tb : TypeId} (hres : fn.resultTypes = #[tb]) (htb : C.prog.underlying tb = some .bool)
    (hspec : ∀ ds : List (DataW H), ds.length = fn.params.toList.length → s.fn H ds = { results := [.lit (.bool true)], args := ds })
    (hcall : ∀ (W : World) (base : Nat) (args : Array Value) (ds : List (DataW H)) (ps : List MemPlace), (∀ (j : Nat) t v, fn.params[j]? = some t → args[j]? = some v → Value.okWide C.prog W .any base t v) → DataW.TrodAll enc C.prog W 0 (fun _ => true) true fn.params.toList args.toList ds ps → (DataW.weightsEach C.prog fn.params.toList ds).all (· ≤ reachBytes) = true → SaysTrue C.prog f args W) :
    ReturnsInHanded {} C os f .any (fun w args => (s.pre enc C.prog fn conds false w args ∧ laidMetH C.prog laid w) ∧ sizedMet enc C.prog fn (OpenSpec.ofChange s) false w args) (s.post enc C.prog fn false true false false) := by
  refine returnsInHanded_of_change_and (X := fun w _ => laidMetH C.prog laid w) (fun _ _ _ hh h => h.of_heap hh) own started noInit hfn witness ?_
  intro W base args ds gs before hval hW hcnd hsz _ _
  have hW' := hW
  obtain ⟨p, q, hA, hV, rfl, hfz, hnd⟩ := hW
  rw [hvars] at hV
  obtain ⟨rfl, rfl⟩ := trodVars_none hV
  have hvt : s.plain.varTypes C.prog = [] := by simp [ChangeSpec.plain, DataSpec.varTypes, hvars]
  rw [hvt, List.append_nil, List.append_nil] at hsz
  refine (hcall W base args ds p hval hA hsz).mono fun e W' ⟨he, hs, hb, ho⟩ => ⟨_, he, ?_⟩
  have hlt : ∀ x ∈ p, x.block < W.heap.size := fun x hx => hW'.lt x (by simp [hx])
  have hsp : s.fn H (ds ++ []) = { results := [.lit (.bool true)], args := ds } := by rw [List.append_nil]; exact hspec ds (trodAll_len _ _ _ _ hA)
  refine ⟨ds, [], p ++ [], [], p, [], hW', ?_, ?_, ?_, kept_of hb ho _, fun h => by cases h⟩
  · rw [hsp, hres]
    exact trodAll_mk1 ⟨1, by simp [DataW.trod, htb, Value.cells]⟩
  · rw [hsp]
    exact trodAll_stays hl hb _ _ _ _ hts hlt hA
  · rw [hsp, hvars]
    exact rfl

end Go.Am

namespace Go.Proofs.YtdlogfbbcbbllaaDoor
open Go Go.Am Go.ChangeShapes Go.WideShapes Go.ChangeAt Go.RowKit

theorem own : ownKnob Tryd.prog.godebug = none := by kernel_rfl
theorem laidOut : laidOutB Tryd.prog = true := by kernel_rfl
def laidV : List (String × DataW Unit) := [("unicode/utf8.acceptRanges", Rows.laid_unicode_utf8_acceptRanges), ("unicode/utf8.first", Rows.laid_unicode_utf8_first)]

theorem reach_eq : reachBytes = 140737488351232 := by kernel_rfl
theorem u9 : Tryd.prog.underlying 9 = some .string := by kernel_rfl
theorem u5 : Tryd.prog.underlying 5 = some (.int .u8) := by kernel_rfl
theorem u30 : Tryd.prog.underlying 30 = some (.slice 9) := by kernel_rfl
theorem u4 : Tryd.prog.underlying 4 = some .bool := by kernel_rfl

theorem hasT_str {n : Nat} {x : D} (h : HasT Tryd.prog (n + 1) 9 [x]) : ∃ s, x = .str s ∧ s.length ≤ 140737488351232 := by
  unfold HasT at h
  rw [u9] at h
  obtain ⟨s, h1, h2⟩ := h
  simp only [List.cons.injEq, and_true] at h1
  rw [reach_eq] at h2
  exact ⟨s, h1, h2⟩

theorem hasT_u8 {n : Nat} {x : D} (h : HasT Tryd.prog (n + 1) 5 [x]) : ∃ m : Nat, x = .int .u8 m ∧ m < 256 := by
  unfold HasT at h
  rw [u5] at h
  obtain ⟨m, h1, h2⟩ := h
  simp only [List.cons.injEq, and_true] at h1
  have : 0 ≤ m ∧ m ≤ 255 := by
    simp only [Lit.wf, Bool.and_eq_true, decide_eq_true_eq] at h2
    have e1 : IntKind.u8.min = 0 := by decide
    have e2 : IntKind.u8.max = 255 := by decide
    rw [e1, e2] at h2; exact h2
  exact ⟨m.toNat, by rw [h1]; congr 1; omega, by omega⟩

theorem hasT_strs {n : Nat} {x : D} (h : HasT Tryd.prog (n + 2) 30 [x]) : ∃ ws : List (List UInt8), x = strs ws ∧ ws.length ≤ 140737488351232 ∧ ∀ w ∈ ws, w.length ≤ 140737488351232 := by
  unfold HasT at h
  rw [u30] at h
  obtain ⟨es, h1, h2, h3⟩ := h
  simp only [List.cons.injEq, and_true] at h1
  subst h1
  obtain ⟨r, hr, hx⟩ := exists_list (p := fun i (m : List UInt8) => es[i]? = some [.str m] ∧ m.length ≤ 140737488351232) es.length (fun i hi => by
    have h4 := h3 es[i] (List.getElem_mem hi)
    have h5 := h4
    unfold HasT at h4
    rw [u9] at h4
    obtain ⟨m, hm, h6⟩ := h4
    rw [reach_eq] at h6
    exact ⟨m, by rw [List.getElem?_eq_getElem hi, hm], h6⟩)
  have hby : Tryd.prog.bytesOf 9 = 16 := by kernel_rfl
  rw [hby, reach_eq] at h2
  refine ⟨r, ?_, by omega, fun m hm => ?_⟩
  · unfold strs
    congr 1
    apply List.ext_getElem?
    intro i
    rw [List.getElem?_map]
    cases hq : r[i]? with
    | none =>
      have : es.length ≤ i := by rw [← hr]; simpa using hq
      simpa using this
    | some m => rw [(hx i m hq).1]; rfl
  · obtain ⟨i, hi⟩ := List.getElem?_of_mem hm
    exact (hx i m hi).2

end Go.Proofs.YtdlogfbbcbbllaaDoor
