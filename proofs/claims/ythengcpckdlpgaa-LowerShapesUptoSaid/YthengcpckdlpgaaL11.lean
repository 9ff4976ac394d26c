/- Code that is being written: any statement; a function's code. -/
import Derived.Test.YthengcpckdlpgaaL10
set_option linter.unusedSimpArgs false
set_option linter.unusedVariables false
namespace Go.Proofs.Ythengcpckdlpgaa
open Go Go.Am Go.Lower

set_option maxHeartbeats 8000000 in
set_option maxRecDepth 100000 in
theorem stmt_A {w : Int} {ps : Sig} {fi : Nat} {fw : Bool} : ∀ (N : Nat) (s : Stm) (lv : Int), sizeS s ≤ N → N ≤ 100000000000 → rS w ps fi fw lv s → Writes 39 [ipS s] (codeS s) := by
  intro N
  induction N using Nat.strongRecOn with
  | ind N ih =>
  intro s lv hN hN' hr
  obtain ⟨kind, slot, size, e, th, el⟩ := s
  have hsz : sizeS (.mk kind slot size e th el) = sizeEs e + sizeSs th + sizeSs el := rfl
  rw [rS] at hr
  obtain ⟨hok, hre, hrt, hrl⟩ := hr
  have hth : Writes 24 [slS th] (codeSs th) := stmts_of (by omega) fun k s hs => ih (sizeS s) (by have := sizeS_lt hs; omega) s (lv + 1) (Nat.le_refl _) (by have := sizeS_lt hs; omega) (rSs_get hrt hs)
  have hel : Writes 24 [slS el] (codeSs el) := stmts_of (by omega) fun k s hs => ih (sizeS s) (by have := sizeS_lt hs; omega) s (lv + 1) (Nat.le_refl _) (by have := sizeS_lt hs; omega) (rSs_get hrl hs)
  have hex : ∀ (k : Nat) (x : Ex) (d : Int), e[k]? = some x → Writes 23 [ipE x] (codeE d x) := fun k x d hx => expr_A (sizeE x) x (lv + 1) d (Nat.le_refl _) (by have := sizeE_lt hx; omega) (rEs_get hre hx)
  have hE : smD (.mk kind slot size e th el) = [.int .i64 kind, .int .i64 slot, .int .i64 size, .sl (e.map exD), .sl (smsD th), .sl (smsD el)] := by simp only [smD, exsD_map]
  intro K T B word code g ob gT ht hgT hTK hBK hK hl
  have hp := Prog.start (K2 := K + 120) ht hTK hBK hK (by omega)
  refine fun_of_wp K Tt_ok mixed Try.func39 rfl (by rfl) [] rfl (by kernel_rfl) (by simp [Try.ntmps39]) ?_
  unfold ipS
  rw [hE]
  by_cases h5 : kind = 5
  · subst h5
    have hn : e.length = 1 := by
      obtain ⟨_, _, _, _, _, h⟩ := hok
      rcases h with ⟨h, _⟩ | ⟨h, _⟩ | ⟨_, h⟩ | ⟨h, _⟩ | ⟨h, _⟩ <;> omega
    obtain ⟨c, rfl⟩ : ∃ c, e = [c] := by
      match e, hn with
      | [c], _ => exact ⟨c, rfl⟩
    simp (config := { maxSteps := 1000000 }) only [go_sem, ↓reduceIte, Nat.reduceEqDiff, Nat.reduceAdd, Nat.reduceMul, Nat.reduceSub, Nat.reduceLT, Nat.reduceLeDiff, Int.reduceLT, Int.reduceLE, Int.reduceEq, Int.reduceNe, Int.reduceAdd, Int.reduceNeg, Int.reduceToNat]
    refine hook_writes (while_A (slot := slot) (size := size) (el := el) (hex 0 c 0 rfl) hth) hp rfl hgT (by unfold ipS; rw [hE]; rfl) hl ?_
    intro g1 ob1 p1 q1 r1
    simp (config := { maxSteps := 1000000 }) only [go_sem, ↓reduceIte, Nat.reduceEqDiff, Nat.reduceAdd, Nat.reduceMul, Nat.reduceSub, Nat.reduceLT, Nat.reduceLeDiff, Int.reduceLT, Int.reduceLE, Int.reduceEq, Int.reduceNe, Int.reduceAdd, Int.reduceNeg, Int.reduceToNat]
    refine retF_dropsR (fun i => decide (K ≤ i)) ?_
    exact ⟨rfl, p1.fin hK⟩
  · generalize hrest : (if kind = 4 then ifC (code.length + (cEs code.length 0 e).length) (fun r => cSs word r th) (!el.isEmpty) (fun r => cSs word r el) else endC word kind slot size e.length) = rest
    have hcS : codeS (.mk kind slot size e th el) word code.length = (cEs code.length 0 e).map Prod.fst ++ rest.map Prod.fst := by
      simp only [codeS, cS, if_neg h5, List.map_append, hrest]
    have hlen : code.length + (cEs code.length 0 e).length + rest.length ≤ 1000000000 := by
      simp only [hcS, List.length_map, List.length_append] at hl
      omega
    simp (config := { maxSteps := 1000000 }) only [go_sem, ↓reduceIte, Nat.reduceEqDiff, Nat.reduceAdd, Nat.reduceMul, Nat.reduceSub, Nat.reduceLT, Nat.reduceLeDiff, Int.reduceLT, Int.reduceLE, Int.reduceEq, Int.reduceNe, Int.reduceAdd, Int.reduceNeg, Int.reduceToNat, h5, List.length_map]
    refine loop_introB (fun n s => ∃ k : Nat, n + k = e.length ∧ s.f 0 = .one (.ptr T gT 0) ∧ s.f 1 = .one (.d (.iptr [.int .i64 kind, .int .i64 slot, .int .i64 size, .sl (e.map exD), .sl (smsD th), .sl (smsD el)])) ∧ s.f 19 = iv .i64 e.length ∧ s.f 20 = iv .i64 k ∧
      Prog K (K + 120) T B word (code ++ (cEs code.length 0 (e.take k)).map Prod.fst) g ob s.gen s.obj) e.length ?_ ?_
    · refine ⟨0, rfl, ?_⟩
      rw [List.take_zero, cEs, List.map_nil, List.append_nil]
      simp (config := { maxSteps := 1000000 }) only [go_sem, ↓reduceIte, Nat.reduceEqDiff, Nat.reduceAdd, Nat.reduceMul, Nat.reduceSub, Nat.reduceLT, Nat.reduceLeDiff, Int.reduceLT, Int.reduceLE, Int.reduceEq, Int.reduceNe, Int.reduceAdd, Int.reduceNeg, Int.reduceToNat]
      exact hp
    · rintro n f g1 ob1 ⟨k, hk, f0, f1, f19, f20, p1⟩
      simp only at f0 f1 f19 f20 p1
      have hkl : e.length ≤ sizeEs e := by rw [sizeEs_sum]; omega
      have hw := wrap_succ (k := k) (by omega)
      by_cases hlt : k < e.length
      · obtain ⟨x, hx⟩ := getq hlt
        have hsn := cEs_snoc e k x code.length 0 hx
        have hle := cEs_le e (k + 1) code.length 0
        have hl2 : (cEs code.length 0 (e.take k)).length + (cE (code.length + (cEs code.length 0 (e.take k)).length) (0 + k) x).length ≤ (cEs code.length 0 e).length := by
          rw [hsn, List.length_append] at hle; exact hle
        have hlc : (code ++ (cEs code.length 0 (e.take k)).map Prod.fst).length = code.length + (cEs code.length 0 (e.take k)).length := by rw [List.length_append, List.length_map]
        simp (config := { maxSteps := 1000000 }) only [go_sem, ↓reduceIte, Nat.reduceEqDiff, Nat.reduceAdd, Nat.reduceMul, Nat.reduceSub, Nat.reduceLT, Nat.reduceLeDiff, Int.reduceLT, Int.reduceLE, Int.reduceEq, Int.reduceNe, Int.reduceAdd, Int.reduceNeg, Int.reduceToNat, f0, f1, f19, f20, hlt, hx, List.length_map, exD_len]
        refine hook_writes (hex k x (0 + k) hx) p1 rfl hgT rfl (by rw [hlc]; simp only [codeE, List.length_map]; omega) ?_
        intro g2 ob2 p2 q2 r2
        rw [hlc] at p2
        simp (config := { maxSteps := 1000000 }) only [go_sem, ↓reduceIte, Nat.reduceEqDiff, Nat.reduceAdd, Nat.reduceMul, Nat.reduceSub, Nat.reduceLT, Nat.reduceLeDiff, Int.reduceLT, Int.reduceLE, Int.reduceEq, Int.reduceNe, Int.reduceAdd, Int.reduceNeg, Int.reduceToNat, f0, f1, f19, f20, hw]
        refine round_endB (n - 1) (by omega) ⟨k + 1, by omega, ?_⟩
        simp (config := { maxSteps := 1000000 }) only [go_sem, ↓reduceIte, Nat.reduceEqDiff, Nat.reduceAdd, Nat.reduceMul, Nat.reduceSub, Nat.reduceLT, Nat.reduceLeDiff, Int.reduceLT, Int.reduceLE, Int.reduceEq, Int.reduceNe, Int.reduceAdd, Int.reduceNeg, Int.reduceToNat, f0, f1, f19, f20, hw]
        rw [hsn, List.map_append, ← List.append_assoc]
        exact p2
      · have hkk : k = e.length := by omega
        subst hkk
        rw [List.take_length] at p1
        have hlA : (code ++ (cEs code.length 0 e).map Prod.fst).length = code.length + (cEs code.length 0 e).length := by rw [List.length_append, List.length_map]
        have hfin : ∀ g' ob' K2, Prog K K2 T B word (code ++ (cEs code.length 0 e).map Prod.fst ++ rest.map Prod.fst) g ob g' ob' → Wrote K T B word (code ++ codeS (.mk kind slot size e th el) word code.length) g ob g' (fun i => if decide (K ≤ i) = true then none else ob' i) := by
          intro g' ob' K2 hp'
          have : code ++ codeS (.mk kind slot size e th el) word code.length = code ++ (cEs code.length 0 e).map Prod.fst ++ rest.map Prod.fst := by rw [hcS, List.append_assoc]
          rw [this]
          exact hp'.fin hK
        generalize code ++ (cEs code.length 0 e).map Prod.fst = A at *
        have hk : kind = 1 ∨ kind = 2 ∨ kind = 3 ∨ kind = 6 ∨ kind = 7 ∨ kind = 4 := by
          obtain ⟨_, _, _, _, _, h⟩ := hok
          rcases h with ⟨h, _⟩ | ⟨h, _⟩ | ⟨h | h | h, _⟩ | ⟨h, _⟩ | ⟨h, _⟩ <;> omega
        rcases hk with rfl | rfl | rfl | rfl | rfl | rfl
        · obtain rfl : [(⟨3, slot, 0, 0⟩, (e.length : Int))] = rest := hrest
          have hlen : A.length + 1 ≤ 1000000000 := by rw [hlA]; exact hlen
          simp (config := { maxSteps := 1000000 }) only [go_sem, ↓reduceIte, Nat.reduceEqDiff, Nat.reduceAdd, Nat.reduceMul, Nat.reduceSub, Nat.reduceLT, Nat.reduceLeDiff, Int.reduceLT, Int.reduceLE, Int.reduceEq, Int.reduceNe, Int.reduceAdd, Int.reduceNeg, Int.reduceToNat, f0, f1, f19, f20, hlt, List.length_map]
          refine hook_put [⟨3, slot, 0, 0⟩] p1 rfl hgT (by omega) (by omega) rfl rfl hlen ?_
          intro g2 ob2 p2 q2 r2
          simp (config := { maxSteps := 1000000 }) only [go_sem, ↓reduceIte, Nat.reduceEqDiff, Nat.reduceAdd, Nat.reduceMul, Nat.reduceSub, Nat.reduceLT, Nat.reduceLeDiff, Int.reduceLT, Int.reduceLE, Int.reduceEq, Int.reduceNe, Int.reduceAdd, Int.reduceNeg, Int.reduceToNat]
          refine retF_drops (fun i => decide (K ≤ i)) ?_
          exact ⟨rfl, hfin _ _ _ p2⟩
        · obtain rfl : [(⟨5, slot, size, 0⟩, (e.length : Int))] = rest := hrest
          have hlen : A.length + 1 ≤ 1000000000 := by rw [hlA]; exact hlen
          simp (config := { maxSteps := 1000000 }) only [go_sem, ↓reduceIte, Nat.reduceEqDiff, Nat.reduceAdd, Nat.reduceMul, Nat.reduceSub, Nat.reduceLT, Nat.reduceLeDiff, Int.reduceLT, Int.reduceLE, Int.reduceEq, Int.reduceNe, Int.reduceAdd, Int.reduceNeg, Int.reduceToNat, f0, f1, f19, f20, hlt, List.length_map]
          refine draw_det Tt_ok mixed [K + 58] [([0], [0], [], false), ([1], [], [], false), ([49], [], [], false), ([50], [], [], false), ([51], [], [], false), ([1], [], [], false), ([53], [], [], false), ([54], [], [], false), ([55], [], [], false), ([52, 56], [], [], false), ([57], [], [0], false), ([48, 58], [], [], true)] 1 (by decide +kernel) rfl (by simp) ?_
          simp (config := { maxSteps := 1000000 }) only [go_sem, ↓reduceIte, Nat.reduceEqDiff, Nat.reduceAdd, Nat.reduceMul, Nat.reduceSub, Nat.reduceLT, Nat.reduceLeDiff, Int.reduceLT, Int.reduceLE, Int.reduceEq, Int.reduceNe, Int.reduceAdd, Int.reduceNeg, Int.reduceToNat]
          iterate 10 (apply det_pure; · (intro fa ga oa K' hK; simp (config := { maxSteps := 1000000 }) only [go_sem, ↓reduceIte, Nat.reduceEqDiff, Nat.reduceAdd, Nat.reduceMul, Nat.reduceSub, Nat.reduceLT, Nat.reduceLeDiff, Int.reduceLT, Int.reduceLE, Int.reduceEq, Int.reduceNe, Int.reduceAdd, Int.reduceNeg, Int.reduceToNat, f0, f1] at hK ⊢; exact hK))
          (apply det_new; · (intro fa ga oa K' hK; simp (config := { maxSteps := 1000000 }) only [go_sem, ↓reduceIte, Nat.reduceEqDiff, Nat.reduceAdd, Nat.reduceMul, Nat.reduceSub, Nat.reduceLT, Nat.reduceLeDiff, Int.reduceLT, Int.reduceLE, Int.reduceEq, Int.reduceNe, Int.reduceAdd, Int.reduceNeg, Int.reduceToNat, f0, f1] at hK ⊢; exact hK))
          apply det_last
          intro K' hK'
          simp (config := { maxSteps := 1000000 }) only [go_sem, ↓reduceIte, Nat.reduceEqDiff, Nat.reduceAdd, Nat.reduceMul, Nat.reduceSub, Nat.reduceLT, Nat.reduceLeDiff, Int.reduceLT, Int.reduceLE, Int.reduceEq, Int.reduceNe, Int.reduceAdd, Int.reduceNeg, Int.reduceToNat]
          refine hook_put [⟨5, slot, size, 0⟩] p1 rfl hgT (by omega) (by omega) rfl rfl hlen ?_
          intro g2 ob2 p2 q2 r2
          refine hK' _ ?_
          simp (config := { maxSteps := 1000000 }) only [go_sem, ↓reduceIte, Nat.reduceEqDiff, Nat.reduceAdd, Nat.reduceMul, Nat.reduceSub, Nat.reduceLT, Nat.reduceLeDiff, Int.reduceLT, Int.reduceLE, Int.reduceEq, Int.reduceNe, Int.reduceAdd, Int.reduceNeg, Int.reduceToNat]
          refine retF_drops (fun i => decide (K ≤ i)) ?_
          exact ⟨rfl, hfin _ _ _ p2⟩
        · obtain rfl : [(⟨13, 0, 0, 0⟩, (e.length : Int))] = rest := hrest
          have hlen : A.length + 1 ≤ 1000000000 := by rw [hlA]; exact hlen
          simp (config := { maxSteps := 1000000 }) only [go_sem, ↓reduceIte, Nat.reduceEqDiff, Nat.reduceAdd, Nat.reduceMul, Nat.reduceSub, Nat.reduceLT, Nat.reduceLeDiff, Int.reduceLT, Int.reduceLE, Int.reduceEq, Int.reduceNe, Int.reduceAdd, Int.reduceNeg, Int.reduceToNat, f0, f1, f19, f20, hlt, List.length_map]
          refine hook_put [⟨13, 0, 0, 0⟩] p1 rfl hgT (by omega) (by omega) rfl rfl hlen ?_
          intro g2 ob2 p2 q2 r2
          simp (config := { maxSteps := 1000000 }) only [go_sem, ↓reduceIte, Nat.reduceEqDiff, Nat.reduceAdd, Nat.reduceMul, Nat.reduceSub, Nat.reduceLT, Nat.reduceLeDiff, Int.reduceLT, Int.reduceLE, Int.reduceEq, Int.reduceNe, Int.reduceAdd, Int.reduceNeg, Int.reduceToNat]
          refine retF_drops (fun i => decide (K ≤ i)) ?_
          exact ⟨rfl, hfin _ _ _ p2⟩
        · obtain rfl : [(⟨10, slot, 0, 0⟩, (e.length : Int))] = rest := hrest
          have hlen : A.length + 1 ≤ 1000000000 := by rw [hlA]; exact hlen
          simp (config := { maxSteps := 1000000 }) only [go_sem, ↓reduceIte, Nat.reduceEqDiff, Nat.reduceAdd, Nat.reduceMul, Nat.reduceSub, Nat.reduceLT, Nat.reduceLeDiff, Int.reduceLT, Int.reduceLE, Int.reduceEq, Int.reduceNe, Int.reduceAdd, Int.reduceNeg, Int.reduceToNat, f0, f1, f19, f20, hlt, List.length_map]
          refine hook_put [⟨10, slot, 0, 0⟩] p1 rfl hgT (by omega) (by omega) rfl rfl hlen ?_
          intro g2 ob2 p2 q2 r2
          simp (config := { maxSteps := 1000000 }) only [go_sem, ↓reduceIte, Nat.reduceEqDiff, Nat.reduceAdd, Nat.reduceMul, Nat.reduceSub, Nat.reduceLT, Nat.reduceLeDiff, Int.reduceLT, Int.reduceLE, Int.reduceEq, Int.reduceNe, Int.reduceAdd, Int.reduceNeg, Int.reduceToNat]
          refine retF_drops (fun i => decide (K ≤ i)) ?_
          exact ⟨rfl, hfin _ _ _ p2⟩
        · by_cases hz : 0 < e.length
          · obtain rfl : [(⟨11, 0, 0, 0⟩, (e.length : Int))] = rest := by
              rw [← hrest]
              unfold endC
              simp only [show ¬ ((7 : Int) = 4) by decide, show ¬ ((7 : Int) = 1) by decide, show ¬ ((7 : Int) = 2) by decide, show ¬ ((7 : Int) = 3) by decide, show ¬ ((7 : Int) = 6) by decide, if_false, if_true]
              rw [if_neg (by omega)]
            have hlen : A.length + 1 ≤ 1000000000 := by rw [hlA]; exact hlen
            simp (config := { maxSteps := 1000000 }) only [go_sem, ↓reduceIte, Nat.reduceEqDiff, Nat.reduceAdd, Nat.reduceMul, Nat.reduceSub, Nat.reduceLT, Nat.reduceLeDiff, Int.reduceLT, Int.reduceLE, Int.reduceEq, Int.reduceNe, Int.reduceAdd, Int.reduceNeg, Int.reduceToNat, f0, f1, f19, f20, hlt, List.length_map, Int.natCast_pos, hz]
            refine hook_put [⟨11, 0, 0, 0⟩] p1 rfl hgT (by omega) (by omega) rfl rfl hlen ?_
            intro g2 ob2 p2 q2 r2
            simp (config := { maxSteps := 1000000 }) only [go_sem, ↓reduceIte, Nat.reduceEqDiff, Nat.reduceAdd, Nat.reduceMul, Nat.reduceSub, Nat.reduceLT, Nat.reduceLeDiff, Int.reduceLT, Int.reduceLE, Int.reduceEq, Int.reduceNe, Int.reduceAdd, Int.reduceNeg, Int.reduceToNat]
            refine retF_drops (fun i => decide (K ≤ i)) ?_
            exact ⟨rfl, hfin _ _ _ p2⟩
          · obtain rfl : leave word = rest := by
              rw [← hrest]
              unfold endC
              simp only [show ¬ ((7 : Int) = 4) by decide, show ¬ ((7 : Int) = 1) by decide, show ¬ ((7 : Int) = 2) by decide, show ¬ ((7 : Int) = 3) by decide, show ¬ ((7 : Int) = 6) by decide, if_false, if_true]
              rw [if_pos (by omega)]
            have hlen : A.length + (leave word).length ≤ 1000000000 := by rw [hlA]; exact hlen
            simp (config := { maxSteps := 1000000 }) only [go_sem, ↓reduceIte, Nat.reduceEqDiff, Nat.reduceAdd, Nat.reduceMul, Nat.reduceSub, Nat.reduceLT, Nat.reduceLeDiff, Int.reduceLT, Int.reduceLE, Int.reduceEq, Int.reduceNe, Int.reduceAdd, Int.reduceNeg, Int.reduceToNat, f0, f1, f19, f20, hlt, List.length_map, Int.natCast_pos, hz]
            refine hook_writes leave_A p1 rfl hgT rfl (by simpa using hlen) ?_
            intro g2 ob2 p2 q2 r2
            simp (config := { maxSteps := 1000000 }) only [go_sem, ↓reduceIte, Nat.reduceEqDiff, Nat.reduceAdd, Nat.reduceMul, Nat.reduceSub, Nat.reduceLT, Nat.reduceLeDiff, Int.reduceLT, Int.reduceLE, Int.reduceEq, Int.reduceNe, Int.reduceAdd, Int.reduceNeg, Int.reduceToNat]
            refine retF_drops (fun i => decide (K ≤ i)) ?_
            exact ⟨rfl, hfin _ _ _ p2⟩
        · simp only [if_true] at hrest
          cases hemp : el with
          | nil =>
            subst hemp
            obtain rfl : (⟨9, (A.length + 1 + (cSs word (A.length + 1) th).length : Nat), 0, 0⟩, 1) :: cSs word (A.length + 1) th = rest := by
              rw [← hrest, ← hlA]; rfl
            have hlen : A.length + (1 + (cSs word (A.length + 1) th).length) ≤ 1000000000 := by
              rw [List.length_cons, ← hlA] at hlen; omega
            have hlB : (A ++ [(⟨9, 0, 0, 0⟩ : Ins)]).length = A.length + 1 := by rw [List.length_append]; rfl
            simp (config := { maxSteps := 1000000 }) only [go_sem, ↓reduceIte, Nat.reduceEqDiff, Nat.reduceAdd, Nat.reduceMul, Nat.reduceSub, Nat.reduceLT, Nat.reduceLeDiff, Int.reduceLT, Int.reduceLE, Int.reduceEq, Int.reduceNe, Int.reduceAdd, Int.reduceNeg, Int.reduceToNat, f0, f1, f19, f20, hlt, List.length_map]
            refine hook_jump p1 rfl hgT rfl (by omega) ?_
            intro g2 ob2 gI gJ p2 o1 q2 r2
            simp (config := { maxSteps := 1000000 }) only [go_sem, ↓reduceIte, Nat.reduceEqDiff, Nat.reduceAdd, Nat.reduceMul, Nat.reduceSub, Nat.reduceLT, Nat.reduceLeDiff, Int.reduceLT, Int.reduceLE, Int.reduceEq, Int.reduceNe, Int.reduceAdd, Int.reduceNeg, Int.reduceToNat, f0, f1]
            refine hook_writes hth p2 rfl hgT rfl (by rw [hlB]; simp only [codeSs, List.length_map]; omega) ?_
            intro g3 ob3 p3 q3 r3
            rw [hlB] at p3
            have p3 : Prog K (K + 120 + 6) T B word (A ++ (⟨9, 0, 0, 0⟩ : Ins) :: codeSs th word (A.length + 1)) g ob g3 ob3 := by
              have := p3
              simp only [List.append_assoc, List.cons_append, List.nil_append] at this ⊢
              exact this
            have o1 := o1.same (g' := g3) (ob' := ob3) (q3 _ (by omega) (by omega)) (q3 _ (by omega) (by omega)) (r3 _ (by omega) (by omega)) (r3 _ (by omega) (by omega))
            simp (config := { maxSteps := 1000000 }) only [go_sem, ↓reduceIte, Nat.reduceEqDiff, Nat.reduceAdd, Nat.reduceMul, Nat.reduceSub, Nat.reduceLT, Nat.reduceLeDiff, Int.reduceLT, Int.reduceLE, Int.reduceEq, Int.reduceNe, Int.reduceAdd, Int.reduceNeg, Int.reduceToNat, f1, smsD, List.length_nil]
            refine hook_patch p3 o1 rfl hgT rfl rfl (by simp only [List.length_append, List.length_cons, codeSs, List.length_map, List.length_nil]; omega) ?_
            intro ob4 p4 r4
            simp (config := { maxSteps := 1000000 }) only [go_sem, ↓reduceIte, Nat.reduceEqDiff, Nat.reduceAdd, Nat.reduceMul, Nat.reduceSub, Nat.reduceLT, Nat.reduceLeDiff, Int.reduceLT, Int.reduceLE, Int.reduceEq, Int.reduceNe, Int.reduceAdd, Int.reduceNeg, Int.reduceToNat]
            refine retF_dropsR (fun i => decide (K ≤ i)) ?_
            refine ⟨rfl, hfin _ _ (K + 120 + 6) ?_⟩
            have e1 : (A ++ (⟨9, 0, 0, 0⟩ : Ins) :: codeSs th word (A.length + 1)).length = A.length + 1 + (cSs word (A.length + 1) th).length := by
              simp only [List.length_append, List.length_cons, codeSs, List.length_map, List.length_nil]; omega
            rw [e1] at p4
            exact p4
          | cons y ys =>
            rw [← hemp]
            have hne : el.isEmpty = false := by rw [hemp]; rfl
            have hll : 0 < el.length := by rw [hemp]; simp
            have hll0 : ¬ (el.length : Int) = 0 := by omega
            obtain rfl : (⟨9, (A.length + 1 + (cSs word (A.length + 1) th).length + 1 : Nat), 0, 0⟩, 1) :: (cSs word (A.length + 1) th ++ (⟨8, (A.length + 1 + (cSs word (A.length + 1) th).length + 1 + (cSs word (A.length + 1 + (cSs word (A.length + 1) th).length + 1) el).length : Nat), 0, 0⟩, 0) :: cSs word (A.length + 1 + (cSs word (A.length + 1) th).length + 1) el) = rest := by
              rw [← hrest, ← hlA, hne]; rfl
            have hlen : A.length + (1 + (cSs word (A.length + 1) th).length + 1 + (cSs word (A.length + 1 + (cSs word (A.length + 1) th).length + 1) el).length) ≤ 1000000000 := by
              simp only [List.length_cons, List.length_append, ← hlA] at hlen; omega
            have hlB : (A ++ [(⟨9, 0, 0, 0⟩ : Ins)]).length = A.length + 1 := by rw [List.length_append]; rfl
            simp (config := { maxSteps := 1000000 }) only [go_sem, ↓reduceIte, Nat.reduceEqDiff, Nat.reduceAdd, Nat.reduceMul, Nat.reduceSub, Nat.reduceLT, Nat.reduceLeDiff, Int.reduceLT, Int.reduceLE, Int.reduceEq, Int.reduceNe, Int.reduceAdd, Int.reduceNeg, Int.reduceToNat, f0, f1, f19, f20, hlt, List.length_map]
            refine hook_jump p1 rfl hgT rfl (by omega) ?_
            intro g2 ob2 gI gJ p2 o1 q2 r2
            simp (config := { maxSteps := 1000000 }) only [go_sem, ↓reduceIte, Nat.reduceEqDiff, Nat.reduceAdd, Nat.reduceMul, Nat.reduceSub, Nat.reduceLT, Nat.reduceLeDiff, Int.reduceLT, Int.reduceLE, Int.reduceEq, Int.reduceNe, Int.reduceAdd, Int.reduceNeg, Int.reduceToNat, f0, f1]
            refine hook_writes hth p2 rfl hgT rfl (by rw [hlB]; simp only [codeSs, List.length_map]; omega) ?_
            intro g3 ob3 p3 q3 r3
            rw [hlB] at p3
            have o1 := o1.same (g' := g3) (ob' := ob3) (q3 _ (by omega) (by omega)) (q3 _ (by omega) (by omega)) (r3 _ (by omega) (by omega)) (r3 _ (by omega) (by omega))
            have hlC : (A ++ [(⟨9, 0, 0, 0⟩ : Ins)] ++ codeSs th word (A.length + 1)).length = A.length + 1 + (cSs word (A.length + 1) th).length := by rw [List.length_append, hlB]; simp only [codeSs, List.length_map]
            simp (config := { maxSteps := 1000000 }) only [go_sem, ↓reduceIte, Nat.reduceEqDiff, Nat.reduceAdd, Nat.reduceMul, Nat.reduceSub, Nat.reduceLT, Nat.reduceLeDiff, Int.reduceLT, Int.reduceLE, Int.reduceEq, Int.reduceNe, Int.reduceAdd, Int.reduceNeg, Int.reduceToNat, f0, f1, smsD_len, hll0]
            refine hook_jump p3 rfl hgT rfl (by omega) ?_
            intro g4 ob4 gI2 gJ2 p4 o2 q4 r4
            have o1 := o1.same (g' := g4) (ob' := ob4) (q4 _ (by omega) (by omega)) (q4 _ (by omega) (by omega)) (r4 _ (by omega) (by omega) (by omega)) (r4 _ (by omega) (by omega) (by omega))
            have p4 : Prog K (K + 120 + 6 + 6) T B word (A ++ (⟨9, 0, 0, 0⟩ : Ins) :: (codeSs th word (A.length + 1) ++ [(⟨8, 0, 0, 0⟩ : Ins)])) g ob g4 ob4 := by
              have := p4
              simp only [List.append_assoc, List.cons_append, List.nil_append] at this ⊢
              exact this
            have hlD : (A ++ (⟨9, 0, 0, 0⟩ : Ins) :: (codeSs th word (A.length + 1) ++ [(⟨8, 0, 0, 0⟩ : Ins)])).length = A.length + 1 + (cSs word (A.length + 1) th).length + 1 := by
              simp only [List.length_append, List.length_cons, List.length_nil, codeSs, List.length_map]; omega
            simp (config := { maxSteps := 1000000 }) only [go_sem, ↓reduceIte, Nat.reduceEqDiff, Nat.reduceAdd, Nat.reduceMul, Nat.reduceSub, Nat.reduceLT, Nat.reduceLeDiff, Int.reduceLT, Int.reduceLE, Int.reduceEq, Int.reduceNe, Int.reduceAdd, Int.reduceNeg, Int.reduceToNat]
            refine hook_patch p4 o1 rfl hgT rfl rfl (by rw [hlD]; omega) ?_
            intro ob5 p5 r5
            rw [hlD] at p5
            have o2 := o2.same (g' := g4) (ob' := ob5) rfl rfl (r5 _ (by omega)) (r5 _ (by omega))
            have hlE : (A ++ (⟨9, ((A.length + 1 + (cSs word (A.length + 1) th).length + 1 : Nat) : Int), 0, 0⟩ : Ins) :: (codeSs th word (A.length + 1) ++ [(⟨8, 0, 0, 0⟩ : Ins)])).length = A.length + 1 + (cSs word (A.length + 1) th).length + 1 := by
              simp only [List.length_append, List.length_cons, List.length_nil, codeSs, List.length_map]; omega
            simp (config := { maxSteps := 1000000 }) only [go_sem, ↓reduceIte, Nat.reduceEqDiff, Nat.reduceAdd, Nat.reduceMul, Nat.reduceSub, Nat.reduceLT, Nat.reduceLeDiff, Int.reduceLT, Int.reduceLE, Int.reduceEq, Int.reduceNe, Int.reduceAdd, Int.reduceNeg, Int.reduceToNat, f0, f1]
            refine hook_writes hel p5 rfl hgT rfl (by rw [hlE]; simp only [codeSs, List.length_map]; omega) ?_
            intro g6 ob6 p6 q6 r6
            rw [hlE] at p6
            have o2 := o2.same (g' := g6) (ob' := ob6) (q6 _ (by omega) (by omega)) (q6 _ (by omega) (by omega)) (r6 _ (by omega) (by omega)) (r6 _ (by omega) (by omega))
            have p6 : Prog K (K + 120 + 6 + 6) T B word ((A ++ (⟨9, ((A.length + 1 + (cSs word (A.length + 1) th).length + 1 : Nat) : Int), 0, 0⟩ : Ins) :: codeSs th word (A.length + 1)) ++ (⟨8, 0, 0, 0⟩ : Ins) :: codeSs el word (A.length + 1 + (cSs word (A.length + 1) th).length + 1)) g ob g6 ob6 := by
              have := p6
              simp only [List.append_assoc, List.cons_append, List.nil_append] at this ⊢
              exact this
            have hlG : (A ++ (⟨9, ((A.length + 1 + (cSs word (A.length + 1) th).length + 1 : Nat) : Int), 0, 0⟩ : Ins) :: codeSs th word (A.length + 1)).length = (A ++ [(⟨9, 0, 0, 0⟩ : Ins)] ++ codeSs th word (A.length + 1)).length := by simp
            have hlH : ((A ++ (⟨9, ((A.length + 1 + (cSs word (A.length + 1) th).length + 1 : Nat) : Int), 0, 0⟩ : Ins) :: codeSs th word (A.length + 1)) ++ (⟨8, 0, 0, 0⟩ : Ins) :: codeSs el word (A.length + 1 + (cSs word (A.length + 1) th).length + 1)).length = A.length + 1 + (cSs word (A.length + 1) th).length + 1 + (cSs word (A.length + 1 + (cSs word (A.length + 1) th).length + 1) el).length := by
              simp only [List.length_append, List.length_cons, List.length_nil, codeSs, List.length_map]; omega
            rw [← hlG] at o2
            simp (config := { maxSteps := 1000000 }) only [go_sem, ↓reduceIte, Nat.reduceEqDiff, Nat.reduceAdd, Nat.reduceMul, Nat.reduceSub, Nat.reduceLT, Nat.reduceLeDiff, Int.reduceLT, Int.reduceLE, Int.reduceEq, Int.reduceNe, Int.reduceAdd, Int.reduceNeg, Int.reduceToNat]
            refine hook_patch p6 o2 rfl hgT rfl rfl (by rw [hlH]; omega) ?_
            intro ob7 p7 r7
            rw [hlH] at p7
            simp (config := { maxSteps := 1000000 }) only [go_sem, ↓reduceIte, Nat.reduceEqDiff, Nat.reduceAdd, Nat.reduceMul, Nat.reduceSub, Nat.reduceLT, Nat.reduceLeDiff, Int.reduceLT, Int.reduceLE, Int.reduceEq, Int.reduceNe, Int.reduceAdd, Int.reduceNeg, Int.reduceToNat]
            refine retF_drops (fun i => decide (K ≤ i)) ?_
            refine ⟨rfl, hfin _ _ (K + 120 + 6 + 6) ?_⟩
            have e1 : A ++ List.map Prod.fst (((⟨9, ((A.length + 1 + (cSs word (A.length + 1) th).length + 1 : Nat) : Int), 0, 0⟩ : Ins), (1 : Int)) :: (cSs word (A.length + 1) th ++ (⟨8, ((A.length + 1 + (cSs word (A.length + 1) th).length + 1 + (cSs word (A.length + 1 + (cSs word (A.length + 1) th).length + 1) el).length : Nat) : Int), 0, 0⟩, 0) :: cSs word (A.length + 1 + (cSs word (A.length + 1) th).length + 1) el)) =
                (A ++ (⟨9, ((A.length + 1 + (cSs word (A.length + 1) th).length + 1 : Nat) : Int), 0, 0⟩ : Ins) :: codeSs th word (A.length + 1)) ++ (⟨8, ((A.length + 1 + (cSs word (A.length + 1) th).length + 1 + (cSs word (A.length + 1 + (cSs word (A.length + 1) th).length + 1) el).length : Nat) : Int), 0, 0⟩ : Ins) :: codeSs el word (A.length + 1 + (cSs word (A.length + 1) th).length + 1) := by
              simp only [codeSs, List.map_append, List.map_cons, List.append_assoc, List.cons_append]
            rw [e1]
            exact p7

end Go.Proofs.Ythengcpckdlpgaa
