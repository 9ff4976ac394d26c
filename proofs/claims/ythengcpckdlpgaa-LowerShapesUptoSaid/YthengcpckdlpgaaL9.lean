/- Code that is being written: any expression. -/
import Derived.Test.YthengcpckdlpgaaL8
import Derived.Test.YthengcpckdlpgaaAm21
set_option linter.unusedSimpArgs false
set_option linter.unusedVariables false
namespace Go.Proofs.Ythengcpckdlpgaa
open Go Go.Am Go.Lower

theorem cEs_snoc : ∀ (l : List Ex) (k : Nat) (e : Ex) (at' : Nat) (d : Int), l[k]? = some e → cEs at' d (l.take (k + 1)) = cEs at' d (l.take k) ++ cE (at' + (cEs at' d (l.take k)).length) (d + k) e
  | [], k, e, at', d, h => by simp at h
  | x :: l, 0, e, at', d, h => by
    simp at h; subst h
    simp [cEs]
  | x :: l, k + 1, e, at', d, h => by
    have h' : l[k]? = some e := by simpa using h
    have ih := cEs_snoc l k e (at' + (cE at' d x).length) (d + 1) h'
    rw [List.take_succ_cons, List.take_succ_cons, cEs, cEs, ih, List.append_assoc, List.length_append, Nat.add_assoc]
    rw [show d + 1 + (k : Int) = d + ((k + 1 : Nat) : Int) by omega]
theorem cEs_le (l : List Ex) (k : Nat) (at' : Nat) (d : Int) : (cEs at' d (l.take k)).length ≤ (cEs at' d l).length := by
  have : ∀ (l : List Ex) (k at' : Nat) (d : Int), (cEs at' d (l.take k)).length ≤ (cEs at' d l).length := by
    intro l
    induction l with
    | nil => intro k at' d; simp [cEs]
    | cons x l ih =>
      intro k at' d
      cases k with
      | zero => simp [cEs]
      | succ k =>
        rw [List.take_succ_cons, cEs, cEs, List.length_append, List.length_append]
        have := ih k (at' + (cE at' d x).length) (d + 1)
        omega
  exact this l k at' d

theorem rEs_get {w : Int} {ps : Sig} {f : Nat} {lv : Int} : ∀ {l : List Ex} {k : Nat} {e : Ex}, rEs w ps f lv l → l[k]? = some e → rE w ps f lv e
  | [], k, e, _, h => by simp at h
  | x :: l, 0, e, hr, h => by simp at h; subst h; rw [rEs] at hr; exact hr.1
  | x :: l, k + 1, e, hr, h => by rw [rEs] at hr; exact rEs_get hr.2 (by simpa using h)

theorem sizeE_lt {l : List Ex} {k : Nat} {e : Ex} (h : l[k]? = some e) : sizeE e < sizeEs l := by
  have h2 := sizeTo_succ h
  have h3 := sizeTo_le l (k + 1)
  have hk := (List.getElem?_eq_some_iff.1 h).1
  have h4 : l.length ≤ sizeTo l k := by unfold sizeTo; omega
  omega

set_option maxHeartbeats 4000000 in
set_option maxRecDepth 100000 in
theorem expr_A {w : Int} {ps : Sig} {fi : Nat} : ∀ (N : Nat) (e : Ex) (lv d : Int), sizeE e ≤ N → N ≤ 1000000000000 → rE w ps fi lv e → Writes 23 [ipE e] (codeE d e) := by
  intro N
  induction N using Nat.strongRecOn with
  | ind N ih =>
  intro e lv d hN hN' hr
  obtain ⟨kind, op, num, slot, size, kids⟩ := e
  have hsz : sizeE (.mk kind op num slot size kids) = sizeEs kids := rfl
  rw [rE] at hr
  obtain ⟨hok, hrk⟩ := hr
  have hE : exD (.mk kind op num slot size kids) = [.int .i64 kind, .int .i64 op, .int .u32 num, .int .i64 slot, .int .i64 size, .sl (kids.map exD)] := by simp only [exD, exsD_map]
  intro K T B word code g ob gT ht hgT hTK hBK hK hl
  have hp := Prog.start (K2 := K + 107) ht hTK hBK hK (by omega)
  refine fun_of_wp K Tt_ok mixed Try.func23 rfl (by rfl) [] rfl (by kernel_rfl) (by simp [Try.ntmps23]) ?_
  unfold ipE
  rw [hE]
  by_cases h89 : kind = 8 ∨ kind = 9
  · have hk2 : kids.length = 2 := by
      rcases h89 with rfl | rfl
      · obtain ⟨_, _, _, _, _, h⟩ := hok; rcases h with ⟨h, _⟩ | ⟨h, _⟩ | ⟨h, _⟩ | ⟨h, _⟩ | ⟨h, _⟩ | ⟨h, _⟩ | ⟨_, h⟩ <;> omega
      · obtain ⟨_, _, _, _, _, h⟩ := hok; rcases h with ⟨h, _⟩ | ⟨h, _⟩ | ⟨h, _⟩ | ⟨h, _⟩ | ⟨h, _⟩ | ⟨h, _⟩ | ⟨_, h⟩ <;> omega
    obtain ⟨a, b, rfl⟩ : ∃ a b, kids = [a, b] := by
      match kids, hk2 with
      | [a, b], _ => exact ⟨a, b, rfl⟩
    have ha : Writes 23 [ipE a] (codeE d a) := ih (sizeE a) (by have := sizeE_lt (l := [a, b]) (k := 0) rfl; omega) a (lv + 1) d (Nat.le_refl _) (by have := sizeE_lt (l := [a, b]) (k := 0) rfl; omega) (rEs_get (k := 0) hrk rfl)
    have hb : Writes 23 [ipE b] (codeE d b) := ih (sizeE b) (by have := sizeE_lt (l := [a, b]) (k := 1) rfl; omega) b (lv + 1) d (Nat.le_refl _) (by have := sizeE_lt (l := [a, b]) (k := 1) rfl; omega) (rEs_get (k := 1) hrk rfl)
    rcases h89 with rfl | rfl
    · simp (config := { maxSteps := 1000000 }) only [go_sem, ↓reduceIte, Nat.reduceEqDiff, Nat.reduceAdd, Nat.reduceMul, Nat.reduceSub, Nat.reduceLT, Nat.reduceLeDiff, Int.reduceLT, Int.reduceLE, Int.reduceEq, Int.reduceNe, Int.reduceAdd, Int.reduceNeg, Int.reduceToNat]
      refine hook_writes (either8_A (op := op) (num := num) (slot := slot) (size := size) ha hb) hp rfl hgT (by unfold ipE; rw [hE]; rfl) hl ?_
      intro g1 ob1 p1 q1 r1
      simp (config := { maxSteps := 1000000 }) only [go_sem, ↓reduceIte, Nat.reduceEqDiff, Nat.reduceAdd, Nat.reduceMul, Nat.reduceSub, Nat.reduceLT, Nat.reduceLeDiff, Int.reduceLT, Int.reduceLE, Int.reduceEq, Int.reduceNe, Int.reduceAdd, Int.reduceNeg, Int.reduceToNat]
      refine retF_dropsR (fun i => decide (K ≤ i)) ?_
      exact ⟨rfl, p1.fin hK⟩
    · simp (config := { maxSteps := 1000000 }) only [go_sem, ↓reduceIte, Nat.reduceEqDiff, Nat.reduceAdd, Nat.reduceMul, Nat.reduceSub, Nat.reduceLT, Nat.reduceLeDiff, Int.reduceLT, Int.reduceLE, Int.reduceEq, Int.reduceNe, Int.reduceAdd, Int.reduceNeg, Int.reduceToNat]
      refine hook_writes (either9_A (op := op) (num := num) (slot := slot) (size := size) ha hb) hp rfl hgT (by unfold ipE; rw [hE]; rfl) hl ?_
      intro g1 ob1 p1 q1 r1
      simp (config := { maxSteps := 1000000 }) only [go_sem, ↓reduceIte, Nat.reduceEqDiff, Nat.reduceAdd, Nat.reduceMul, Nat.reduceSub, Nat.reduceLT, Nat.reduceLeDiff, Int.reduceLT, Int.reduceLE, Int.reduceEq, Int.reduceNe, Int.reduceAdd, Int.reduceNeg, Int.reduceToNat]
      refine retF_dropsR (fun i => decide (K ≤ i)) ?_
      exact ⟨rfl, p1.fin hK⟩
  · have h8 : ¬ kind = 8 := fun h => h89 (.inl h)
    have h9 : ¬ kind = 9 := fun h => h89 (.inr h)
    have hcE : cE code.length d (.mk kind op num slot size kids) = cEs code.length d kids ++ one kind op num slot size (d + kids.length) := by rw [cE, if_neg h89]
    have hl1 : code.length + (cEs code.length d kids).length + (one kind op num slot size (d + kids.length)).length ≤ 1000000000 := by
      have : (codeE d (.mk kind op num slot size kids) word code.length).length = _ := rfl
      simp only [codeE, hcE, List.length_map, List.length_append] at hl
      omega
    simp (config := { maxSteps := 1000000 }) only [go_sem, ↓reduceIte, Nat.reduceEqDiff, Nat.reduceAdd, Nat.reduceMul, Nat.reduceSub, Nat.reduceLT, Nat.reduceLeDiff, Int.reduceLT, Int.reduceLE, Int.reduceEq, Int.reduceNe, Int.reduceAdd, Int.reduceNeg, Int.reduceToNat, h8, h9, List.length_map]
    refine loop_introB (fun n s => ∃ k : Nat, n + k = kids.length ∧ s.f 0 = .one (.ptr T gT 0) ∧ s.f 1 = .one (.d (.iptr [.int .i64 kind, .int .i64 op, .int .u32 num, .int .i64 slot, .int .i64 size, .sl (kids.map exD)])) ∧ s.f 24 = iv .i64 kids.length ∧ s.f 25 = iv .i64 k ∧
      Prog K (K + 107) T B word (code ++ (cEs code.length d (kids.take k)).map Prod.fst) g ob s.gen s.obj) kids.length ?_ ?_
    · refine ⟨0, rfl, ?_⟩
      rw [List.take_zero, cEs, List.map_nil, List.append_nil]
      simp (config := { maxSteps := 1000000 }) only [go_sem, ↓reduceIte, Nat.reduceEqDiff, Nat.reduceAdd, Nat.reduceMul, Nat.reduceSub, Nat.reduceLT, Nat.reduceLeDiff, Int.reduceLT, Int.reduceLE, Int.reduceEq, Int.reduceNe, Int.reduceAdd, Int.reduceNeg, Int.reduceToNat]
      exact hp
    · rintro n f g1 ob1 ⟨k, hk, f0, f1, f24, f25, p1⟩
      simp only at f0 f1 f24 f25 p1
      have hkl : kids.length ≤ sizeEs kids := by rw [sizeEs_sum]; omega
      have hw := wrap_succ (k := k) (by omega)
      by_cases hlt : k < kids.length
      · obtain ⟨e, he⟩ := getq hlt
        have hse := sizeE_lt he
        have hsn := cEs_snoc kids k e code.length d he
        have hle := cEs_le kids (k + 1) code.length d
        have hl2 : (cEs code.length d (kids.take k)).length + (cE (code.length + (cEs code.length d (kids.take k)).length) (d + k) e).length ≤ (cEs code.length d kids).length := by
          rw [hsn, List.length_append] at hle; exact hle
        have hlc : (code ++ (cEs code.length d (kids.take k)).map Prod.fst).length = code.length + (cEs code.length d (kids.take k)).length := by rw [List.length_append, List.length_map]
        simp (config := { maxSteps := 1000000 }) only [go_sem, ↓reduceIte, Nat.reduceEqDiff, Nat.reduceAdd, Nat.reduceMul, Nat.reduceSub, Nat.reduceLT, Nat.reduceLeDiff, Int.reduceLT, Int.reduceLE, Int.reduceEq, Int.reduceNe, Int.reduceAdd, Int.reduceNeg, Int.reduceToNat, f0, f1, f24, f25, hlt, he, List.length_map, exD_len]
        refine hook_writes (ih (sizeE e) (by omega) e (lv + 1) (d + k) (Nat.le_refl _) (by omega) (rEs_get hrk he)) p1 rfl hgT rfl (by rw [hlc]; simp only [codeE, List.length_map]; omega) ?_
        intro g2 ob2 p2 q2 r2
        rw [hlc] at p2
        simp (config := { maxSteps := 1000000 }) only [go_sem, ↓reduceIte, Nat.reduceEqDiff, Nat.reduceAdd, Nat.reduceMul, Nat.reduceSub, Nat.reduceLT, Nat.reduceLeDiff, Int.reduceLT, Int.reduceLE, Int.reduceEq, Int.reduceNe, Int.reduceAdd, Int.reduceNeg, Int.reduceToNat, f0, f1, f24, f25, hw]
        refine round_endB (n - 1) (by omega) ⟨k + 1, by omega, ?_⟩
        simp (config := { maxSteps := 1000000 }) only [go_sem, ↓reduceIte, Nat.reduceEqDiff, Nat.reduceAdd, Nat.reduceMul, Nat.reduceSub, Nat.reduceLT, Nat.reduceLeDiff, Int.reduceLT, Int.reduceLE, Int.reduceEq, Int.reduceNe, Int.reduceAdd, Int.reduceNeg, Int.reduceToNat, f0, f1, f24, f25, hw]
        rw [hsn, List.map_append, ← List.append_assoc]
        exact p2
      · have hkk : k = kids.length := by omega
        subst hkk
        rw [List.take_length] at p1
        have hlc : (code ++ (cEs code.length d kids).map Prod.fst).length = code.length + (cEs code.length d kids).length := by rw [List.length_append, List.length_map]
        have hfin : ∀ (x : Ins), one kind op num slot size (d + kids.length) = [(x, d + kids.length)] → ∀ g' ob', Prog K (K + 107) T B word (code ++ (cEs code.length d kids).map Prod.fst ++ [x]) g ob g' ob' → Wrote K T B word (code ++ codeE d (.mk kind op num slot size kids) word code.length) g ob g' (fun i => if decide (K ≤ i) = true then none else ob' i) := by
          intro x hx g' ob' hp'
          have : code ++ codeE d (.mk kind op num slot size kids) word code.length = code ++ (cEs code.length d kids).map Prod.fst ++ [x] := by
            simp only [codeE, hcE, hx, List.map_append, List.map_cons, List.map_nil, List.append_assoc]
          rw [this]
          exact hp'.fin hK
        obtain ⟨_, _, _, _, _, h⟩ := hok
        have hk17 : kind = 1 ∨ kind = 2 ∨ kind = 3 ∨ kind = 4 ∨ kind = 5 ∨ kind = 6 ∨ kind = 7 := by
          rcases h with ⟨h | h, _⟩ | ⟨h, _⟩ | ⟨h, _⟩ | ⟨h, _⟩ | ⟨h, _⟩ | ⟨h, _⟩ | ⟨h | h, _⟩ <;> omega
        have hone : (one kind op num slot size (d + kids.length)).length = 1 := by
          rcases hk17 with rfl | rfl | rfl | rfl | rfl | rfl | rfl <;> rfl
        rcases hk17 with rfl | rfl | rfl | rfl | rfl | rfl | rfl
        · simp (config := { maxSteps := 1000000 }) only [go_sem, ↓reduceIte, Nat.reduceEqDiff, Nat.reduceAdd, Nat.reduceMul, Nat.reduceSub, Nat.reduceLT, Nat.reduceLeDiff, Int.reduceLT, Int.reduceLE, Int.reduceEq, Int.reduceNe, Int.reduceAdd, Int.reduceNeg, Int.reduceToNat, f0, f1, f24, f25, hlt, List.length_map]
          refine hook_put [⟨1, 0, 0, num⟩] p1 rfl hgT (by omega) (by omega) rfl rfl (by rw [hlc]; simp only [List.length_cons, List.length_nil]; omega) ?_
          intro g2 ob2 p2 q2 r2
          simp (config := { maxSteps := 1000000 }) only [go_sem, ↓reduceIte, Nat.reduceEqDiff, Nat.reduceAdd, Nat.reduceMul, Nat.reduceSub, Nat.reduceLT, Nat.reduceLeDiff, Int.reduceLT, Int.reduceLE, Int.reduceEq, Int.reduceNe, Int.reduceAdd, Int.reduceNeg, Int.reduceToNat]
          refine retF_drops (fun i => decide (K ≤ i)) ?_
          exact ⟨rfl, hfin _ rfl _ _ p2⟩
        · simp (config := { maxSteps := 1000000 }) only [go_sem, ↓reduceIte, Nat.reduceEqDiff, Nat.reduceAdd, Nat.reduceMul, Nat.reduceSub, Nat.reduceLT, Nat.reduceLeDiff, Int.reduceLT, Int.reduceLE, Int.reduceEq, Int.reduceNe, Int.reduceAdd, Int.reduceNeg, Int.reduceToNat, f0, f1, f24, f25, hlt, List.length_map]
          refine hook_put [⟨2, slot, 0, 0⟩] p1 rfl hgT (by omega) (by omega) rfl rfl (by rw [hlc]; simp only [List.length_cons, List.length_nil]; omega) ?_
          intro g2 ob2 p2 q2 r2
          simp (config := { maxSteps := 1000000 }) only [go_sem, ↓reduceIte, Nat.reduceEqDiff, Nat.reduceAdd, Nat.reduceMul, Nat.reduceSub, Nat.reduceLT, Nat.reduceLeDiff, Int.reduceLT, Int.reduceLE, Int.reduceEq, Int.reduceNe, Int.reduceAdd, Int.reduceNeg, Int.reduceToNat]
          refine retF_drops (fun i => decide (K ≤ i)) ?_
          exact ⟨rfl, hfin _ rfl _ _ p2⟩
        · simp (config := { maxSteps := 1000000 }) only [go_sem, ↓reduceIte, Nat.reduceEqDiff, Nat.reduceAdd, Nat.reduceMul, Nat.reduceSub, Nat.reduceLT, Nat.reduceLeDiff, Int.reduceLT, Int.reduceLE, Int.reduceEq, Int.reduceNe, Int.reduceAdd, Int.reduceNeg, Int.reduceToNat, f0, f1, f24, f25, hlt, List.length_map]
          refine draw_det Tt_ok mixed [K + 73] [([0], [0], [], false), ([1], [], [], false), ([64], [], [], false), ([65], [], [], false), ([66], [], [], false), ([1], [], [], false), ([68], [], [], false), ([69], [], [], false), ([70], [], [], false), ([67, 71], [], [], false), ([72], [], [0], false), ([63, 73], [], [], true)] 1 (by decide +kernel) rfl (by simp) ?_
          simp (config := { maxSteps := 1000000 }) only [go_sem, ↓reduceIte, Nat.reduceEqDiff, Nat.reduceAdd, Nat.reduceMul, Nat.reduceSub, Nat.reduceLT, Nat.reduceLeDiff, Int.reduceLT, Int.reduceLE, Int.reduceEq, Int.reduceNe, Int.reduceAdd, Int.reduceNeg, Int.reduceToNat]
          iterate 10 (apply det_pure; · (intro fa ga oa K' hK; simp (config := { maxSteps := 1000000 }) only [go_sem, ↓reduceIte, Nat.reduceEqDiff, Nat.reduceAdd, Nat.reduceMul, Nat.reduceSub, Nat.reduceLT, Nat.reduceLeDiff, Int.reduceLT, Int.reduceLE, Int.reduceEq, Int.reduceNe, Int.reduceAdd, Int.reduceNeg, Int.reduceToNat, f0, f1] at hK ⊢; exact hK))
          (apply det_new; · (intro fa ga oa K' hK; simp (config := { maxSteps := 1000000 }) only [go_sem, ↓reduceIte, Nat.reduceEqDiff, Nat.reduceAdd, Nat.reduceMul, Nat.reduceSub, Nat.reduceLT, Nat.reduceLeDiff, Int.reduceLT, Int.reduceLE, Int.reduceEq, Int.reduceNe, Int.reduceAdd, Int.reduceNeg, Int.reduceToNat, f0, f1] at hK ⊢; exact hK))
          apply det_last
          intro K' hK'
          simp (config := { maxSteps := 1000000 }) only [go_sem, ↓reduceIte, Nat.reduceEqDiff, Nat.reduceAdd, Nat.reduceMul, Nat.reduceSub, Nat.reduceLT, Nat.reduceLeDiff, Int.reduceLT, Int.reduceLE, Int.reduceEq, Int.reduceNe, Int.reduceAdd, Int.reduceNeg, Int.reduceToNat]
          refine hook_put [⟨4, slot, size, 0⟩] p1 rfl hgT (by omega) (by omega) rfl rfl (by rw [hlc]; simp only [List.length_cons, List.length_nil]; omega) ?_
          intro g2 ob2 p2 q2 r2
          refine hK' _ ?_
          simp (config := { maxSteps := 1000000 }) only [go_sem, ↓reduceIte, Nat.reduceEqDiff, Nat.reduceAdd, Nat.reduceMul, Nat.reduceSub, Nat.reduceLT, Nat.reduceLeDiff, Int.reduceLT, Int.reduceLE, Int.reduceEq, Int.reduceNe, Int.reduceAdd, Int.reduceNeg, Int.reduceToNat]
          refine retF_drops (fun i => decide (K ≤ i)) ?_
          exact ⟨rfl, hfin _ rfl _ _ p2⟩
        · simp (config := { maxSteps := 1000000 }) only [go_sem, ↓reduceIte, Nat.reduceEqDiff, Nat.reduceAdd, Nat.reduceMul, Nat.reduceSub, Nat.reduceLT, Nat.reduceLeDiff, Int.reduceLT, Int.reduceLE, Int.reduceEq, Int.reduceNe, Int.reduceAdd, Int.reduceNeg, Int.reduceToNat, f0, f1, f24, f25, hlt, List.length_map]
          refine hook_put [⟨10, slot, 0, 0⟩] p1 rfl hgT (by omega) (by omega) rfl rfl (by rw [hlc]; simp only [List.length_cons, List.length_nil]; omega) ?_
          intro g2 ob2 p2 q2 r2
          simp (config := { maxSteps := 1000000 }) only [go_sem, ↓reduceIte, Nat.reduceEqDiff, Nat.reduceAdd, Nat.reduceMul, Nat.reduceSub, Nat.reduceLT, Nat.reduceLeDiff, Int.reduceLT, Int.reduceLE, Int.reduceEq, Int.reduceNe, Int.reduceAdd, Int.reduceNeg, Int.reduceToNat]
          refine retF_drops (fun i => decide (K ≤ i)) ?_
          exact ⟨rfl, hfin _ rfl _ _ p2⟩
        · simp (config := { maxSteps := 1000000 }) only [go_sem, ↓reduceIte, Nat.reduceEqDiff, Nat.reduceAdd, Nat.reduceMul, Nat.reduceSub, Nat.reduceLT, Nat.reduceLeDiff, Int.reduceLT, Int.reduceLE, Int.reduceEq, Int.reduceNe, Int.reduceAdd, Int.reduceNeg, Int.reduceToNat, f0, f1, f24, f25, hlt, List.length_map]
          refine hook_put [⟨12, 0, 0, 0⟩] p1 rfl hgT (by omega) (by omega) rfl rfl (by rw [hlc]; simp only [List.length_cons, List.length_nil]; omega) ?_
          intro g2 ob2 p2 q2 r2
          simp (config := { maxSteps := 1000000 }) only [go_sem, ↓reduceIte, Nat.reduceEqDiff, Nat.reduceAdd, Nat.reduceMul, Nat.reduceSub, Nat.reduceLT, Nat.reduceLeDiff, Int.reduceLT, Int.reduceLE, Int.reduceEq, Int.reduceNe, Int.reduceAdd, Int.reduceNeg, Int.reduceToNat]
          refine retF_drops (fun i => decide (K ≤ i)) ?_
          exact ⟨rfl, hfin _ rfl _ _ p2⟩
        · simp (config := { maxSteps := 1000000 }) only [go_sem, ↓reduceIte, Nat.reduceEqDiff, Nat.reduceAdd, Nat.reduceMul, Nat.reduceSub, Nat.reduceLT, Nat.reduceLeDiff, Int.reduceLT, Int.reduceLE, Int.reduceEq, Int.reduceNe, Int.reduceAdd, Int.reduceNeg, Int.reduceToNat, f0, f1, f24, f25, hlt, List.length_map]
          refine hook_put [⟨6, op, 0, 0⟩] p1 rfl hgT (by omega) (by omega) rfl rfl (by rw [hlc]; simp only [List.length_cons, List.length_nil]; omega) ?_
          intro g2 ob2 p2 q2 r2
          simp (config := { maxSteps := 1000000 }) only [go_sem, ↓reduceIte, Nat.reduceEqDiff, Nat.reduceAdd, Nat.reduceMul, Nat.reduceSub, Nat.reduceLT, Nat.reduceLeDiff, Int.reduceLT, Int.reduceLE, Int.reduceEq, Int.reduceNe, Int.reduceAdd, Int.reduceNeg, Int.reduceToNat]
          refine retF_drops (fun i => decide (K ≤ i)) ?_
          exact ⟨rfl, hfin _ rfl _ _ p2⟩
        · simp (config := { maxSteps := 1000000 }) only [go_sem, ↓reduceIte, Nat.reduceEqDiff, Nat.reduceAdd, Nat.reduceMul, Nat.reduceSub, Nat.reduceLT, Nat.reduceLeDiff, Int.reduceLT, Int.reduceLE, Int.reduceEq, Int.reduceNe, Int.reduceAdd, Int.reduceNeg, Int.reduceToNat, f0, f1, f24, f25, hlt, List.length_map]
          refine hook_put [⟨7, 0, 0, 0⟩] p1 rfl hgT (by omega) (by omega) rfl rfl (by rw [hlc]; simp only [List.length_cons, List.length_nil]; omega) ?_
          intro g2 ob2 p2 q2 r2
          simp (config := { maxSteps := 1000000 }) only [go_sem, ↓reduceIte, Nat.reduceEqDiff, Nat.reduceAdd, Nat.reduceMul, Nat.reduceSub, Nat.reduceLT, Nat.reduceLeDiff, Int.reduceLT, Int.reduceLE, Int.reduceEq, Int.reduceNe, Int.reduceAdd, Int.reduceNeg, Int.reduceToNat]
          refine retF_drops (fun i => decide (K ≤ i)) ?_
          exact ⟨rfl, hfin _ rfl _ _ p2⟩

end Go.Proofs.Ythengcpckdlpgaa
